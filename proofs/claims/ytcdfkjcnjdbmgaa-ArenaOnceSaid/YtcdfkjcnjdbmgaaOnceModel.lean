/- Layer 09: the mathematics of ArenaOnce: what holds of slots, freed numbers, handles that lie there and handles that are gone. -/
import Derived.Test.YtcdfkjcnjdbmgaaHands
namespace Go.Proofs.Ytcdfkjcnjdbmgaa.OnceModel
open Go.RowKit Go.Proofs.YtcdfkjcnjdbmgaaW.PrintWords Go.Proofs.Ytcdfkjcnjdbmgaa.Core Go.Proofs.Ytcdfkjcnjdbmgaa.Put
open Go.Proofs.Ytcdfkjcnjdbmgaa.PArenaOnce (S31 k31 z31 rd_T31 holtref09_In.l0 holtref09_In.f)
set_option linter.unusedVariables false
set_option linter.unusedSimpArgs false
structure Ok (m : Int) (ss : List Sl) (fs : List Int) (all gone : List S31) (k : Nat) : Prop where
  count : fs.length + all.length = ss.length
  most : (ss.length : Int) ≤ m
  live : ∀ h ∈ all, ∃ (i : Nat) (s : Sl), ss[i]? = some s ∧ h.f0 = (i : Int) + 1 ∧ s.used = true ∧ s.gen = h.f1
  apart : (all.map S31.f0).Nodup
  dead : ∀ h ∈ gone, ∃ (i : Nat) (s : Sl), ss[i]? = some s ∧ h.f0 = (i : Int) + 1 ∧ (h.f1 < s.gen ∨ (h.f1 = s.gen ∧ s.used = false))
  free : ∀ x ∈ fs, ∃ (i : Nat) (s : Sl), ss[i]? = some s ∧ x = (i : Int) + 1 ∧ s.used = false
  fapart : fs.Nodup
  gens : ∀ s ∈ ss, 0 ≤ s.gen ∧ s.gen ≤ k
  vals : ∀ s ∈ ss, ∃ x, s.x = .int .i64 x
theorem Ok.start (m : Int) (h : 0 ≤ m) : Ok m [] [] [] [] 0 :=
  ⟨rfl, by simpa using h, by simp, by simp, by simp, by simp, by simp, by simp, by simp⟩
section
variable {m : Int} {ss : List Sl} {fs : List Int} {all gone : List S31} {k : Nat}
theorem Ok.more (h : Ok m ss fs all gone k) : Ok m ss fs all gone (k + 1) :=
  ⟨h.count, h.most, h.live, h.apart, h.dead, h.free, h.fapart, fun s hs => by have := h.gens s hs; omega, h.vals⟩
theorem lt_of {s : Sl} {i : Nat} (h : ss[i]? = some s) : i < ss.length := (List.getElem?_eq_some_iff.1 h).1
theorem mem_of {s : Sl} {i : Nat} (h : ss[i]? = some s) : s ∈ ss := List.mem_of_getElem? h
theorem app_of {s : Sl} {i : Nat} (h : ss[i]? = some s) (t : List Sl) : (ss ++ t)[i]? = some s := by
  rw [List.getElem?_append_left (lt_of h)]; exact h
theorem set_ne {s : Sl} {i j : Nat} (h : ss[i]? = some s) (t : Sl) (hn : j ≠ i) : (ss.set j t)[i]? = some s := by
  rw [List.getElem?_set_ne hn]; exact h
theorem set_eq {i : Nat} (h : i < ss.length) (t : Sl) : (ss.set i t)[i]? = some t := by
  rw [List.getElem?_set_self h]
/-- A slot that was never used. -/
theorem Ok.new (h : Ok m ss [] all gone k) (hm : (ss.length : Int) < m) (x : Int) :
    (∀ z ∈ all, ¬ (z.f0 = (ss.length : Int) + 1 ∧ z.f1 = 1)) ∧ (∀ z ∈ gone, ¬ (z.f0 = (ss.length : Int) + 1 ∧ z.f1 = 1)) ∧ Ok m (ss ++ [⟨1, true, .int .i64 x⟩]) [] (all ++ [⟨(ss.length : Int) + 1, 1⟩]) gone (k + 1) := by
  have a1 : ∀ z ∈ all, z.f0 ≠ (ss.length : Int) + 1 := fun z hz e => by
    obtain ⟨i, s, hs, e', _⟩ := h.live z hz
    have := lt_of hs
    omega
  have a2 : ∀ z ∈ gone, z.f0 ≠ (ss.length : Int) + 1 := fun z hz e => by
    obtain ⟨i, s, hs, e', _⟩ := h.dead z hz
    have := lt_of hs
    omega
  refine ⟨fun z hz e => a1 z hz e.1, fun z hz e => a2 z hz e.1, ?_, ?_, ?_, ?_, ?_, by simp, by simp, ?_, ?_⟩
  · have := h.count
    simp only [List.length_append, List.length_nil, List.length_cons] at *
    omega
  · rw [List.length_append, List.length_singleton]; omega
  · intro z hz
    rcases List.mem_append.1 hz with hz | hz
    · obtain ⟨i, s, hs, r⟩ := h.live z hz
      exact ⟨i, s, app_of hs _, r⟩
    · rw [List.mem_singleton.1 hz]
      exact ⟨ss.length, _, by rw [List.getElem?_append_right (Nat.le_refl _), Nat.sub_self]; rfl, rfl, rfl, rfl⟩
  · rw [List.map_append]
    refine List.nodup_append.2 ⟨h.apart, by simp, ?_⟩
    intro a ha b hb e
    obtain ⟨z, hz, rfl⟩ := List.mem_map.1 ha
    simp at hb
    exact a1 z hz (e.trans hb)
  · intro z hz
    obtain ⟨i, s, hs, r⟩ := h.dead z hz
    exact ⟨i, s, app_of hs _, r⟩
  · intro s hs
    rcases List.mem_append.1 hs with hs | hs
    · have := h.gens s hs; omega
    · rw [List.mem_singleton.1 hs]; exact ⟨by show (0 : Int) ≤ 1; omega, by show (1 : Int) ≤ _; omega⟩
  · intro s hs
    rcases List.mem_append.1 hs with hs | hs
    · exact h.vals s hs
    · rw [List.mem_singleton.1 hs]; exact ⟨x, rfl⟩
/-- The slot that was freed last. -/
theorem Ok.pop {i : Nat} (h : Ok m ss (fs ++ [(i : Int) + 1]) all gone k) (hi : i < ss.length) (x : Int) :
    (∀ z ∈ all, ¬ (z.f0 = (i : Int) + 1 ∧ z.f1 = ss[i].gen + 1)) ∧ (∀ z ∈ gone, ¬ (z.f0 = (i : Int) + 1 ∧ z.f1 = ss[i].gen + 1)) ∧
      Ok m (ss.set i ⟨ss[i].gen + 1, true, .int .i64 x⟩) fs (all ++ [⟨(i : Int) + 1, ss[i].gen + 1⟩]) gone (k + 1) := by
  have hun : ss[i].used = false := by
    obtain ⟨j, s, hs, e, hu⟩ := h.free ((i : Int) + 1) (by simp)
    have : j = i := by omega
    subst this
    rw [List.getElem?_eq_getElem hi] at hs
    injection hs with hs
    rw [hs]; exact hu
  have a1 : ∀ z ∈ all, z.f0 ≠ (i : Int) + 1 := fun z hz e => by
    obtain ⟨j, s, hs, e', hu, _⟩ := h.live z hz
    have : j = i := by omega
    subst this
    rw [List.getElem?_eq_getElem hi] at hs
    injection hs with hs
    rw [← hs, hun] at hu
    cases hu
  have a2 : ∀ z ∈ gone, z.f0 = (i : Int) + 1 → z.f1 ≤ ss[i].gen := fun z hz e => by
    obtain ⟨j, s, hs, e', hu⟩ := h.dead z hz
    have : j = i := by omega
    subst this
    rw [List.getElem?_eq_getElem hi] at hs
    injection hs with hs
    rw [hs]
    rcases hu with hu | hu <;> omega
  have hnd := List.nodup_append.1 h.fapart
  refine ⟨fun z hz e => a1 z hz e.1, fun z hz e => by have := a2 z hz e.1; omega, ?_, ?_, ?_, ?_, ?_, ?_, hnd.1, ?_, ?_⟩
  · have := h.count
    simp only [List.length_append, List.length_set, List.length_nil, List.length_cons] at *
    omega
  · rw [List.length_set]; exact h.most
  · intro z hz
    rcases List.mem_append.1 hz with hz | hz
    · obtain ⟨j, s, hs, e, r⟩ := h.live z hz
      exact ⟨j, s, set_ne hs _ (fun e' => a1 z hz (by omega)), e, r⟩
    · rw [List.mem_singleton.1 hz]
      exact ⟨i, _, set_eq hi _, rfl, rfl, rfl⟩
  · rw [List.map_append]
    refine List.nodup_append.2 ⟨h.apart, by simp, ?_⟩
    intro a ha b hb e
    obtain ⟨z, hz, rfl⟩ := List.mem_map.1 ha
    simp at hb
    exact a1 z hz (e.trans hb)
  · intro z hz
    by_cases e : z.f0 = (i : Int) + 1
    · exact ⟨i, _, set_eq hi _, e, .inl (by have := a2 z hz e; show z.f1 < ss[i].gen + 1; omega)⟩
    · obtain ⟨j, s, hs, e', r⟩ := h.dead z hz
      exact ⟨j, s, set_ne hs _ (by omega), e', r⟩
  · intro y hy
    obtain ⟨j, s, hs, e, hu⟩ := h.free y (by simp [hy])
    have hne : y ≠ (i : Int) + 1 := fun e' => hnd.2.2 y hy _ (by simp) e'
    exact ⟨j, s, set_ne hs _ (by omega), e, hu⟩
  · intro s hs
    rcases List.mem_or_eq_of_mem_set hs with hs | rfl
    · have := h.gens s hs; omega
    · have := h.gens ss[i] (List.getElem_mem hi)
      exact ⟨by show (0 : Int) ≤ ss[i].gen + 1; omega, by show ss[i].gen + 1 ≤ ((k + 1 : Nat) : Int); omega⟩
  · intro s hs
    rcases List.mem_or_eq_of_mem_set hs with hs | rfl
    · exact h.vals s hs
    · exact ⟨x, rfl⟩
theorem mem_cut {α : Type} {l : List α} {q : Nat} {z : α} (h : z ∈ l.take q ++ l.drop (q + 1)) : z ∈ l := by
  rcases List.mem_append.1 h with h | h
  · exact List.mem_of_mem_take h
  · exact List.mem_of_mem_drop h
theorem nodup_cut {l : List Int} {q : Nat} (hq : q < l.length) (h : l.Nodup) : (l.take q ++ l.drop (q + 1)).Nodup ∧ l[q] ∉ l.take q ++ l.drop (q + 1) := by
  have e : l = l.take q ++ l[q] :: l.drop (q + 1) := by
    rw [List.getElem_cons_drop, List.take_append_drop]
  have h' := h
  rw [e] at h'
  have hp : (l.take q ++ l[q] :: l.drop (q + 1)).Perm (l[q] :: (l.take q ++ l.drop (q + 1))) := List.perm_middle
  have h2 := (List.Perm.nodup_iff hp).1 h'
  exact ⟨(List.nodup_cons.1 h2).2, (List.nodup_cons.1 h2).1⟩
/-- What lies there is freed. -/
theorem Ok.freed {q : Nat} (h : Ok m ss fs all gone k) (hq : q < all.length) :
    ∃ (i : Nat) (hi : i < ss.length), all[q] = ⟨(i : Int) + 1, ss[i].gen⟩ ∧ ss[i].used = true ∧ Ok m (ss.set i ⟨ss[i].gen, false, .int .i64 0⟩) (fs ++ [(i : Int) + 1]) (all.take q ++ all.drop (q + 1)) (gone ++ [all[q]]) (k + 1) := by
  obtain ⟨i, s, hs, e, hu, hg⟩ := h.live _ (List.getElem_mem hq)
  have hi := lt_of hs
  rw [List.getElem?_eq_getElem hi] at hs
  injection hs with hs
  subst hs
  obtain ⟨hn1, hn2⟩ := nodup_cut (l := all.map S31.f0) (q := q) (by simpa using hq) h.apart
  rw [← List.map_take, ← List.map_drop, ← List.map_append] at hn1 hn2
  rw [List.getElem_map] at hn2
  have hne : ∀ z ∈ all.take q ++ all.drop (q + 1), z.f0 ≠ (i : Int) + 1 := fun z hz e' => hn2 (by rw [e, ← e']; exact List.mem_map_of_mem hz)
  have hall : all[q] = ⟨(i : Int) + 1, ss[i].gen⟩ := by
    rw [← e, hg]
  refine ⟨i, hi, hall, hu, ?_, ?_, ?_, hn1, ?_, ?_, ?_, ?_, ?_⟩
  · have := h.count
    simp only [List.length_append, List.length_set, List.length_nil, List.length_cons, List.length_take, List.length_drop] at *
    omega
  · rw [List.length_set]; exact h.most
  · intro z hz
    obtain ⟨j, s, hs, e', r⟩ := h.live z (mem_cut hz)
    exact ⟨j, s, set_ne hs _ (fun x => hne z hz (by omega)), e', r⟩
  · intro z hz
    rcases List.mem_append.1 hz with hz | hz
    · obtain ⟨j, s, hs, e', r⟩ := h.dead z hz
      by_cases hj : i = j
      · subst hj
        rw [List.getElem?_eq_getElem hi] at hs
        injection hs with hs
        subst hs
        refine ⟨i, _, set_eq hi _, e', .inl ?_⟩
        rcases r with r | r
        · exact r
        · rw [hu] at r; exact absurd r.2 (by decide)
      · exact ⟨j, s, set_ne hs _ hj, e', r⟩
    · rw [List.mem_singleton.1 hz]
      exact ⟨i, _, set_eq hi _, e, .inr ⟨hg.symm, rfl⟩⟩
  · intro y hy
    rcases List.mem_append.1 hy with hy | hy
    · obtain ⟨j, s, hs, e', hu'⟩ := h.free y hy
      by_cases hj : i = j
      · subst hj
        exact ⟨i, _, set_eq hi _, e', rfl⟩
      · exact ⟨j, s, set_ne hs _ hj, e', hu'⟩
    · rw [List.mem_singleton.1 hy]
      exact ⟨i, _, set_eq hi _, rfl, rfl⟩
  · refine List.nodup_append.2 ⟨h.fapart, by simp, ?_⟩
    intro a ha b hb e'
    simp at hb
    obtain ⟨j, s, hs, e2, hu'⟩ := h.free a ha
    have : j = i := by omega
    subst this
    rw [List.getElem?_eq_getElem hi] at hs
    injection hs with hs
    rw [← hs, hu] at hu'
    cases hu'
  · intro s hs
    rcases List.mem_or_eq_of_mem_set hs with hs | rfl
    · have := h.gens s hs; omega
    · have := h.gens ss[i] (List.getElem_mem hi)
      exact ⟨this.1, by show ss[i].gen ≤ ((k + 1 : Nat) : Int); omega⟩
  · intro s hs
    rcases List.mem_or_eq_of_mem_set hs with hs | rfl
    · exact h.vals s hs
    · exact ⟨0, rfl⟩
theorem Ok.look_gone (h : Ok m ss fs all gone k) {z : S31} (hz : z ∈ gone) : Find.look ss z.f0 z.f1 = none := by
  cases hl : Find.look ss z.f0 z.f1 with
  | none => rfl
  | some j =>
    obtain ⟨hj, e, hu, hg⟩ := Find.look_some hl
    obtain ⟨i, s, hs, e', r⟩ := h.dead z hz
    have : i = j := by omega
    subst this
    rw [List.getElem?_eq_getElem hj] at hs
    injection hs with hs
    subst hs
    rcases r with r | r
    · omega
    · rw [hu] at r; exact absurd r.2 (by decide)
theorem Ok.at_all (h : Ok m ss fs all gone k) {z : S31} (hz : z ∈ all) : ∃ (i : Nat) (hi : i < ss.length) (x : Int), z = ⟨(i : Int) + 1, ss[i].gen⟩ ∧ ss[i].used = true ∧ ss[i].x = .int .i64 x := by
  obtain ⟨i, s, hs, e, hu, hg⟩ := h.live z hz
  have hi := lt_of hs
  rw [List.getElem?_eq_getElem hi] at hs
  injection hs with hs
  subst hs
  obtain ⟨x, hx⟩ := h.vals ss[i] (List.getElem_mem hi)
  exact ⟨i, hi, x, by cases z; simp at e hg; rw [e, hg], hu, hx⟩
end
/-- What isn't in a list is not found there. -/
theorem in_no (l : List S31) (a b : Int) (h : ∀ z ∈ l, ¬ (z.f0 = a ∧ z.f1 = b)) (hl : l.length ≤ 1000000) : holtref09_In.f (l.length + 1) l a b = some false := by
  unfold holtref09_In.f
  have key : ∀ (n i : Nat), i + n = l.length → holtref09_In.l0 (n + 1) l (i : Int) a b = some false := by
    intro n
    induction n with
    | zero =>
      intro i hi
      unfold holtref09_In.l0
      rw [if_neg (by omega)]
    | succ n ih =>
      intro i hi
      unfold holtref09_In.l0
      have hil : i < l.length := by omega
      have e1 : rd_T31 l (i : Int) = l[i] := by simp [rd_T31, hil]
      have hz := h l[i] (List.getElem_mem hil)
      rw [if_pos (by omega), if_pos (by omega), if_neg, w64 _ ⟨by omega, by omega⟩]
      · exact ih (i + 1) (by omega)
      · rw [e1]
        simpa using hz
  exact key l.length 0 (by omega)
end Go.Proofs.Ytcdfkjcnjdbmgaa.OnceModel
