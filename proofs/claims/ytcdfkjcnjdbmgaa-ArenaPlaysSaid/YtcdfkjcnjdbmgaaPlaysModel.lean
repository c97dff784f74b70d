/- Layer 09: the mathematics of ArenaPlays: how the slots and the document's list of all that was put stand to each other. -/
import Derived.Test.YtcdfkjcnjdbmgaaDocPut
namespace Go.Proofs.Ytcdfkjcnjdbmgaa.PlaysModel
open Go.RowKit Go.Proofs.YtcdfkjcnjdbmgaaW.PrintWords Go.Proofs.Ytcdfkjcnjdbmgaa.Core Go.Proofs.Ytcdfkjcnjdbmgaa.Put Go.Proofs.Ytcdfkjcnjdbmgaa.Doc Go.Proofs.Ytcdfkjcnjdbmgaa.DocNext
set_option linter.unusedVariables false
set_option linter.unusedSimpArgs false
/-! ### uses and best -/
theorem fold_skip (t : Int) (M : List Pt) (z : Nat × Bool) (h : ∀ p ∈ M, p.s ≠ t) : M.foldl (Doc.step t) z = z := by
  induction M generalizing z with
  | nil => rfl
  | cons p M ih =>
    rw [List.foldl_cons]
    have : Doc.step t z p = z := by unfold Doc.step; rw [if_neg (h p (by simp))]
    rw [this]
    exact ih z (fun q hq => h q (by simp [hq]))
theorem fold_count (t : Int) (M : List Pt) (z : Nat × Bool) : (M.foldl (Doc.step t) z).1 = z.1 + M.countP (fun p => p.s == t) := by
  induction M generalizing z with
  | nil => simp
  | cons p M ih =>
    rw [List.foldl_cons, ih, List.countP_cons]
    unfold Doc.step
    by_cases h : p.s = t
    · rw [if_pos h]; simp [h]; omega
    · rw [if_neg h]; simp [h]
theorem uses_count (L : List Pt) (t : Int) : (uses L t).1 = L.countP (fun p => p.s == t) := by
  unfold uses
  rw [fold_count]
  simp
theorem uses_last (L : List Pt) (t : Int) (j : Nat) (hj : j < L.length) (hs : L[j].s = t) (hl : ∀ j' (h : j' < L.length), j < j' → L[j'].s ≠ t) : (uses L t).2 = L[j].lies := by
  have e : L = L.take j ++ L[j] :: L.drop (j + 1) := by rw [List.getElem_cons_drop, List.take_append_drop]
  have hd : ∀ p ∈ L.drop (j + 1), p.s ≠ t := fun p hp => by
    obtain ⟨i, hi, rfl⟩ := List.mem_iff_getElem.1 hp
    rw [List.getElem_drop]
    exact hl _ (by rw [List.length_drop] at hi; omega) (by omega)
  have h1 : uses L t = (L.drop (j + 1)).foldl (Doc.step t) (Doc.step t ((L.take j).foldl (Doc.step t) (0, false)) L[j]) := by
    unfold uses
    conv => lhs; rw [e]
    rw [List.foldl_append, List.foldl_cons]
  rw [h1, fold_skip t _ _ hd]
  unfold Doc.step
  rw [if_pos hs]
theorem best_spec (L : List Pt) : (best L = (0, 0) ∧ ∀ p ∈ L, (uses L p.s).2 = false → p.fr ≤ 0) ∨ (∃ p ∈ L, best L = (p.s, p.fr) ∧ (uses L p.s).2 = false ∧ 0 < p.fr ∧ ∀ q ∈ L, (uses L q.s).2 = false → q.fr ≤ p.fr) := by
  have key : ∀ k, k ≤ L.length → (((L.take k).foldl (bstep L) (0, 0) = (0, 0) ∧ ∀ p ∈ L.take k, (uses L p.s).2 = false → p.fr ≤ 0) ∨ (∃ p ∈ L.take k, (L.take k).foldl (bstep L) (0, 0) = (p.s, p.fr) ∧ (uses L p.s).2 = false ∧ 0 < p.fr ∧ ∀ q ∈ L.take k, (uses L q.s).2 = false → q.fr ≤ p.fr)) := by
    intro k
    induction k with
    | zero => intro _; exact .inl ⟨rfl, by simp⟩
    | succ k ih =>
      intro hk
      have hlt : k < L.length := by omega
      have hmem : ∀ q, q ∈ L.take (k + 1) → q ∈ L.take k ∨ q = L[k] := fun q hq => by
        rw [List.take_succ_eq_append_getElem hlt] at hq
        rcases List.mem_append.1 hq with h | h
        · exact .inl h
        · exact .inr (List.mem_singleton.1 h)
      have hin : L[k] ∈ L.take (k + 1) := by rw [List.take_succ_eq_append_getElem hlt]; exact List.mem_append_right _ (List.mem_singleton.2 rfl)
      have hup : ∀ q, q ∈ L.take k → q ∈ L.take (k + 1) := fun q hq => by rw [List.take_succ_eq_append_getElem hlt]; exact List.mem_append_left _ hq
      rw [best_next L k hlt]
      rcases ih (by omega) with ⟨h1, h2⟩ | ⟨p, hp, h1, hu, h0, h2⟩
      · rw [h1]
        unfold bstep
        by_cases hc : (uses L L[k].s).2 = false ∧ (0 : Int) < L[k].fr
        · rw [if_pos hc]
          refine .inr ⟨L[k], hin, rfl, hc.1, hc.2, fun q hq hqu => ?_⟩
          rcases hmem q hq with h | h
          · have := h2 q h hqu; omega
          · rw [h]; omega
        · rw [if_neg hc]
          refine .inl ⟨rfl, fun q hq hqu => ?_⟩
          rcases hmem q hq with h | h
          · exact h2 q h hqu
          · subst h
            rcases Int.lt_or_le 0 L[k].fr with h | h
            · exact absurd ⟨hqu, h⟩ hc
            · exact h
      · rw [h1]
        unfold bstep
        by_cases hc : (uses L L[k].s).2 = false ∧ p.fr < L[k].fr
        · rw [if_pos hc]
          refine .inr ⟨L[k], hin, rfl, hc.1, by omega, fun q hq hqu => ?_⟩
          rcases hmem q hq with h | h
          · have := h2 q h hqu; omega
          · rw [h]; omega
        · rw [if_neg hc]
          refine .inr ⟨p, hup p hp, rfl, hu, h0, fun q hq hqu => ?_⟩
          rcases hmem q hq with h | h
          · exact h2 q h hqu
          · subst h
            rcases Int.lt_or_le p.fr L[k].fr with h | h
            · exact absurd ⟨hqu, h⟩ hc
            · exact h
  have h := key L.length (Nat.le_refl _)
  rw [List.take_length] at h
  exact h
/-! ### how the slots and the list stand to each other -/
structure Rl (m : Int) (ss : List Sl) (fs : List Int) (L : List Pt) (N : Int) (k : Nat) : Prop where
  most : (ss.length : Int) ≤ m
  cnt : fs.length + L.countP Pt.lies = ss.length
  slot : ∀ p ∈ L, ∃ i : Nat, i < ss.length ∧ p.s = (i : Int) + 1
  last : ∀ (i : Nat) (hi : i < ss.length), ∃ (j : Nat) (hj : j < L.length), L[j].s = (i : Int) + 1 ∧ L[j].g = ss[i].gen ∧ L[j].lies = ss[i].used ∧ (ss[i].used = true → ss[i].x = .int .i64 L[j].x) ∧
    (∀ j' (h : j' < L.length), j < j' → L[j'].s ≠ (i : Int) + 1) ∧ (∀ j' (h : j' < L.length), j' < j → L[j'].s = (i : Int) + 1 → L[j'].lies = false)
  many : ∀ (i : Nat) (hi : i < ss.length), ((L.countP (fun p => p.s == (i : Int) + 1) : Nat) : Int) = ss[i].gen
  free : ∀ x ∈ fs, ∃ (i : Nat) (hi : i < ss.length), x = (i : Int) + 1 ∧ ss[i].used = false
  back : ∀ (i : Nat) (hi : i < ss.length), ss[i].used = false → ((i : Int) + 1) ∈ fs
  fapart : fs.Nodup
  when_ : ∀ p ∈ L, (p.lies = false → 1 ≤ p.fr) ∧ p.fr ≤ N
  order : fs.Pairwise (fun a b => ∀ p ∈ L, p.s = a → ∃ q ∈ L, q.s = b ∧ p.fr < q.fr)
  len : L.length ≤ k
  n0 : 0 ≤ N
  n1 : N ≤ k
theorem Rl.start (m : Int) (h : 0 ≤ m) : Rl m [] [] [] 0 0 where
  most := by simpa using h
  cnt := rfl
  slot := by simp
  last := fun i hi => absurd hi (Nat.not_lt_zero _)
  many := fun i hi => absurd hi (Nat.not_lt_zero _)
  free := by simp
  back := fun i hi => absurd hi (Nat.not_lt_zero _)
  fapart := by simp
  when_ := by simp
  order := by simp
  len := by simp
  n0 := by omega
  n1 := by simp
section
variable {m : Int} {ss : List Sl} {fs : List Int} {L : List Pt} {N : Int} {k : Nat}
theorem Rl.more (h : Rl m ss fs L N k) : Rl m ss fs L N (k + 1) :=
  ⟨h.most, h.cnt, h.slot, h.last, h.many, h.free, h.back, h.fapart, h.when_, h.order, by have := h.len; omega, h.n0, by have := h.n1; omega⟩
/-- Whether something lies in a slot, as the document says it. -/
theorem Rl.uses2 (h : Rl m ss fs L N k) (i : Nat) (hi : i < ss.length) : (uses L ((i : Int) + 1)).2 = ss[i].used := by
  obtain ⟨j, hj, hs, _, hl, _, hlast, _⟩ := h.last i hi
  rw [uses_last L _ j hj hs hlast, hl]
theorem Rl.uses1 (h : Rl m ss fs L N k) (i : Nat) (hi : i < ss.length) : ((uses L ((i : Int) + 1)).1 : Int) = ss[i].gen := by
  rw [uses_count]
  exact h.many i hi
theorem Rl.uses_pos (h : Rl m ss fs L N k) (i : Nat) (hi : i < ss.length) : (uses L ((i : Int) + 1)).1 ≠ 0 := by
  rw [uses_count]
  obtain ⟨j, hj, hs, _⟩ := h.last i hi
  intro e
  rw [List.countP_eq_zero] at e
  exact e L[j] (List.getElem_mem hj) (by simp [hs])
theorem Rl.uses_new (h : Rl m ss fs L N k) : (uses L ((ss.length : Int) + 1)).1 = 0 := by
  rw [uses_count, List.countP_eq_zero]
  intro p hp
  obtain ⟨i, hi, e⟩ := h.slot p hp
  have hne : p.s ≠ (ss.length : Int) + 1 := by omega
  simpa using hne
theorem Rl.gen_le (h : Rl m ss fs L N k) (i : Nat) (hi : i < ss.length) : 0 ≤ ss[i].gen ∧ ss[i].gen ≤ k := by
  have h1 := h.many i hi
  have h2 : L.countP (fun p => p.s == (i : Int) + 1) ≤ L.length := List.countP_le_length
  have := h.len
  omega
theorem Rl.next_new (h : Rl m ss [] L N k) : DocNext.Next L ((ss.length : Int) + 1) := by
  rcases best_spec L with ⟨h1, _⟩ | ⟨p, hp, _, hu, _⟩
  · exact .inr ⟨by rw [h1]; exact Int.le_refl _, ss.length, rfl, h.uses_new, fun u hu => h.uses_pos u hu⟩
  · obtain ⟨i, hi, e⟩ := h.slot p hp
    rw [e, h.uses2 i hi] at hu
    have := h.back i hi hu
    simp at this
theorem Rl.next_pop {i : Nat} (h : Rl m ss (fs ++ [(i : Int) + 1]) L N k) (hi : i < ss.length) (hu : ss[i].used = false) : DocNext.Next L ((i : Int) + 1) := by
  have hb2 : (uses L ((i : Int) + 1)).2 = false := by rw [h.uses2 i hi]; exact hu
  rcases best_spec L with ⟨_, h2⟩ | ⟨p, hp, h1, hpu, h0, h2⟩
  · obtain ⟨j, hj, hs, _, hl, _⟩ := h.last i hi
    have := h2 L[j] (List.getElem_mem hj) (by rw [hs]; exact hb2)
    have := (h.when_ L[j] (List.getElem_mem hj)).1 (by rw [hl]; exact hu)
    omega
  · obtain ⟨i', hi', e⟩ := h.slot p hp
    have hpu2 := hpu
    rw [e, h.uses2 i' hi'] at hpu2
    have hb := h.back i' hi' hpu2
    have hs : p.s = (i : Int) + 1 := by
      rcases List.mem_append.1 hb with hm | hm
      · exfalso
        have ho := (List.pairwise_append.1 h.order).2.2 _ hm ((i : Int) + 1) (by simp) p hp e
        obtain ⟨q, hq, hqs, hlt⟩ := ho
        have := h2 q hq (by rw [hqs]; exact hb2)
        omega
      · simp at hm
        omega
    exact .inl ⟨by rw [h1]; show 0 < p.s; omega, by rw [h1]; exact hs.symm⟩
/-! ### what a handle finds -/
theorem Rl.find_no (h : Rl m ss fs L N k) {s g : Int} (hl : Find.look ss s g = none) : ∀ p ∈ L, hit s g p = false := by
  intro p hp
  cases hh : hit s g p with
  | false => rfl
  | true =>
    exfalso
    unfold hit at hh
    simp only [Bool.and_eq_true, beq_iff_eq] at hh
    obtain ⟨⟨hs, hg⟩, hlies⟩ := hh
    obtain ⟨j', hj', rfl⟩ := List.mem_iff_getElem.1 hp
    obtain ⟨i, hi, e⟩ := h.slot _ hp
    obtain ⟨j, hj, ha, hb, hc, _, hd, he⟩ := h.last i hi
    have hjj : j' = j := by
      rcases Nat.lt_trichotomy j' j with h1 | h1 | h1
      · have := he j' hj' h1 e
        rw [hlies] at this
        cases this
      · exact h1
      · exact absurd e (hd j' hj' h1)
    subst hjj
    have hlk := Find.look_of hi (by rw [← hc]; exact hlies)
    rw [← hb, hg, ← e, hs, hl] at hlk
    cases hlk
theorem Rl.find_yes (h : Rl m ss fs L N k) {i : Nat} (hi : i < ss.length) (hu : ss[i].used = true) :
    ∃ (j : Nat) (hj : j < L.length), L[j].s = (i : Int) + 1 ∧ L[j].lies = true ∧ ss[i].x = .int .i64 L[j].x ∧ hit ((i : Int) + 1) ss[i].gen L[j] = true ∧ (∀ k' (h' : k' < j), hit ((i : Int) + 1) ss[i].gen (L.getD k' ⟨0, 0, 0, false, 0⟩) = false) ∧
      (∀ j' (h : j' < L.length), j < j' → L[j'].s ≠ (i : Int) + 1) := by
  obtain ⟨j, hj, ha, hb, hc, hx, hd, he⟩ := h.last i hi
  refine ⟨j, hj, ha, hc.trans hu, hx hu, by unfold hit; rw [ha, hb, hc, hu]; simp, fun k' h' => ?_, hd⟩
  have hk : k' < L.length := by omega
  have e : L.getD k' ⟨0, 0, 0, false, 0⟩ = L[k'] := by simp [hk]
  rw [e]
  unfold hit
  by_cases hs : L[k'].s = (i : Int) + 1
  · rw [he k' hk h' hs]; simp
  · have : (L[k'].s == (i : Int) + 1) = false := by simpa using hs
    rw [this]; simp
end
end Go.Proofs.Ytcdfkjcnjdbmgaa.PlaysModel
