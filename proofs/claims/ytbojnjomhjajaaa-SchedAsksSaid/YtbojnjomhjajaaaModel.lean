/- Plain facts about picks: the toys beside plain numbers of how often each is ready. -/
import Derived.Test.YtbojnjomhjajaaaHand
namespace Go.Proofs.Ytbojnjomhjajaaa.Model
open Go.RowKit Go.Proofs.YtbojnjomhjajaaaW.PrintWords Go.Proofs.YtbojnjomhjajaaaW.PrintLast Go.Proofs.YtbojnjomhjajaaaW.PrintMore Go.Proofs.Ytbojnjomhjajaaa.Toy Go.Proofs.Ytbojnjomhjajaaa.Run Go.Proofs.Ytbojnjomhjajaaa.Toys Go.Proofs.Ytbojnjomhjajaaa.Hand

/-- One pick, of numbers. -/
def rpick (z : List Int × List Int) (p : Int) : List Int × List Int :=
  match z.1[p.toNat]? with
  | none => z
  | some x => if p < 0 then z else if 0 < x then (z.1.set p.toNat (wrap64 (x - 1)), z.2 ++ [p]) else z
/-- The toys have these numbers. -/
structure Rel (T : List St) (l : List Int) : Prop where
  len : T.length = l.length
  n : ∀ i (h : i < T.length), T[i].n = (i : Int)
  left : ∀ i (h : i < T.length) (h' : i < l.length), T[i].left = l[i]
theorem rel_start (left : List Int) : Rel (Hand.start left) left where
  len := start_length left
  n := fun i h => by rw [start_get left i (by rw [start_length] at h; exact h)]
  left := fun i h h' => by rw [start_get left i h']
theorem Rel.set {T : List St} {l : List Int} (h : Rel T l) (j : Nat) (t : St) (x : Int) (hn : t.n = (j : Int)) (hx : t.left = x) : Rel (T.set j t) (l.set j x) where
  len := by rw [List.length_set, List.length_set]; exact h.len
  n := fun i hi => by
    rw [List.length_set] at hi
    rw [List.getElem_set]
    by_cases e : j = i
    · subst e; rw [if_pos rfl]; exact hn
    · rw [if_neg e]; exact h.n i hi
  left := fun i hi hi' => by
    rw [List.length_set] at hi hi'
    rw [List.getElem_set, List.getElem_set]
    by_cases e : j = i
    · subst e; rw [if_pos rfl, if_pos rfl]; exact hx
    · rw [if_neg e, if_neg e]; exact h.left i hi hi'
theorem set_self (l : List Int) (j : Nat) (h : j < l.length) : l.set j l[j] = l := List.set_getElem_self h
theorem pick_sim {T : List St} {l : List Int} (h : Rel T l) (p : Int) : ∃ T' l' d, (∀ ys os, pick (T, ys, os) p = (T', ys ++ d, os ++ d)) ∧ (∀ out, rpick (l, out) p = (l', out ++ d)) ∧ Rel T' l' := by
  by_cases h0 : p < 0
  · refine ⟨T, l, [], fun ys os => by rw [pick_out _ p (.inl h0), List.append_nil, List.append_nil], fun out => ?_, h⟩
    unfold rpick
    cases l[p.toNat]? <;> simp [h0]
  · obtain ⟨j, rfl⟩ : ∃ j : Nat, p = (j : Int) := ⟨p.toNat, by omega⟩
    by_cases hj : j < T.length
    · have hj' : j < l.length := h.len ▸ hj
      have hl := h.left j hj hj'
      by_cases hp : 0 < T[j].left
      · refine ⟨T.set j { T[j] with left := wrap64 (T[j].left - 1), asked := wrap64 (T[j].asked + 1) }, l.set j (wrap64 (l[j] - 1)), [(j : Int)], fun ys os => by rw [pick_yes T ys os j hj hp, h.n j hj], fun out => ?_, h.set j _ _ (h.n j hj) (by rw [hl])⟩
        unfold rpick
        simp only [Int.toNat_natCast, List.getElem?_eq_getElem hj']
        rw [if_neg h0, if_pos (by rw [← hl]; exact hp)]
      · refine ⟨T.set j { T[j] with asked := wrap64 (T[j].asked + 1) }, l, [], fun ys os => by rw [pick_no T ys os j hj hp, List.append_nil, List.append_nil], fun out => ?_, ?_⟩
        · unfold rpick
          simp only [Int.toNat_natCast, List.getElem?_eq_getElem hj']
          rw [if_neg h0, if_neg (by rw [← hl]; exact hp), List.append_nil]
        · have := h.set j { T[j] with asked := wrap64 (T[j].asked + 1) } l[j] (h.n j hj) hl
          rw [set_self l j hj'] at this
          exact this
    · refine ⟨T, l, [], fun ys os => by rw [pick_out _ _ (.inr (by show T.length ≤ _; rw [Int.toNat_natCast]; omega)), List.append_nil, List.append_nil], fun out => ?_, h⟩
      unfold rpick
      have := h.len
      simp only [Int.toNat_natCast, List.getElem?_eq_none (show l.length ≤ j by omega), List.append_nil]
theorem fold_sim (ps : List Int) : ∀ {T : List St} {l : List Int}, Rel T l → ∃ T' l' d, (∀ ys os, ps.foldl pick (T, ys, os) = (T', ys ++ d, os ++ d)) ∧ (∀ out, ps.foldl rpick (l, out) = (l', out ++ d)) ∧ Rel T' l' := by
  induction ps with
  | nil => intro T l h; exact ⟨T, l, [], fun ys os => by simp, fun out => by simp, h⟩
  | cons p ps ih =>
    intro T l h
    obtain ⟨T1, l1, d1, h1, h2, h3⟩ := pick_sim h p
    obtain ⟨T2, l2, d2, h4, h5, h6⟩ := ih h3
    refine ⟨T2, l2, d1 ++ d2, fun ys os => ?_, fun out => ?_, h6⟩
    · rw [List.foldl_cons, h1, h4, List.append_assoc, List.append_assoc]
    · rw [List.foldl_cons, h2, h5, List.append_assoc]
theorem fold_length (ps : List Int) : ∀ (l out : List Int), (ps.foldl rpick (l, out)).2.length ≤ out.length + ps.length := by
  induction ps with
  | nil => intro l out; simp
  | cons p ps ih =>
    intro l out
    have h1 : (rpick (l, out) p).2.length ≤ out.length + 1 := by
      unfold rpick
      cases l[p.toNat]? with
      | none => simp
      | some x => by_cases h0 : p < 0 <;> by_cases hx : 0 < x <;> simp [h0, hx]
    have h2 := ih (rpick (l, out) p).1 (rpick (l, out) p).2
    rw [List.foldl_cons, List.length_cons]
    exact Nat.le_trans h2 (by omega)
/-- What was run is run again. -/
theorem fold_again (ps : List Int) : ∀ (l l' d : List Int), (∀ out, ps.foldl rpick (l, out) = (l', out ++ d)) → ∀ out, d.foldl rpick (l, out) = (l', out ++ d) := by
  induction ps with
  | nil =>
    intro l l' d h out
    have h0 := h []
    simp only [List.foldl_nil, List.nil_append, Prod.mk.injEq] at h0
    obtain ⟨rfl, h1⟩ := h0
    rw [← h1]; simp
  | cons p ps ih =>
    intro l l' d h out
    have key : (∀ o, rpick (l, o) p = (l, o)) ∨ ∃ l1, ∀ o, rpick (l, o) p = (l1, o ++ [p]) := by
      rcases hq : l[p.toNat]? with _ | x
      · left; intro o; simp only [rpick, hq]
      · by_cases h0 : p < 0
        · left; intro o; simp only [rpick, hq, if_pos h0]
        · by_cases hx : 0 < x
          · right; exact ⟨_, fun o => by simp only [rpick, hq, if_neg h0, if_pos hx]; rfl⟩
          · left; intro o; simp only [rpick, hq, if_neg h0, if_neg hx]
    rcases key with hk | ⟨l1, hk⟩
    · exact ih l l' d (fun o => by have := h o; rw [List.foldl_cons, hk] at this; exact this) out
    · -- the first pick is run
      obtain ⟨l2, d2, hd⟩ : ∃ l2 d2, ∀ o, ps.foldl rpick (l1, o) = (l2, o ++ d2) := by
        have : ∀ (qs : List Int) (m : List Int), ∃ m' e, ∀ o, qs.foldl rpick (m, o) = (m', o ++ e) := by
          intro qs
          induction qs with
          | nil => intro m; exact ⟨m, [], fun o => by simp⟩
          | cons q qs ih2 =>
            intro m
            have kq : ∃ m1 e1, ∀ o, rpick (m, o) q = (m1, o ++ e1) := by
              rcases hq : m[q.toNat]? with _ | x
              · exact ⟨m, [], fun o => by simp only [rpick, hq, List.append_nil]⟩
              · by_cases h0 : q < 0
                · exact ⟨m, [], fun o => by simp only [rpick, hq, if_pos h0, List.append_nil]⟩
                · by_cases hx : 0 < x
                  · exact ⟨_, [q], fun o => by simp only [rpick, hq, if_neg h0, if_pos hx]; rfl⟩
                  · exact ⟨m, [], fun o => by simp only [rpick, hq, if_neg h0, if_neg hx, List.append_nil]⟩
            obtain ⟨m1, e1, h1⟩ := kq
            obtain ⟨m2, e2, h2⟩ := ih2 m1
            exact ⟨m2, e1 ++ e2, fun o => by rw [List.foldl_cons, h1, h2, List.append_assoc]⟩
        exact this ps l1
      have h0 := h []
      rw [List.foldl_cons, hk, hd, List.nil_append, Prod.mk.injEq] at h0
      obtain ⟨rfl, rfl⟩ := h0
      have h3 := ih l1 l2 d2 hd
      rw [List.foldl_append, List.foldl_cons, List.foldl_nil, hk, h3, List.append_assoc]
end Go.Proofs.Ytbojnjomhjajaaa.Model
