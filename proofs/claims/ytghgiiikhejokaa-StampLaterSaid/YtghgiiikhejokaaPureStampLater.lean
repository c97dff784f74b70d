/- The pure side of StampLater: the next stamp is behind the one that was seen, or the clock is at its end, at any stamp, any maker, any end. -/
import Derived.Test.YtghgiiikhejokaaPStampLaterx3
import Derived.OpenShut
namespace Go.Proofs.Ytghgiiikhejokaa.stampLater
open Go.RowKit Go.Proofs.Ytghgiiikhejokaa.PStampLater Go.Proofs.YtghgiiikhejokaaW.PrintWords Go.Proofs.YtghgiiikhejokaaW.PrintLast

theorem awake_ten : holtlaw04_awake.f 10 = some true := by decide +kernel

/-- How two numbers are to each other. -/
def cmp2 (x y : Int) : Int := if x < y then -1 else if x > y then 1 else 0
theorem compare_some (a c : Int) : cmp_Compare_int.f a c = some (cmp2 a c) := by
  unfold cmp_Compare_int.f cmp_isNaN_int.f cmp2
  simp only [bne_self_eq_false, Option.bind_some, Bool.false_eq_true, if_false]
  repeat' first | rfl | split
theorem first_some (x y : Int) : stamp_first.f 10 [x, y] = some (if x = 0 then y else x) := by
  have w1 : wrap64 (0 + 1) = 1 := by unfold wrap64; omega
  have w2 : wrap64 (1 + 1) = 2 := by unfold wrap64; omega
  have e0 : rd [x, y] 0 = x := rfl
  have e1 : rd [x, y] 1 = y := rfl
  have s2 : stamp_first.l0 8 [x, y] 2 2 = some 0 := rfl
  have s1 : stamp_first.l0 9 [x, y] 2 1 = if rd [x, y] 1 = 0 then stamp_first.l0 8 [x, y] 2 (wrap64 (1 + 1)) else some (rd [x, y] 1) := rfl
  have s0 : stamp_first.f 10 [x, y] = if rd [x, y] 0 = 0 then stamp_first.l0 9 [x, y] 2 (wrap64 (0 + 1)) else some (rd [x, y] 0) := rfl
  rw [s0, w1, s1, w2, s2, e0, e1]
  by_cases hx : x = 0
  · rw [if_pos hx, if_pos hx]
    by_cases hy : y = 0
    · rw [if_pos hy, hy]
    · rw [if_neg hy]
  · rw [if_neg hx, if_neg hx]
/-- How two stamps are to each other. -/
def cmpS (a b c d : Int) : Int := if cmp2 a c = 0 then cmp2 b d else cmp2 a c
theorem Cmp_some (a b c d : Int) : stamp_Cmp.f 10 a b c d = some (cmpS a b c d) := by
  unfold stamp_Cmp.f
  rw [compare_some, compare_some]
  simp only [Option.bind_some, first_some]
  rfl
/-- Is a stamp right? -/
def right (a b : Int) : Bool := decide (1 ≤ a ∧ a ≤ 16777215 ∧ 0 ≤ b ∧ b < 256)
theorem Right_some (a b : Int) : stamp_Right.f a b = some (right a b) := by
  unfold stamp_Right.f right
  by_cases h1 : a ≥ 1
  · by_cases h2 : a ≤ 16777215
    · by_cases h3 : b ≥ 0
      · rw [if_pos h1, if_pos h2, if_pos h3]
        exact congrArg some (decide_eq_decide.2 ⟨fun h => ⟨h1, h2, h3, h⟩, fun h => h.2.2.2⟩)
      · rw [if_pos h1, if_pos h2, if_neg h3]
        exact congrArg some (decide_eq_false (fun h => h3 h.2.2.1)).symm
    · rw [if_pos h1, if_neg h2]
      exact congrArg some (decide_eq_false (fun h => h2 h.2.1)).symm
  · rw [if_neg h1]
    exact congrArg some (decide_eq_false (fun h => h1 h.1)).symm
/-- A stamp's number. -/
def idOf (a b : Int) : Int := if right a b = true then a * 256 + b else 0
theorem ID_some (a b : Int) : stamp_ID.f a b = some (idOf a b) := by
  unfold stamp_ID.f idOf
  rw [Right_some, Option.bind_some]
  by_cases h : right a b = true
  · rw [if_pos h, if_pos h]
    unfold right at h
    have h := of_decide_eq_true h
    refine congrArg some ?_
    unfold wrap64
    omega
  · rw [if_neg h, if_neg h]
theorem cmp2_cases (x y : Int) : (x < y ∧ cmp2 x y = -1) ∨ (x = y ∧ cmp2 x y = 0) ∨ (y < x ∧ cmp2 x y = 1) := by
  unfold cmp2
  by_cases h : x < y
  · left; exact ⟨h, if_pos h⟩
  · by_cases h' : x > y
    · right; right; exact ⟨h', by rw [if_neg h, if_pos h']⟩
    · right; left; exact ⟨by omega, by rw [if_neg h, if_neg h']⟩
/-- What a stamp's place says: three cases. -/
theorem cmpS_cases (a b c d : Int) : ((a < c ∨ a = c ∧ b < d) ∧ cmpS a b c d = -1) ∨ ((a = c ∧ b = d) ∧ cmpS a b c d = 0) ∨ ((c < a ∨ a = c ∧ d < b) ∧ cmpS a b c d = 1) := by
  unfold cmpS
  rcases cmp2_cases a c with ⟨h, e⟩ | ⟨h, e⟩ | ⟨h, e⟩ <;> rw [e]
  · left; exact ⟨Or.inl h, rfl⟩
  · rw [if_pos rfl]
    rcases cmp2_cases b d with ⟨k, e'⟩ | ⟨k, e'⟩ | ⟨k, e'⟩ <;> rw [e']
    · left; exact ⟨Or.inr ⟨h, k⟩, rfl⟩
    · right; left; exact ⟨⟨h, k⟩, rfl⟩
    · right; right; exact ⟨Or.inr ⟨h, k⟩, rfl⟩
  · right; right; exact ⟨Or.inl h, rfl⟩


theorem later (a b r top : Int) (hr0 : 0 ≤ r) (hr1 : r ≤ 255) (ht0 : 0 ≤ top) : holtlaw04_StampLater.f 10 a b r top = some true := by
  unfold holtlaw04_StampLater.f
  have e1 : wrap64 r = r := by unfold wrap64; omega
  have e2 : wrap64 (Int.tmod top 16777216) = top % 16777216 := by
    rw [Int.tmod_eq_emod_of_nonneg ht0]; unfold wrap64; omega
  rw [awake_ten, Right_some, e1, e2]
  simp only [Option.bind_some]
  by_cases ha : right a b = true
  · have ra := of_decide_eq_true ha
    have hm0 : 0 ≤ top % 16777216 := by omega
    have hm1 : top % 16777216 < 16777216 := by omega
    generalize top % 16777216 = m at *
    have hn : stamp_Next.f 10 a r m = if a ≥ m then (some (0, 0, 5)) else (some (a + 1, r, 0)) := by
      have e : stamp_Next.j0 10 a r m false = if a ≥ m then (some (0, 0, 5)) else (some (wrap64 (a + 1), r, 0)) := rfl
      unfold stamp_Next.f
      rw [if_neg (by omega), if_neg (by omega), if_neg (by omega), if_neg (by omega), if_neg (by omega), decide_eq_false (by omega), e]
      rw [show wrap64 (a + 1) = a + 1 from by unfold wrap64; omega]
    rw [if_pos ha, hn]
    by_cases h : a ≥ m
    · rw [if_pos h]; simp [h]
    · rw [if_neg h]
      have hc : cmpS a b (a + 1) r = -1 := by
        rcases cmpS_cases a b (a + 1) r with ⟨h, k⟩ | ⟨h, k⟩ | ⟨h, k⟩ <;> first | exact k | (exfalso; omega)
      have hr : right (a + 1) r = true := by unfold right; exact decide_eq_true (by omega)
      simp [h, Cmp_some, hc, Right_some, hr]
  · rw [if_neg ha]

theorem walk (a00 a01 a1 a2 : Int) (w : World) (w1 : (Lit.int .u8 a1).wf = true) (w2 : (Lit.int .u32 a2).wf = true) :
    Calls Try.prog 6 #[.agg #[.int .i64 a00, .int .i64 a01], .int .u8 a1, .int .u32 a2] w fun e w' => e = .returned (.bool true) ∧ Below w.heap.size w w' := by
  have b1 := bounds_u8 w1
  have b2 := bounds_u32 w2
  refine (holtlaw04_StampLater.calls 10 a00 a01 a1 a2 true w (later a00 a01 a1 a2 b1.1 b1.2 b2.1)).mono ?_
  rintro e w' ⟨rfl, hd⟩
  exact ⟨rfl, hd⟩
end Go.Proofs.Ytghgiiikhejokaa.stampLater
