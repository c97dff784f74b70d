/- The pure side of StampBack: a number is one right stamp's, or none's, at any number and any stamp. -/
import Derived.Test.YtghgiiikhejokaaPStampBackx3
import Derived.OpenShut
namespace Go.Proofs.Ytghgiiikhejokaa.stampBack
open Go.RowKit Go.Proofs.Ytghgiiikhejokaa.PStampBack Go.Proofs.YtghgiiikhejokaaW.PrintWords Go.Proofs.YtghgiiikhejokaaW.PrintLast

theorem awake_ten : holtlaw04_awake.f 10 = some true := by decide +kernel

/-- How two numbers are to each other. -/
def cmp2 (x y : Int) : Int := if x < y then -1 else if x > y then 1 else 0
theorem compare_some (a c : Int) : cmp_Compare_int.f a c = some (cmp2 a c) := by
  unfold cmp_Compare_int.f cmp_isNaN_int.f cmp2
  simp only [bne_self_eq_false, Option.bind_some, Bool.false_eq_true, if_false]
  repeat' first | rfl | split
theorem first_some (x y : Int) : stamp_first.f 10 [x, y] = some (if x = 0 then y else x) := by
  have w1 : wrap64 (0 + 1) = 1 := by unfold wrap64; omega
  have w2 : wrap64 (1 + 1) = 2 := by unfold wrap64; omega
  have e0 : rd [x, y] 0 = x := rfl
  have e1 : rd [x, y] 1 = y := rfl
  have s2 : stamp_first.l0 8 [x, y] 2 2 = some 0 := rfl
  have s1 : stamp_first.l0 9 [x, y] 2 1 = if rd [x, y] 1 = 0 then stamp_first.l0 8 [x, y] 2 (wrap64 (1 + 1)) else some (rd [x, y] 1) := rfl
  have s0 : stamp_first.f 10 [x, y] = if rd [x, y] 0 = 0 then stamp_first.l0 9 [x, y] 2 (wrap64 (0 + 1)) else some (rd [x, y] 0) := rfl
  rw [s0, w1, s1, w2, s2, e0, e1]
  by_cases hx : x = 0
  · rw [if_pos hx, if_pos hx]
    by_cases hy : y = 0
    · rw [if_pos hy, hy]
    · rw [if_neg hy]
  · rw [if_neg hx, if_neg hx]
/-- How two stamps are to each other. -/
def cmpS (a b c d : Int) : Int := if cmp2 a c = 0 then cmp2 b d else cmp2 a c
theorem Cmp_some (a b c d : Int) : stamp_Cmp.f 10 a b c d = some (cmpS a b c d) := by
  unfold stamp_Cmp.f
  rw [compare_some, compare_some]
  simp only [Option.bind_some, first_some]
  rfl
/-- Is a stamp right? -/
def right (a b : Int) : Bool := decide (1 ≤ a ∧ a ≤ 16777215 ∧ 0 ≤ b ∧ b < 256)
theorem Right_some (a b : Int) : stamp_Right.f a b = some (right a b) := by
  unfold stamp_Right.f right
  by_cases h1 : a ≥ 1
  · by_cases h2 : a ≤ 16777215
    · by_cases h3 : b ≥ 0
      · rw [if_pos h1, if_pos h2, if_pos h3]
        exact congrArg some (decide_eq_decide.2 ⟨fun h => ⟨h1, h2, h3, h⟩, fun h => h.2.2.2⟩)
      · rw [if_pos h1, if_pos h2, if_neg h3]
        exact congrArg some (decide_eq_false (fun h => h3 h.2.2.1)).symm
    · rw [if_pos h1, if_neg h2]
      exact congrArg some (decide_eq_false (fun h => h2 h.2.1)).symm
  · rw [if_neg h1]
    exact congrArg some (decide_eq_false (fun h => h1 h.1)).symm
/-- A stamp's number. -/
def idOf (a b : Int) : Int := if right a b = true then a * 256 + b else 0
theorem ID_some (a b : Int) : stamp_ID.f a b = some (idOf a b) := by
  unfold stamp_ID.f idOf
  rw [Right_some, Option.bind_some]
  by_cases h : right a b = true
  · rw [if_pos h, if_pos h]
    unfold right at h
    have h := of_decide_eq_true h
    refine congrArg some ?_
    unfold wrap64
    omega
  · rw [if_neg h, if_neg h]
theorem cmp2_cases (x y : Int) : (x < y ∧ cmp2 x y = -1) ∨ (x = y ∧ cmp2 x y = 0) ∨ (y < x ∧ cmp2 x y = 1) := by
  unfold cmp2
  by_cases h : x < y
  · left; exact ⟨h, if_pos h⟩
  · by_cases h' : x > y
    · right; right; exact ⟨h', by rw [if_neg h, if_pos h']⟩
    · right; left; exact ⟨by omega, by rw [if_neg h, if_neg h']⟩
/-- What a stamp's place says: three cases. -/
theorem cmpS_cases (a b c d : Int) : ((a < c ∨ a = c ∧ b < d) ∧ cmpS a b c d = -1) ∨ ((a = c ∧ b = d) ∧ cmpS a b c d = 0) ∨ ((c < a ∨ a = c ∧ d < b) ∧ cmpS a b c d = 1) := by
  unfold cmpS
  rcases cmp2_cases a c with ⟨h, e⟩ | ⟨h, e⟩ | ⟨h, e⟩ <;> rw [e]
  · left; exact ⟨Or.inl h, rfl⟩
  · rw [if_pos rfl]
    rcases cmp2_cases b d with ⟨k, e'⟩ | ⟨k, e'⟩ | ⟨k, e'⟩ <;> rw [e']
    · left; exact ⟨Or.inr ⟨h, k⟩, rfl⟩
    · right; left; exact ⟨⟨h, k⟩, rfl⟩
    · right; right; exact ⟨Or.inr ⟨h, k⟩, rfl⟩
  · right; right; exact ⟨Or.inl h, rfl⟩


theorem Of_some (i : Int) (h0 : -9223372036854775808 ≤ i) (h1 : i ≤ 9223372036854775807) :
    stamp_Of.f i = if 256 ≤ i ∧ i ≤ 4294967295 then some (i / 256, i % 256, true) else some (0, 0, false) := by
  unfold stamp_Of.f
  have e1 : wrap64 (Int.tdiv i 256) = Int.tdiv i 256 := by
    unfold wrap64
    have : -9223372036854775808 ≤ Int.tdiv i 256 ∧ Int.tdiv i 256 ≤ 9223372036854775807 := by
      rcases Int.le_total 0 i with h | h
      · rw [Int.tdiv_eq_ediv_of_nonneg h]; omega
      · obtain ⟨j, rfl⟩ : ∃ j, i = -j := ⟨-i, by omega⟩
        rw [Int.neg_tdiv, Int.tdiv_eq_ediv_of_nonneg (by omega)]; omega
    omega
  rw [e1, Right_some, Option.bind_some]
  by_cases h : 256 ≤ i ∧ i ≤ 4294967295
  · rw [if_pos h, Int.tdiv_eq_ediv_of_nonneg (by omega), Int.tmod_eq_emod_of_nonneg (by omega)]
    rw [if_pos (by unfold right; exact decide_eq_true (by omega))]
  · rw [if_neg h]
    rw [if_neg]
    intro k
    have r := of_decide_eq_true k
    rcases Int.le_total 0 i with hi | hi
    · rw [Int.tdiv_eq_ediv_of_nonneg hi, Int.tmod_eq_emod_of_nonneg hi] at r
      omega
    · obtain ⟨j, rfl⟩ : ∃ j, i = -j := ⟨-i, by omega⟩
      rw [Int.neg_tdiv, Int.tdiv_eq_ediv_of_nonneg (by omega)] at r
      omega

theorem tail_some (a b : Int) : holtlaw04_StampBack.j0 10 true false a b = some true := by
  simp only [holtlaw04_StampBack.j0, Right_some, ID_some, Option.bind_some, Bool.false_eq_true, if_false, if_true]
  by_cases ha : right a b = true
  · have ra := of_decide_eq_true ha
    have hi : idOf a b = a * 256 + b := if_pos ha
    have ho := Of_some (idOf a b) (by omega) (by omega)
    rw [if_pos (by omega)] at ho
    rw [if_pos ha, ho, hi]
    have e1 : (a * 256 + b) / 256 = a := by omega
    have e2 : (a * 256 + b) % 256 = b := by omega
    have e3 : (256 : Int) ≤ a * 256 + b := by omega
    simp [e1, e2, e3]
  · have hi : idOf a b = 0 := if_neg ha
    rw [if_neg ha, hi]; rfl

theorem tells (i a b : Int) (h0 : -9223372036854775808 ≤ i) (h1 : i ≤ 9223372036854775807) : holtlaw04_StampBack.f 10 i a b = some true := by
  unfold holtlaw04_StampBack.f
  rw [awake_ten, Of_some i h0 h1]
  by_cases h : 256 ≤ i ∧ i ≤ 4294967295
  · have hr : right (i / 256) (i % 256) = true := by unfold right; exact decide_eq_true (by omega)
    have hi : idOf (i / 256) (i % 256) = i := by unfold idOf; rw [if_pos hr]; omega
    rw [if_pos h]
    simp [Right_some, ID_some, hr, hi, tail_some]
  · rw [if_neg h]
    simp [tail_some]

theorem walk (a0 a10 a11 : Int) (w : World) (w0 : (Lit.int .i64 a0).wf = true) :
    Calls Try.prog 7 #[.int .i64 a0, .agg #[.int .i64 a10, .int .i64 a11]] w fun e w' => e = .returned (.bool true) ∧ Below w.heap.size w w' := by
  have b0 := bounds_i64 w0
  refine (holtlaw04_StampBack.calls 10 a0 a10 a11 true w (tells a0 a10 a11 b0.1 b0.2)).mono ?_
  rintro e w' ⟨rfl, hd⟩
  exact ⟨rfl, hd⟩
end Go.Proofs.Ytghgiiikhejokaa.stampBack
