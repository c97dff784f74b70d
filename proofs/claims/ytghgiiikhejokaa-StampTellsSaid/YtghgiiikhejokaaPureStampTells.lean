/- The pure side of StampTells: whether a stamp is right, its number, and how two are to each other, is as the document's answer says, at all numbers. -/
import Derived.Test.YtghgiiikhejokaaPStampTellsx4
import Derived.Test.YtghgiiikhejokaaPStampTellsx3
namespace Go.Proofs.Ytghgiiikhejokaa.stampTells
open Go.RowKit Go.Proofs.Ytghgiiikhejokaa.PStampTells Go.Proofs.YtghgiiikhejokaaW.PrintWords Go.Proofs.YtghgiiikhejokaaW.PrintLast

theorem awake_ten : holtlaw04_awake.f 10 = some true := by decide +kernel

/-- How two numbers are to each other. -/
def cmp2 (x y : Int) : Int := if x < y then -1 else if x > y then 1 else 0
theorem compare_some (a c : Int) : cmp_Compare_int.f a c = some (cmp2 a c) := by
  unfold cmp_Compare_int.f cmp_isNaN_int.f cmp2
  simp only [bne_self_eq_false, Option.bind_some, Bool.false_eq_true, if_false]
  repeat' first | rfl | split
theorem first_some (x y : Int) : stamp_first.f 10 [x, y] = some (if x = 0 then y else x) := by
  have w1 : wrap64 (0 + 1) = 1 := by unfold wrap64; omega
  have w2 : wrap64 (1 + 1) = 2 := by unfold wrap64; omega
  have e0 : rd [x, y] 0 = x := rfl
  have e1 : rd [x, y] 1 = y := rfl
  have s2 : stamp_first.l0 8 [x, y] 2 2 = some 0 := rfl
  have s1 : stamp_first.l0 9 [x, y] 2 1 = if rd [x, y] 1 = 0 then stamp_first.l0 8 [x, y] 2 (wrap64 (1 + 1)) else some (rd [x, y] 1) := rfl
  have s0 : stamp_first.f 10 [x, y] = if rd [x, y] 0 = 0 then stamp_first.l0 9 [x, y] 2 (wrap64 (0 + 1)) else some (rd [x, y] 0) := rfl
  rw [s0, w1, s1, w2, s2, e0, e1]
  by_cases hx : x = 0
  · rw [if_pos hx, if_pos hx]
    by_cases hy : y = 0
    · rw [if_pos hy, hy]
    · rw [if_neg hy]
  · rw [if_neg hx, if_neg hx]
/-- How two stamps are to each other. -/
def cmpS (a b c d : Int) : Int := if cmp2 a c = 0 then cmp2 b d else cmp2 a c
theorem Cmp_some (a b c d : Int) : stamp_Cmp.f 10 a b c d = some (cmpS a b c d) := by
  unfold stamp_Cmp.f
  rw [compare_some, compare_some]
  simp only [Option.bind_some, first_some]
  rfl
/-- Is a stamp right? -/
def right (a b : Int) : Bool := decide (1 ≤ a ∧ a ≤ 16777215 ∧ 0 ≤ b ∧ b < 256)
theorem Right_some (a b : Int) : stamp_Right.f a b = some (right a b) := by
  unfold stamp_Right.f right
  by_cases h1 : a ≥ 1
  · by_cases h2 : a ≤ 16777215
    · by_cases h3 : b ≥ 0
      · rw [if_pos h1, if_pos h2, if_pos h3]
        exact congrArg some (decide_eq_decide.2 ⟨fun h => ⟨h1, h2, h3, h⟩, fun h => h.2.2.2⟩)
      · rw [if_pos h1, if_pos h2, if_neg h3]
        exact congrArg some (decide_eq_false (fun h => h3 h.2.2.1)).symm
    · rw [if_pos h1, if_neg h2]
      exact congrArg some (decide_eq_false (fun h => h2 h.2.1)).symm
  · rw [if_neg h1]
    exact congrArg some (decide_eq_false (fun h => h1 h.1)).symm
/-- A stamp's number. -/
def idOf (a b : Int) : Int := if right a b = true then a * 256 + b else 0
theorem ID_some (a b : Int) : stamp_ID.f a b = some (idOf a b) := by
  unfold stamp_ID.f idOf
  rw [Right_some, Option.bind_some]
  by_cases h : right a b = true
  · rw [if_pos h, if_pos h]
    unfold right at h
    have h := of_decide_eq_true h
    refine congrArg some ?_
    unfold wrap64
    omega
  · rw [if_neg h, if_neg h]
theorem cmp2_cases (x y : Int) : (x < y ∧ cmp2 x y = -1) ∨ (x = y ∧ cmp2 x y = 0) ∨ (y < x ∧ cmp2 x y = 1) := by
  unfold cmp2
  by_cases h : x < y
  · left; exact ⟨h, if_pos h⟩
  · by_cases h' : x > y
    · right; right; exact ⟨h', by rw [if_neg h, if_pos h']⟩
    · right; left; exact ⟨by omega, by rw [if_neg h, if_neg h']⟩
/-- What a stamp's place says: three cases. -/
theorem cmpS_cases (a b c d : Int) : ((a < c ∨ a = c ∧ b < d) ∧ cmpS a b c d = -1) ∨ ((a = c ∧ b = d) ∧ cmpS a b c d = 0) ∨ ((c < a ∨ a = c ∧ d < b) ∧ cmpS a b c d = 1) := by
  unfold cmpS
  rcases cmp2_cases a c with ⟨h, e⟩ | ⟨h, e⟩ | ⟨h, e⟩ <;> rw [e]
  · left; exact ⟨Or.inl h, rfl⟩
  · rw [if_pos rfl]
    rcases cmp2_cases b d with ⟨k, e'⟩ | ⟨k, e'⟩ | ⟨k, e'⟩ <;> rw [e']
    · left; exact ⟨Or.inr ⟨h, k⟩, rfl⟩
    · right; left; exact ⟨⟨h, k⟩, rfl⟩
    · right; right; exact ⟨Or.inr ⟨h, k⟩, rfl⟩
  · right; right; exact ⟨Or.inl h, rfl⟩


theorem refRight_some (a b : Int) : holtref04_Right.f a b = some (right a b) := by
  rw [← Right_some]
  unfold holtref04_Right.f stamp_Right.f
  have e1 : (a > 0) = (a ≥ 1) := propext ⟨by omega, by omega⟩
  have e2 : (a < 16777216) = (a ≤ 16777215) := propext ⟨by omega, by omega⟩
  have e3 : decide (b ≤ 255) = decide (b < 256) := decide_eq_decide.2 ⟨by omega, by omega⟩
  simp only [e1, e2, e3]
theorem refID_some (a b : Int) : holtref04_ID.f a b = some (idOf a b) := by
  rw [← ID_some]
  unfold holtref04_ID.f stamp_ID.f
  rw [refRight_some, Right_some, Int.mul_comm]
theorem refCmp_some (a b c d : Int) : holtref04_Cmp.f 10 a b c d = some (cmpS a b c d) := by
  have e : ∀ t, holtref04_Cmp.j0 10 t a b c d = if t = true then (some (-1)) else (if a > c then (some 1) else (if a = c then (if b > d then (some 1) else (some 0)) else (some 0))) := fun t => rfl
  unfold holtref04_Cmp.f
  simp only [e]
  rcases cmpS_cases a b c d with ⟨h, k⟩ | ⟨h, k⟩ | ⟨h, k⟩ <;> rw [k]
  · by_cases h1 : a < c
    · simp only [if_pos h1, if_true]
    · obtain ⟨h2, h3⟩ : a = c ∧ b < d := by omega
      subst h2
      simp [h3]
  · obtain ⟨rfl, rfl⟩ := h
    simp
  · have h1 : ¬ a < c := by omega
    by_cases h2 : a = c
    · subst h2
      have h3 : d < b := by omega
      have h4 : ¬ b < d := by omega
      simp [h3, h4]
    · have h3 : c < a := by omega
      simp [h1, h2, h3]

theorem tells (a b c d : Int) : holtlaw04_StampTells.f 10 a b c d = some true := by
  unfold holtlaw04_StampTells.f
  rw [awake_ten, Right_some, refRight_some, ID_some, refID_some, Cmp_some, refCmp_some]
  simp

theorem walk (a00 a01 a10 a11 : Int) (w : World) :
    Calls Try.prog 3 #[.agg #[.int .i64 a00, .int .i64 a01], .agg #[.int .i64 a10, .int .i64 a11]] w fun e w' => e = .returned (.bool true) ∧ Below w.heap.size w w' := by
  refine (holtlaw04_StampTells.calls 10 a00 a01 a10 a11 true w (tells a00 a01 a10 a11)).mono ?_
  rintro e w' ⟨rfl, hd⟩
  exact ⟨rfl, hd⟩
end Go.Proofs.Ytghgiiikhejokaa.stampTells
