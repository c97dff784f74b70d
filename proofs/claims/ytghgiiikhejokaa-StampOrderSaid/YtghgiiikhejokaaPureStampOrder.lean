/- The pure side of StampOrder: stamps stand in one order, and the numbers of right ones in the same, at any three stamps. -/
import Derived.Test.YtghgiiikhejokaaPStampOrderx3
namespace Go.Proofs.Ytghgiiikhejokaa.stampOrder
open Go.RowKit Go.Proofs.Ytghgiiikhejokaa.PStampOrder Go.Proofs.YtghgiiikhejokaaW.PrintWords Go.Proofs.YtghgiiikhejokaaW.PrintLast

theorem awake_ten : holtlaw04_awake.f 10 = some true := by decide +kernel

/-- How two numbers are to each other. -/
def cmp2 (x y : Int) : Int := if x < y then -1 else if x > y then 1 else 0
theorem compare_some (a c : Int) : cmp_Compare_int.f a c = some (cmp2 a c) := by
  unfold cmp_Compare_int.f cmp_isNaN_int.f cmp2
  simp only [bne_self_eq_false, Option.bind_some, Bool.false_eq_true, if_false]
  repeat' first | rfl | split
theorem first_some (x y : Int) : stamp_first.f 10 [x, y] = some (if x = 0 then y else x) := by
  have w1 : wrap64 (0 + 1) = 1 := by unfold wrap64; omega
  have w2 : wrap64 (1 + 1) = 2 := by unfold wrap64; omega
  have e0 : rd [x, y] 0 = x := rfl
  have e1 : rd [x, y] 1 = y := rfl
  have s2 : stamp_first.l0 8 [x, y] 2 2 = some 0 := rfl
  have s1 : stamp_first.l0 9 [x, y] 2 1 = if rd [x, y] 1 = 0 then stamp_first.l0 8 [x, y] 2 (wrap64 (1 + 1)) else some (rd [x, y] 1) := rfl
  have s0 : stamp_first.f 10 [x, y] = if rd [x, y] 0 = 0 then stamp_first.l0 9 [x, y] 2 (wrap64 (0 + 1)) else some (rd [x, y] 0) := rfl
  rw [s0, w1, s1, w2, s2, e0, e1]
  by_cases hx : x = 0
  · rw [if_pos hx, if_pos hx]
    by_cases hy : y = 0
    · rw [if_pos hy, hy]
    · rw [if_neg hy]
  · rw [if_neg hx, if_neg hx]
/-- How two stamps are to each other. -/
def cmpS (a b c d : Int) : Int := if cmp2 a c = 0 then cmp2 b d else cmp2 a c
theorem Cmp_some (a b c d : Int) : stamp_Cmp.f 10 a b c d = some (cmpS a b c d) := by
  unfold stamp_Cmp.f
  rw [compare_some, compare_some]
  simp only [Option.bind_some, first_some]
  rfl
/-- Is a stamp right? -/
def right (a b : Int) : Bool := decide (1 ≤ a ∧ a ≤ 16777215 ∧ 0 ≤ b ∧ b < 256)
theorem Right_some (a b : Int) : stamp_Right.f a b = some (right a b) := by
  unfold stamp_Right.f right
  by_cases h1 : a ≥ 1
  · by_cases h2 : a ≤ 16777215
    · by_cases h3 : b ≥ 0
      · rw [if_pos h1, if_pos h2, if_pos h3]
        exact congrArg some (decide_eq_decide.2 ⟨fun h => ⟨h1, h2, h3, h⟩, fun h => h.2.2.2⟩)
      · rw [if_pos h1, if_pos h2, if_neg h3]
        exact congrArg some (decide_eq_false (fun h => h3 h.2.2.1)).symm
    · rw [if_pos h1, if_neg h2]
      exact congrArg some (decide_eq_false (fun h => h2 h.2.1)).symm
  · rw [if_neg h1]
    exact congrArg some (decide_eq_false (fun h => h1 h.1)).symm
/-- A stamp's number. -/
def idOf (a b : Int) : Int := if right a b = true then a * 256 + b else 0
theorem ID_some (a b : Int) : stamp_ID.f a b = some (idOf a b) := by
  unfold stamp_ID.f idOf
  rw [Right_some, Option.bind_some]
  by_cases h : right a b = true
  · rw [if_pos h, if_pos h]
    unfold right at h
    have h := of_decide_eq_true h
    refine congrArg some ?_
    unfold wrap64
    omega
  · rw [if_neg h, if_neg h]
theorem cmp2_cases (x y : Int) : (x < y ∧ cmp2 x y = -1) ∨ (x = y ∧ cmp2 x y = 0) ∨ (y < x ∧ cmp2 x y = 1) := by
  unfold cmp2
  by_cases h : x < y
  · left; exact ⟨h, if_pos h⟩
  · by_cases h' : x > y
    · right; right; exact ⟨h', by rw [if_neg h, if_pos h']⟩
    · right; left; exact ⟨by omega, by rw [if_neg h, if_neg h']⟩
/-- What a stamp's place says: three cases. -/
theorem cmpS_cases (a b c d : Int) : ((a < c ∨ a = c ∧ b < d) ∧ cmpS a b c d = -1) ∨ ((a = c ∧ b = d) ∧ cmpS a b c d = 0) ∨ ((c < a ∨ a = c ∧ d < b) ∧ cmpS a b c d = 1) := by
  unfold cmpS
  rcases cmp2_cases a c with ⟨h, e⟩ | ⟨h, e⟩ | ⟨h, e⟩ <;> rw [e]
  · left; exact ⟨Or.inl h, rfl⟩
  · rw [if_pos rfl]
    rcases cmp2_cases b d with ⟨k, e'⟩ | ⟨k, e'⟩ | ⟨k, e'⟩ <;> rw [e']
    · left; exact ⟨Or.inr ⟨h, k⟩, rfl⟩
    · right; left; exact ⟨⟨h, k⟩, rfl⟩
    · right; right; exact ⟨Or.inr ⟨h, k⟩, rfl⟩
  · right; right; exact ⟨Or.inl h, rfl⟩


theorem tail_some (t8 : Int) (a b c d : Int) (h8 : t8 = cmpS a b c d) : holtlaw04_StampOrder.j0 11 true t8 false a b c d = some true := by
  subst h8
  simp only [holtlaw04_StampOrder.j0, Right_some, ID_some, Cmp_some, Option.bind_some, Bool.false_eq_true, if_false, if_true]
  have hw : cmpS c d a b = wrap64 (-(cmpS a b c d)) := by
    rcases cmpS_cases a b c d with ⟨h, k⟩ | ⟨h, k⟩ | ⟨h, k⟩ <;> rcases cmpS_cases c d a b with ⟨h', k'⟩ | ⟨h', k'⟩ | ⟨h', k'⟩ <;> rw [k, k'] <;> first | (unfold wrap64; omega) | (exfalso; omega)
  have he : ((cmpS a b c d == 0) == (a == c && (b == d))) = true := by
    rcases cmpS_cases a b c d with ⟨h, k⟩ | ⟨h, k⟩ | ⟨h, k⟩ <;> rw [k]
    · have : (a == c && (b == d)) = false := by
        rw [Bool.and_eq_false_iff, beq_eq_false_iff_ne, beq_eq_false_iff_ne]; omega
      rw [this]; rfl
    · obtain ⟨rfl, rfl⟩ := h; simp
    · have : (a == c && (b == d)) = false := by
        rw [Bool.and_eq_false_iff, beq_eq_false_iff_ne, beq_eq_false_iff_ne]; omega
      rw [this]; rfl
  by_cases ha : right a b = true
  · by_cases hc : right c d = true
    · have hid : (decide (idOf a b < idOf c d) == decide (cmpS a b c d < 0)) = true := by
        have ra := of_decide_eq_true ha
        have rc := of_decide_eq_true hc
        unfold idOf
        rw [if_pos ha, if_pos hc]
        rcases cmpS_cases a b c d with ⟨h, k⟩ | ⟨h, k⟩ | ⟨h, k⟩ <;> rw [k]
        · rw [decide_eq_true (by omega)]; rfl
        · rw [decide_eq_false (by omega)]; rfl
        · rw [decide_eq_false (by omega)]; rfl
      rw [if_pos ha, if_pos hw, if_pos he, if_pos hc, hid]
    · rw [if_pos ha, if_pos hw, if_pos he, if_neg hc]
  · rw [if_neg ha, if_pos hw, if_pos he]

theorem tells (a b c d x y : Int) : holtlaw04_StampOrder.f 11 a b c d x y = some true := by
  have aw : holtlaw04_awake.f 11 = some true := by decide +kernel
  have cs : ∀ a b c d, stamp_Cmp.f 11 a b c d = some (cmpS a b c d) := fun a b c d => at_rounds (stamp_Cmp.mono a b c d) (by omega) (Cmp_some a b c d)
  have ht := tail_some (cmpS a b c d) a b c d rfl
  unfold holtlaw04_StampOrder.f
  rw [aw, cs, cs, cs]
  simp only [Option.bind_some]
  rcases cmpS_cases a b c d with ⟨h, k⟩ | ⟨h, k⟩ | ⟨h, k⟩ <;> rcases cmpS_cases c d x y with ⟨h', k'⟩ | ⟨h', k'⟩ | ⟨h', k'⟩ <;> rcases cmpS_cases a b x y with ⟨h'', k''⟩ | ⟨h'', k''⟩ | ⟨h'', k''⟩ <;>
    first
    | (exfalso; omega)
    | (rw [k] at ht; rw [k, k', k'']; simpa using ht)

theorem walk (a00 a01 a10 a11 a20 a21 : Int) (w : World) :
    Calls Try.prog 5 #[.agg #[.int .i64 a00, .int .i64 a01], .agg #[.int .i64 a10, .int .i64 a11], .agg #[.int .i64 a20, .int .i64 a21]] w fun e w' => e = .returned (.bool true) ∧ Below w.heap.size w w' := by
  refine (holtlaw04_StampOrder.calls 11 a00 a01 a10 a11 a20 a21 true w (tells a00 a01 a10 a11 a20 a21)).mono ?_
  rintro e w' ⟨rfl, hd⟩
  exact ⟨rfl, hd⟩
end Go.Proofs.Ytghgiiikhejokaa.stampOrder
