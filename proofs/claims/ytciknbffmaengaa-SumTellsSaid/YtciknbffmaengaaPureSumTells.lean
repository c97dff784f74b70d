/- The pure side of SumTells: the sum of any bytes behind any sum, its four bytes, and whether bytes are these, is as the document's answer says: up to three hundred bytes, any number. -/
import Derived.Test.YtciknbffmaengaaGSumTellsx1
import Derived.Test.YtciknbffmaengaaPlain
namespace Go.Proofs.Ytciknbffmaengaa.Pure
open Go.RowKit Go.Proofs.YtciknbffmaengaaW.PrintWords Go.Proofs.YtciknbffmaengaaW.PrintLast Go.Proofs.YtciknbffmaengaaW.PrintMore Go.Proofs.Ytciknbffmaengaa.Plain Go.Proofs.Ytciknbffmaengaa.Crc Go.Proofs.Ytciknbffmaengaa.GSumTells

theorem four_some (k : Nat) (s : Int) : sum_Four.f (k + 5) s = some (four s) := by
  have w0 : wrap64 (8 * 0) = ((0 : Nat) : Int) := by unfold wrap64; omega
  have w1 : wrap64 (8 * 1) = ((8 : Nat) : Int) := by unfold wrap64; omega
  have w2 : wrap64 (8 * 2) = ((16 : Nat) : Int) := by unfold wrap64; omega
  have w3 : wrap64 (8 * 3) = ((24 : Nat) : Int) := by unfold wrap64; omega
  have n1 : wrap64 (0 + 1) = 1 := by unfold wrap64; omega
  have n2 : wrap64 (1 + 1) = 2 := by unfold wrap64; omega
  have n3 : wrap64 (2 + 1) = 3 := by unfold wrap64; omega
  have n4 : wrap64 (3 + 1) = 4 := by unfold wrap64; omega
  have s0 := shr_of s 0 1 (by omega) rfl
  have s1 := shr_of s 8 256 (by omega) rfl
  have s2 := shr_of s 16 65536 (by omega) rfl
  have s3 := shr_of s 24 16777216 (by omega) rfl
  unfold sum_Four.f
  simp only [sum_Four.l0, w0, w1, w2, w3, n1, n2, n3, n4, s0, s1, s2, s3]
  simp [four]

theorem refFour_some (s : Nat) (hs : s < 4294967296) : holtref02_Four.f (s : Int) = some (four (s : Int)) := by
  unfold holtref02_Four.f four
  have h0 : Int.tmod (s : Int) 256 = (s : Int) % 256 := Int.tmod_eq_emod_of_nonneg (by omega)
  have h1 : Int.tdiv (s : Int) 256 = (s : Int) / 256 := Int.tdiv_eq_ediv_of_nonneg (by omega)
  have h2 : Int.tdiv (s : Int) 65536 = (s : Int) / 65536 := Int.tdiv_eq_ediv_of_nonneg (by omega)
  have h3 : Int.tdiv (s : Int) 16777216 = (s : Int) / 16777216 := Int.tdiv_eq_ediv_of_nonneg (by omega)
  rw [h0, h1, h2, h3]
  have e0 : (s : Int) % 256 % 256 = (s : Int) % 256 := by omega
  have e1 : (s : Int) / 256 % 4294967296 % 256 = (s : Int) / 256 % 256 := by omega
  have e2 : (s : Int) / 65536 % 4294967296 % 256 = (s : Int) / 65536 % 256 := by omega
  have e3 : (s : Int) / 16777216 % 4294967296 % 256 = (s : Int) / 16777216 % 256 := by omega
  rw [e0, e1, e2, e3]

/-- One bit as the document tells it. -/
theorem bit_nst (x c : Nat) : (if x % 2 = c % 2 then x / 2 else x / 2 ^^^ 3988292384) ^^^ c / 2 = nst (x ^^^ c) := by
  unfold nst
  rw [div_two_xor, mod_two_xor]
  have e : ∀ p q r : Nat, (p ^^^ q) ^^^ r = (p ^^^ r) ^^^ q := fun p q r => by rw [Nat.xor_assoc, Nat.xor_assoc, Nat.xor_comm q r]
  rcases Nat.mod_two_eq_zero_or_one x with hx | hx <;> rcases Nat.mod_two_eq_zero_or_one c with hc | hc <;> rw [hx, hc] <;> simp <;> rw [e]

theorem ref_byte (l : List Int) (i : Int) (d : Nat) : ∀ (k x c : Nat), d ≤ 8 → x < 4294967296 → c < 256 →
    holtref02_Then.l1 (k + d + 1) l (x : Int) i (c : Int) ((8 - d : Nat) : Int) = holtref02_Then.l0 k l (((nstn d (x ^^^ c)) ^^^ (c / 2 ^ d) : Nat) : Int) (wrap64 (i + 1)) := by
  induction d with
  | zero =>
    intro k x c _ _ _
    have e : (nstn 0 (x ^^^ c)) ^^^ (c / 2 ^ 0) = x := by
      show x ^^^ c ^^^ c / 1 = x
      rw [Nat.div_one, Nat.xor_assoc, Nat.xor_self, Nat.xor_zero]
    rw [e]
    simp only [holtref02_Then.l1]
    rw [if_neg (by omega)]
  | succ d ih =>
    intro k x c hd hx hc
    have hm : Int.tmod (x : Int) 2 = ((x % 2 : Nat) : Int) := by rw [Int.tmod_eq_emod_of_nonneg (by omega)]; omega
    have hm' : Int.tmod (c : Int) 2 % 4294967296 = ((c % 2 : Nat) : Int) := by rw [Int.tmod_eq_emod_of_nonneg (by omega)]; omega
    have hq : Int.tdiv (x : Int) 2 % 4294967296 = ((x / 2 : Nat) : Int) := by rw [Int.tdiv_eq_ediv_of_nonneg (by omega)]; omega
    have hq' : Int.tdiv (c : Int) 2 % 256 = ((c / 2 : Nat) : Int) := by rw [Int.tdiv_eq_ediv_of_nonneg (by omega)]; omega
    have hj : wrap64 (((8 - (d + 1) : Nat) : Int) + 1) = ((8 - d : Nat) : Int) := by rw [w64_small (by omega) (by omega)]; omega
    have hx2 : Go.bits .xor .u32 (((x / 2 : Nat) : Int)) 3988292384 = ((x / 2 ^^^ 3988292384 : Nat) : Int) := xor_nat (b := 3988292384) (by omega) (by omega)
    have he : nstn (d + 1) (x ^^^ c) ^^^ c / 2 ^ (d + 1) = nstn d ((if x % 2 = c % 2 then x / 2 else x / 2 ^^^ 3988292384) ^^^ c / 2) ^^^ c / 2 / 2 ^ d := by
      rw [bit_nst, nstn_add d 1, Nat.div_div_eq_div_mul, Nat.pow_succ, Nat.mul_comm 2]; rfl
    rw [he, show k + (d + 1) + 1 = (k + d + 1) + 1 by omega]
    rw [holtref02_Then.l1, if_pos (by omega), hm, hm', hq, hq', hj, hx2]
    by_cases h : x % 2 = c % 2
    · rw [if_pos (by omega), if_pos h]
      exact ih k _ _ (by omega) (by omega) (by omega)
    · rw [if_neg (by omega), if_neg h]
      exact ih k _ _ (by omega) (Nat.xor_lt_two_pow (n := 32) (by omega) (by omega)) (by omega)

theorem ref_run (l : List Nat) (hl : ∀ c ∈ l, c < 256) (hlen : l.length ≤ 300) (d : Nat) : ∀ (i x k : Nat), i + d = l.length → x < 4294967296 → 10 * d < k →
    holtref02_Then.l0 k (ints l) (x : Int) (i : Int) = some ((4294967295 ^^^ run x (l.drop i) : Nat) : Int) := by
  have hcpl : ∀ y : Nat, y < 4294967296 → ((4294967295 - (y : Int)) % 4294967296) = ((4294967295 ^^^ y : Nat) : Int) := by
    intro y hy
    have h : 4294967295 ^^^ y = 4294967295 - y := by
      have := Nat.xor_comm 4294967295 y
      rw [this]
      apply Nat.eq_of_testBit_eq
      intro j
      rw [Nat.testBit_xor, show (4294967295 : Nat) = 2 ^ 32 - 1 from rfl, Nat.testBit_two_pow_sub_one, show (2 ^ 32 - 1 - y) = 2 ^ 32 - (y + 1) by omega, Nat.testBit_two_pow_sub_succ (by omega)]
      by_cases hj : j < 32
      · simp [hj]
      · have : y.testBit j = false := Nat.testBit_lt_two_pow (Nat.lt_of_lt_of_le hy (Nat.pow_le_pow_right (n := 2) (i := 32) (by omega) (by omega)))
        simp [hj, this]
    rw [h]; omega
  induction d with
  | zero =>
    intro i x k hi hx hk
    obtain ⟨k, rfl⟩ : ∃ m, k = m + 1 := ⟨k - 1, by omega⟩
    simp only [holtref02_Then.l0]
    rw [ints_length, if_neg (by omega), List.drop_of_length_le (by omega), hcpl x hx]; rfl
  | succ d ih =>
    intro i x k hi hx hk
    obtain ⟨k, rfl⟩ : ∃ m, k = m + 8 + 2 := ⟨k - 10, by omega⟩
    have hlt : i < l.length := by omega
    have hc : l[i] < 256 := hl _ (List.getElem_mem hlt)
    have hg : l.getD i 0 = l[i] := by simp [hlt]
    have hb := ref_byte (ints l) (i : Int) 8 k x l[i] (by omega) hx hc
    rw [show k + 8 + 2 = (k + 8 + 1) + 1 from rfl, holtref02_Then.l0, ints_length, if_pos (by omega), if_pos (by omega), ints_rd, hg]
    rw [show ((8 - 8 : Nat) : Int) = 0 from rfl] at hb
    rw [hb, show l[i] / 2 ^ 8 = 0 by omega, Nat.xor_zero, w64_small (by omega) (by omega), show ((i : Int) + 1) = ((i + 1 : Nat) : Int) by omega]
    rw [ih (i + 1) _ k (by omega) (nstn_lt 8 (Nat.xor_lt_two_pow (n := 32) hx (by omega))) (by omega)]
    rw [List.drop_eq_getElem_cons hlt]; rfl

theorem ref_then (l : List Nat) (hl : ∀ c ∈ l, c < 256) (hlen : l.length ≤ 300) (s k : Nat) (hs : s < 4294967296) (hk : 3001 ≤ k) :
    holtref02_Then.f k (s : Int) (ints l) = some (Then.thenI (s : Int) (ints l)) := by
  have h := then_nat l hs hl
  have h2 : ((4294967295 - (s : Int)) % 4294967296) = ((4294967295 ^^^ s : Nat) : Int) := by
    have e := ref_run [] (by simp) (by simp) 0 0 s 1 rfl hs (by omega)
    simp only [holtref02_Then.l0] at e
    exact Option.some.inj e
  unfold holtref02_Then.f
  rw [h2]
  have e := ref_run l hl hlen l.length 0 (4294967295 ^^^ s) k (by omega) (xor_max hs) (by omega)
  rw [List.drop_zero] at e
  exact e.trans (congrArg some h.symm)

theorem SumTells : holtlaw02_SumTells.Pure := by
  intro l0 a1 l2 _ _ h0 h1 _ _ h2
  obtain ⟨l, rfl, hl⟩ := as_nats l0 h0
  obtain ⟨m, rfl, hm⟩ := as_nats l2 h2
  obtain ⟨s, rfl, hs⟩ := as_nat a1 h1
  refine ⟨3002, ?_⟩
  have hstop : holtlaw02_SumTells.j0 3002 (ints l) (s : Int) (ints m) true true = some true := by simp only [holtlaw02_SumTells.j0]; rfl
  unfold holtlaw02_SumTells.f
  rw [show holtlaw02_awake.f = some true from rfl, Option.bind_some]
  rw [ints_length, ints_length]
  by_cases hn : (l.length : Int) > 300
  · rw [if_pos hn]; exact hstop
  · rw [if_neg hn]
    by_cases hn2 : (m.length : Int) > 300
    · rw [decide_eq_true hn2]; exact hstop
    · rw [decide_eq_false hn2]
      have hT : ∀ q : Nat, q < 4294967296 → holtref02_Then.f 3001 (q : Int) (ints l) = some (Then.thenI (q : Int) (ints l)) := fun q hq => ref_then l hl (by omega) q 3001 hq (by omega)
      have hT0 : holtref02_Then.f 3001 0 (ints l) = some (Then.thenI 0 (ints l)) := hT 0 (by omega)
      have hO := of_nat l hl
      have hF : holtref02_Four.f (Then.thenI 0 (ints l)) = some (four (Then.thenI 0 (ints l))) := by rw [hO]; exact refFour_some _ (ofN_lt l hl)
      have hIs : sum_Is.f 3001 (ints l) (ints m) = some ((strOfNums (four (Then.thenI 0 (ints l)))).toList == (strOfNums (ints m)).toList) := by
        unfold sum_Is.f sum_Of.f sum_Then.f
        simp only [Option.bind_some]
        rw [four_some 2996]; rfl
      simp only [holtlaw02_SumTells.j0, Bool.false_eq_true, if_false, if_true, hT0, hF, hT s hs, hIs, Option.bind_some, sum_Then.f, sum_Of.f, four_some 2996, refFour_some s hs, holtref01_Same.f, beq_self_eq_true]
      rw [BEq.comm (a := (strOfNums (ints m)).toList)]
      simp
end Go.Proofs.Ytciknbffmaengaa.Pure
