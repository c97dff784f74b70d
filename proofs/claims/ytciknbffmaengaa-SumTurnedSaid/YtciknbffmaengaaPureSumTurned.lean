/- The pure side of SumTurned: bits that are turned within 32 side by side are seen: one to three hundred bytes, at any bit, whichever of 32 bits. -/
import Derived.Test.YtciknbffmaengaaGSumTurnedx2
import Derived.Test.YtciknbffmaengaaPlain
namespace Go.Proofs.Ytciknbffmaengaa.Pure
open Go.RowKit Go.Proofs.YtciknbffmaengaaW.PrintWords Go.Proofs.YtciknbffmaengaaW.PrintLast Go.Proofs.YtciknbffmaengaaW.PrintMore Go.Proofs.Ytciknbffmaengaa.Plain Go.Proofs.Ytciknbffmaengaa.Crc Go.Proofs.Ytciknbffmaengaa.GSumTurned

theorem four_some (k : Nat) (s : Int) : sum_Four.f (k + 5) s = some (four s) := by
  have w0 : wrap64 (8 * 0) = ((0 : Nat) : Int) := by unfold wrap64; omega
  have w1 : wrap64 (8 * 1) = ((8 : Nat) : Int) := by unfold wrap64; omega
  have w2 : wrap64 (8 * 2) = ((16 : Nat) : Int) := by unfold wrap64; omega
  have w3 : wrap64 (8 * 3) = ((24 : Nat) : Int) := by unfold wrap64; omega
  have n1 : wrap64 (0 + 1) = 1 := by unfold wrap64; omega
  have n2 : wrap64 (1 + 1) = 2 := by unfold wrap64; omega
  have n3 : wrap64 (2 + 1) = 3 := by unfold wrap64; omega
  have n4 : wrap64 (3 + 1) = 4 := by unfold wrap64; omega
  have s0 := shr_of s 0 1 (by omega) rfl
  have s1 := shr_of s 8 256 (by omega) rfl
  have s2 := shr_of s 16 65536 (by omega) rfl
  have s3 := shr_of s 24 16777216 (by omega) rfl
  unfold sum_Four.f
  simp only [sum_Four.l0, w0, w1, w2, w3, n1, n2, n3, n4, s0, s1, s2, s3]
  simp [four]

theorem is_some (k : Nat) (l m : List Nat) (hl : ∀ c ∈ l, c < 256) (hm : ∀ c ∈ m, c < 256) : sum_Is.f (k + 5) (ints l) (four (ofN m : Nat)) = some (decide (ofN l = ofN m)) := by
  unfold sum_Is.f sum_Of.f sum_Then.f
  simp only [Option.bind_some, of_nat l hl, four_some k]
  rw [str_four _ _ (ofN_lt l hl) (ofN_lt m hm)]

/-- The loop: c is what b has become, whose bits before K, and from K + i on, are b's. -/
theorem loop (b : List Nat) (hb : ∀ c ∈ b, c < 256) (hn : b.length ≤ 300) (x2 : Int) (K : Nat) (hK : K < 8 * b.length) (d : Nat) : ∀ (k i : Nat) (c : List Nat) (t : Bool), i + d = 32 → 2 * d + 8 ≤ k → c.length = b.length → (∀ x ∈ c, x < 256) →
    (∀ j, j < K ∨ K + i ≤ j → bitAt c j = bitAt b j) → t = decide (c ≠ b) → holtlaw02_SumTurned.l0 k (ints b) x2 true (ints c) (K : Int) t (i : Int) = some true := by
  have hend : ∀ (k i : Nat) (c : List Nat) (t : Bool), i ≤ 32 → 7 ≤ k → c.length = b.length → (∀ x ∈ c, x < 256) → (∀ j, j < K ∨ K + i ≤ j → bitAt c j = bitAt b j) → t = decide (c ≠ b) →
      holtlaw02_SumTurned.j2 k (ints b) x2 true (ints c) (K : Int) t (i : Int) false = some true := by
    intro k i c t hi hk hc hcb hbit ht
    obtain ⟨k, rfl⟩ : ∃ m, k = m + 5 + 1 := ⟨k - 6, by omega⟩
    have hs : decide (ofN c = ofN b) = decide (c = b) := decide_eq_decide.2 ⟨burst_of c b hc hcb hb K (fun j hj => hbit j (by omega)), fun h => by rw [h]⟩
    simp only [holtlaw02_SumTurned.j2, Bool.false_eq_true, if_false, if_true, sum_Of.f, sum_Then.f, Option.bind_some, of_nat b hb, four_some k, is_some k c b hcb hb, hs, ht]
    by_cases h : c = b <;> simp [h]
  induction d with
  | zero =>
    intro k i c t hi hk hc hcb hbit ht
    obtain ⟨k, rfl⟩ : ∃ m, k = m + 1 := ⟨k - 1, by omega⟩
    rw [holtlaw02_SumTurned.l0, if_neg (by omega)]
    exact hend k i c t (by omega) (by omega) hc hcb hbit ht
  | succ d ih =>
    intro k i c t hi hk hc hcb hbit ht
    obtain ⟨k, rfl⟩ : ∃ m, k = m + 1 + 1 := ⟨k - 2, by omega⟩
    rw [holtlaw02_SumTurned.l0, if_pos (by omega), ints_length, w64_small (by omega) (by omega), w64_small (by omega) (by omega)]
    by_cases hp : (K : Int) + (i : Int) < 8 * (b.length : Int)
    · rw [decide_eq_true hp, holtlaw02_SumTurned.j2, if_pos rfl, if_pos (by omega)]
      have hq : wrap64 ((i : Int) + 1) = ((i + 1 : Nat) : Int) := by rw [w64_small (by omega) (by omega)]; omega
      by_cases hbyte : (Go.bits .and .u32 (shr .u32 x2 (i : Int)) 1) = 1
      · rw [if_pos hbyte, w64_small (x := (K : Int) + (i : Int)) (by omega) (by omega), show (K : Int) + (i : Int) = ((K + i : Nat) : Int) by omega]
        rw [Int.tdiv_eq_ediv_of_nonneg (by omega), Int.tmod_eq_emod_of_nonneg (by omega), show ((K + i : Nat) : Int) / 8 = (((K + i) / 8 : Nat) : Int) by omega, show ((K + i : Nat) : Int) % 8 = (((K + i) % 8 : Nat) : Int) by omega, w64_small (by omega) (by omega)]
        rw [if_pos (by omega), ints_length, if_pos (by omega), if_pos (by omega), hq, ints_rd, shl_one _ (by omega), Int.toNat_natCast]
        have hpow : 2 ^ ((K + i) % 8) < 256 := Nat.pow_lt_pow_right (n := 8) (by omega) (by omega)
        have hg := getD_byte c hcb ((K + i) / 8)
        rw [xor_u8 hg hpow, ints_set]
        have hf := fun j => flip c (K + i) j (by omega)
        refine ih k (i + 1) _ true (by omega) (by omega) (by rw [List.length_set]; exact hc) (set_bytes _ _ _ hcb (Nat.xor_lt_two_pow (n := 8) hg hpow)) ?_ ?_
        · intro j hj
          rw [hf j, if_neg (by omega)]
          exact hbit j (by omega)
        · symm
          apply decide_eq_true
          intro e
          have h1 := hf (K + i)
          rw [e, if_pos rfl, hbit (K + i) (by omega)] at h1
          cases h : bitAt b (K + i) <;> rw [h] at h1 <;> cases h1
      · rw [if_neg hbyte, hq]
        exact ih k (i + 1) c t (by omega) (by omega) hc hcb (fun j hj => hbit j (by omega)) ht
    · rw [decide_eq_false hp]
      exact hend (k + 1) i c t (by omega) (by omega) hc hcb hbit ht

theorem SumTurned : holtlaw02_SumTurned.Pure := by
  intro l0 a1 a2 _ _ h0 h1 _
  obtain ⟨b, rfl, hb⟩ := as_nats l0 h0
  have hr := bounds_u16 h1
  obtain ⟨at_, rfl⟩ : ∃ n : Nat, a1 = (n : Int) := ⟨a1.toNat, by omega⟩
  refine ⟨100, ?_⟩
  have hstop : holtlaw02_SumTurned.j0 100 (ints b) (at_ : Int) a2 true true = some true := by simp only [holtlaw02_SumTurned.j0]; rfl
  unfold holtlaw02_SumTurned.f
  rw [show holtlaw02_awake.f = some true from rfl, Option.bind_some, ints_length]
  by_cases hn : (b.length : Int) > 300
  · rw [if_pos hn]; exact hstop
  · rw [if_neg hn]
    by_cases hz : b.length = 0
    · rw [hz]; exact hstop
    · rw [show ((b.length : Int) == 0) = false by rw [beq_eq_false_iff_ne]; omega]
      have hL := loop b hb (by omega) a2 (at_ % (8 * b.length)) (Nat.mod_lt _ (by omega)) 32 99 0 b false (by omega) (by omega) rfl hb (fun _ _ => rfl) (by simp)
      simp only [holtlaw02_SumTurned.j0, Bool.false_eq_true, if_false, Option.bind_some, List.nil_append, List.length_nil, ints_length]
      rw [if_pos (by omega), w64_small (x := 8 * (b.length : Int)) (by omega) (by omega), if_neg (by omega), w64_small (x := (at_ : Int)) (by omega) (by omega), Int.tmod_eq_emod_of_nonneg (by omega)]
      rw [show (at_ : Int) % (8 * (b.length : Int)) = ((at_ % (8 * b.length) : Nat) : Int) by push_cast; rfl]
      exact hL
end Go.Proofs.Ytciknbffmaengaa.Pure
