/- The pure side of SumLike: of two texts of one length, with the same bits turned, the sums differ alike: up to three hundred bytes. -/
import Derived.Test.YtciknbffmaengaaGSumLikex2
import Derived.Test.YtciknbffmaengaaPlain
namespace Go.Proofs.Ytciknbffmaengaa.Pure
open Go.RowKit Go.Proofs.YtciknbffmaengaaW.PrintWords Go.Proofs.YtciknbffmaengaaW.PrintLast Go.Proofs.YtciknbffmaengaaW.PrintMore Go.Proofs.Ytciknbffmaengaa.Plain Go.Proofs.Ytciknbffmaengaa.Crc Go.Proofs.Ytciknbffmaengaa.GSumLike

/-- What c is when the first i of a's bytes are turned by m's. -/
def Turned (a m c : List Nat) (i : Nat) : Prop := c.length = a.length ∧ (∀ x ∈ c, x < 256) ∧ (∀ j, j < i → c.getD j 0 = a.getD j 0 ^^^ m.getD j 0) ∧ ∀ j, i ≤ j → c.getD j 0 = a.getD j 0
theorem Turned.start (a m : List Nat) (ha : ∀ x ∈ a, x < 256) : Turned a m a 0 := ⟨rfl, ha, fun _ h => absurd h (Nat.not_lt_zero _), fun _ _ => rfl⟩
theorem Turned.step {a m c : List Nat} {i : Nat} (h : Turned a m c i) (hm : ∀ x ∈ m, x < 256) (hi : i < a.length) : Turned a m (c.set i (c.getD i 0 ^^^ m.getD i 0)) (i + 1) := by
  obtain ⟨h1, h2, h3, h4⟩ := h
  have hc := getD_byte c h2 i
  have hmm := getD_byte m hm i
  refine ⟨by rw [List.length_set]; exact h1, set_bytes _ _ _ h2 (Nat.xor_lt_two_pow (n := 8) hc hmm), fun j hj => ?_, fun j hj => ?_⟩
  · rw [getD_set _ _ _ _ (by omega)]
    by_cases e : i = j
    · subst e; rw [if_pos rfl, h4 i (Nat.le_refl _)]
    · rw [if_neg e]; exact h3 j (by omega)
  · rw [getD_set _ _ _ _ (by omega), if_neg (by omega)]; exact h4 j (by omega)
theorem Turned.done {a m c : List Nat} {n : Nat} (h : Turned a m c n) (ha : a.length = n) (hm : n ≤ m.length) : List.zipWith (fun x y => x ^^^ y) a c = m.take n := by
  obtain ⟨h1, _, h3, _⟩ := h
  apply List.ext_getElem
  · rw [List.length_zipWith, List.length_take]; omega
  · intro j g1 g2
    have hj : j < n := by rw [List.length_take] at g2; omega
    have e := h3 j hj
    rw [List.getElem_zipWith, List.getElem_take]
    have ec : c.getD j 0 = c[j]'(by omega) := by simp [show j < c.length by omega]
    have ea : a.getD j 0 = a[j]'(by omega) := by simp [show j < a.length by omega]
    have em : m.getD j 0 = m[j]'(by omega) := by simp [show j < m.length by omega]
    rw [ec, ea, em] at e
    rw [e, ← Nat.xor_assoc, Nat.xor_self, Nat.zero_xor]
theorem differ (a c : List Nat) (hn : a.length = c.length) : ofN a ^^^ ofN c = run 0 (List.zipWith (fun x y => x ^^^ y) a c) := by
  have h := run_alike 4294967295 4294967295 a c hn
  rw [Nat.xor_self] at h
  rw [← h]
  unfold ofN
  apply Nat.eq_of_testBit_eq
  intro i
  simp only [Nat.testBit_xor]
  cases Nat.testBit 4294967295 i <;> cases (run 4294967295 a).testBit i <;> cases (run 4294967295 c).testBit i <;> rfl
theorem ints_take (l : List Nat) (n : Nat) : (ints l).take n = ints (l.take n) := by unfold ints; rw [List.map_take]
theorem of_some (l : List Nat) (hl : ∀ c ∈ l, c < 256) : sum_Of.f (ints l) = some ((ofN l : Nat) : Int) := by
  unfold sum_Of.f sum_Then.f
  rw [of_nat l hl]; rfl

theorem loop (x0 x1 m : List Nat) (hx0 : ∀ x ∈ x0, x < 256) (hx1 : ∀ x ∈ x1, x < 256) (hm : ∀ x ∈ m, x < 256) (n : Nat) (hn : n ≤ 300) (h0 : n ≤ x0.length) (h1 : n ≤ x1.length) (h2 : n ≤ m.length) (d : Nat) :
    ∀ (k i : Nat) (c e : List Nat), i + d = n → d < k → Turned (x0.take n) m c i → Turned (x1.take n) m e i →
      holtlaw02_SumLike.l0 k (ints x0) (ints x1) (ints m) true (n : Int) (ints c) (ints e) (i : Int) = some true := by
  have hl0 : (x0.take n).length = n := by rw [List.length_take]; omega
  have hl1 : (x1.take n).length = n := by rw [List.length_take]; omega
  induction d with
  | zero =>
    intro k i c e hi hk hc he
    obtain ⟨k, rfl⟩ : ∃ m, k = m + 1 := ⟨k - 1, by omega⟩
    obtain rfl : i = n := by omega
    have b0 : ∀ x ∈ x0.take i, x < 256 := fun x hx => hx0 x (List.mem_of_mem_take hx)
    have b1 : ∀ x ∈ x1.take i, x < 256 := fun x hx => hx1 x (List.mem_of_mem_take hx)
    have d0 := differ (x0.take i) c hc.1.symm
    have d1 := differ (x1.take i) e he.1.symm
    rw [hc.done hl0 h2] at d0
    rw [he.done hl1 h2] at d1
    rw [holtlaw02_SumLike.l0, if_neg (by omega), if_pos rfl, if_pos (by omega), ints_length, if_pos (by omega), Int.toNat_natCast, ints_take, ints_take, of_some _ b0, of_some _ hc.2.1, of_some _ b1, of_some _ he.2.1, ints_length]
    simp only [Option.bind_some]
    rw [if_pos (by omega), xor_nat (ofN_lt _ b0) (ofN_lt _ hc.2.1), xor_nat (ofN_lt _ b1) (ofN_lt _ he.2.1), d0, d1]
    simp
  | succ d ih =>
    intro k i c e hi hk hc he
    obtain ⟨k, rfl⟩ : ∃ m, k = m + 1 := ⟨k - 1, by omega⟩
    have lc := hc.1
    have le := he.1
    have gc := getD_byte c hc.2.1 i
    have ge := getD_byte e he.2.1 i
    have gm := getD_byte m hm i
    rw [holtlaw02_SumLike.l0, if_pos (by omega), if_pos (by omega), ints_length, if_pos (by omega), ints_length, if_pos (by omega), ints_length, if_pos (by omega), Int.toNat_natCast, ints_rd, ints_rd, ints_rd, xor_u8 gc gm, xor_u8 ge gm, ints_set, ints_set]
    rw [w64_small (by omega) (by omega), show (i : Int) + 1 = ((i + 1 : Nat) : Int) by omega]
    exact ih k (i + 1) _ _ (by omega) (by omega) (hc.step hm (by omega)) (he.step hm (by omega))

theorem SumLike : holtlaw02_SumLike.Pure := by
  intro l0 l1 l2 _ _ h0 _ _ h1 _ _ h2
  obtain ⟨a, rfl, ha⟩ := as_nats l0 h0
  obtain ⟨b, rfl, hb⟩ := as_nats l1 h1
  obtain ⟨m, rfl, hm⟩ := as_nats l2 h2
  obtain ⟨n, hmn, n0, n1, n2⟩ : ∃ n : Nat, mn (mn ((ints a).length : Int) ((ints b).length : Int)) ((ints m).length : Int) = (n : Int) ∧ n ≤ a.length ∧ n ≤ b.length ∧ n ≤ m.length := by
    refine ⟨min (min a.length b.length) m.length, ?_, by omega, by omega, by omega⟩
    rw [ints_length, ints_length, ints_length]
    unfold mn
    (repeat' split) <;> omega
  refine ⟨302, ?_⟩
  unfold holtlaw02_SumLike.f
  rw [show holtlaw02_awake.f = some true from rfl, Option.bind_some]
  simp only [hmn]
  by_cases hn : (n : Int) > 300
  · rw [if_pos hn]
  · rw [if_neg hn]
    simp only [Option.bind_some, List.nil_append, List.length_nil, Int.toNat_natCast, ints_take, ints_length, List.length_take]
    have e0 : min n a.length = n := by omega
    have e1 : min n b.length = n := by omega
    rw [if_pos (by omega), if_pos (by omega), e0, if_pos (by omega), if_pos (by omega), e1, if_pos (by omega)]
    have ha' : ∀ x ∈ a.take n, x < 256 := fun x hx => ha x (List.mem_of_mem_take hx)
    have hb' : ∀ x ∈ b.take n, x < 256 := fun x hx => hb x (List.mem_of_mem_take hx)
    exact loop a b m ha hb hm n (by omega) n0 n1 n2 n 302 0 (a.take n) (b.take n) (by omega) (by omega) (Turned.start _ m ha') (Turned.start _ m hb')
end Go.Proofs.Ytciknbffmaengaa.Pure
