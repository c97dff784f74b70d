/- Plain facts about the sum of bytes: a register of any length, whose lowest bit is taken off again and again. No program stands here but the words of Then's contract. -/
import Derived.Test.YtciknbffmaengaaThen
namespace Go.Proofs.Ytciknbffmaengaa.Crc
open Go.RowKit Go.Proofs.YtciknbffmaengaaW.PrintWords

/-- One step of the register. -/
def nst (z : Nat) : Nat := (z / 2) ^^^ (if z % 2 = 1 then 3988292384 else 0)
def nstn : Nat → Nat → Nat
  | 0, z => z
  | n + 1, z => nst (nstn n z)
theorem nstn_add (m n z : Nat) : nstn (m + n) z = nstn m (nstn n z) := by
  induction m with
  | zero => rw [Nat.zero_add]; rfl
  | succ m ih => rw [Nat.succ_add]; show nst _ = nst _; rw [ih]
theorem div_two_xor (a b : Nat) : (a ^^^ b) / 2 = a / 2 ^^^ b / 2 := by
  apply Nat.eq_of_testBit_eq
  intro i
  rw [Nat.testBit_xor, Nat.testBit_div_two, Nat.testBit_div_two, Nat.testBit_div_two, Nat.testBit_xor]
theorem mod_two_xor (a b : Nat) : (a ^^^ b) % 2 = (a % 2 + b % 2) % 2 := by
  have h := Nat.testBit_xor a b 0
  rw [Nat.testBit_zero, Nat.testBit_zero, Nat.testBit_zero] at h
  rcases Nat.mod_two_eq_zero_or_one a with ha | ha <;> rcases Nat.mod_two_eq_zero_or_one b with hb | hb <;> rcases Nat.mod_two_eq_zero_or_one (a ^^^ b) with hc | hc <;> simp_all
theorem nst_xor (a b : Nat) : nst (a ^^^ b) = nst a ^^^ nst b := by
  unfold nst
  rw [div_two_xor, mod_two_xor]
  have e : ∀ p q r s : Nat, (p ^^^ q) ^^^ (r ^^^ s) = (p ^^^ r) ^^^ (q ^^^ s) := fun p q r s => by
    apply Nat.eq_of_testBit_eq
    intro i
    simp only [Nat.testBit_xor]
    cases p.testBit i <;> cases q.testBit i <;> cases r.testBit i <;> cases s.testBit i <;> rfl
  rcases Nat.mod_two_eq_zero_or_one a with ha | ha <;> rcases Nat.mod_two_eq_zero_or_one b with hb | hb <;> rw [ha, hb] <;> rw [e] <;> simp
theorem nstn_xor (n a b : Nat) : nstn n (a ^^^ b) = nstn n a ^^^ nstn n b := by
  induction n with
  | zero => rfl
  | succ n ih => show nst _ = nst _ ^^^ nst _; rw [ih, nst_xor]
theorem nst_double (q : Nat) : nst (2 * q) = q := by
  unfold nst
  rw [show 2 * q / 2 = q by omega, if_neg (by omega), Nat.xor_zero]
theorem nstn_shift (n q : Nat) : nstn n (2 ^ n * q) = q := by
  induction n generalizing q with
  | zero => show 2 ^ 0 * q = q; rw [Nat.pow_zero, Nat.one_mul]
  | succ n ih =>
    rw [nstn_add n 1]
    have : nstn 1 (2 ^ (n + 1) * q) = 2 ^ n * q := by
      show nst (2 ^ (n + 1) * q) = _
      rw [show 2 ^ (n + 1) * q = 2 * (2 ^ n * q) by rw [Nat.pow_succ, Nat.mul_comm (2 ^ n) 2, Nat.mul_assoc], nst_double]
    rw [this, ih]
theorem nst_lt {z : Nat} (h : z < 4294967296) : nst z < 4294967296 := by
  unfold nst
  have h1 : z / 2 < 2 ^ 32 := by omega
  have h2 : (if z % 2 = 1 then 3988292384 else 0) < 2 ^ 32 := by split <;> omega
  exact Nat.xor_lt_two_pow h1 h2
theorem nstn_lt (n : Nat) {z : Nat} (h : z < 4294967296) : nstn n z < 4294967296 := by
  induction n with
  | zero => exact h
  | succ n ih => exact nst_lt ih
theorem xor_eq {a b : Nat} (h : a ^^^ b = 0) : a = b := by
  have e : a ^^^ (a ^^^ b) = b := by rw [← Nat.xor_assoc, Nat.xor_self, Nat.zero_xor]
  rw [h, Nat.xor_zero] at e
  exact e
theorem nst_zero {z : Nat} (h : z < 4294967296) (h0 : nst z = 0) : z = 0 := by
  unfold nst at h0
  have e := xor_eq h0
  split at e <;> omega
theorem nstn_zero (n : Nat) {z : Nat} (h : z < 4294967296) (h0 : nstn n z = 0) : z = 0 := by
  induction n with
  | zero => exact h0
  | succ n ih => exact ih (nst_zero (nstn_lt n h) h0)
theorem nstn_nil (n : Nat) : nstn n 0 = 0 := by
  induction n with
  | zero => rfl
  | succ n ih => show nst _ = 0; rw [ih]; rfl
theorem add_xor (i q r : Nat) (h : r < 2 ^ i) : 2 ^ i * q + r = 2 ^ i * q ^^^ r := by
  apply Nat.eq_of_testBit_eq
  intro j
  rw [Nat.testBit_two_pow_mul_add q h, Nat.testBit_xor, Nat.testBit_two_pow_mul]
  by_cases hj : j < i
  · rw [if_pos hj]; simp [show ¬ i ≤ j by omega]
  · rw [if_neg hj]
    have : r.testBit j = false := Nat.testBit_lt_two_pow (Nat.lt_of_lt_of_le h (Nat.pow_le_pow_right (by omega) (by omega)))
    rw [this]; simp [show i ≤ j by omega]
theorem half_nst (z : Nat) : z / 16 ^^^ nstn 4 (z % 16) = nstn 4 z := by
  have e : z = 2 ^ 4 * (z / 16) ^^^ (z % 16) := by
    rw [← add_xor 4 (z / 16) (z % 16) (by omega)]; omega
  have h : nstn 4 z = nstn 4 (2 ^ 4 * (z / 16) ^^^ (z % 16)) := congrArg (nstn 4) e
  rw [h, nstn_xor, nstn_shift]

/-! ### What the machine's words come to -/
theorem xor_nat {a b : Nat} (ha : a < 4294967296) (hb : b < 4294967296) : Go.bits .xor .u32 (a : Int) (b : Int) = ((a ^^^ b : Nat) : Int) := by
  have hx : a ^^^ b < 2 ^ 32 := Nat.xor_lt_two_pow ha hb
  show IntKind.u32.wrap ((BitVec.ofInt 32 (a : Int) ^^^ BitVec.ofInt 32 (b : Int)).toNat : Int) = _
  rw [BitVec.toNat_xor, BitVec.ofInt_natCast, BitVec.ofInt_natCast, BitVec.toNat_ofNat, BitVec.toNat_ofNat, Nat.mod_eq_of_lt ha, Nat.mod_eq_of_lt hb, IntKind.wrap_u32]
  omega
theorem and_one {a : Nat} (ha : a < 4294967296) : Go.bits .and .u32 (a : Int) 1 = ((a % 2 : Nat) : Int) := by
  show IntKind.u32.wrap ((BitVec.ofInt 32 (a : Int) &&& BitVec.ofInt 32 ((1 : Nat) : Int)).toNat : Int) = _
  rw [BitVec.toNat_and, BitVec.ofInt_natCast, BitVec.ofInt_natCast, BitVec.toNat_ofNat, BitVec.toNat_ofNat, Nat.mod_eq_of_lt ha, show 1 % 2 ^ 32 = 1 from rfl, Nat.and_one_is_mod, IntKind.wrap_u32]
  omega
theorem hstep_nat {a : Nat} (ha : a < 4294967296) : Then.hstep (a : Int) = (nst a : Nat) := by
  unfold Then.hstep nst
  rw [and_one ha]
  have e : ((((a % 2 : Nat) : Int) * 3988292384) % 4294967296) = ((if a % 2 = 1 then 3988292384 else 0 : Nat) : Int) := by
    rcases Nat.mod_two_eq_zero_or_one a with h | h <;> rw [h] <;> rfl
  rw [e, show ((a : Int) / 2) = ((a / 2 : Nat) : Int) by omega, xor_nat (by omega) (by split <;> omega)]
theorem hiter_nat {a : Nat} (ha : a < 4294967296) (n : Nat) : Then.hiter n (a : Int) = (nstn n a : Nat) := by
  induction n with
  | zero => rfl
  | succ n ih => show Then.hstep _ = _; rw [ih, hstep_nat (nstn_lt n ha)]; rfl
theorem half_nat {a : Nat} (ha : a < 4294967296) : Then.half (a : Int) = (nstn 4 a : Nat) := by
  unfold Then.half Then.tbl
  rw [Int.tmod_eq_emod_of_nonneg (by omega), show ((a : Int) % 16).toNat = a % 16 by omega, hiter_nat (by omega), show ((a : Int) / 16) = ((a / 16 : Nat) : Int) by omega, xor_nat (by omega) (nstn_lt 4 (by omega)), half_nst]
theorem octet_nat {a c : Nat} (ha : a < 4294967296) (hc : c < 256) : Then.octet (a : Int) (c : Int) = (nstn 8 (a ^^^ c) : Nat) := by
  unfold Then.octet
  have hx : a ^^^ c < 4294967296 := Nat.xor_lt_two_pow (n := 32) ha (by omega)
  rw [show ((c : Int) % 4294967296) = (c : Int) by omega, xor_nat ha (by omega), half_nat hx, half_nat (nstn_lt 4 hx), ← nstn_add]
theorem cpl_nat {a : Nat} (ha : a < 4294967296) : Then.cpl (a : Int) = ((4294967295 ^^^ a : Nat) : Int) := by
  unfold Then.cpl
  rw [show IntKind.u32.max = ((4294967295 : Nat) : Int) from rfl, xor_nat (by omega) ha]

/-- The register behind some bytes. -/
def run (x : Nat) (l : List Nat) : Nat := l.foldl (fun s c => nstn 8 (s ^^^ c)) x
theorem run_lt {x : Nat} (l : List Nat) (hx : x < 4294967296) (hl : ∀ c ∈ l, c < 256) : run x l < 4294967296 := by
  induction l generalizing x with
  | nil => exact hx
  | cons c l ih =>
    have hc := hl c (by simp)
    exact ih (nstn_lt 8 (Nat.xor_lt_two_pow (n := 32) hx (by omega))) (fun d hd => hl d (by simp [hd]))
theorem fold_nat {x : Nat} (l : List Nat) (hx : x < 4294967296) (hl : ∀ c ∈ l, c < 256) : (l.map (fun n : Nat => (n : Int))).foldl Then.octet (x : Int) = (run x l : Nat) := by
  induction l generalizing x with
  | nil => rfl
  | cons c l ih =>
    have hc := hl c (by simp)
    simp only [List.map_cons, List.foldl_cons, octet_nat hx hc]
    exact ih (nstn_lt 8 (Nat.xor_lt_two_pow (n := 32) hx (by omega))) (fun d hd => hl d (by simp [hd]))
theorem xor_max {a : Nat} (ha : a < 4294967296) : (4294967295 ^^^ a) < 4294967296 := Nat.xor_lt_two_pow (n := 32) (by omega) ha
/-- What Then tells, in numbers. -/
theorem then_nat {s : Nat} (l : List Nat) (hs : s < 4294967296) (hl : ∀ c ∈ l, c < 256) : Then.thenI (s : Int) (l.map (fun n : Nat => (n : Int))) = ((4294967295 ^^^ run (4294967295 ^^^ s) l : Nat) : Int) := by
  unfold Then.thenI
  rw [cpl_nat hs, fold_nat l (xor_max hs) hl, cpl_nat (run_lt l (xor_max hs) hl)]

/-! ### The long register -/
/-- Bytes as one number, the first one lowest. -/
def num : List Nat → Nat
  | [] => 0
  | c :: l => c + 256 * num l
theorem xor_assoc' (a b c : Nat) : a ^^^ b ^^^ c = a ^^^ (b ^^^ c) := Nat.xor_assoc a b c
theorem run_long (x : Nat) (l : List Nat) (hl : ∀ c ∈ l, c < 256) : run x l = nstn (8 * l.length) (x ^^^ num l) := by
  induction l generalizing x with
  | nil => show x = x ^^^ 0; rw [Nat.xor_zero]
  | cons c l ih =>
    have hc := hl c (by simp)
    show run (nstn 8 (x ^^^ c)) l = _
    rw [ih _ (fun d hd => hl d (by simp [hd]))]
    rw [show 8 * (c :: l).length = 8 * l.length + 8 by simp; omega, nstn_add]
    have e : num (c :: l) = c ^^^ 2 ^ 8 * num l := by
      show c + 256 * num l = _
      rw [Nat.xor_comm, ← add_xor 8 (num l) c hc]; omega
    rw [e, ← Nat.xor_assoc, nstn_xor 8 (x ^^^ c), nstn_shift]
theorem num_bit (l : List Nat) (hl : ∀ c ∈ l, c < 256) (i : Nat) : (num l).testBit i = (l.getD (i / 8) 0).testBit (i % 8) := by
  induction l generalizing i with
  | nil => simp [num]
  | cons c l ih =>
    have hc := hl c (by simp)
    have e : num (c :: l) = 2 ^ 8 * num l + c := by show c + 256 * num l = _; omega
    rw [e, Nat.testBit_two_pow_mul_add _ (show c < 2 ^ 8 from hc)]
    by_cases h : i < 8
    · rw [if_pos h, show i / 8 = 0 by omega, show i % 8 = i by omega]; rfl
    · rw [if_neg h, ih (fun d hd => hl d (by simp [hd])), show i / 8 = (i - 8) / 8 + 1 by omega, show i % 8 = (i - 8) % 8 by omega]; rfl
theorem num_inj (l m : List Nat) (hn : l.length = m.length) (hl : ∀ c ∈ l, c < 256) (hm : ∀ c ∈ m, c < 256) (h : num l = num m) : l = m := by
  induction l generalizing m with
  | nil => cases m with
    | nil => rfl
    | cons c m => simp at hn
  | cons c l ih => cases m with
    | nil => simp at hn
    | cons d m =>
      have hc := hl c (by simp)
      have hd := hm d (by simp)
      simp only [num] at h
      have h1 : c = d := by omega
      have h2 : num l = num m := by omega
      rw [h1, ih m (by simpa using hn) (fun e he => hl e (by simp [he])) (fun e he => hm e (by simp [he])) h2]
theorem getD_out (l : List Nat) (i : Nat) (h : l.length ≤ i) : l.getD i 0 = 0 := by simp [h]
/-- WHAT IS TURNED WITHIN 32 BITS SIDE BY SIDE IS SEEN. -/
theorem burst (x : Nat) (l m : List Nat) (hn : l.length = m.length) (hl : ∀ c ∈ l, c < 256) (hm : ∀ c ∈ m, c < 256) (k : Nat)
    (hk : ∀ i, i < k ∨ k + 32 ≤ i → (l.getD (i / 8) 0).testBit (i % 8) = (m.getD (i / 8) 0).testBit (i % 8)) (h : run x l = run x m) : l = m := by
  refine num_inj l m hn hl hm ?_
  rw [run_long x l hl, run_long x m hm, ← hn] at h
  have hz : nstn (8 * l.length) (num l ^^^ num m) = 0 := by
    have e : num l ^^^ num m = (x ^^^ num l) ^^^ (x ^^^ num m) := by
      apply Nat.eq_of_testBit_eq
      intro i
      simp only [Nat.testBit_xor]
      cases x.testBit i <;> cases (num l).testBit i <;> cases (num m).testBit i <;> rfl
    rw [e, nstn_xor, h, Nat.xor_self]
  have hb : ∀ i, i < k ∨ k + 32 ≤ i → (num l ^^^ num m).testBit i = false := by
    intro i hi
    rw [Nat.testBit_xor, num_bit l hl, num_bit m hm, hk i hi]
    simp
  have htop : ∀ i, 8 * l.length ≤ i → (num l ^^^ num m).testBit i = false := by
    intro i hi
    rw [Nat.testBit_xor, num_bit l hl, num_bit m hm, getD_out l _ (by omega), getD_out m _ (by omega)]
    simp
  apply xor_eq
  generalize num l ^^^ num m = D at hz hb htop ⊢
  have hD : D = 2 ^ k * (D / 2 ^ k) := by
    apply Nat.eq_of_testBit_eq
    intro i
    rw [Nat.testBit_two_pow_mul, Nat.testBit_div_two_pow]
    by_cases hi : k ≤ i
    · simp [hi, show i - k + k = i by omega]
    · rw [hb i (Or.inl (by omega))]; simp [hi]
  by_cases hlen : k ≤ 8 * l.length
  · have hE : D / 2 ^ k < 4294967296 := by
      apply Nat.lt_pow_two_of_testBit (n := 32)
      intro i hi
      rw [Nat.testBit_div_two_pow]
      exact hb _ (Or.inr (by omega))
    have h1 : nstn (8 * l.length) D = nstn (8 * l.length - k) (D / 2 ^ k) := by
      rw [show 8 * l.length = (8 * l.length - k) + k by omega, nstn_add]
      rw [show 8 * l.length - k + k - k = 8 * l.length - k by omega]
      congr 1
      exact (congrArg (nstn k) hD).trans (nstn_shift _ _)
    rw [h1] at hz
    have := nstn_zero _ hE hz
    rw [hD, this, Nat.mul_zero]
  · apply Nat.eq_of_testBit_eq
    intro i
    rw [Nat.zero_testBit]
    by_cases hi : i < k
    · exact hb i (Or.inl hi)
    · exact htop i (by omega)

/-! ### Behind one another; alike -/
theorem run_append (x : Nat) (l m : List Nat) : run x (l ++ m) = run (run x l) m := List.foldl_append
theorem cpl_cpl (a : Nat) : 4294967295 ^^^ (4294967295 ^^^ a) = a := by rw [← Nat.xor_assoc, Nat.xor_self, Nat.zero_xor]
theorem run_alike (x y : Nat) (l m : List Nat) (hn : l.length = m.length) : run x l ^^^ run y m = run (x ^^^ y) (List.zipWith (fun a b => a ^^^ b) l m) := by
  induction l generalizing x y m with
  | nil => cases m with
    | nil => rfl
    | cons c m => simp at hn
  | cons c l ih => cases m with
    | nil => simp at hn
    | cons d m =>
      show run (nstn 8 (x ^^^ c)) l ^^^ run (nstn 8 (y ^^^ d)) m = run (nstn 8 ((x ^^^ y) ^^^ (c ^^^ d))) (List.zipWith _ l m)
      rw [ih _ _ m (by simpa using hn), ← nstn_xor]
      congr 2
      apply Nat.eq_of_testBit_eq
      intro i
      simp only [Nat.testBit_xor]
      cases x.testBit i <;> cases y.testBit i <;> cases c.testBit i <;> cases d.testBit i <;> rfl
end Go.Proofs.Ytciknbffmaengaa.Crc
