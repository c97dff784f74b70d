/- Plain words between the printed functions of layer 02 and the facts on the register: bytes as numbers, a sum's four bytes, texts that are compared. -/
import Derived.Test.YtciknbffmaengaaCrc
import Derived.Lib.Bytes
import Derived.OpenShut
namespace Go.Proofs.Ytciknbffmaengaa.Plain
open Go.RowKit Go.Proofs.YtciknbffmaengaaW.PrintWords Go.Proofs.YtciknbffmaengaaW.PrintLast Go.Proofs.YtciknbffmaengaaW.PrintMore
open Go.Proofs.Ytciknbffmaengaa.Crc

/-- Numbers as whole numbers. -/
def ints (l : List Nat) : List Int := l.map fun n : Nat => (n : Int)
theorem as_nats (l : List Int) (h : ∀ x ∈ l, (Lit.int .u8 x).wf = true) : ∃ ns : List Nat, l = ints ns ∧ ∀ c ∈ ns, c < 256 := by
  refine ⟨l.map Int.toNat, ?_, ?_⟩
  · unfold ints
    rw [List.map_map]
    conv => lhs; rw [← List.map_id l]
    apply List.map_congr_left
    intro x hx
    have := bounds_u8 (h x hx)
    simp only [Function.comp, id]; omega
  · intro c hc
    obtain ⟨x, hx, rfl⟩ := List.mem_map.1 hc
    have := bounds_u8 (h x hx)
    omega
theorem as_nat (x : Int) (h : (Lit.int .u32 x).wf = true) : ∃ n : Nat, x = (n : Int) ∧ n < 4294967296 := by
  have := bounds_u32 h
  exact ⟨x.toNat, by omega, by omega⟩
theorem ints_length (l : List Nat) : (ints l).length = l.length := List.length_map _
theorem ints_append (l m : List Nat) : ints (l ++ m) = ints l ++ ints m := List.map_append
theorem ints_rd (l : List Nat) (i : Nat) : rd (ints l) (i : Int) = ((l.getD i 0 : Nat) : Int) := by
  unfold rd ints
  rw [Int.toNat_natCast, List.getD_eq_getElem?_getD, List.getD_eq_getElem?_getD, List.getElem?_map]
  cases l[i]? <;> rfl
theorem ints_set (l : List Nat) (i v : Nat) : (ints l).set i (v : Int) = ints (l.set i v) := by
  unfold ints; rw [List.map_set]
/-- What Of tells. -/
def ofN (l : List Nat) : Nat := 4294967295 ^^^ run 4294967295 l
theorem of_nat (l : List Nat) (hl : ∀ c ∈ l, c < 256) : Then.thenI 0 (ints l) = (ofN l : Nat) := by
  have h := then_nat (s := 0) l (by omega) hl
  rw [Nat.xor_zero] at h
  exact h
theorem ofN_lt (l : List Nat) (hl : ∀ c ∈ l, c < 256) : ofN l < 4294967296 := xor_max (run_lt l (by omega) hl)
theorem ofN_run {l m : List Nat} (h : ofN l = ofN m) : run 4294967295 l = run 4294967295 m := by
  unfold ofN at h
  have := congrArg (fun z => 4294967295 ^^^ z) h
  simpa only [cpl_cpl] using this
/-- A sum's four bytes. -/
def four (s : Int) : List Int := [s % 256, s / 256 % 256, s / 65536 % 256, s / 16777216 % 256]
theorem four_inj {s t : Int} (hs : 0 ≤ s) (hs1 : s < 4294967296) (ht : 0 ≤ t) (ht1 : t < 4294967296) (h : four s = four t) : s = t := by
  unfold four at h
  simp only [List.cons.injEq, and_true] at h
  omega
theorem byte_inj {x y : Int} (hx : 0 ≤ x ∧ x < 256) (hy : 0 ≤ y ∧ y < 256) (h : UInt8.ofNat x.toNat = UInt8.ofNat y.toNat) : x = y := by
  have := congrArg UInt8.toNat h
  simp only [UInt8.toNat_ofNat'] at this
  omega
theorem str_inj (xs ys : List Int) (hx : ∀ x ∈ xs, 0 ≤ x ∧ x < 256) (hy : ∀ y ∈ ys, 0 ≤ y ∧ y < 256) : ((strOfNums xs).toList == (strOfNums ys).toList) = decide (xs = ys) := by
  rw [Lib.strOfNums_toList, Lib.strOfNums_toList]
  by_cases h : xs = ys
  · subst h; simp
  · rw [decide_eq_false h, beq_eq_false_iff_ne]
    intro e
    apply h
    clear h
    induction xs generalizing ys with
    | nil => cases ys with
      | nil => rfl
      | cons y ys => simp [Lib.bytesOf] at e
    | cons x xs ih => cases ys with
      | nil => simp [Lib.bytesOf] at e
      | cons y ys =>
        simp only [Lib.bytesOf, List.map_cons, List.cons.injEq] at e
        rw [byte_inj (hx x (by simp)) (hy y (by simp)) e.1, ih ys (fun z hz => hx z (by simp [hz])) (fun z hz => hy z (by simp [hz])) e.2]
theorem four_range (s : Int) : ∀ x ∈ four s, 0 ≤ x ∧ x < 256 := by
  intro x hx
  unfold four at hx
  simp only [List.mem_cons, List.not_mem_nil, or_false] at hx
  rcases hx with rfl | rfl | rfl | rfl <;> omega
theorem shr_of (s : Int) (n m : Nat) (hn : n ≤ 32) (hm : 2 ^ n = m) : shr .u32 s (n : Int) = s / (m : Int) := by
  unfold shr
  rw [Int.toNat_natCast, show min n IntKind.u32.bits = n from Nat.min_eq_left hn, ← hm]
  norm_cast
theorem w64_small {x : Int} (h0 : -9223372036854775808 ≤ x) (h1 : x ≤ 9223372036854775807) : wrap64 x = x := by unfold wrap64; omega

/-! ### Bits of bytes -/
/-- The bit at a place, counted through all bytes. -/
def bitAt (l : List Nat) (j : Nat) : Bool := (l.getD (j / 8) 0).testBit (j % 8)
theorem burst_of (l m : List Nat) (hn : l.length = m.length) (hl : ∀ c ∈ l, c < 256) (hm : ∀ c ∈ m, c < 256) (k : Nat) (hk : ∀ j, j < k ∨ k + 32 ≤ j → bitAt l j = bitAt m j) (h : ofN l = ofN m) : l = m :=
  burst 4294967295 l m hn hl hm k hk (ofN_run h)
theorem getD_set (l : List Nat) (i v j : Nat) (hi : i < l.length) : (l.set i v).getD j 0 = if i = j then v else l.getD j 0 := by
  rw [List.getD_eq_getElem?_getD, List.getElem?_set]
  by_cases h : i = j
  · subst h; rw [if_pos rfl, if_pos hi, if_pos rfl]; rfl
  · rw [if_neg h, if_neg h, List.getD_eq_getElem?_getD]
theorem flip (l : List Nat) (p j : Nat) (hp : p / 8 < l.length) : bitAt (l.set (p / 8) (l.getD (p / 8) 0 ^^^ 2 ^ (p % 8))) j = if j = p then !bitAt l p else bitAt l j := by
  unfold bitAt
  rw [getD_set _ _ _ _ hp]
  by_cases h : p / 8 = j / 8
  · rw [if_pos h, Nat.testBit_xor, Nat.testBit_two_pow]
    by_cases e : j = p
    · subst e; rw [if_pos rfl]; simp
    · rw [if_neg e, decide_eq_false (by omega), h]; simp
  · rw [if_neg h, if_neg (by rintro rfl; exact h rfl)]
theorem set_bytes (l : List Nat) (i v : Nat) (hl : ∀ c ∈ l, c < 256) (hv : v < 256) : ∀ c ∈ l.set i v, c < 256 := by
  intro c hc
  rcases List.mem_or_eq_of_mem_set hc with h | h
  · exact hl c h
  · omega
theorem getD_byte (l : List Nat) (hl : ∀ c ∈ l, c < 256) (i : Nat) : l.getD i 0 < 256 := by
  rw [List.getD_eq_getElem?_getD]
  by_cases h : i < l.length
  · rw [List.getElem?_eq_getElem h]; exact hl _ (List.getElem_mem h)
  · rw [List.getElem?_eq_none (by omega)]; exact Nat.zero_lt_succ _
theorem xor_u8 {a b : Nat} (ha : a < 256) (hb : b < 256) : Go.bits .xor .u8 (a : Int) (b : Int) = ((a ^^^ b : Nat) : Int) := by
  have hx : a ^^^ b < 2 ^ 8 := Nat.xor_lt_two_pow ha hb
  show IntKind.u8.wrap ((BitVec.ofInt 8 (a : Int) ^^^ BitVec.ofInt 8 (b : Int)).toNat : Int) = _
  rw [BitVec.toNat_xor, BitVec.ofInt_natCast, BitVec.ofInt_natCast, BitVec.toNat_ofNat, BitVec.toNat_ofNat, Nat.mod_eq_of_lt ha, Nat.mod_eq_of_lt hb, IntKind.wrap_u8]
  omega
theorem shl_one (m : Nat) (hm : m < 8) : shl .u8 1 (m : Int) = ((2 ^ m : Nat) : Int) := by
  have h : (2 : Nat) ^ m < 2 ^ 8 := Nat.pow_lt_pow_right (by omega) hm
  unfold shl
  rw [Int.toNat_natCast, show min m IntKind.u8.bits = m from Nat.min_eq_left (by show m ≤ 8; omega), IntKind.wrap_u8, Int.one_mul]
  have e : ((2 : Int) ^ m) = ((2 ^ m : Nat) : Int) := by norm_cast
  have hz : ∀ z : Nat, z < 256 → (z : Int) % 256 = (z : Int) := fun z hz => by omega
  rw [e]; exact hz _ h
theorem str_four (s t : Nat) (hs : s < 4294967296) (ht : t < 4294967296) : ((strOfNums (four (s : Int))).toList == (strOfNums (four (t : Int))).toList) = decide (s = t) := by
  rw [str_inj _ _ (four_range _) (four_range _)]
  apply decide_eq_decide.2
  exact ⟨fun h => by have := four_inj (by omega) (by omega) (by omega) (by omega) h; omega, fun h => by rw [h]⟩
end Go.Proofs.Ytciknbffmaengaa.Plain
