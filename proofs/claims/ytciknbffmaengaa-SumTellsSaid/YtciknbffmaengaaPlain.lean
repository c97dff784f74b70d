/- Plain words between the printed functions of layer 02 and the facts on the register: bytes as numbers, a sum's four bytes, texts that are compared. -/
import Derived.Test.YtciknbffmaengaaCrc
import Derived.Lib.Bytes
import Derived.OpenShut
namespace Go.Proofs.Ytciknbffmaengaa.Plain
open Go.RowKit Go.Proofs.YtciknbffmaengaaW.PrintWords Go.Proofs.YtciknbffmaengaaW.PrintLast Go.Proofs.YtciknbffmaengaaW.PrintMore
open Go.Proofs.Ytciknbffmaengaa.Crc

/-- Numbers as whole numbers. -/
def ints (l : List Nat) : List Int := l.map fun n : Nat => (n : Int)
theorem as_nats (l : List Int) (h : ∀ x ∈ l, (Lit.int .u8 x).wf = true) : ∃ ns : List Nat, l = ints ns ∧ ∀ c ∈ ns, c < 256 := by
  refine ⟨l.map Int.toNat, ?_, ?_⟩
  · unfold ints
    rw [List.map_map]
    conv => lhs; rw [← List.map_id l]
    apply List.map_congr_left
    intro x hx
    have := bounds_u8 (h x hx)
    simp only [Function.comp, id]; omega
  · intro c hc
    obtain ⟨x, hx, rfl⟩ := List.mem_map.1 hc
    have := bounds_u8 (h x hx)
    omega
theorem as_nat (x : Int) (h : (Lit.int .u32 x).wf = true) : ∃ n : Nat, x = (n : Int) ∧ n < 4294967296 := by
  have := bounds_u32 h
  exact ⟨x.toNat, by omega, by omega⟩
theorem ints_length (l : List Nat) : (ints l).length = l.length := List.length_map _
theorem ints_append (l m : List Nat) : ints (l ++ m) = ints l ++ ints m := List.map_append
theorem ints_rd (l : List Nat) (i : Nat) : rd (ints l) (i : Int) = ((l.getD i 0 : Nat) : Int) := by
  unfold rd ints
  rw [Int.toNat_natCast, List.getD_eq_getElem?_getD, List.getD_eq_getElem?_getD, List.getElem?_map]
  cases l[i]? <;> rfl
theorem ints_set (l : List Nat) (i v : Nat) : (ints l).set i (v : Int) = ints (l.set i v) := by
  unfold ints; rw [List.map_set]
/-- What Of tells. -/
def ofN (l : List Nat) : Nat := 4294967295 ^^^ run 4294967295 l
theorem of_nat (l : List Nat) (hl : ∀ c ∈ l, c < 256) : Then.thenI 0 (ints l) = (ofN l : Nat) := by
  have h := then_nat (s := 0) l (by omega) hl
  rw [Nat.xor_zero] at h
  exact h
theorem ofN_lt (l : List Nat) (hl : ∀ c ∈ l, c < 256) : ofN l < 4294967296 := xor_max (run_lt l (by omega) hl)
theorem ofN_run {l m : List Nat} (h : ofN l = ofN m) : run 4294967295 l = run 4294967295 m := by
  unfold ofN at h
  have := congrArg (fun z => 4294967295 ^^^ z) h
  simpa only [cpl_cpl] using this
/-- A sum's four bytes. -/
def four (s : Int) : List Int := [s % 256, s / 256 % 256, s / 65536 % 256, s / 16777216 % 256]
theorem four_inj {s t : Int} (hs : 0 ≤ s) (hs1 : s < 4294967296) (ht : 0 ≤ t) (ht1 : t < 4294967296) (h : four s = four t) : s = t := by
  unfold four at h
  simp only [List.cons.injEq, and_true] at h
  omega
theorem byte_inj {x y : Int} (hx : 0 ≤ x ∧ x < 256) (hy : 0 ≤ y ∧ y < 256) (h : UInt8.ofNat x.toNat = UInt8.ofNat y.toNat) : x = y := by
  have := congrArg UInt8.toNat h
  simp only [UInt8.toNat_ofNat'] at this
  omega
theorem str_inj (xs ys : List Int) (hx : ∀ x ∈ xs, 0 ≤ x ∧ x < 256) (hy : ∀ y ∈ ys, 0 ≤ y ∧ y < 256) : ((strOfNums xs).toList == (strOfNums ys).toList) = decide (xs = ys) := by
  rw [Lib.strOfNums_toList, Lib.strOfNums_toList]
  by_cases h : xs = ys
  · subst h; simp
  · rw [decide_eq_false h, beq_eq_false_iff_ne]
    intro e
    apply h
    clear h
    induction xs generalizing ys with
    | nil => cases ys with
      | nil => rfl
      | cons y ys => simp [Lib.bytesOf] at e
    | cons x xs ih => cases ys with
      | nil => simp [Lib.bytesOf] at e
      | cons y ys =>
        simp only [Lib.bytesOf, List.map_cons, List.cons.injEq] at e
        rw [byte_inj (hx x (by simp)) (hy y (by simp)) e.1, ih ys (fun z hz => hx z (by simp [hz])) (fun z hz => hy z (by simp [hz])) e.2]
theorem four_range (s : Int) : ∀ x ∈ four s, 0 ≤ x ∧ x < 256 := by
  intro x hx
  unfold four at hx
  simp only [List.mem_cons, List.not_mem_nil, or_false] at hx
  rcases hx with rfl | rfl | rfl | rfl <;> omega
theorem shr_of (s : Int) (n m : Nat) (hn : n ≤ 32) (hm : 2 ^ n = m) : shr .u32 s (n : Int) = s / (m : Int) := by
  unfold shr
  rw [Int.toNat_natCast, show min n IntKind.u32.bits = n from Nat.min_eq_left hn, ← hm]
  norm_cast
theorem w64_small {x : Int} (h0 : -9223372036854775808 ≤ x) (h1 : x ≤ 9223372036854775807) : wrap64 x = x := by unfold wrap64; omega
end Go.Proofs.Ytciknbffmaengaa.Plain
