/- The contracts of sum.table and sum.Then: what half a byte does lies in sixteen cells; Then tells thenI of the sum and the bytes. No condition but that the bytes can be read. -/
import Derived.Test.YtciknbffmaengaaProg
import Derived.Below
import Derived.Deep.Draws
import Derived.OwnWalk
import Derived.Tactics
import Derived.WalkKit
import Derived.KernelRfl
import Derived.RowKit3
import Derived.Deep.LoopGhost
import Derived.Laws.Slices
import Derived.RowKit
import Derived.Test.YtciknbffmaengaaWWords
import Derived.Test.YtciknbffmaengaaWLast
import Derived.Test.YtciknbffmaengaaWMore
import Derived.Laws.Tables
import Derived.Lib.SlBytesConst
import Derived.Laws.Rows
import Derived.Laws.CopyOwn
namespace Go.Proofs.Ytciknbffmaengaa.Then
open Go.RowKit Go.Proofs.YtciknbffmaengaaW.PrintWords Go.Proofs.YtciknbffmaengaaW.PrintLast Go.Proofs.YtciknbffmaengaaW.PrintMore

/-- One bit's step: the lowest bit is taken off. -/
def hstep (x : Int) : Int := Go.bits .xor .u32 (x / 2) ((Go.bits .and .u32 x 1 * 3988292384) % 4294967296)
def hiter : Nat → Int → Int
  | 0, x => x
  | n + 1, x => hstep (hiter n x)
/-- What half a byte does. -/
def tbl (i : Nat) : Int := hiter 4 i
/-- The table's cells, the first k of them filled. -/
def tcells (k : Nat) : Array Value := ((List.range 16).map fun i => if i < k then Value.int .u32 (tbl i) else Value.int .u32 0).toArray
theorem tcells_size (k : Nat) : (tcells k).size = 16 := by simp [tcells]
theorem tcells_at (k i : Nat) (h : i < 16) : (tcells k)[i]? = some (if i < k then Value.int .u32 (tbl i) else Value.int .u32 0) := by
  simp [tcells, h]
theorem tcells_zero : tcells 0 = #[.int .u32 0, .int .u32 0, .int .u32 0, .int .u32 0, .int .u32 0, .int .u32 0, .int .u32 0, .int .u32 0, .int .u32 0, .int .u32 0, .int .u32 0, .int .u32 0, .int .u32 0, .int .u32 0, .int .u32 0, .int .u32 0] := rfl
theorem tcells_set (k : Nat) (h : k < 16) : (tcells k).setIfInBounds k (.int .u32 (tbl k)) = tcells (k + 1) := by
  apply Array.ext
  · simp [tcells_size]
  · intro i h1 h2
    have hi : i < 16 := by simpa [tcells_size] using h2
    apply Option.some.inj
    rw [← Array.getElem?_eq_getElem h1, ← Array.getElem?_eq_getElem h2, tcells_at _ _ hi, Array.getElem?_setIfInBounds, tcells_at _ _ hi]
    by_cases hik : k = i
    · subst hik; simp [tcells_size, h]
    · rw [if_neg hik]
      by_cases h3 : i < k
      · rw [if_pos h3, if_pos (by omega)]
      · rw [if_neg h3, if_neg (by omega)]

set_option maxHeartbeats 800000 in
set_option maxRecDepth 100000 in
theorem table_calls (w : World) :
    Calls Try.prog 16 #[] w fun e w' => e = .returned (.agg (tcells 16)) ∧ Below w.heap.size w w' := by
  go_enter Try.func16, Try.ntmps16
  go_wp2
  rw [← tcells_zero]
  have HB0 : Below w.heap.size w ((w.alloc (.cells (tcells 0) 35)).alloc (.cells (tcells 0) 35)) := below_alloc (below_alloc (Below.refl _ _) _) _
  have HZ0 : ((w.alloc (.cells (tcells 0) 35)).alloc (.cells (tcells 0) 35)).heap[w.heap.size]? = some (.cells (tcells 0) 35 (0, 0)) := blk_alloc (blk_new _ _) _
  have HC0 : ((w.alloc (.cells (tcells 0) 35)).alloc (.cells (tcells 0) 35)).heap[w.heap.size + 1]? = some (.cells (tcells 0) 35 (0, 0)) := by
    have h := blk_new (w.alloc (.cells (tcells 0) 35)) (.cells (tcells 0) 35)
    rw [World.size_alloc] at h
    exact h
  generalize (w.alloc (.cells (tcells 0) 35)).alloc (.cells (tcells 0) 35) = w0 at HB0 HZ0 HC0 ⊢
  have HB1 := Aside0.mk HB0
  have HZ1 := Aside0.mk HZ0
  have HC1 := Aside0.mk HC0
  clear HB0 HZ0 HC0
  go_loopw [4] (fun i wr => ∃ k : Nat, k ≤ 16 ∧ i = .int .i64 k ∧ Aside0 (wr.heap[w.heap.size + 1]? = some (.cells (tcells k) 35 (0, 0))) ∧ Aside0 (wr.heap[w.heap.size]? = some (.cells (tcells 0) 35 (0, 0))) ∧ Aside0 (Below w.heap.size w wr)) (fun i _ => 16 - (intOf i).toNat)
  case atStart => exact ⟨0, Nat.zero_le _, rfl, HC1, HZ1, HB1⟩
  case round =>
    clear HC1 HZ1 HB1
    obtain ⟨k, hk, rfl, HC, HZ, HB⟩ := hrel
    by_cases hlt : k < 16
    · go_wp2
      go_loop [3, 9] (fun x i => ∃ j : Nat, j ≤ 4 ∧ i = .int .i64 j ∧ x = .int .u32 (hiter j k)) (fun _ i => 4 - (intOf i).toNat)
      case atStart => exact ⟨0, Nat.zero_le _, rfl, rfl⟩
      case round =>
        obtain ⟨j, hj, rfl, rfl⟩ := hrel
        by_cases hlt2 : j < 4
        · go_wp2
          go_round
          case rel => exact ⟨j + 1, by omega, by go_num, rfl⟩
          case measure => simp [intOf]; omega
        · obtain rfl : j = 4 := by omega
          have hcell : wr.cell? ⟨w.heap.size + 1, k, none⟩ = some (.int .u32 0) := by
            rw [blk_cell HC.out, tcells_at _ _ hlt, if_neg (by omega)]
          have hfz : wr.frozen? ⟨w.heap.size + 1, k, none⟩ = false := blk_frozen HC.out k
          go_wp2
          go_roundw
          case rel => exact ⟨k + 1, by omega, by go_num, ⟨(tcells_set k hlt) ▸ blk_set HC.out k _⟩, ⟨blk_far HZ.out (by simp) _⟩, ⟨below_set HB.out (by omega)⟩⟩
          case measure => simp [intOf]; omega
    · obtain rfl : k = 16 := by omega
      go_wp2_with (first | ((with_reducible refine gate_dst (N := 22) rfl ?_); refine wpList_load_row rfl 35 (.tmp 1) rfl (w.heap.size + 1) rfl 35 (tcells 16) (0, 0) _ HC.out Try.underlying35 rfl (by kernel_rfl) ?_) | ((with_reducible refine gate_store (t := 35) (p := 0) (v := .tmp 22) rfl ?_); refine wpList_store_row rfl 35 (.tmp 0) (.tmp 22) rfl w.heap.size (tcells 16) rfl rfl 35 (tcells 0) HZ.out (by kernel_rfl) rfl (by decide +kernel) ?_))
      have hz : (wr.setRow w.heap.size (tcells 16)).heap[w.heap.size]? = some (.cells (tcells 16) 35 (0, 0)) := setRow_heap _ _ _ _ _ _ HZ.out
      exact bodyPost_ret (v := .agg (tcells 16)) (results_cell_row (p := 0) rfl _ _ w.heap.size 35 (tcells 16) (0, 0) _ rfl hz Try.underlying35 rfl (by kernel_rfl)) rfl ⟨rfl, below_setRow HB.out (Nat.le_refl _) _⟩

/-- A number with its bits turned. -/
def cpl (x : Int) : Int := Go.bits .xor .u32 IntKind.u32.max x
/-- Half a byte's step. -/
def half (x : Int) : Int := Go.bits .xor .u32 (x / 16) (tbl (x.tmod 16).toNat)
/-- A byte's step. -/
def octet (x c : Int) : Int := half (half (Go.bits .xor .u32 x (c % 4294967296)))
/-- What Then tells. -/
def thenI (s : Int) (l : List Int) : Int := cpl (l.foldl octet (cpl s))
theorem bits_range (x y : Int) : 0 ≤ Go.bits .xor .u32 x y ∧ Go.bits .xor .u32 x y < 4294967296 := by
  unfold Go.bits
  have : ∀ z, IntKind.u32.wrap z = z % 4294967296 := fun z => rfl
  simp only [this]
  omega
theorem take_octet (s : Int) (l : List Int) (k : Nat) (h : k < l.length) : (l.take (k + 1)).foldl octet (cpl s) = octet ((l.take k).foldl octet (cpl s)) (rd l k) := by
  rw [List.take_succ_eq_append_getElem h, List.foldl_append]
  simp only [List.foldl_cons, List.foldl_nil]
  congr 1
  simp [rd, h]

set_option maxHeartbeats 800000 in
set_option maxRecDepth 100000 in
theorem then_calls (a0 : Int) (A1 : Option Addr) (c1 : Nat) (l1 : List Int) (w : World) (hr1 : Kd.C (Kd.int .u8) w A1 l1.length l1) (hc1 : l1.length ≤ c1) :
    Calls Try.prog 11 #[.int .u32 a0, .slice A1 l1.length c1] w fun e w' => e = .returned (.int .u32 (thenI a0 l1)) ∧ Below w.heap.size w w' := by
  have HR1 := Aside0.mk hr1
  have HC1 := Aside0.mk hc1
  have hmax : l1.length ≤ 9223372036854775807 := Kd.C_max hr1
  have hsg : IntKind.u32.signed = false := rfl
  clear hr1 hc1
  go_enter Try.func11, Try.ntmps11
  go_wp2_with fail
  refine (table_calls _).mono ?_
  rintro e w1 ⟨rfl, hb⟩
  have HB := Aside0.mk hb
  clear hb
  go_wp2_with (first | ((with_reducible refine gate_store (t := 35) (p := 5) (v := .tmp 9) rfl ?_); refine wpList_store_row rfl 35 (.tmp 5) (.tmp 9) rfl w1.heap.size (tcells 16) rfl rfl 35 (tcells 0) (blk_new _ _) (by kernel_rfl) rfl (by decide +kernel) ?_))
  clear hsg
  rw [← tcells_zero]
  have HT0 : ((w1.alloc (.cells (tcells 0) 35)).setRow w1.heap.size (tcells 16)).heap[w1.heap.size]? = some (.cells (tcells 16) 35 (0, 0)) := setRow_heap _ _ _ _ _ _ (blk_new _ _)
  have HB0 : Below w.heap.size w ((w1.alloc (.cells (tcells 0) 35)).setRow w1.heap.size (tcells 16)) := below_setRow (below_alloc HB.out _) HB.out.size _
  generalize (w1.alloc (.cells (tcells 0) 35)).setRow w1.heap.size (tcells 16) = w2 at HT0 HB0 ⊢
  have HT1 := Aside0.mk HT0
  have HB1 := Aside0.mk HB0
  clear HT0 HB0 HB
  generalize w1.heap.size = g at HT1 ⊢
  go_loopw [6, 14] (fun x i wr => ∃ k : Nat, k ≤ l1.length ∧ i = .int .i64 k ∧ x = .int .u32 ((l1.take k).foldl octet (cpl a0)) ∧ Aside0 (wr.heap[g]? = some (.cells (tcells 16) 35 (0, 0))) ∧ Aside0 (Below w.heap.size w wr)) (fun _ i _ => l1.length - (intOf i).toNat)
  case atStart => exact ⟨0, Nat.zero_le _, rfl, rfl, HT1, HB1⟩
  case round =>
    clear HT1 HB1
    obtain ⟨k, hk, rfl, rfl, HT, HB⟩ := hrel
    by_cases hlt : k < l1.length
    · have HS : Aside0 ((l1.take (k + 1)).foldl octet (cpl a0) = octet ((l1.take k).foldl octet (cpl a0)) (rd l1 k)) := ⟨take_octet a0 l1 k hlt⟩
      generalize (l1.take k).foldl octet (cpl a0) = x at HS ⊢
      obtain ⟨ad, ea, hx⟩ := Kd.at_int (Kd.C_below HR1.out HB.out) k (by omega) (by omega)
      subst ea
      simp only [Int.toNat_natCast] at hx
      have hT : ∀ y z, wr.cell? ⟨g, ((Go.bits .xor .u32 y z).tmod 16).toNat, none⟩ = some (.int .u32 (tbl ((Go.bits .xor .u32 y z).tmod 16).toNat)) := fun y z => by
        have hb := bits_range y z
        have hi : ((Go.bits .xor .u32 y z).tmod 16).toNat < 16 := by
          rw [Int.tmod_eq_emod_of_nonneg hb.1]; omega
        rw [blk_cell HT.out, tcells_at _ _ hi, if_pos hi]
      have hi0 : ∀ y z, 0 ≤ (Go.bits .xor .u32 y z).tmod 16 := fun y z => by
        have hb := bits_range y z
        rw [Int.tmod_eq_emod_of_nonneg hb.1]; omega
      have hi1 : ∀ y z, (Go.bits .xor .u32 y z).tmod 16 < 16 := fun y z => by
        have hb := bits_range y z
        rw [Int.tmod_eq_emod_of_nonneg hb.1]; omega
      go_wp2
      go_roundw
      case rel => exact ⟨k + 1, by omega, by go_num, by rw [HS.out]; rfl, HT, HB⟩
      case measure => simp [intOf]; omega
    · obtain rfl : k = l1.length := by omega
      have HF : Aside0 (thenI a0 l1 = cpl ((l1.take l1.length).foldl octet (cpl a0))) := ⟨by rw [List.take_length]; rfl⟩
      generalize (l1.take l1.length).foldl octet (cpl a0) = x at HF ⊢
      have hsg : IntKind.u32.signed = false := rfl
      go_wp2
      go_ret
      exact ⟨by rw [HF.out]; rfl, HB.out⟩

/-- A literal's bytes, as they lie in a block that is known whole, can be read. -/
theorem lit_C {w : World} {g : Nat} {t : TypeId} {fr : Nat × Nat} (xs : List Int) (h : w.heap[g]? = some (.cells (xs.map (Value.int .u8)).toArray t fr)) (hm : xs.length ≤ 9223372036854775807) :
    Kd.C (Kd.int .u8) w (some ⟨g, 0, none⟩) xs.length xs := by
  refine Kd.C_of_reads (enc := Value.int .u8) (d := (0 : Int)) (h1 := fun _ => rfl) ⟨rfl, hm, fun _ => ⟨_, rfl, fun j hj => ?_⟩⟩
  have e : (⟨g, 0, none⟩ : Addr).add j = ⟨g, j, none⟩ := by unfold Addr.add; split <;> simp_all
  rw [e]
  simp [World.cell?, h, hj]
end Go.Proofs.Ytciknbffmaengaa.Then
