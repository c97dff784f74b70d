/- The contract of toys: a toy for each number, in blocks of their own, and the workers. A bound on the length. -/
import Derived.Test.YtbojnjomhjajaaaRun
namespace Go.Proofs.Ytbojnjomhjajaaa.Toys
open Go.RowKit Go.Proofs.YtbojnjomhjajaaaW.PrintWords Go.Proofs.YtbojnjomhjajaaaW.PrintLast Go.Proofs.YtbojnjomhjajaaaW.PrintMore Go.Proofs.Ytbojnjomhjajaaa.Toy Go.Proofs.Ytbojnjomhjajaaa.Run
set_option linter.unusedVariables false
set_option linter.unusedSimpArgs false
theorem info41 : (Try.prog.info? 41).map (fun i => (i.zero, i.size, i.bytes)) = some (some .nilIface, 1, 16) := by kernel_rfl

/-- The toys that were made of these numbers. -/
structure Made (w : World) (n lb : Nat) (gs : List Nat) (left : List Int) : Prop where
  len : gs.length ≤ left.length
  toys : ∀ i (h : i < gs.length) (h' : i < left.length), w.heap[gs[i]]? = some (.cells (cells lb ⟨i, left[i], 0⟩) 38 (0, 0))
  nodup : ∀ i j (h : i < gs.length) (h' : j < gs.length), i ≠ j → gs[i] ≠ gs[j]
  old : ∀ g ∈ gs, n ≤ g

theorem Made.next {w w1 wr : World} {lb k : Nat} {gs : List Nat} {left : List Int} {p : Int} {vo : Value} (h : Made wr w.heap.size lb gs left) (hg : gs.length = k) (hp : rd left (k : Int) = p) (hk : k < left.length) (hB : Below w.heap.size w wr)
    (hgr : (wr.alloc (.cells (cells lb ⟨(k : Int), p, 0⟩) 38)).grownBy w1 vo.ownBlock) (hO : Kd.R kw 41 wr w.heap.size (fun _ => True) vo (gs.map some)) : Made w1 w.heap.size lb (gs ++ [wr.heap.size]) left := by
  have hpk : left[k] = p := by rw [← hp]; simp [rd, hk]
  have hlt : ∀ g ∈ gs, g < wr.heap.size := fun g hg' => by
    obtain ⟨i, hi, rfl⟩ := List.mem_iff_getElem.1 hg'
    exact blk_lt (h.toys i hi (by omega))
  refine ⟨by rw [List.length_append, hg]; exact hk, fun i hi hi' => ?_, fun i j hi hj hij => ?_, fun g hg' => ?_⟩
  · rw [List.length_append, hg] at hi
    by_cases e : i < k
    · rw [List.getElem_append_left (by omega)]
      have ht := h.toys i (by omega) hi'
      exact blk_grown (blk_alloc ht _) hgr (fun e' => Kd.R_ne hO ht (by decide) e')
    · obtain rfl : i = k := by have : [wr.heap.size].length = 1 := rfl; omega
      rw [List.getElem_append_right (by omega), hpk]
      simp only [hg, Nat.sub_self, List.getElem_cons_zero]
      have ht := blk_new wr (.cells (cells lb ⟨(i : Int), p, 0⟩) 38)
      exact blk_grown ht hgr (fun e' => Kd.R_ne (Kd.R_alloc hO _) ht (by decide) e')
  · rw [List.length_append, hg] at hi hj
    have h1 : [wr.heap.size].length = 1 := rfl
    by_cases ei : i < k <;> by_cases ej : j < k
    · rw [List.getElem_append_left (by omega), List.getElem_append_left (by omega)]
      exact h.nodup i j (by omega) (by omega) hij
    · rw [List.getElem_append_left (by omega), List.getElem_append_right (by omega)]
      have := hlt _ (List.getElem_mem (show i < gs.length by omega))
      simp only [show j - gs.length = 0 by omega, List.getElem_cons_zero]; omega
    · rw [List.getElem_append_right (by omega), List.getElem_append_left (by omega)]
      have := hlt _ (List.getElem_mem (show j < gs.length by omega))
      simp only [show i - gs.length = 0 by omega, List.getElem_cons_zero]; omega
    · omega
  · rcases List.mem_append.1 hg' with h' | h'
    · exact h.old g h'
    · rw [List.mem_singleton.1 h']; exact hB.size

set_option maxHeartbeats 1600000 in
set_option maxRecDepth 100000 in
theorem toys_calls (w : World) (lb : Nat) (A0 : Option Addr) (c0 : Nat) (left : List Int) (hr : Kd.C (Kd.int .i64) w A0 left.length left) (hc : left.length ≤ c0) (hlen : left.length ≤ 1000000) :
    Calls Try.prog 9 #[.slice A0 left.length c0, .pointer (some ⟨lb, 0, none⟩)] w fun e w' => ∃ v gs, e = .returned v ∧ Kd.R kw 41 w' w.heap.size (fun _ => True) v (gs.map some) ∧ gs.length = left.length ∧ Made w' w.heap.size lb gs left ∧ Below w.heap.size w w' := by
  have HR := Aside0.mk hr
  clear hr
  go_enter Try.func9, Try.ntmps9
  go_wp2
  go_loopw [5, 6] (fun vo i wr => ∃ (k : Nat) (gs : List Nat), k ≤ left.length ∧ i = .int .i64 k ∧ Aside0 (gs.length = k) ∧ Aside0 (Kd.R kw 41 wr w.heap.size (fun _ => True) vo (gs.map some)) ∧ Aside0 (Made wr w.heap.size lb gs left) ∧ Aside0 (Below w.heap.size w wr)) (fun _ i _ => left.length - (intOf i).toNat)
  case atStart => exact ⟨0, [], Nat.zero_le _, rfl, ⟨rfl⟩, ⟨Kd.R_nil _ _ _ _ _⟩, ⟨⟨Nat.zero_le _, fun i h => absurd h (Nat.not_lt_zero _), fun i j h => absurd h (Nat.not_lt_zero _), fun g hg => by simp at hg⟩⟩, ⟨Below.refl _ _⟩⟩
  case round =>
    obtain ⟨k, gs, hk, rfl, HG, HO, HM, HB⟩ := hrel
    by_cases hlt : k < left.length
    · obtain ⟨ad, ea, hx⟩ := Kd.at_int (Kd.C_below HR.out HB.out) k (by omega) (by omega)
      subst ea
      simp only [Int.toNat_natCast] at hx
      generalize hp : rd left (k : Int) = p at hx
      have HP := Aside0.mk hp
      clear hp
      have hL : ((gs.map some).length + 1) * 16 ≤ 140737488355328 := by rw [List.length_map, HG.out]; omega
      have HLL := Aside0.mk hL
      clear hL
      have hgl : wr.heap.size < (wr.alloc (.cells (cells lb ⟨(k : Int), p, 0⟩) 38)).heap.size := by rw [World.size_alloc]; exact Nat.lt_succ_self _
      have HT := Aside0.mk (blk_new wr (.cells (cells lb ⟨(k : Int), p, 0⟩) 38))
      clear hgl
      go_wp2_with ((with_reducible refine gate_builtin (b := .append) (xs := #[.tmp 13, .tmp 23]) rfl ?_); at_builtin; refine Kd.R_append kw (w0 := w) (W := wr.alloc (.cells (cells lb ⟨(k : Int), p, 0⟩) 38)) w.heap.size rfl (.tmp 13) (.tmp 23) 24 41 .nilIface 16 rfl Try.underlying24 info41 rfl (by decide) (by decide) u5 (gs.map some) (some wr.heap.size) [.iface 36 (.pointer (some ⟨wr.heap.size, 0, none⟩))] (fun _ => True) (fun _ => False) rfl ?hx rfl (fun _ hk => hk.elim) (fun _ _ => trivial) (Kd.R_alloc HO.out _) (below_alloc HB.out _) (below_size (below_alloc HB.out _)) HLL.out ?_; (case hx => rw [World.size_alloc]; rfl); intro v1 w1 ho hb hg hat; have HO1 := Aside0.mk ho; have HB1 := Aside0.mk hb; have HM1 := Aside0.mk (HM.out.next HG.out HP.out hlt HB.out hg HO.out); clear ho hb hg hat)
      go_roundw
      case rel => exact ⟨k + 1, gs ++ [wr.heap.size], by omega, by go_num, ⟨by rw [List.length_append, HG.out]; rfl⟩, ⟨by rw [List.map_append]; exact HO1.out⟩, HM1, HB1⟩
      case measure => simp [intOf]; omega
    · obtain rfl : k = left.length := by omega
      go_wp2
      go_ret
      exact ⟨_, gs, rfl, HO.out, HG.out, HM.out, HB.out⟩
end Go.Proofs.Ytbojnjomhjajaaa.Toys
