/- SchedLast: the walk. -/
import Derived.Test.YtbojnjomhjajaaaTwo
namespace Go.Proofs.Ytbojnjomhjajaaa.Last
open Go.RowKit Go.Proofs.YtbojnjomhjajaaaW.PrintWords Go.Proofs.YtbojnjomhjajaaaW.PrintLast Go.Proofs.YtbojnjomhjajaaaW.PrintMore Go.Proofs.Ytbojnjomhjajaaa.Toy Go.Proofs.Ytbojnjomhjajaaa.Run Go.Proofs.Ytbojnjomhjajaaa.Toys Go.Proofs.Ytbojnjomhjajaaa.Hand Go.Proofs.Ytbojnjomhjajaaa.Model Go.Proofs.Ytbojnjomhjajaaa.BSchedRuns Go.Proofs.Ytbojnjomhjajaaa.Runs Go.Proofs.Ytbojnjomhjajaaa.Two
set_option linter.unusedVariables false
set_option linter.unusedSimpArgs false

set_option maxHeartbeats 3200000 in
set_option maxRecDepth 100000 in
theorem last_calls (A0 : Option Addr) (c0 : Nat) (left : List Int) (A1 : Option Addr) (c1 : Nat) (ps : List Int) (w : World) (hr0 : Kd.C (Kd.int .i64) w A0 left.length left) (hc0 : left.length ≤ c0) (hr1 : Kd.C (Kd.int .i64) w A1 ps.length ps) (hc1 : ps.length ≤ c1) :
    Calls Try.prog 7 #[.slice A0 left.length c0, .slice A1 ps.length c1] w fun e w' => e = .returned (.bool true) ∧ Below w.heap.size w w' := by
  have HR0 := Aside0.mk hr0
  have HR1 := Aside0.mk hr1
  have hm0 := Kd.C_max hr0
  have hm1 := Kd.C_max hr1
  clear hr0 hr1
  by_cases h1 : 10 < left.length
  · go_enter Try.func7, Try.ntmps7
    go_wp2_with (go_at_call 8; refine (awake_calls _).mono ?_; rintro e w1 ⟨rfl, hb⟩; have HB := Aside0.mk hb; clear hb)
    go_ret
    exact ⟨rfl, HB.out⟩
  · by_cases h2 : 60 < ps.length
    · go_enter Try.func7, Try.ntmps7
      go_wp2_with (go_at_call 8; refine (awake_calls _).mono ?_; rintro e w1 ⟨rfl, hb⟩; have HB := Aside0.mk hb; clear hb)
      go_ret
      exact ⟨rfl, HB.out⟩
    · go_enter Try.func7, Try.ntmps7
      go_wp2_with (go_at_call 8; refine (awake_calls _).mono ?_; rintro e w1 ⟨rfl, hb⟩; have HB := Aside0.mk hb; clear hb)
      have hlog : ((w1.alloc (.cells #[.slice none 0 0] 22)).alloc (.cells #[.slice none 0 0] 22)).heap[w1.heap.size]? = some (.cells #[.slice none 0 0] 22 (0, 0)) := blk_alloc (blk_new _ _) _
      have hlog2 : ((w1.alloc (.cells #[.slice none 0 0] 22)).alloc (.cells #[.slice none 0 0] 22)).heap[w1.heap.size + 1]? = some (.cells #[.slice none 0 0] 22 (0, 0)) := by
        have h := blk_new (w1.alloc (.cells #[.slice none 0 0] 22)) (.cells #[.slice none 0 0] 22)
        rw [World.size_alloc] at h
        exact h
      have hB1 : Below w.heap.size w ((w1.alloc (.cells #[.slice none 0 0] 22)).alloc (.cells #[.slice none 0 0] 22)) := below_alloc (below_alloc HB.out _) _
      have hlb : w.heap.size ≤ w1.heap.size := HB.out.size
      generalize (w1.alloc (.cells #[.slice none 0 0] 22)).alloc (.cells #[.slice none 0 0] 22) = w2 at hlog hlog2 hB1 ⊢
      refine (toys_calls w2 w1.heap.size A0 c0 left (Kd.C_below HR0.out hB1) hc0 (by omega)).mono ?_
      rintro e w3 ⟨v, gs, rfl, hR, hl, hM, hb⟩
      obtain ⟨A3, c3, rfl⟩ := Kd.R_slice hR
      have HW := Aside0.mk hR
      have HI := Aside0.mk (inv_of_made hM hl hB1.size (blk_below hlog hb) hlb (below_step hB1 hb))
      have HG := Aside0.mk hl
      have HL := Aside0.mk (blk_below hlog2 hb)
      have HLB := Aside0.mk hlb
      clear hR hl hM hb hlog hlog2 hB1 hlb
      go_wp2_with fail
      refine (run_rel (m := 0) ps HI.out (rel_start left) (by simpa using HW.out) (by simp) (Kd.C_kept_came (Kd.heap_int _) HR1.out HI.out.below (may_old HI.out)) hc1 (by simp; omega)).mono ?_
      rintro e w4 ⟨vo, T, l', d, u, rfl, HP⟩
      obtain ⟨Ao, co, rfl⟩ := Kd.R_slice HP.out.2.2.2.2.1
      obtain ⟨Au, cu, rfl⟩ := Kd.R_slice HP.out.2.2.2.1.row
      have HD := Aside0.mk (show Done w4 w.heap.size w1.heap.size (.slice Au ([] ++ d).length cu) (.slice Ao d.length co) d from ⟨HP.out.2.2.2.1.log, HP.out.2.2.2.1.row, HP.out.2.2.2.2.1⟩)
      have HL4 := Aside0.mk (blk_kept HL.out HP.out.2.2.2.2.2.2.1 (may_log HI.out HL.out (by omega)))
      have HB4 := Aside0.mk HP.out.2.2.2.1.below
      have HF := Aside0.mk HP.out.2.1
      have HDL := Aside0.mk (show d.length ≤ ps.length from (by
        have := fold_length ps left []
        rw [HF.out] at this
        simpa using this))
      clear HP HL HI HG HW
      go_wp2_with fail
      refine (toys_calls w4 (w1.heap.size + 1) A0 c0 left (Kd.C_below HR0.out HB4.out) hc0 (by omega)).mono ?_
      rintro e w5 ⟨v, gs2, rfl, hR, hl, hM, hb⟩
      obtain ⟨A5, c5, rfl⟩ := Kd.R_slice hR
      have HW := Aside0.mk hR
      have HI := Aside0.mk (inv_of_made hM hl HB4.out.size (blk_below HL4.out hb) (Nat.le_trans HLB.out (Nat.le_succ _)) (below_step HB4.out hb))
      have HD5 := Aside0.mk (HD.out.below hb)
      clear hR hl hM hb HL4 HB4 HD
      go_wp2_with fail
      refine (run_rel (m := 0) d HI.out (rel_start left) (by simpa using HW.out) (by simp) (row_kept HD5.out.out (fun k hk => by
          obtain ⟨cs, hc⟩ := row_typed HD5.out.out k hk
          exact may_not HI.out hc (by decide) (by decide) (by simp [Value.ownBlock]))) (Kd.R_reads' HD5.out.out).2.1 (by have := HDL.out; simp; omega)).mono ?_
      rintro e w6 ⟨vo2, T2, l2, d2, u2, rfl, HP⟩
      obtain rfl : d = d2 := by
        have h1 := fold_again ps left l' d HF.out []
        rw [HP.out.2.1 []] at h1
        simpa using (congrArg Prod.snd h1).symm
      have HD6 := Aside0.mk (HD5.out.run HI.out HP.out.2.2.2.2.2.2.1 (by omega) (apart_nil _) (apart_nil _))
      obtain ⟨Ao2, co2, rfl⟩ := Kd.R_slice HP.out.2.2.2.2.1
      obtain ⟨Au2, cu2, rfl⟩ := Kd.R_slice HP.out.2.2.2.1.row
      have HE6 := Aside0.mk (show Done w6 w.heap.size (w1.heap.size + 1) (.slice Au2 ([] ++ d).length cu2) (.slice Ao2 d.length co2) d from ⟨HP.out.2.2.2.1.log, HP.out.2.2.2.1.row, HP.out.2.2.2.2.1⟩)
      have HB6 := Aside0.mk HP.out.2.2.2.1.below
      clear HP HI HW HD5
      have HDL6 := Aside0.mk (show d.length ≤ 1000000 from by have := HDL.out; omega)
      go_wp2_with fail
      refine (ints_two HD6.out.out HE6.out.out HDL6.out).mono ?_
      rintro e w7 ⟨rfl, nd, rfl⟩
      have hc1 : (w6.drewN nd).cell? ⟨w1.heap.size, 0, none⟩ = some (.slice Au ([] ++ d).length cu) := (blk_cell (blk_drewN HD6.out.log _) 0).trans rfl
      have hc2 : (w6.drewN nd).cell? ⟨w1.heap.size + 1, 0, none⟩ = some (.slice Au2 ([] ++ d).length cu2) := (blk_cell (blk_drewN HE6.out.log _) 0).trans rfl
      go_wp2_with (go_at_call 11; refine (ints_two (Kd.R_drewN HD6.out.row nd) (Kd.R_drewN HE6.out.row nd) HDL6.out).mono ?_; rintro e w8 ⟨rfl, nd2, rfl⟩)
      go_ret
      refine ⟨?_, pw_below_drewN HB6.out (nd + nd2)⟩
      have := HDL.out
      simp
      omega
end Go.Proofs.Ytbojnjomhjajaaa.Last
