/- SchedParts: the walk. -/
import Derived.Test.YtbojnjomhjajaaaTwo
import Derived.Deep.DeepMust
namespace Go.Proofs.Ytbojnjomhjajaaa.Parts
open Go.RowKit Go.Proofs.YtbojnjomhjajaaaW.PrintWords Go.Proofs.YtbojnjomhjajaaaW.PrintLast Go.Proofs.YtbojnjomhjajaaaW.PrintMore Go.Proofs.Ytbojnjomhjajaaa.Toy Go.Proofs.Ytbojnjomhjajaaa.Run Go.Proofs.Ytbojnjomhjajaaa.Toys Go.Proofs.Ytbojnjomhjajaaa.Hand Go.Proofs.Ytbojnjomhjajaaa.Model Go.Proofs.Ytbojnjomhjajaaa.BSchedRuns Go.Proofs.Ytbojnjomhjajaaa.Runs Go.Proofs.Ytbojnjomhjajaaa.Two
set_option linter.unusedVariables false
set_option linter.unusedSimpArgs false

section
variable {w0 w w' : World} {base lb b N : Nat} {u vo x : Value} {d os : List Int}
theorem done_grown (h : Done w base lb u vo d) (hg : w.grownBy w' x.ownBlock) (hx : Row w b x os) (hu : ∀ k, u.ownBlock = some k → k < N) (hv : ∀ k, vo.ownBlock = some k → k < N) (hn : ∀ k, x.ownBlock = some k → N ≤ k) : Done w' base lb u vo d :=
  h.kept (S := fun k => x.ownBlock = some k) (Kept.of_grown hg (Kept.refl w _) (fun k e => .inl e)) (hx.ne h.log (by decide))
    (fun k hk e => by have := hu k hk; have := hn k e; omega) (fun k hk e => by have := hv k hk; have := hn k e; omega)
theorem row_grown (h : Row w base vo d) (hg : w.grownBy w' x.ownBlock) (hv : ∀ k, vo.ownBlock = some k → k < N) (hn : ∀ k, x.ownBlock = some k → N ≤ k) : Row w' base vo d :=
  h.kept (S := fun k => x.ownBlock = some k) (Kept.of_grown hg (Kept.refl w _) (fun k e => .inl e)) (fun k hk e => by have := hv k hk; have := hn k e; omega)
theorem new_on {W : World} {x' : Value} (hn : ∀ k, x.ownBlock = some k → N ≤ k) (hN : N ≤ W.heap.size) (hat : x'.ownBlock = x.ownBlock ∨ ∃ b, x'.ownBlock = some b ∧ W.heap.size ≤ b) : ∀ k, x'.ownBlock = some k → N ≤ k := fun k hk => by
  rcases hat with e | ⟨b, e, hb⟩
  · exact hn k (e ▸ hk)
  · rw [hk] at e
    injection e with e
    omega
end

set_option maxHeartbeats 3200000 in
set_option maxRecDepth 100000 in
theorem parts_calls (A0 : Option Addr) (c0 : Nat) (left : List Int) (A1 : Option Addr) (c1 : Nat) (ps : List Int) (k0 : Int) (w : World) (hr0 : Kd.C (Kd.int .i64) w A0 left.length left) (hc0 : left.length ≤ c0) (hr1 : Kd.C (Kd.int .i64) w A1 ps.length ps) (hc1 : ps.length ≤ c1) (hk0 : (Lit.int .u8 k0).wf = true) :
    Calls Try.prog 5 #[.slice A0 left.length c0, .slice A1 ps.length c1, .int .u8 k0] w fun e w' => e = .returned (.bool true) ∧ Below w.heap.size w w' := by
  have HR0 := Aside0.mk hr0
  have HR1 := Aside0.mk hr1
  have hm0 := Kd.C_max hr0
  have hm1 := Kd.C_max hr1
  clear hr0 hr1
  have hkb : 0 ≤ k0 ∧ k0 ≤ 255 := by
    have h := hk0
    unfold Lit.wf at h
    rw [Bool.and_eq_true] at h
    exact ⟨of_decide_eq_true h.1, of_decide_eq_true h.2⟩
  clear hk0
  by_cases h1 : 10 < left.length
  · go_enter Try.func5, Try.ntmps5
    go_wp2_with (go_at_call 8; refine (awake_calls _).mono ?_; rintro e w1 ⟨rfl, hb⟩; have HB := Aside0.mk hb; clear hb)
    go_ret
    exact ⟨rfl, HB.out⟩
  · by_cases h2 : 60 < ps.length
    · go_enter Try.func5, Try.ntmps5
      go_wp2_with (go_at_call 8; refine (awake_calls _).mono ?_; rintro e w1 ⟨rfl, hb⟩; have HB := Aside0.mk hb; clear hb)
      go_ret
      exact ⟨rfl, HB.out⟩
    · go_enter Try.func5, Try.ntmps5
      go_wp2_with (go_at_call 8; refine (awake_calls _).mono ?_; rintro e w1 ⟨rfl, hb⟩; have HB := Aside0.mk hb; clear hb)
      have hlog : ((w1.alloc (.cells #[.slice none 0 0] 22)).alloc (.cells #[.slice none 0 0] 22)).heap[w1.heap.size]? = some (.cells #[.slice none 0 0] 22 (0, 0)) := blk_alloc (blk_new _ _) _
      have hlog2 : ((w1.alloc (.cells #[.slice none 0 0] 22)).alloc (.cells #[.slice none 0 0] 22)).heap[w1.heap.size + 1]? = some (.cells #[.slice none 0 0] 22 (0, 0)) := by
        have h := blk_new (w1.alloc (.cells #[.slice none 0 0] 22)) (.cells #[.slice none 0 0] 22)
        rw [World.size_alloc] at h
        exact h
      have hB1 : Below w.heap.size w ((w1.alloc (.cells #[.slice none 0 0] 22)).alloc (.cells #[.slice none 0 0] 22)) := below_alloc (below_alloc HB.out _) _
      have hlb : w.heap.size ≤ w1.heap.size := HB.out.size
      generalize (w1.alloc (.cells #[.slice none 0 0] 22)).alloc (.cells #[.slice none 0 0] 22) = w2 at hlog hlog2 hB1 ⊢
      obtain ⟨K, hKe, hKl⟩ : ∃ K : Nat, k0 % ((ps.length : Int) + 1) = (K : Int) ∧ K ≤ ps.length := (by
        have h1 := Int.emod_nonneg k0 (b := (ps.length : Int) + 1) (by omega)
        have h2 := Int.emod_lt_of_pos k0 (b := (ps.length : Int) + 1) (by omega)
        exact ⟨(k0 % ((ps.length : Int) + 1)).toNat, by omega, by omega⟩)
      rw [hKe]
      refine (toys_calls w2 w1.heap.size A0 c0 left (Kd.C_below HR0.out hB1) hc0 (by omega)).mono ?_
      rintro e w3 ⟨v, gs, rfl, hR, hl, hM, hb⟩
      obtain ⟨A3, c3, rfl⟩ := Kd.R_slice hR
      have HW := Aside0.mk hR
      have HI := Aside0.mk (inv_of_made hM hl hB1.size (blk_below hlog hb) hlb (below_step hB1 hb))
      have HG := Aside0.mk hl
      have HL := Aside0.mk (blk_below hlog2 hb)
      have HLB := Aside0.mk hlb
      clear hR hl hM hb hlog hlog2 hB1 hlb
      go_wp2_with fail
      refine (run_rel (m := 0) ps HI.out (rel_start left) (by simpa using HW.out) (by simp) (Kd.C_kept_came (Kd.heap_int _) HR1.out HI.out.below (may_old HI.out)) hc1 (by simp; omega)).mono ?_
      rintro e w4 ⟨vo, T, l', d, u, rfl, HP⟩
      obtain ⟨Ao, co, rfl⟩ := Kd.R_slice HP.out.2.2.2.2.1
      obtain ⟨Au, cu, rfl⟩ := Kd.R_slice HP.out.2.2.2.1.row
      have HD := Aside0.mk (show Done w4 w.heap.size w1.heap.size (.slice Au ([] ++ d).length cu) (.slice Ao d.length co) d from ⟨HP.out.2.2.2.1.log, HP.out.2.2.2.1.row, HP.out.2.2.2.2.1⟩)
      have HL4 := Aside0.mk (blk_kept HL.out HP.out.2.2.2.2.2.2.1 (may_log HI.out HL.out (by omega)))
      have HB4 := Aside0.mk HP.out.2.2.2.1.below
      have HF := Aside0.mk HP.out.2.1
      have HDL := Aside0.mk (show d.length ≤ ps.length from (by
        have := fold_length ps left []
        rw [HF.out] at this
        simpa using this))
      clear HP HL HI HG HW
      go_wp2_with fail
      refine (toys_calls w4 (w1.heap.size + 1) A0 c0 left (Kd.C_below HR0.out HB4.out) hc0 (by omega)).mono ?_
      rintro e w5 ⟨v, gs2, rfl, hR, hl, hM, hb⟩
      obtain ⟨A5, c5, rfl⟩ := Kd.R_slice hR
      have HW := Aside0.mk hR
      have HI := Aside0.mk (inv_of_made hM hl HB4.out.size (blk_below HL4.out hb) (Nat.le_trans HLB.out (Nat.le_succ _)) (below_step HB4.out hb))
      have HD5 := Aside0.mk (HD.out.below hb)
      have HLT := Aside0.mk (List.length_take_of_le hKl)
      clear hR hl hM hb HL4 HB4 HD
      clear hKe
      go_wp2_with fail
      have hcall := run_rel (m := 0) (l := left) (A0 := A5) (c0 := c5) (n := gs2.length) (A1 := A1) (c1 := c1) (ps.take K) HI.out (rel_start left) (by simpa using HW.out) (by simp) (fun W hk => Kd.C_take (Kd.C_kept_came (Kd.heap_int _) HR1.out HI.out.below (may_old HI.out) W hk) hKl) (by rw [HLT.out]; omega) (by rw [HLT.out]; simp; omega)
      rw [HLT.out] at hcall
      refine hcall.mono ?_
      clear hcall
      rintro e w6 ⟨vo2, T2, l2, d2, u2, rfl, HP⟩
      obtain ⟨Ao2, co2, rfl⟩ := Kd.R_slice HP.out.2.2.2.2.1
      obtain ⟨Au2, cu2, rfl⟩ := Kd.R_slice HP.out.2.2.2.1.row
      have HD6 := Aside0.mk (HD5.out.run HI.out HP.out.2.2.2.2.2.2.1 (by omega) (apart_nil _) (apart_nil _))
      have HI6 := Aside0.mk HP.out.2.2.2.1
      have HO6 := Aside0.mk HP.out.2.2.2.2.1
      have HA6 := Aside0.mk HP.out.2.2.2.2.2.1
      have HT6 := Aside0.mk HP.out.2.2.1
      have HF6 := Aside0.mk HP.out.2.1
      have HW6 := Aside0.mk (kw_move HW.out (fun k hk => HP.out.2.2.2.2.2.2.1.2 k (Kd.R_lt HW.out k hk) (by
        obtain ⟨cs, hc⟩ := kw_typed HW.out k hk
        exact may_not HI.out hc (by decide) (by decide) (by simp [Value.ownBlock]))))
      have HX6 := Aside0.mk (show Apart (.slice Au ([] ++ d).length cu) (.slice Au2 ([] ++ d2).length cu2) ∧ Apart (.slice Ao d.length co) (.slice Au2 ([] ++ d2).length cu2) from
        ⟨fun k hk e => by
          have h1 := HD5.out.row.lt hk
          have h2 := (HP.out.2.2.2.2.2.2.2.1 k e).resolve_left (by simp [Value.ownBlock])
          omega, fun k hk e => by
          have h1 := HD5.out.out.lt hk
          have h2 := (HP.out.2.2.2.2.2.2.2.1 k e).resolve_left (by simp [Value.ownBlock])
          omega⟩)
      have HDL2 := Aside0.mk (show d2.length ≤ K from (by
        have := fold_length (ps.take K) left []
        rw [HF6.out, HLT.out] at this
        simpa using this))
      clear HP HI HW HD5
      go_wp2_with fail
      · have hQ : Kd.C (Kd.int .i64) w (A1) (ps.drop K).length (ps.drop K) := by
          have h0 := Kd.C_drop HR1.out hKl hc1
          have e : K * (Kd.int IntKind.i64).sz = K := Nat.mul_one K
          rw [e, if_pos h] at h0
          exact h0
        have HQ := Aside0.mk hQ
        clear hQ
        have hcall := run_rel (m := 0) (l := l2) (A0 := A5) (c0 := c5) (n := gs2.length) (A1 := A1) (c1 := 0) (ps.drop K) HI6.out HT6.out (by simpa using HW6.out) (by simp) (Kd.C_kept_came (Kd.heap_int _) HQ.out HI6.out.below (may_old HI6.out)) (by rw [List.length_drop]; omega) (by have := HDL2.out; rw [List.length_drop, List.nil_append]; omega)
        rw [List.length_drop] at hcall
        refine hcall.mono ?_
        clear hcall
        rintro e w7 ⟨vo3, T3, l3, d3, u3, rfl, HP⟩
        obtain ⟨Ao3, co3, rfl⟩ := Kd.R_slice HP.out.2.2.2.2.1
        obtain ⟨Au3, cu3, rfl⟩ := Kd.R_slice HP.out.2.2.2.1.row
        have HD7 := Aside0.mk (HD6.out.run HI6.out HP.out.2.2.2.2.2.2.1 (by omega) HX6.out.1 HX6.out.2)
        have HE7 := Aside0.mk (show Done w7 w.heap.size (w1.heap.size + 1) (.slice Au3 (([] ++ d2) ++ d3).length cu3) (.slice Au3 (([] ++ d2) ++ d3).length cu3) (([] ++ d2) ++ d3) from ⟨HP.out.2.2.2.1.log, HP.out.2.2.2.1.row, HP.out.2.2.2.1.row⟩)
        have HO7 := Aside0.mk (HO6.out.kept HP.out.2.2.2.2.2.2.1 (fun k hk => by
          obtain ⟨cs, hc⟩ := row_typed HO6.out k hk
          exact may_not HI6.out hc (by decide) (by decide) (fun e => HA6.out k e hk)))
        have HC7 := Aside0.mk HP.out.2.2.2.2.1
        have HB7 := Aside0.mk HP.out.2.2.2.1.below
        obtain rfl : d = d2 ++ d3 := by
          have h1 := HF.out []
          rw [← List.take_append_drop K ps, List.foldl_append, HF6.out, HP.out.2.1] at h1
          simpa using (congrArg Prod.snd h1).symm
        clear HP HI6 HA6 HW6 HX6 HO6 HD6 HT6 HQ
        obtain ⟨N, hN⟩ : ∃ N, w7.heap.size = N := ⟨_, rfl⟩
        have HN := Aside0.mk hN
        clear hN
        have HU1 : Aside0 (∀ k, (Value.slice Au ([] ++ (d2 ++ d3)).length cu).ownBlock = some k → k < N) := ⟨fun k hk => HN.out ▸ HD7.out.row.lt hk⟩
        have HO1 : Aside0 (∀ k, (Value.slice Ao (d2 ++ d3).length co).ownBlock = some k → k < N) := ⟨fun k hk => HN.out ▸ HD7.out.out.lt hk⟩
        have HU3 : Aside0 (∀ k, (Value.slice Au3 (([] ++ d2) ++ d3).length cu3).ownBlock = some k → k < N) := ⟨fun k hk => HN.out ▸ HE7.out.row.lt hk⟩
        have HO3 : Aside0 (∀ k, (Value.slice Ao3 d3.length co3).ownBlock = some k → k < N) := ⟨fun k hk => HN.out ▸ HC7.out.lt hk⟩
        have HLen : Aside0 ((([] : List Int).length + d2.length) * 8 ≤ 140737488355328 ∧ (([] ++ d2 : List Int).length + d3.length) * 8 ≤ 140737488355328 ∧ (d2 ++ d3).length ≤ 1000000) := by
          have h1 := HDL.out
          rw [List.length_append] at h1
          constructor
          simp
          omega
        go_wp2_with (first
          | ((with_reducible refine gate_dst (N := 50) rfl ?_); (try (refine gate_guard (by rfl) ?_; dsimp only)); refine Kd.R_lit (Kd.int .i64) _ 3 ?hg (N := 50) ?hd (xs := ([] : List Int)) (inner := []) (ok := fun _ => True) (okp := fun _ => True) ?hr ?hp (fun _ hk => hk) trivial (Below.refl _ _) (Nat.le_refl _) (by simp) ?_; (case hd => rfl); (case hg => rfl); (case hr => first | (go_simp; done) | (go_simp; rfl)); (case hp => exact (Reps.none _ _)); intro v8 w8 hR8 hb8 hg8 hnew8; have HV8 := Aside0.mk (Row.of (Kd.R_lower hR8 HB7.out.size)); have HN8 := Aside0.mk (show ∀ k, v8.ownBlock = some k → N ≤ k from fun k hk => HN.out ▸ row_base (Row.of hR8) k hk); have HD8 := Aside0.mk (HD7.out.below hb8); have HE8 := Aside0.mk (HE7.out.below hb8); have HO8 := Aside0.mk (Kd.R_below HO7.out hb8); have HC8 := Aside0.mk (Kd.R_below HC7.out hb8); have HB8 := Aside0.mk (below_step HB7.out hb8); have HS8 := Aside0.mk (show N ≤ w8.heap.size from HN.out ▸ hb8.size); clear hR8 hb8 hg8 hnew8)
          | ((with_reducible refine gate_builtin (b := .append) (xs := #[.tmp 50, .tmp 51]) rfl ?_); (try (refine gate_guard (by rfl) ?_; dsimp only)); at_builtin; go_must (refine Kd.R_append_rows (Kd.int .i64) (w0 := w) w.heap.size rfl (.tmp 50) (.tmp 51) 22 3 (.int .i64 0) 8 rfl Try.underlying22 Toy.info3 rfl (by decide) (by decide) v8 [] d2 Ao2 d2.length co2 (fun _ => True) (fun _ => False) rfl rfl HV8.out (Kd.R_reads' HO8.out).2.2 (fun _ _ h => h) (fun _ h => h.elim) (fun _ _ => trivial) HB8.out HB8.out.size HLen.out.1 ?_); intro v9 w9 hR9 hB9 hg9 hat9; have HV9 := Aside0.mk (Row.of hR9); have HB9 := Aside0.mk hB9; have HD9 := Aside0.mk (done_grown HD8.out hg9 HV8.out HU1.out HO1.out HN8.out); have HE9 := Aside0.mk (done_grown HE8.out hg9 HV8.out HU3.out HU3.out HN8.out); have HC9 := Aside0.mk (row_grown HC8.out hg9 HO3.out HN8.out); have HN9 := Aside0.mk (new_on HN8.out HS8.out hat9); have HS9 := Aside0.mk (Nat.le_trans HS8.out hg9.size); clear hR9 hB9 hg9 hat9)
          | ((with_reducible refine gate_builtin (b := .append) (xs := #[.tmp 52, .tmp 53]) rfl ?_); (try (refine gate_guard (by rfl) ?_; dsimp only)); at_builtin; go_must (refine Kd.R_append_rows (Kd.int .i64) (w0 := w) w.heap.size rfl (.tmp 52) (.tmp 53) 22 3 (.int .i64 0) 8 rfl Try.underlying22 Toy.info3 rfl (by decide) (by decide) v9 ([] ++ d2) d3 Ao3 d3.length co3 (fun _ => True) (fun _ => False) rfl rfl HV9.out (Kd.R_reads' HC9.out).2.2 (fun _ _ h => h) (fun _ h => h.elim) (fun _ _ => trivial) HB9.out HB9.out.size HLen.out.2.1 ?_); intro v10 w10 hR10 hB10 hg10 hat10; have HV10 := Aside0.mk (Row.of hR10); have HB10 := Aside0.mk hB10; have HD10 := Aside0.mk (done_grown HD9.out hg10 HV9.out HU1.out HO1.out HN9.out); have HE10 := Aside0.mk (done_grown HE9.out hg10 HV9.out HU3.out HU3.out HN9.out); clear hR10 hB10 hg10 hat10))
        obtain ⟨A10, c10, rfl⟩ := Kd.R_slice HV10.out
        have hA1 := HD10.out.out
        have hA2 := HV10.out
        have hA3 := HD10.out.row
        have hA4 := HE10.out.row
        have hl1 := HD10.out.log
        have hl2 := HE10.out.log
        rw [List.length_append] at hA1
        rw [List.nil_append, List.length_append] at hA2 hA3 hA4 hl1 hl2
        rw [List.nil_append, List.length_append]
        refine (ints_two hA1 hA2 HLen.out.2.2).mono ?_
        rintro e w11 ⟨rfl, nd, rfl⟩
        have hc1 : (w10.drewN nd).cell? ⟨w1.heap.size, 0, none⟩ = some (.slice Au (d2.length + d3.length) cu) := (blk_cell (blk_drewN hl1 _) 0).trans rfl
        have hc2 : (w10.drewN nd).cell? ⟨w1.heap.size + 1, 0, none⟩ = some (.slice Au3 (d2.length + d3.length) cu3) := (blk_cell (blk_drewN hl2 _) 0).trans rfl
        have HA3 := Aside0.mk hA3
        have HA4 := Aside0.mk hA4
        clear hA1 hA2 hA3 hA4 hl1 hl2
        go_wp2_with (go_at_call 11; go_must (refine (ints_two (Kd.R_drewN HA3.out nd) (Kd.R_drewN HA4.out nd) HLen.out.2.2).mono ?_); rintro e w12 ⟨rfl, nd2, rfl⟩)
        go_ret
        exact ⟨rfl, pw_below_drewN HB10.out (nd + nd2)⟩
      · have hQ : Kd.C (Kd.int .i64) w (A1.map (fun x => x.add K)) (ps.drop K).length (ps.drop K) := by
          have h0 := Kd.C_drop HR1.out hKl hc1
          have e : K * (Kd.int IntKind.i64).sz = K := Nat.mul_one K
          rw [e, if_neg h] at h0
          exact h0
        have HQ := Aside0.mk hQ
        clear hQ
        have hcall := run_rel (m := 0) (l := l2) (A0 := A5) (c0 := c5) (n := gs2.length) (A1 := A1.map (fun x => x.add K)) (c1 := c1 - K) (ps.drop K) HI6.out HT6.out (by simpa using HW6.out) (by simp) (Kd.C_kept_came (Kd.heap_int _) HQ.out HI6.out.below (may_old HI6.out)) (by rw [List.length_drop]; omega) (by have := HDL2.out; rw [List.length_drop, List.nil_append]; omega)
        rw [List.length_drop] at hcall
        refine hcall.mono ?_
        clear hcall
        rintro e w7 ⟨vo3, T3, l3, d3, u3, rfl, HP⟩
        obtain ⟨Ao3, co3, rfl⟩ := Kd.R_slice HP.out.2.2.2.2.1
        obtain ⟨Au3, cu3, rfl⟩ := Kd.R_slice HP.out.2.2.2.1.row
        have HD7 := Aside0.mk (HD6.out.run HI6.out HP.out.2.2.2.2.2.2.1 (by omega) HX6.out.1 HX6.out.2)
        have HE7 := Aside0.mk (show Done w7 w.heap.size (w1.heap.size + 1) (.slice Au3 (([] ++ d2) ++ d3).length cu3) (.slice Au3 (([] ++ d2) ++ d3).length cu3) (([] ++ d2) ++ d3) from ⟨HP.out.2.2.2.1.log, HP.out.2.2.2.1.row, HP.out.2.2.2.1.row⟩)
        have HO7 := Aside0.mk (HO6.out.kept HP.out.2.2.2.2.2.2.1 (fun k hk => by
          obtain ⟨cs, hc⟩ := row_typed HO6.out k hk
          exact may_not HI6.out hc (by decide) (by decide) (fun e => HA6.out k e hk)))
        have HC7 := Aside0.mk HP.out.2.2.2.2.1
        have HB7 := Aside0.mk HP.out.2.2.2.1.below
        obtain rfl : d = d2 ++ d3 := by
          have h1 := HF.out []
          rw [← List.take_append_drop K ps, List.foldl_append, HF6.out, HP.out.2.1] at h1
          simpa using (congrArg Prod.snd h1).symm
        clear HP HI6 HA6 HW6 HX6 HO6 HD6 HT6 HQ
        obtain ⟨N, hN⟩ : ∃ N, w7.heap.size = N := ⟨_, rfl⟩
        have HN := Aside0.mk hN
        clear hN
        have HU1 : Aside0 (∀ k, (Value.slice Au ([] ++ (d2 ++ d3)).length cu).ownBlock = some k → k < N) := ⟨fun k hk => HN.out ▸ HD7.out.row.lt hk⟩
        have HO1 : Aside0 (∀ k, (Value.slice Ao (d2 ++ d3).length co).ownBlock = some k → k < N) := ⟨fun k hk => HN.out ▸ HD7.out.out.lt hk⟩
        have HU3 : Aside0 (∀ k, (Value.slice Au3 (([] ++ d2) ++ d3).length cu3).ownBlock = some k → k < N) := ⟨fun k hk => HN.out ▸ HE7.out.row.lt hk⟩
        have HO3 : Aside0 (∀ k, (Value.slice Ao3 d3.length co3).ownBlock = some k → k < N) := ⟨fun k hk => HN.out ▸ HC7.out.lt hk⟩
        have HLen : Aside0 ((([] : List Int).length + d2.length) * 8 ≤ 140737488355328 ∧ (([] ++ d2 : List Int).length + d3.length) * 8 ≤ 140737488355328 ∧ (d2 ++ d3).length ≤ 1000000) := by
          have h1 := HDL.out
          rw [List.length_append] at h1
          constructor
          simp
          omega
        go_wp2_with (first
          | ((with_reducible refine gate_dst (N := 50) rfl ?_); (try (refine gate_guard (by rfl) ?_; dsimp only)); refine Kd.R_lit (Kd.int .i64) _ 3 ?hg (N := 50) ?hd (xs := ([] : List Int)) (inner := []) (ok := fun _ => True) (okp := fun _ => True) ?hr ?hp (fun _ hk => hk) trivial (Below.refl _ _) (Nat.le_refl _) (by simp) ?_; (case hd => rfl); (case hg => rfl); (case hr => first | (go_simp; done) | (go_simp; rfl)); (case hp => exact (Reps.none _ _)); intro v8 w8 hR8 hb8 hg8 hnew8; have HV8 := Aside0.mk (Row.of (Kd.R_lower hR8 HB7.out.size)); have HN8 := Aside0.mk (show ∀ k, v8.ownBlock = some k → N ≤ k from fun k hk => HN.out ▸ row_base (Row.of hR8) k hk); have HD8 := Aside0.mk (HD7.out.below hb8); have HE8 := Aside0.mk (HE7.out.below hb8); have HO8 := Aside0.mk (Kd.R_below HO7.out hb8); have HC8 := Aside0.mk (Kd.R_below HC7.out hb8); have HB8 := Aside0.mk (below_step HB7.out hb8); have HS8 := Aside0.mk (show N ≤ w8.heap.size from HN.out ▸ hb8.size); clear hR8 hb8 hg8 hnew8)
          | ((with_reducible refine gate_builtin (b := .append) (xs := #[.tmp 50, .tmp 51]) rfl ?_); (try (refine gate_guard (by rfl) ?_; dsimp only)); at_builtin; go_must (refine Kd.R_append_rows (Kd.int .i64) (w0 := w) w.heap.size rfl (.tmp 50) (.tmp 51) 22 3 (.int .i64 0) 8 rfl Try.underlying22 Toy.info3 rfl (by decide) (by decide) v8 [] d2 Ao2 d2.length co2 (fun _ => True) (fun _ => False) rfl rfl HV8.out (Kd.R_reads' HO8.out).2.2 (fun _ _ h => h) (fun _ h => h.elim) (fun _ _ => trivial) HB8.out HB8.out.size HLen.out.1 ?_); intro v9 w9 hR9 hB9 hg9 hat9; have HV9 := Aside0.mk (Row.of hR9); have HB9 := Aside0.mk hB9; have HD9 := Aside0.mk (done_grown HD8.out hg9 HV8.out HU1.out HO1.out HN8.out); have HE9 := Aside0.mk (done_grown HE8.out hg9 HV8.out HU3.out HU3.out HN8.out); have HC9 := Aside0.mk (row_grown HC8.out hg9 HO3.out HN8.out); have HN9 := Aside0.mk (new_on HN8.out HS8.out hat9); have HS9 := Aside0.mk (Nat.le_trans HS8.out hg9.size); clear hR9 hB9 hg9 hat9)
          | ((with_reducible refine gate_builtin (b := .append) (xs := #[.tmp 52, .tmp 53]) rfl ?_); (try (refine gate_guard (by rfl) ?_; dsimp only)); at_builtin; go_must (refine Kd.R_append_rows (Kd.int .i64) (w0 := w) w.heap.size rfl (.tmp 52) (.tmp 53) 22 3 (.int .i64 0) 8 rfl Try.underlying22 Toy.info3 rfl (by decide) (by decide) v9 ([] ++ d2) d3 Ao3 d3.length co3 (fun _ => True) (fun _ => False) rfl rfl HV9.out (Kd.R_reads' HC9.out).2.2 (fun _ _ h => h) (fun _ h => h.elim) (fun _ _ => trivial) HB9.out HB9.out.size HLen.out.2.1 ?_); intro v10 w10 hR10 hB10 hg10 hat10; have HV10 := Aside0.mk (Row.of hR10); have HB10 := Aside0.mk hB10; have HD10 := Aside0.mk (done_grown HD9.out hg10 HV9.out HU1.out HO1.out HN9.out); have HE10 := Aside0.mk (done_grown HE9.out hg10 HV9.out HU3.out HU3.out HN9.out); clear hR10 hB10 hg10 hat10))
        obtain ⟨A10, c10, rfl⟩ := Kd.R_slice HV10.out
        have hA1 := HD10.out.out
        have hA2 := HV10.out
        have hA3 := HD10.out.row
        have hA4 := HE10.out.row
        have hl1 := HD10.out.log
        have hl2 := HE10.out.log
        rw [List.length_append] at hA1
        rw [List.nil_append, List.length_append] at hA2 hA3 hA4 hl1 hl2
        rw [List.nil_append, List.length_append]
        refine (ints_two hA1 hA2 HLen.out.2.2).mono ?_
        rintro e w11 ⟨rfl, nd, rfl⟩
        have hc1 : (w10.drewN nd).cell? ⟨w1.heap.size, 0, none⟩ = some (.slice Au (d2.length + d3.length) cu) := (blk_cell (blk_drewN hl1 _) 0).trans rfl
        have hc2 : (w10.drewN nd).cell? ⟨w1.heap.size + 1, 0, none⟩ = some (.slice Au3 (d2.length + d3.length) cu3) := (blk_cell (blk_drewN hl2 _) 0).trans rfl
        have HA3 := Aside0.mk hA3
        have HA4 := Aside0.mk hA4
        clear hA1 hA2 hA3 hA4 hl1 hl2
        go_wp2_with (go_at_call 11; go_must (refine (ints_two (Kd.R_drewN HA3.out nd) (Kd.R_drewN HA4.out nd) HLen.out.2.2).mono ?_); rintro e w12 ⟨rfl, nd2, rfl⟩)
        go_ret
        exact ⟨rfl, pw_below_drewN HB10.out (nd + nd2)⟩
end Go.Proofs.Ytbojnjomhjajaaa.Parts
