/- SchedRuns: the walk. -/
import Derived.Test.YtbojnjomhjajaaaModel
import Derived.Deep.DeepMust
namespace Go.Proofs.Ytbojnjomhjajaaa.Runs
open Go.RowKit Go.Proofs.YtbojnjomhjajaaaW.PrintWords Go.Proofs.YtbojnjomhjajaaaW.PrintLast Go.Proofs.YtbojnjomhjajaaaW.PrintMore Go.Proofs.Ytbojnjomhjajaaa.Toy Go.Proofs.Ytbojnjomhjajaaa.Run Go.Proofs.Ytbojnjomhjajaaa.Toys Go.Proofs.Ytbojnjomhjajaaa.Hand Go.Proofs.Ytbojnjomhjajaaa.Model Go.Proofs.Ytbojnjomhjajaaa.BSchedRuns
set_option linter.unusedVariables false
set_option linter.unusedSimpArgs false

theorem ints_loop (l : List Int) (hl : l.length ≤ 1000000) (d : Nat) : ∀ k i : Nat, i + d = l.length → d < k → holtref01_Ints.l0 k l l (i : Int) = some true := by
  induction d with
  | zero =>
    intro k i hi hk
    obtain ⟨k, rfl⟩ : ∃ m, k = m + 1 := ⟨k - 1, by omega⟩
    simp only [holtref01_Ints.l0]; rw [if_neg (by omega)]
  | succ d ih =>
    intro k i hi hk
    obtain ⟨k, rfl⟩ : ∃ m, k = m + 1 := ⟨k - 1, by omega⟩
    simp only [holtref01_Ints.l0]
    rw [if_pos (by omega), if_pos (by omega), if_pos (by omega), if_pos trivial, show wrap64 ((i : Int) + 1) = ((i + 1 : Nat) : Int) by unfold wrap64; omega]
    exact ih k (i + 1) (by omega) (by omega)
theorem ints_same (l : List Int) (hl : l.length ≤ 1000000) : holtref01_Ints.f (l.length + 1) l l = some true := by
  unfold holtref01_Ints.f
  rw [if_pos rfl]
  exact ints_loop l hl l.length _ 0 (by omega) (by omega)
theorem ref_loop (ps : List Int) (hp : ps.length ≤ 1000000) (d : Nat) : ∀ (i : Nat) (l out : List Int), i + d = ps.length → out.length ≤ i → Ev (fun k => holtref16_Run.l0 k ps l out (i : Int)) ((ps.drop i).foldl rpick (l, out)).2 := by
  induction d with
  | zero =>
    intro i l out hi _
    rw [List.drop_of_length_le (by omega)]
    refine Ev.step (fun k => ?_) (Ev.now out)
    simp only [holtref16_Run.l0]; rw [if_neg (by omega)]
  | succ d ih =>
    intro i l out hi ho
    have hlt : i < ps.length := by omega
    rw [List.drop_eq_getElem_cons hlt, List.foldl_cons]
    have hr : rd ps (i : Int) = ps[i] := by simp [rd, hlt]
    have hw : wrap64 ((i : Int) + 1) = ((i + 1 : Nat) : Int) := by unfold wrap64; omega
    by_cases h : 0 ≤ ps[i] ∧ ps[i] < (l.length : Int)
    · obtain ⟨j, hj⟩ : ∃ j : Nat, ps[i] = (j : Int) := ⟨ps[i].toNat, by omega⟩
      have hjl : j < l.length := by omega
      have hrl : rd l (j : Int) = l[j] := by simp [rd, hjl]
      by_cases hx : 0 < l[j]
      · have e : rpick (l, out) ps[i] = (l.set j (wrap64 (l[j] - 1)), out ++ [(j : Int)]) := by
          simp only [rpick, hj, Int.toNat_natCast, List.getElem?_eq_getElem hjl]; rw [if_neg (by omega), if_pos hx]
        rw [e]
        refine Ev.step (f := fun k => holtref16_Run.j1 k ps l out (i : Int) (j : Int) true) (fun k => ?_) (Ev.step (fun k => ?_) (ih (i + 1) _ _ (by omega) (by rw [List.length_append]; simp; omega)))
        · simp only [holtref16_Run.l0]; rw [if_pos (by omega), if_pos (by omega), hr, hj, if_pos (by omega), decide_eq_true (by omega)]
        · simp only [holtref16_Run.j1]; rw [if_pos trivial, if_pos (by omega), if_pos (by omega), hrl, if_pos (by omega), if_pos (by omega), hw, Int.toNat_natCast]
      · have e : rpick (l, out) ps[i] = (l, out) := by
          simp only [rpick, hj, Int.toNat_natCast, List.getElem?_eq_getElem hjl]; rw [if_neg (by omega), if_neg hx]
        rw [e]
        refine Ev.step (f := fun k => holtref16_Run.j1 k ps l out (i : Int) (j : Int) true) (fun k => ?_) (Ev.step (fun k => ?_) (ih (i + 1) _ _ (by omega) (by omega)))
        · simp only [holtref16_Run.l0]; rw [if_pos (by omega), if_pos (by omega), hr, hj, if_pos (by omega), decide_eq_true (by omega)]
        · simp only [holtref16_Run.j1]; rw [if_pos trivial, if_pos (by omega), if_pos (by omega), hrl, if_neg (by omega), hw]
    · have e : rpick (l, out) ps[i] = (l, out) := by
        rcases hq : l[(ps[i]).toNat]? with _ | x
        · simp only [rpick, hq]
        · simp only [rpick, hq]
          have := (List.getElem?_eq_some_iff.1 hq).1
          rw [if_pos (by omega)]
      rw [e]
      refine Ev.step (f := fun k => holtref16_Run.j1 k ps l out (i : Int) ps[i] false) (fun k => ?_) (Ev.step (fun k => ?_) (ih (i + 1) _ _ (by omega) (by omega)))
      · simp only [holtref16_Run.l0]; rw [if_pos (by omega), if_pos (by omega), hr]
        by_cases h0 : ps[i] ≥ 0
        · rw [if_pos h0, decide_eq_false (by omega)]
        · rw [if_neg h0]
      · simp only [holtref16_Run.j1]; rw [if_neg (by decide), hw]
theorem ref_some (left ps : List Int) (hl : left.length ≤ 1000000) (hp : ps.length ≤ 1000000) : ∃ k, holtref16_Run.f k left ps = some (ps.foldl rpick (left, [])).2 := by
  obtain ⟨k, hk⟩ := Ev.rounds (ref_loop ps hp ps.length 0 left [] (by omega) (by simp))
  refine ⟨k, ?_⟩
  unfold holtref16_Run.f
  rw [Option.bind_some, List.nil_append, List.length_nil, if_pos (by omega)]
  exact hk

section
variable {w0 w w' : World} {base lb b : Nat} {gs : List Nat} {sts : List St} {v : Value} {xs : List Int}
theorem row_typed {vo : Value} {os : List Int} (h : Row w b vo os) : ∀ k, vo.ownBlock = some k → ∃ cs, w.heap[k]? = some (.cells cs 3 (0, 0)) := fun k hk => by
  obtain ⟨inner, ho⟩ := Kd.R_own h
  exact own_typed ho k hk
theorem kw_typed {vo : Value} {os : List (Option Nat)} (h : Kd.R kw 41 w b (fun _ => True) vo os) : ∀ k, vo.ownBlock = some k → ∃ cs, w.heap[k]? = some (.cells cs 41 (0, 0)) := fun k hk => by
  obtain ⟨inner, ho⟩ := Kd.R_own h
  exact own_typed ho k hk
theorem kw_move {vo : Value} {os : List (Option Nat)} (h : Kd.R kw 41 w b (fun _ => True) vo os) (hm : ∀ k, vo.ownBlock = some k → w'.heap[k]? = w.heap[k]?) : Kd.R kw 41 w' b (fun _ => True) vo os :=
  Kd.R_mono (Kd.R_move (show Kd.R kw 41 w b (fun k => vo.ownBlock = some k) vo os from ⟨fun _ hk => hk, h.2.imp_ (fun _ _ hp => hp)⟩) hm) (fun _ _ => trivial)
theorem kw_grown {vo u : Value} {os : List (Option Nat)} (h : Kd.R kw 41 w b (fun _ => True) vo os) (hg : w.grownBy w' u.ownBlock) (hu : ∀ k, u.ownBlock = some k → ∃ cs, w.heap[k]? = some (.cells cs 3 (0, 0))) : Kd.R kw 41 w' b (fun _ => True) vo os :=
  kw_move h (fun k hk => hg.block k (Kd.R_lt h k hk) (fun e => by
    obtain ⟨cs, hc⟩ := hu k e.symm
    obtain ⟨cs', hc'⟩ := kw_typed h k hk
    rw [hc] at hc'
    injection hc' with hc'
    injection hc' with _ hc'
    exact absurd hc' (by decide)))
theorem kw_below {vo : Value} {os : List (Option Nat)} (h : Kd.R kw 41 w b (fun _ => True) vo os) (hb : Below w.heap.size w w') : Kd.R kw 41 w' b (fun _ => True) vo os := kw_move h (fun k hk => hb.block k (Kd.R_lt h k hk))
theorem inv_below (h : Inv w0 w base lb gs sts v xs) (hb : Below w.heap.size w w') : Inv w0 w' base lb gs sts v xs :=
  h.stay (S := fun _ => False) (Kept.of_below hb _) (below_then h.below h.room hb) (fun _ _ h => h) (fun h => h) (fun _ _ h => h)
theorem inv_grown3 (h : Inv w0 w base lb gs sts v xs) {vo : Value} {os : List Int} (hg : w.grownBy w' vo.ownBlock) (hbel : Below base w0 w') (hO : Row w b vo os) (ha : Apart v vo) : Inv w0 w' base lb gs sts v xs :=
  h.stay (S := fun k => vo.ownBlock = some k) (Kept.of_grown hg (Kept.refl w _) (fun k e => .inl e)) hbel
    (fun g hg' e => by obtain ⟨i, hi, rfl⟩ := List.mem_iff_getElem.1 hg'; exact hO.ne (h.toys i hi (h.len ▸ hi)) (by decide) e) (fun e => hO.ne h.log (by decide) e) ha
theorem inv_grown41 (h : Inv w0 w base lb gs sts v xs) {vo : Value} {os : List (Option Nat)} (hg : w.grownBy w' vo.ownBlock) (hbel : Below base w0 w') (hO : Kd.R kw 41 w b (fun _ => True) vo os) : Inv w0 w' base lb gs sts v xs := by
  have ht := kw_typed hO
  refine h.stay (S := fun k => vo.ownBlock = some k) (Kept.of_grown hg (Kept.refl w _) (fun k e => .inl e)) hbel (fun g hg' e => ?_) (fun e => ?_) (fun k hk e => ?_)
  · obtain ⟨i, hi, rfl⟩ := List.mem_iff_getElem.1 hg'
    exact Kd.R_ne hO (h.toys i hi (h.len ▸ hi)) (by decide) e.symm
  · exact Kd.R_ne hO h.log (by decide) e.symm
  · obtain ⟨cs, hc⟩ := ht k e
    exact h.row.ne hc (by decide) hk
end

theorem rpick_length (z : List Int × List Int) (p : Int) : (rpick z p).1.length = z.1.length := by
  unfold rpick
  cases z.1[p.toNat]? with
  | none => rfl
  | some x => by_cases h0 : p < 0 <;> by_cases hx : 0 < x <;> simp [h0, hx]
theorem fold_left (ps : List Int) : ∀ z : List Int × List Int, (ps.foldl rpick z).1.length = z.1.length := by
  induction ps with
  | nil => intro z; rfl
  | cons p ps ih => intro z; rw [List.foldl_cons, ih, rpick_length]
theorem row_kept {w : World} {base : Nat} {A : Option Addr} {n c : Nat} {xs : List Int} {S : Nat → Prop} (h : Row w base (.slice A n c) xs) (hS : ∀ k, (Value.slice A n c).ownBlock = some k → ¬ S k) :
    ∀ W, Kept w W S → Kd.C (Kd.int .i64) W A n xs :=
  Kd.C_kept_own (ok := fun k => (Value.slice A n c).ownBlock = some k) (Row.to h (fun _ hk => hk)) hS

set_option maxHeartbeats 3200000 in
set_option maxRecDepth 100000 in
theorem runs_calls (A0 : Option Addr) (c0 : Nat) (left : List Int) (A1 : Option Addr) (c1 : Nat) (ps : List Int) (w : World) (hr0 : Kd.C (Kd.int .i64) w A0 left.length left) (hc0 : left.length ≤ c0) (hr1 : Kd.C (Kd.int .i64) w A1 ps.length ps) (hc1 : ps.length ≤ c1) :
    Calls Try.prog 3 #[.slice A0 left.length c0, .slice A1 ps.length c1] w fun e w' => e = .returned (.bool true) ∧ Below w.heap.size w w' := by
  have HR0 := Aside0.mk hr0
  have HR1 := Aside0.mk hr1
  have hm0 := Kd.C_max hr0
  have hm1 := Kd.C_max hr1
  clear hr0 hr1
  by_cases h1 : 10 < left.length
  · go_enter Try.func3, Try.ntmps3
    go_wp2_with (go_at_call 8; refine (awake_calls _).mono ?_; rintro e w1 ⟨rfl, hb⟩; have HB := Aside0.mk hb; clear hb)
    go_ret
    exact ⟨rfl, HB.out⟩
  · by_cases h2 : 60 < ps.length
    · go_enter Try.func3, Try.ntmps3
      go_wp2_with (go_at_call 8; refine (awake_calls _).mono ?_; rintro e w1 ⟨rfl, hb⟩; have HB := Aside0.mk hb; clear hb)
      go_ret
      exact ⟨rfl, HB.out⟩
    · go_enter Try.func3, Try.ntmps3
      go_wp2_with (go_at_call 8; refine (awake_calls _).mono ?_; rintro e w1 ⟨rfl, hb⟩; have HB := Aside0.mk hb; clear hb)
      have hlog : (w1.alloc (.cells #[.slice none 0 0] 22)).heap[w1.heap.size]? = some (.cells #[.slice none 0 0] 22 (0, 0)) := blk_new _ _
      have hB1 : Below w.heap.size w (w1.alloc (.cells #[.slice none 0 0] 22)) := below_alloc HB.out _
      have hlb : w.heap.size ≤ w1.heap.size := HB.out.size
      refine (toys_calls _ w1.heap.size A0 c0 left (Kd.C_alloc (Kd.C_below HR0.out HB.out) _) hc0 (by omega)).mono ?_
      rintro e w2 ⟨v, gs, rfl, hR, hl, hM, hb⟩
      have HW := Aside0.mk hR
      have HI := Aside0.mk (inv_of_made hM hl hB1.size (blk_below hlog hb) hlb (below_step hB1 hb))
      have HG := Aside0.mk hl
      have HB1 := Aside0.mk hB1
      have HB2 := Aside0.mk hb
      have HLen : Aside0 (((gs.map some).length + 1) * 16 ≤ 140737488355328 ∧ (([] : List Int).length + ps.length) * 8 ≤ 140737488355328 ∧ (([] ++ ps : List Int).length + 1) * 8 ≤ 140737488355328) := ⟨by rw [List.length_map, hl]; simp; omega⟩
      clear hR hl hM hb hlog hB1 hlb
      go_wp2_with (first
        | ((with_reducible refine gate_builtin (b := .append) (xs := #[.tmp 20, .tmp 21]) rfl ?_); at_builtin; refine Kd.R_append kw (w0 := w1.alloc (.cells #[.slice none 0 0] 22)) (W := w2) (w1.alloc (.cells #[.slice none 0 0] 22)).heap.size rfl (.tmp 20) (.tmp 21) 24 41 .nilIface 16 rfl Try.underlying24 info41 rfl (by decide) (by decide) v (gs.map some) none [.nilIface] (fun _ => True) (fun _ => False) rfl rfl rfl (fun _ hk => hk.elim) (fun _ _ => trivial) HW.out HB2.out HB2.out.size HLen.out.1 ?_; intro v3 w3 hR3 hB3 hg3 hat3; have HW3 := Aside0.mk hR3; have HI3 := Aside0.mk (inv_grown41 HI.out hg3 (below_step HB1.out hB3) HW.out); clear hR3 hB3 hg3 hat3)
        | ((with_reducible refine gate_dst (N := 24) rfl ?_); refine Kd.R_lit (Kd.int .i64) _ 3 ?hg (N := 24) ?hd (xs := ([] : List Int)) (inner := []) (ok := fun _ => True) (okp := fun _ => True) ?hr ?hp (fun _ hk => hk) trivial (Below.refl _ _) (Nat.le_refl _) (by simp) ?_; (case hd => rfl); (case hg => rfl); (case hr => first | (go_simp; done) | (go_simp; rfl)); (case hp => exact (Reps.none _ _)); intro v4 w4 hR4 hb4 hg4 hnew4; have HO4 := Aside0.mk (Row.of (Kd.R_lower hR4 HI3.out.below.size)); have HI4 := Aside0.mk (inv_below HI3.out hb4); have HW4 := Aside0.mk (kw_below HW3.out hb4); clear hR4 hb4 hg4 hnew4)
        | ((with_reducible refine gate_builtin (b := .append) (xs := #[.tmp 24, .tmp 25]) rfl ?_); at_builtin; go_must (refine Kd.R_append_rows (Kd.int .i64) (w0 := w) w.heap.size rfl (.tmp 24) (.tmp 25) 22 3 (.int .i64 0) 8 rfl Try.underlying22 Toy.info3 rfl (by decide) (by decide) v4 [] ps A1 ps.length c1 (fun _ => True) (fun _ => False) rfl rfl HO4.out (Kd.C_below HR1.out HI4.out.below) (fun _ _ h => h) (fun _ h => h.elim) (fun _ _ => trivial) HI4.out.below HI4.out.below.size HLen.out.2.1 ?_); intro v5 w5 hR5 hB5 hg5 hat5; have HO5 := Aside0.mk (Row.of hR5); have HI5 := Aside0.mk (inv_grown3 HI4.out hg5 hB5 HO4.out (fun k hk => by simp [Value.ownBlock] at hk)); have HW5 := Aside0.mk (kw_grown HW4.out hg5 (row_typed HO4.out)); clear hR5 hB5 hg5 hat5)
        | ((with_reducible refine gate_builtin (b := .append) (xs := #[.tmp 26, .tmp 29]) rfl ?_); at_builtin; go_must (refine Kd.R_append (Kd.int .i64) (w0 := w) (W := w5) w.heap.size rfl (.tmp 26) (.tmp 29) 22 3 (.int .i64 0) 8 rfl Try.underlying22 Toy.info3 rfl (by decide) (by decide) v5 ([] ++ ps) (left.length : Int) [.int .i64 (left.length : Int)] (fun _ => True) (fun _ => False) rfl rfl rfl (fun _ hk => hk.elim) (fun _ _ => trivial) HO5.out HI5.out.below HI5.out.below.size HLen.out.2.2 ?_); intro v6 w6 hR6 hB6 hg6 hat6; have HO6 := Aside0.mk (Row.of hR6); have HI6 := Aside0.mk (inv_grown3 HI5.out hg6 hB6 HO5.out (fun k hk => by simp [Value.ownBlock] at hk)); have HW6 := Aside0.mk (kw_grown HW5.out hg6 (row_typed HO5.out)); clear hR6 hB6 hg6 hat6))
      obtain ⟨A3, c3, rfl⟩ := Kd.R_slice HW6.out
      obtain ⟨A6, c6, rfl⟩ := Kd.R_slice HO6.out
      refine (run_own (m := 1) ([] ++ ps ++ [(left.length : Int)]) HI6.out HW6.out (by simp)
        (row_kept HO6.out (fun k hk => by
          obtain ⟨cs, hc⟩ := row_typed HO6.out k hk
          exact may_not HI6.out hc (by decide) (by decide) (by simp [Value.ownBlock])))
        (Kd.R_reads' HO6.out).2.1 (by simp; omega)).mono ?_
      rintro e w7 ⟨vo, T, ys, os, u, rfl, hf, hI7, hO7, hV7, hA7, hK7, hU7⟩
      obtain ⟨T', l', d, hd1, hd2, hrel⟩ := fold_sim ps (rel_start left)
      have hlen : l'.length = left.length := by
        have := fold_left ps (left, [])
        rw [hd2] at this
        exact this
      have hdl : d.length ≤ ps.length := by
        have := fold_length ps left []
        rw [hd2] at this
        simpa using this
      obtain ⟨kr, hkr⟩ := ref_some left ps (by omega) (by omega)
      rw [hd2] at hkr
      rw [List.nil_append, List.foldl_append, hd1, List.foldl_cons, List.foldl_nil, pick_out _ _ (.inr (by show T'.length ≤ _; rw [hrel.len, hlen]; simp)), List.nil_append] at hf
      simp only [Prod.mk.injEq] at hf
      obtain ⟨rfl, rfl, rfl⟩ := hf
      obtain ⟨Ao, co, rfl⟩ := Kd.R_slice hO7
      obtain ⟨Au, cu, rfl⟩ := Kd.R_slice hI7.row
      have HI7 := Aside0.mk hI7
      have HO7 := Aside0.mk hO7
      have HK7 := Aside0.mk hkr
      have HD7 := Aside0.mk hdl
      clear hd1 hd2 hrel hlen hdl hkr hI7 hO7 hV7 hA7 hK7 hU7 HW6 HO6 HI6 HW5 HO5 HI5 HW4 HO4 HI4 HW3 HI3 HI HW
      go_wp2_with (go_at_call 12; refine (holtref16_Run.calls kr _ _ left _ _ ps d _ (Kd.C_below HR0.out HI7.out.below) hc0 (Kd.C_below HR1.out HI7.out.below) hc1 HK7.out).mono ?_; rintro e w8 ⟨v8, rfl, hR8, hB8⟩; have HR8 := Aside0.mk hR8; have HI8 := Aside0.mk (inv_below HI7.out hB8); have HO8 := Aside0.mk (Kd.R_below HO7.out hB8); clear hR8 hB8)
      obtain ⟨A8, c8, rfl⟩ := Kd.R_slice HR8.out
      refine (holtref01_Ints.calls (d.length + 1) _ _ d _ _ d true _ (Kd.R_reads' HO8.out).2.2 (Kd.R_reads' HO8.out).2.1 (Kd.R_reads' HR8.out).2.2 (Kd.R_reads' HR8.out).2.1 (ints_same d (by have := HD7.out; omega))).mono ?_
      rintro e w9 ⟨rfl, ⟨nd, rfl⟩⟩
      have hcl : (w8.drewN nd).cell? ⟨w1.heap.size, 0, none⟩ = some (.slice Au d.length cu) := (blk_cell (blk_drewN HI8.out.log _) 0).trans rfl
      have HI9 := Aside0.mk (inv_below HI8.out (pw_below_drewN (Below.refl _ _) nd))
      have HO9 := Aside0.mk (Kd.R_drewN HO8.out nd)
      go_wp2_with (go_at_call 11; refine (holtref01_Ints.calls (d.length + 1) _ _ d _ _ d true _ (Kd.R_reads' HI9.out.row).2.2 (Kd.R_reads' HI9.out.row).2.1 (Kd.R_reads' HO9.out).2.2 (Kd.R_reads' HO9.out).2.1 (ints_same d (by have := HD7.out; omega))).mono ?_; rintro e w10 ⟨rfl, ⟨nd2, rfl⟩⟩)
      go_ret
      exact ⟨rfl, pw_below_drewN HI8.out.below (nd + nd2)⟩
end Go.Proofs.Ytbojnjomhjajaaa.Runs
