/- What the laws of layer 16 are walked with: literals, the toys at first, Run over workers of the law's own; and the contract of awake: it is true. -/
import Derived.Test.YtbojnjomhjajaaaToys
import Derived.Test.YtbojnjomhjajaaaBSchedRunsx1
import Derived.Test.YtbojnjomhjajaaaBSchedRunsx2
namespace Go.Proofs.Ytbojnjomhjajaaa.Hand
open Go.RowKit Go.Proofs.YtbojnjomhjajaaaW.PrintWords Go.Proofs.YtbojnjomhjajaaaW.PrintLast Go.Proofs.YtbojnjomhjajaaaW.PrintMore Go.Proofs.Ytbojnjomhjajaaa.Toy Go.Proofs.Ytbojnjomhjajaaa.Run Go.Proofs.Ytbojnjomhjajaaa.Toys Go.Proofs.Ytbojnjomhjajaaa.BSchedRuns
set_option linter.unusedVariables false
set_option linter.unusedSimpArgs false

/-- A literal's numbers, as they lie in a block that is known whole, can be read. -/
theorem lit_C {w : World} {g : Nat} {t : TypeId} {fr : Nat × Nat} (xs : List Int) (h : w.heap[g]? = some (.cells (xs.map (Value.int .i64)).toArray t fr)) (hm : xs.length ≤ 9223372036854775807) :
    Kd.C (Kd.int .i64) w (some ⟨g, 0, none⟩) xs.length xs := by
  refine Kd.C_of_reads (enc := Value.int .i64) (d := (0 : Int)) (h1 := fun _ => rfl) ⟨rfl, hm, fun _ => ⟨_, rfl, fun j hj => ?_⟩⟩
  have e : (⟨g, 0, none⟩ : Addr).add j = ⟨g, j, none⟩ := by unfold Addr.add; split <;> simp_all
  rw [e]
  simp [World.cell?, h, hj]
theorem lit_kept {w : World} {g : Nat} {t : TypeId} {fr : Nat × Nat} {S : Nat → Prop} (xs : List Int) (h : w.heap[g]? = some (.cells (xs.map (Value.int .i64)).toArray t fr)) (hm : xs.length ≤ 9223372036854775807) (hS : ¬ S g) :
    ∀ W, Kept w W S → Kd.C (Kd.int .i64) W (some ⟨g, 0, none⟩) xs.length xs := fun W hk => lit_C xs (blk_kept h hk hS) hm
/-- The toys at first. -/
def start (left : List Int) : List St := (List.range left.length).map fun (i : Nat) => (⟨(i : Int), left.getD i 0, 0⟩ : St)
theorem start_length (left : List Int) : (start left).length = left.length := by simp [start]
theorem start_get (left : List Int) (i : Nat) (h : i < left.length) (h' : i < (start left).length) : (start left)[i] = ⟨(i : Int), left[i], 0⟩ := by simp [start, h]
theorem inv_of_made {w0 w : World} {base n lb : Nat} {gs : List Nat} {left : List Int} (h : Made w n lb gs left) (hl : gs.length = left.length) (hn : base ≤ n) (hlog : w.heap[lb]? = some (.cells #[.slice none 0 0] 22 (0, 0))) (hlb : base ≤ lb) (hb : Below base w0 w) :
    Inv w0 w base lb gs (start left) (.slice none 0 0) [] where
  len := by rw [start_length]; exact hl
  toys := fun i hi hi' => by
    rw [start_get left i (by omega)]
    exact h.toys i hi (by omega)
  nodup := h.nodup
  old := fun g hg => Nat.le_trans hn (h.old g hg)
  log := hlog
  lold := hlb
  row := Kd.R_nil _ _ _ _ _
  below := hb
/-- The workers' row is read on, whatever the toys do. -/
theorem ws_kept {w : World} {base : Nat} {A : Option Addr} {n c : Nat} {xs : List (Option Nat)} {S : Nat → Prop} (h : Kd.R kw 41 w base (fun _ => True) (.slice A n c) xs) (hS : ∀ k, (Value.slice A n c).ownBlock = some k → ¬ S k) :
    ∀ W, Kept w W S → Kd.C kw W A n xs :=
  Kd.C_kept_own (ok := fun k => (Value.slice A n c).ownBlock = some k) (show Kd.R kw 41 w base (fun k => (Value.slice A n c).ownBlock = some k) (.slice A n c) xs from ⟨fun _ hk => hk, h.2.imp_ (fun _ _ hp => hp)⟩) hS
/-- What Run may write: the toys, the list of all steps. -/
def May (gs : List Nat) (lb : Nat) (v : Value) (k : Nat) : Prop := k ∈ gs ∨ k = lb ∨ v.ownBlock = some k
theorem may_not {w0 w : World} {base lb : Nat} {gs : List Nat} {sts : List St} {v : Value} {xs : List Int} (h : Inv w0 w base lb gs sts v xs) {g t : Nat} {cs : Array Value} {fr : Nat × Nat} (hb : w.heap[g]? = some (.cells cs t fr)) (h1 : t ≠ 38) (h2 : t ≠ 22) (h3 : v.ownBlock ≠ some g) : ¬ May gs lb v g := by
  rintro (e | e | e)
  · obtain ⟨i, hi, rfl⟩ := List.mem_iff_getElem.1 e
    have := h.toys i hi (h.len ▸ hi)
    rw [hb] at this
    injection this with this
    injection this with _ this
    exact h1 this
  · subst e
    have := h.log
    rw [hb] at this
    injection this with this
    injection this with _ this
    exact h2 this
  · exact h3 e


theorem inv_alloc {w0 w : World} {base lb : Nat} {gs : List Nat} {sts : List St} {v : Value} {xs : List Int} (h : Inv w0 w base lb gs sts v xs) (o : Obj) : Inv w0 (w.alloc o) base lb gs sts v xs :=
  h.stay (S := fun _ => False) ((Kept.refl w _).alloc o) (h.below.alloc h.room o) (fun _ _ h => h) (fun h => h) (fun _ _ h => h)
/-- Run, over a row of workers of the law's own. -/
theorem run_own {w0 w : World} {base lb m : Nat} {gs : List Nat} {sts : List St} {v : Value} {xs : List Int} {A0 : Option Addr} {c0 b0 n : Nat} {A1 : Option Addr} {c1 : Nat} (ps : List Int)
    (hI : Inv w0 w base lb gs sts v xs) (hws : Kd.R kw 41 w b0 (fun _ => True) (.slice A0 n c0) (gs.map some ++ List.replicate m none)) (hn : n = gs.length + m)
    (hps : ∀ W, Kept w W (May gs lb v) → Kd.C (Kd.int .i64) W A1 ps.length ps) (hpc : ps.length ≤ c1) (hxs : xs.length + ps.length ≤ 1000000) :
    Calls Try.prog 10 #[.slice A0 n c0, .slice A1 ps.length c1] w fun e w' => ∃ vo T ys os u, e = .returned vo ∧ ps.foldl pick (sts, xs, []) = (T, ys, os) ∧ Inv w0 w' base lb gs T u ys ∧ Row w' base vo os ∧ (∀ k, vo.ownBlock = some k → w.heap.size ≤ k) ∧ Apart u vo ∧
      Kept w w' (May gs lb v) ∧ (∀ k, u.ownBlock = some k → May gs lb v k ∨ w.heap.size ≤ k) := by
  subst hn
  have h2 := Kd.R_reads' hws
  refine run_calls w0 w base lb gs m sts v xs (May gs lb v) A0 c0 A1 c1 ps hI (fun _ h => h) (ws_kept hws (fun k hk hm => ?_)) h2.2.1 hps hpc hxs
  obtain ⟨inner, ho⟩ := Kd.R_own hws
  obtain ⟨cs, hc⟩ := own_typed ho k hk
  exact may_not hI hc (by decide) (by decide) (hI.row.ne hc (by decide)) hm

set_option maxHeartbeats 1600000 in
set_option maxRecDepth 100000 in
theorem awake_calls (w : World) : Calls Try.prog 8 #[] w fun e w' => e = .returned (.bool true) ∧ Below w.heap.size w w' := by
  go_enter Try.func8, Try.ntmps8
  go_wp2_with fail
  have hlog : ((w.alloc (.cells #[.slice none 0 0] 22)).alloc (.cells #[.int .i64 2, .int .i64 2, .int .i64 2] 3)).heap[w.heap.size]? = some (.cells #[.slice none 0 0] 22 (0, 0)) := blk_alloc (blk_new _ _) _
  have hlit : ((w.alloc (.cells #[.slice none 0 0] 22)).alloc (.cells #[.int .i64 2, .int .i64 2, .int .i64 2] 3)).heap[w.heap.size + 1]? = some (.cells (([2, 2, 2] : List Int).map (Value.int .i64)).toArray 3 (0, 0)) := by
    have h := blk_new (w.alloc (.cells #[.slice none 0 0] 22)) (.cells #[.int .i64 2, .int .i64 2, .int .i64 2] 3)
    rw [World.size_alloc] at h
    exact h
  have hB : Below w.heap.size w ((w.alloc (.cells #[.slice none 0 0] 22)).alloc (.cells #[.int .i64 2, .int .i64 2, .int .i64 2] 3)) := below_alloc (below_alloc (Below.refl _ _) _) _
  generalize (w.alloc (.cells #[.slice none 0 0] 22)).alloc (.cells #[.int .i64 2, .int .i64 2, .int .i64 2] 3) = w1 at hlog hlit hB ⊢
  refine (toys_calls w1 w.heap.size (some ⟨w.heap.size + 1, 0, none⟩) 3 [2, 2, 2] (lit_C _ hlit (by decide)) (by decide) (by decide)).mono ?_
  rintro e w2 ⟨v, gs, rfl, hR, hl, hM, hb⟩
  obtain ⟨A0, c0, rfl⟩ := Kd.R_slice hR
  have HW := Aside0.mk hR
  have HI := Aside0.mk (inv_of_made hM hl hB.size (blk_below hlog hb) (Nat.le_refl _) (below_step hB hb))
  have HG := Aside0.mk hl
  clear hR hl hM hb hlog hlit hB
  have HL2 := Aside0.mk (blk_new w2 (.cells #[.int .i64 0, .int .i64 0, .int .i64 0, .int .i64 2, .int .i64 9, .int .i64 (-1), .int .i64 1] 3))
  have HI2 := Aside0.mk (inv_alloc HI.out (.cells #[.int .i64 0, .int .i64 0, .int .i64 0, .int .i64 2, .int .i64 9, .int .i64 (-1), .int .i64 1] 3))
  have HW2 := Aside0.mk (Kd.R_alloc HW.out (.cells #[.int .i64 0, .int .i64 0, .int .i64 0, .int .i64 2, .int .i64 9, .int .i64 (-1), .int .i64 1] 3))
  clear HI HW
  go_wp2_with fail
  refine (run_own (m := 0) [0, 0, 0, 2, 9, -1, 1] HI2.out (by simpa using HW2.out) (by simp) (lit_kept _ HL2.out (by decide) (may_not HI2.out HL2.out (by decide) (by decide) (by simp [Value.ownBlock]))) (by decide) (by decide)).mono ?_
  rintro e w3 ⟨vo, T, ys, os, u, rfl, hf, hI3, hO3, hV3, hA3, hK3, hU3⟩
  obtain ⟨rfl, rfl⟩ : ys = [0, 0, 2, 1] ∧ os = [0, 0, 2, 1] := by
    have h1 : ((([0, 0, 0, 2, 9, -1, 1] : List Int).foldl pick (start [2, 2, 2], [], [])).2) = ([0, 0, 2, 1], [0, 0, 2, 1]) := by decide +kernel
    rw [hf] at h1
    simpa using h1
  obtain ⟨Au, cu, rfl⟩ := Kd.R_slice hI3.row
  obtain ⟨Ao, co, rfl⟩ := Kd.R_slice hO3
  have hcl : w3.cell? ⟨w.heap.size, 0, none⟩ = some (.slice Au ([0, 0, 2, 1] : List Int).length cu) := (blk_cell hI3.log 0).trans rfl
  have HI4 := Aside0.mk hI3
  have HO4 := Aside0.mk hO3
  clear hf hV3 hA3 hK3 hU3 hI3 hO3
  have HL4 := Aside0.mk (blk_new w3 (.cells #[.int .i64 0, .int .i64 0, .int .i64 2, .int .i64 1] 3))
  go_wp2_with fail
  refine (holtref01_Ints.calls 9 _ _ [0, 0, 2, 1] _ _ [0, 0, 2, 1] true _ (Kd.C_alloc (Kd.R_reads' HO4.out).2.2 _) (Kd.R_reads' HO4.out).2.1 (lit_C _ HL4.out (by decide)) (by decide) (by decide +kernel)).mono ?_
  rintro e w' ⟨rfl, ⟨nd, rfl⟩⟩
  have hcl4 : ((w3.alloc (.cells #[.int .i64 0, .int .i64 0, .int .i64 2, .int .i64 1] 3)).drewN nd).cell? ⟨w.heap.size, 0, none⟩ = some (.slice Au ([0, 0, 2, 1] : List Int).length cu) :=
    (blk_cell (blk_drewN (blk_alloc HI4.out.log _) nd) 0).trans rfl
  clear hcl
  go_wp2_with fail
  refine (holtref01_Ints.calls 9 _ _ [0, 0, 2, 1] _ _ [0, 0, 2, 1] true _ (Kd.C_drewN (Kd.C_alloc (Kd.R_reads' HI4.out.row).2.2 _) _) (Kd.R_reads' HI4.out.row).2.1 (Kd.C_drewN (Kd.C_alloc (Kd.R_reads' HO4.out).2.2 _) _) (Kd.R_reads' HO4.out).2.1 (by decide +kernel)).mono ?_
  rintro e w' ⟨rfl, ⟨nd2, rfl⟩⟩
  have HB4 := Aside0.mk (pw_below_drewN (below_alloc HI4.out.below (.cells #[.int .i64 0, .int .i64 0, .int .i64 2, .int .i64 1] 3)) (nd + nd2))
  go_wp2_with fail
  refine (sched_Round.calls 19 3 2 [0, 1, 2, 0, 1, 2] _ (by decide +kernel)).mono ?_
  rintro e w5 ⟨vr, rfl, hr5, hb5⟩
  obtain ⟨Ar, cr, rfl⟩ := Kd.R_slice hr5
  have HB5 := Aside0.mk (below_step HB4.out hb5)
  have HR5 := Aside0.mk hr5
  clear hr5 hb5
  go_wp2_with fail
  refine (sched_Fair.calls 60 _ _ [0, 1, 2, 0, 1, 2] 3 3 true _ (Kd.R_reads' HR5.out).2.2 (Kd.R_reads' HR5.out).2.1 (by decide +kernel)).mono ?_
  rintro e w6 ⟨rfl, hb6⟩
  have HB6 := Aside0.mk (below_step HB5.out hb6)
  clear hb6
  go_wp2
  go_ret
  exact ⟨rfl, HB6.out⟩
end Go.Proofs.Ytbojnjomhjajaaa.Hand
