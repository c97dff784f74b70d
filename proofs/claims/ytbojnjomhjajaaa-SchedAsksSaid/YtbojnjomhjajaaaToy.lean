/- The contracts of a toy's two methods: Ready asks and counts, Step takes one off and tells the list of all steps. -/
import Derived.Test.YtbojnjomhjajaaaProg
import Derived.Below
import Derived.Deep.Draws
import Derived.OwnWalk
import Derived.Tactics
import Derived.WalkKit
import Derived.KernelRfl
import Derived.RowKit3
import Derived.Deep.LoopGhost
import Derived.Laws.Slices
import Derived.RowKit
import Derived.Test.YtbojnjomhjajaaaWWords
import Derived.Test.YtbojnjomhjajaaaWLast
import Derived.Test.YtbojnjomhjajaaaWTab
import Derived.Test.YtbojnjomhjajaaaWKept
import Derived.Test.YtbojnjomhjajaaaWMore
namespace Go.Proofs.Ytbojnjomhjajaaa.Toy
open Go.RowKit Go.Proofs.YtbojnjomhjajaaaW.PrintWords Go.Proofs.YtbojnjomhjajaaaW.PrintLast Go.Proofs.YtbojnjomhjajaaaW.PrintMore

set_option linter.unusedVariables false
set_option linter.unusedSimpArgs false
/-- A toy: its number, how often it is ready, how often it was asked. -/
structure St where
  n : Int
  left : Int
  asked : Int
/-- A toy's cells; lb: the block of the list of all steps. -/
def cells (lb : Nat) (t : St) : Array Value := #[.int .i64 t.n, .int .i64 t.left, .int .i64 t.asked, .pointer (some ⟨lb, 0, none⟩)]
theorem cells_asked (lb : Nat) (t : St) (x : Int) : (cells lb t).setIfInBounds 2 (.int .i64 x) = cells lb { t with asked := x } := rfl
theorem cells_left (lb : Nat) (t : St) (x : Int) : (cells lb t).setIfInBounds 1 (.int .i64 x) = cells lb { t with left := x } := rfl

theorem info3 : (Try.prog.info? 3).map (fun i => (i.zero, i.size, i.bytes)) = some (some (.int .i64 0), 1, 8) := by kernel_rfl
/-- An operation that gives a value. -/
theorem val_ {P : Program} {ops : Array Oper} {Q : Exit → Act → World → Prop} {oi : Oper} {N : Option Tmp} {a : Act} {w w1 : World} {v : Value} {K : Act → World → Prop} (hw : Region.wanted oi (yielded ops a.tmps) = true) (hN : oi.dst = N) (hrun : (execOp a.eval oi).run P w = .ok (.value v) w1)
    (h : K (a.put N v) w1) : if Region.wanted oi (yielded ops a.tmps) = true then Oper.wp P oi a w K Q else K (a.put N undef) w := by
  rw [if_pos hw]
  unfold Oper.wp
  rw [hrun]
  show K (a.put oi.dst v) w1
  rw [hN]
  exact h

set_option maxHeartbeats 800000 in
theorem ready_calls (w : World) (g lb : Nat) (t : St) (hb : w.heap[g]? = some (.cells (cells lb t) 38 (0, 0))) :
    Calls Try.prog 33 #[.pointer (some ⟨g, 0, none⟩)] w fun e w' => e = .returned (.bool (decide (0 < t.left))) ∧ w' = w.setCell ⟨g, 2, none⟩ (.int .i64 (wrap64 (t.asked + 1))) := by
  have c1 : w.cell? ⟨g, 1, none⟩ = some (.int .i64 t.left) := (blk_cell hb 1).trans rfl
  have c2 : w.cell? ⟨g, 2, none⟩ = some (.int .i64 t.asked) := (blk_cell hb 2).trans rfl
  have f2 : w.frozen? ⟨g, 2, none⟩ = false := blk_frozen hb 2
  have HB := Aside0.mk hb
  clear hb
  go_enter Try.func33, Try.ntmps33
  go_wp2
  go_ret
  exact ⟨rfl, rfl⟩

set_option maxHeartbeats 800000 in
theorem step_calls (w : World) (g lb base : Nat) (t : St) (v : Value) (xs : List Int) (ok : Nat → Prop) (hb : w.heap[g]? = some (.cells (cells lb t) 38 (0, 0))) (hl : w.heap[lb]? = some (.cells #[v] 22 (0, 0)))
    (hR : Kd.R (Kd.int .i64) 3 w base ok v xs) (w0 : World) (hbw : Below base w0 w) (hbg : base ≤ g) (hbl : base ≤ lb) (hfresh : ∀ k, w.heap.size ≤ k → ok k) (hlen : xs.length ≤ 1000000) :
    Calls Try.prog 34 #[.pointer (some ⟨g, 0, none⟩)] w fun e w' => e = .returned (.tuple #[]) ∧ ∃ v', w'.heap[g]? = some (.cells (cells lb { t with left := wrap64 (t.left - 1) }) 38 (0, 0)) ∧ w'.heap[lb]? = some (.cells #[v'] 22 (0, 0)) ∧
      Kd.R (Kd.int .i64) 3 w' base ok v' (xs ++ [t.n]) ∧ Below base w0 w' ∧ Kept w w' (fun k => k = g ∨ k = lb ∨ v.ownBlock = some k) ∧ (v'.ownBlock = v.ownBlock ∨ ∃ b, v'.ownBlock = some b ∧ w.heap.size ≤ b) := by
  have c0 : w.cell? ⟨g, 0, none⟩ = some (.int .i64 t.n) := (blk_cell hb 0).trans rfl
  have c1 : w.cell? ⟨g, 1, none⟩ = some (.int .i64 t.left) := (blk_cell hb 1).trans rfl
  have c3 : w.cell? ⟨g, 3, none⟩ = some (.pointer (some ⟨lb, 0, none⟩)) := (blk_cell hb 3).trans rfl
  have f1 : w.frozen? ⟨g, 1, none⟩ = false := blk_frozen hb 1
  have HB := Aside0.mk hb
  have HL := Aside0.mk hl
  have HR := Aside0.mk hR
  clear hb hl hR
  go_enter Try.func34, Try.ntmps34
  go_wp2
  have HB1 := Aside0.mk ((cells_left lb t (wrap64 (t.left - 1))) ▸ blk_set HB.out 1 _)
  have hgl : g ≠ lb := blk_ne HB.out HL.out (by decide)
  have HL1 := Aside0.mk (blk_far (p := ⟨g, 1, none⟩) HL.out (fun e => hgl e.symm) (.int .i64 (wrap64 (t.left - 1))))
  have HR1 := Aside0.mk (Kd.R_set HR.out HB.out (by decide) 1 (.int .i64 (wrap64 (t.left - 1))))
  have HW1 := Aside0.mk (hbw.setCell (p := ⟨g, 1, none⟩) hbg (.int .i64 (wrap64 (t.left - 1))))
  have HK1 := Aside0.mk ((Kept.refl w (fun k => k = g ∨ k = lb ∨ v.ownBlock = some k)).setCell (p := ⟨g, 1, none⟩) (.inl (.inl rfl)) (.int .i64 (wrap64 (t.left - 1))))
  have hsz : (w.setCell ⟨g, 1, none⟩ (.int .i64 (wrap64 (t.left - 1)))).heap.size = w.heap.size := by simp [World.setCell]
  have hsz0 : base ≤ w.heap.size := Nat.le_of_lt (Nat.lt_of_le_of_lt hbg (blk_lt HB.out))
  have hfresh1 : ∀ k, (w.setCell ⟨g, 1, none⟩ (.int .i64 (wrap64 (t.left - 1)))).heap.size ≤ k → ok k := fun k hk => hfresh k (hsz ▸ hk)
  generalize w.setCell ⟨g, 1, none⟩ (.int .i64 (wrap64 (t.left - 1))) = w1 at HB1 HL1 HR1 HW1 HK1 hsz hfresh1 ⊢
  have HSZ := Aside0.mk hsz
  clear hsz
  refine start_ (n := 18) (S := fun w' => w'.cell? ⟨g, 0, none⟩ = some (.int .i64 t.n) ∧ w'.cell? ⟨g, 3, none⟩ = some (.pointer (some ⟨lb, 0, none⟩)) ∧ w'.cell? ⟨lb, 0, none⟩ = some v) (ds := [17]) #[false, false, false, false, false, false, false, false, false, false, false, false, false, false, false, false, false, false] (by kernel_rfl) rfl rfl ⟨(blk_cell HB1.out 0).trans rfl, (blk_cell HB1.out 3).trans rfl, (blk_cell HL1.out 0).trans rfl⟩ (fun hHeld => ?_)
  refine pure_ (i := 0) (N := some 9) (v := ?_) (a' := ?_) #[true, false, false, false, false, false, false, false, false, false, false, false, false, false, false, false, false, false] rfl rfl (by kernel_rfl) (fun _ _ _ h => h) (Or.inl ⟨by rfl, ?_⟩) ?_ ?_
  rotate_left
  · intro w'
    go_simp
    with_reducible rfl
  rotate_left
  · simp only [Act.put, List.setIfInBounds_toArray, List.set_cons_zero, List.set_cons_succ, i64_w, i32_w]
    rfl
  refine pure_ (i := 1) (N := some 10) (v := ?_) (a' := ?_) #[true, true, false, false, false, false, false, false, false, false, false, false, false, false, false, false, false, false] rfl rfl (by kernel_rfl) (fun _ _ _ h => h) (Or.inl ⟨by rfl, ?_⟩) ?_ ?_
  rotate_left
  · intro w'
    go_simp
    with_reducible rfl
  rotate_left
  · simp only [Act.put, List.setIfInBounds_toArray, List.set_cons_zero, List.set_cons_succ, i64_w, i32_w]
    rfl
  refine pure_ (i := 2) (N := some 11) (v := ?_) (a' := ?_) #[true, true, true, false, false, false, false, false, false, false, false, false, false, false, false, false, false, false] rfl rfl (by kernel_rfl) (fun _ _ _ h => h) (Or.inl ⟨by rfl, ?_⟩) ?_ ?_
  rotate_left
  · intro w'
    go_simp
    with_reducible rfl
  rotate_left
  · simp only [Act.put, List.setIfInBounds_toArray, List.set_cons_zero, List.set_cons_succ, i64_w, i32_w]
    rfl
  refine take_ (i := 3) (N := some 12) (v := ?_) (a' := ?_) #[true, true, true, true, false, false, false, false, false, false, false, false, false, false, false, false, false, false] rfl rfl (by kernel_rfl) (fun _ _ _ h => h) (Or.inl ⟨by rfl, ?_⟩) hHeld ?_ ?_
  rotate_left
  · intro w' hS
    obtain ⟨s0, s3, sl⟩ := hS
    go_simp
    with_reducible rfl
  rotate_left
  · simp only [Act.put, List.setIfInBounds_toArray, List.set_cons_zero, List.set_cons_succ, i64_w, i32_w]
    rfl
  refine pure_ (i := 4) (N := some 13) (v := ?_) (a' := ?_) #[true, true, true, true, true, false, false, false, false, false, false, false, false, false, false, false, false, false] rfl rfl (by kernel_rfl) (fun _ _ _ h => h) (Or.inl ⟨by rfl, ?_⟩) ?_ ?_
  rotate_left
  · intro w'
    go_simp
    with_reducible rfl
  rotate_left
  · simp only [Act.put, List.setIfInBounds_toArray, List.set_cons_zero, List.set_cons_succ, i64_w, i32_w]
    rfl
  refine pure_ (i := 5) (N := some 14) (v := ?_) (a' := ?_) #[true, true, true, true, true, true, false, false, false, false, false, false, false, false, false, false, false, false] rfl rfl (by kernel_rfl) (fun _ _ _ h => h) (Or.inl ⟨by rfl, ?_⟩) ?_ ?_
  rotate_left
  · intro w'
    go_simp
    with_reducible rfl
  rotate_left
  · simp only [Act.put, List.setIfInBounds_toArray, List.set_cons_zero, List.set_cons_succ, i64_w, i32_w]
    rfl
  refine pure_ (i := 6) (N := some 15) (v := ?_) (a' := ?_) #[true, true, true, true, true, true, true, false, false, false, false, false, false, false, false, false, false, false] rfl rfl (by kernel_rfl) (fun _ _ _ h => h) (Or.inl ⟨by rfl, ?_⟩) ?_ ?_
  rotate_left
  · intro w'
    go_simp
    with_reducible rfl
  rotate_left
  · simp only [Act.put, List.setIfInBounds_toArray, List.set_cons_zero, List.set_cons_succ, i64_w, i32_w]
    rfl
  refine take_ (i := 7) (N := some 16) (v := ?_) (a' := ?_) #[true, true, true, true, true, true, true, true, false, false, false, false, false, false, false, false, false, false] rfl rfl (by kernel_rfl) (fun _ _ _ h => h) (Or.inl ⟨by rfl, ?_⟩) hHeld ?_ ?_
  rotate_left
  · intro w' hS
    obtain ⟨s0, s3, sl⟩ := hS
    go_simp
    with_reducible rfl
  rotate_left
  · simp only [Act.put, List.setIfInBounds_toArray, List.set_cons_zero, List.set_cons_succ, i64_w, i32_w]
    rfl
  refine pure_ (i := 8) (N := some 17) (v := ?_) (a' := ?_) #[true, true, true, true, true, true, true, true, true, false, false, false, false, false, false, false, false, false] rfl rfl (by kernel_rfl) (fun _ _ _ h => h) (Or.inl ⟨by rfl, ?_⟩) ?_ ?_
  rotate_left
  · intro w'
    go_simp
    with_reducible rfl
  rotate_left
  · simp only [Act.put, List.setIfInBounds_toArray, List.set_cons_zero, List.set_cons_succ, i64_w, i32_w]
    rfl
  refine take_ (i := 9) (N := some 18) (v := ?_) (a' := ?_) #[true, true, true, true, true, true, true, true, true, true, false, false, false, false, false, false, false, false] rfl rfl (by kernel_rfl) (fun _ _ _ h => h) (Or.inl ⟨by rfl, ?_⟩) hHeld ?_ ?_
  rotate_left
  · intro w' hS
    obtain ⟨s0, s3, sl⟩ := hS
    go_simp
    with_reducible rfl
  rotate_left
  · simp only [Act.put, List.setIfInBounds_toArray, List.set_cons_zero, List.set_cons_succ, i64_w, i32_w]
    rfl
  refine pure_ (i := 10) (N := some 19) (v := ?_) (a' := ?_) #[true, true, true, true, true, true, true, true, true, true, true, false, false, false, false, false, false, false] rfl rfl (by kernel_rfl) (fun _ _ _ h => h) (Or.inl ⟨by rfl, ?_⟩) ?_ ?_
  rotate_left
  · intro w'
    go_simp
    with_reducible rfl
  rotate_left
  · simp only [Act.put, List.setIfInBounds_toArray, List.set_cons_zero, List.set_cons_succ, i64_w, i32_w]
    rfl
  refine pure_ (i := 11) (N := some 20) (v := ?_) (a' := ?_) #[true, true, true, true, true, true, true, true, true, true, true, true, false, false, false, false, false, false] rfl rfl (by kernel_rfl) (fun _ _ _ h => h) (Or.inl ⟨by rfl, ?_⟩) ?_ ?_
  rotate_left
  · intro w'
    go_simp
    with_reducible rfl
  rotate_left
  · simp only [Act.put, List.setIfInBounds_toArray, List.set_cons_zero, List.set_cons_succ, i64_w, i32_w]
    rfl
  refine pure_ (i := 12) (N := some 21) (v := ?_) (a' := ?_) #[true, true, true, true, true, true, true, true, true, true, true, true, true, false, false, false, false, false] rfl rfl (by kernel_rfl) (fun _ _ _ h => h) (Or.inl ⟨by rfl, ?_⟩) ?_ ?_
  rotate_left
  · intro w'
    go_simp
    with_reducible rfl
  rotate_left
  · simp only [Act.put, List.setIfInBounds_toArray, List.set_cons_zero, List.set_cons_succ, i64_w, i32_w]
    rfl
  refine take_ (i := 13) (N := some 22) (v := ?_) (a' := ?_) #[true, true, true, true, true, true, true, true, true, true, true, true, true, true, false, false, false, false] rfl rfl (by kernel_rfl) (fun _ _ _ h => h) (Or.inl ⟨by rfl, ?_⟩) hHeld ?_ ?_
  rotate_left
  · intro w' hS
    obtain ⟨s0, s3, sl⟩ := hS
    go_simp
    with_reducible rfl
  rotate_left
  · simp only [Act.put, List.setIfInBounds_toArray, List.set_cons_zero, List.set_cons_succ, i64_w, i32_w]
    rfl
  refine one_ (i := 14) (N := some 23) #[true, true, true, true, true, true, true, true, true, true, true, true, true, true, true, false, false, false] rfl rfl (by kernel_rfl) (by decide) (fun K hK => ?_)
  refine val_ (w1 := w1.drew.alloc (.cells #[.int .i64 t.n] 3)) (v := ?_) (by rfl) rfl ?_ ?_
  rotate_left
  · go_simp
    rfl
  have HB2 := Aside0.mk (blk_alloc (blk_drew HB1.out) (.cells #[.int .i64 t.n] 3))
  have HL2 := Aside0.mk (blk_alloc (blk_drew HL1.out) (.cells #[.int .i64 t.n] 3))
  refine hK.out _ _ ⟨(blk_cell HB2.out 0).trans rfl, (blk_cell HB2.out 3).trans rfl, (blk_cell HL2.out 0).trans rfl⟩ (fun hHeld => ?_)
  clear hK K
  refine norm_ (a' := ?_) ?_ ?_
  rotate_left
  · show Act.put _ (some 23) _ = _
    simp only [Act.put, List.setIfInBounds_toArray, List.set_cons_zero, List.set_cons_succ, i64_w, i32_w]
    rfl
  refine one_ (i := 15) (N := some 24) #[true, true, true, true, true, true, true, true, true, true, true, true, true, true, true, true, false, false] rfl rfl (by kernel_rfl) (by decide) (fun K hK => ?_)
  refine Kd.R_append_step (Kd.int .i64) (w0 := w0) (W := w1.drew) base (by rfl) (.tmp 18) (.tmp 23) 22 3 (.int .i64 0) 8 rfl Try.underlying22 info3 rfl (by decide) (by decide) v xs t.n [.int .i64 t.n] ok (fun _ => False) rfl rfl rfl (fun _ hk => hk.elim) hfresh1 (Kd.R_drew HR1.out) (below_drew1 HW1.out) (HSZ.out ▸ hsz0) (by omega) ?_
  intro v2 w2 hR2 hB2 hg2 hat
  have HB3 := Aside0.mk (blk_grown (blk_drew HB1.out) hg2 (Kd.R_ne HR1.out HB1.out (by decide)))
  have HL3 := Aside0.mk (blk_grown (blk_drew HL1.out) hg2 (Kd.R_ne HR1.out HL1.out (by decide)))
  refine hK.out _ _ ⟨(blk_cell HB3.out 0).trans rfl, (blk_cell HB3.out 3).trans rfl, (blk_cell HL3.out 0).trans rfl⟩ (fun hHeld => ?_)
  clear hK K
  refine norm_ (a' := ?_) ?_ ?_
  rotate_left
  · show Act.put _ (some 24) _ = _
    simp only [Act.put, List.setIfInBounds_toArray, List.set_cons_zero, List.set_cons_succ, i64_w, i32_w]
    rfl
  refine pure_ (i := 16) (N := some 25) (v := ?_) (a' := ?_) #[true, true, true, true, true, true, true, true, true, true, true, true, true, true, true, true, true, false] rfl rfl (by kernel_rfl) (fun _ _ _ h => h) (Or.inl ⟨by rfl, ?_⟩) ?_ ?_
  rotate_left
  · intro w'
    go_simp
    with_reducible rfl
  rotate_left
  · simp only [Act.put, List.setIfInBounds_toArray, List.set_cons_zero, List.set_cons_succ, i64_w, i32_w]
    rfl
  refine last_ (i := 17) (N := none) #[true, true, true, true, true, true, true, true, true, true, true, true, true, true, true, true, true, true] rfl rfl (by kernel_rfl) (by decide) (fun K hK => ?_)
  obtain ⟨A2, c2, e2⟩ := Kd.R_slice hR2
  subst e2
  have hcl := (blk_cell HL3.out 0).trans rfl
  have hfl := blk_frozen HL3.out 0
  refine skip_ (w1 := w2.setCell ⟨lb, 0, none⟩ (.slice A2 (xs ++ [t.n]).length c2)) (by rfl) rfl ?_ ?_
  · go_simp
  refine hK.out _ _ ?_
  clear hK K
  refine done_ (by kernel_rfl) ?_
  try go_wp2
  go_end0
  have HK2 := (Kept.of_grown (row := v.ownBlock) hg2 (Kept.drew HK1.out) (fun k hk => .inl (.inr (.inr hk)))).setCell (p := ⟨lb, 0, none⟩) (.inl (.inr (.inl rfl))) (.slice A2 (xs ++ [t.n]).length c2)
  refine ⟨rfl, _, blk_far (p := ⟨lb, 0, none⟩) HB3.out hgl _, blk_put HL3.out 0 _ rfl, Kd.R_set hR2 HL3.out (by decide) 0 _, hB2.setCell hbl _, HK2, hat.imp id (fun ⟨b, hb, hle⟩ => ⟨b, hb, by rw [← HSZ.out]; exact hle⟩)⟩

end Go.Proofs.Ytbojnjomhjajaaa.Toy
