/- Layer 09: the contracts of the document's Put and Free. -/
import Derived.Test.YtcdfkjcnjdbmgaaDocNext
namespace Go.Proofs.Ytcdfkjcnjdbmgaa.DocPut
open Go.RowKit Go.Proofs.YtcdfkjcnjdbmgaaW.PrintWords Go.Proofs.YtcdfkjcnjdbmgaaW.PrintLast Go.Proofs.YtcdfkjcnjdbmgaaW.PrintMore Go.Proofs.Ytcdfkjcnjdbmgaa.Core Go.Proofs.Ytcdfkjcnjdbmgaa.Put Go.Proofs.Ytcdfkjcnjdbmgaa.Find Go.Proofs.Ytcdfkjcnjdbmgaa.Doc Go.Proofs.Ytcdfkjcnjdbmgaa.DocNext
set_option linter.unusedVariables false
set_option linter.unusedSimpArgs false
theorem info35 : (Try.prog.info? 35).map (fun i => (i.zero, i.size, i.bytes)) = some (some (.agg #[.int .i64 0, .int .i64 0, .int .i64 0, .bool false, .int .i64 0]), 5, 40) := by kernel_rfl
set_option maxHeartbeats 3200000 in
set_option maxRecDepth 100000 in
theorem dput_no {w0 w : World} {base g : Nat} {m n : Int} {L : List Pt} (x : Int) (hI : Doc w0 w base g m L n) (hl : L.length ≤ 1000) (hm : m ≤ ((L.countP Pt.lies : Nat) : Int)) :
    Calls Try.prog 11 #[.pointer (some ⟨g, 0, none⟩), .int .i64 x] w fun e w' => e = .returned (.tuple #[.agg #[.int .i64 0, .int .i64 0], .bool false]) ∧ Below w.heap.size w w' := by
  have HD0 := Aside0.mk hI
  have hbase := hI.room
  have HD1 := Aside0.mk (hI.then_ (below_alloc (Below.refl w.heap.size w) (.cells #[.int .i64 0, .int .i64 0] 31)))
  have HY1 := Aside0.mk (blk_new w (.cells #[.int .i64 0, .int .i64 0] 31))
  have HG1 : Aside0 ((w.alloc (.cells #[.int .i64 0, .int .i64 0] 31)).cell? ⟨g, 0, none⟩ = some (.int .i64 m)) := ⟨by
    obtain ⟨v, h⟩ := HD1.out
    exact (blk_cell h.blk 0).trans rfl⟩
  clear hI
  go_enter Try.func11, Try.ntmps11
  go_wp2_with fail
  refine start_ (n := 7) (S := fun w' => w'.cell? ⟨g, 0, none⟩ = some (.int .i64 m) ∧ True) (ds := []) #[false, false, false, false, false, false, false] (by kernel_rfl) rfl rfl ⟨HG1.out, trivial⟩ (fun hHeld => ?_)
  refine pure_ (i := 0) (N := some 10) (v := ?_) (a' := ?_) #[true, false, false, false, false, false, false] rfl rfl (by kernel_rfl) (fun _ _ _ h => h) (Or.inl ⟨by rfl, ?_⟩) ?_ ?_
  rotate_left
  · intro w'
    go_simp
    with_reducible rfl
  rotate_left
  · simp only [Act.put, List.setIfInBounds_toArray, List.set_cons_zero, List.set_cons_succ, i64_w, i32_w]
    rfl
  refine pure_ (i := 2) (N := some 12) (v := ?_) (a' := ?_) #[true, false, true, false, false, false, false] rfl rfl (by kernel_rfl) (fun _ _ _ h => h) (Or.inl ⟨by rfl, ?_⟩) ?_ ?_
  rotate_left
  · intro w'
    go_simp
    with_reducible rfl
  rotate_left
  · simp only [Act.put, List.setIfInBounds_toArray, List.set_cons_zero, List.set_cons_succ, i64_w, i32_w]
    rfl
  refine pure_ (i := 3) (N := some 13) (v := ?_) (a' := ?_) #[true, false, true, true, false, false, false] rfl rfl (by kernel_rfl) (fun _ _ _ h => h) (Or.inl ⟨by rfl, ?_⟩) ?_ ?_
  rotate_left
  · intro w'
    go_simp
    with_reducible rfl
  rotate_left
  · simp only [Act.put, List.setIfInBounds_toArray, List.set_cons_zero, List.set_cons_succ, i64_w, i32_w]
    rfl
  refine pure_ (i := 4) (N := some 14) (v := ?_) (a' := ?_) #[true, false, true, true, true, false, false] rfl rfl (by kernel_rfl) (fun _ _ _ h => h) (Or.inl ⟨by rfl, ?_⟩) ?_ ?_
  rotate_left
  · intro w'
    go_simp
    with_reducible rfl
  rotate_left
  · simp only [Act.put, List.setIfInBounds_toArray, List.set_cons_zero, List.set_cons_succ, i64_w, i32_w]
    rfl
  refine take_ (i := 5) (N := some 15) (v := ?_) (a' := ?_) #[true, false, true, true, true, true, false] rfl rfl (by kernel_rfl) (fun _ _ _ h => h) (Or.inl ⟨by rfl, ?_⟩) hHeld ?_ ?_
  rotate_left
  · intro w' hS
    have s0 := hS.1; clear hS
    go_simp
    with_reducible rfl
  rotate_left
  · simp only [Act.put, List.setIfInBounds_toArray, List.set_cons_zero, List.set_cons_succ, i64_w, i32_w]
    rfl
  refine one_ (i := 1) (N := some 11) #[true, true, true, true, true, true, false] rfl rfl (by kernel_rfl) (by decide) (fun K hK => ?_)
  refine goes_ Try.func17 (by kernel_rfl) rfl #[.pointer (some ⟨g, 0, none⟩)] (by rfl) rfl rfl (by (try simp only [List.map_toArray, List.map_cons, List.map_nil]); first | done | rfl) ?_
  refine (dlive_calls (HD1.out.then_ (below_drew1 (Below.refl _ _))) hl).mono ?_
  rintro e w2 ⟨rfl, rfl⟩
  refine ⟨_, rfl, ?_⟩
  refine hK.out _ _ hHeld (fun hHeld2 => ?_)
  clear hK K
  refine norm_ (a' := ?_) ?_ ?_
  rotate_left
  · show Act.put _ (some 11) _ = _
    simp only [Act.put, List.setIfInBounds_toArray, List.set_cons_zero, List.set_cons_succ, i64_w, i32_w]
    rfl
  refine pure_ (i := 6) (N := some 16) (v := ?_) (a' := ?_) #[true, true, true, true, true, true, true] rfl rfl (by kernel_rfl) (fun _ _ _ h => h) (Or.inl ⟨by rfl, ?_⟩) ?_ ?_
  rotate_left
  · intro w'
    go_simp
    with_reducible rfl
  rotate_left
  · simp only [Act.put, List.setIfInBounds_toArray, List.set_cons_zero, List.set_cons_succ, i64_w, i32_w]
    rfl
  refine done_ (by kernel_rfl) ?_
  have hd : decide (m ≤ ((L.countP Pt.lies : Nat) : Int)) = true := decide_eq_true hm
  clear hHeld
  have hd0 := (blk_cell (blk_drew HY1.out) 0).trans rfl
  have hd1 := (blk_cell (blk_drew HY1.out) 1).trans rfl
  have hdz := blk_frozen (blk_drew HY1.out)
  go_wp2_with fail
  have hH5 := blk_drew HY1.out
  refine bodyPost_ret (v := .tuple #[.agg #[.int .i64 0, .int .i64 0], .bool false]) (results_ct (p := 4) (u := 5) rfl _ _ w.heap.size 31 #[.int .i64 0, .int .i64 0] (0, 0) _ rfl hH5 Try.underlying31 rfl (by kernel_rfl)) rfl ?_
  exact ⟨rfl, below_drew1 (below_alloc (Below.refl _ _) _)⟩
set_option maxHeartbeats 3200000 in
set_option maxRecDepth 100000 in
theorem dput_yes {w0 w : World} {base g : Nat} {m n : Int} {L : List Pt} (x s : Int) (hI : Doc w0 w base g m L n) (hl : L.length ≤ 1000) (q : Int) (hq : ((uses L s).1 : Int) = q) (hm : ((L.countP Pt.lies : Nat) : Int) < m) (hs : DocNext.Next L s) (hsb : s ≤ 1000) :
    Calls Try.prog 11 #[.pointer (some ⟨g, 0, none⟩), .int .i64 x] w fun e w' => e = .returned (.tuple #[.agg #[.int .i64 s, .int .i64 (q + 1)], .bool true]) ∧ Doc w0 w' base g m (L ++ [⟨s, q + 1, x, true, 0⟩]) n ∧ KeptT w w' [29, 35] := by
  have HD0 := Aside0.mk hI
  have hbase := hI.room
  have HD1 := Aside0.mk (hI.then_ (below_alloc (Below.refl w.heap.size w) (.cells #[.int .i64 0, .int .i64 0] 31)))
  have HY1 := Aside0.mk (blk_new w (.cells #[.int .i64 0, .int .i64 0] 31))
  have HG1 : Aside0 ((w.alloc (.cells #[.int .i64 0, .int .i64 0] 31)).cell? ⟨g, 0, none⟩ = some (.int .i64 m)) := ⟨by
    obtain ⟨v, h⟩ := HD1.out
    exact (blk_cell h.blk 0).trans rfl⟩
  clear hI
  go_enter Try.func11, Try.ntmps11
  go_wp2_with fail
  refine start_ (n := 7) (S := fun w' => w'.cell? ⟨g, 0, none⟩ = some (.int .i64 m) ∧ True) (ds := []) #[false, false, false, false, false, false, false] (by kernel_rfl) rfl rfl ⟨HG1.out, trivial⟩ (fun hHeld => ?_)
  refine pure_ (i := 0) (N := some 10) (v := ?_) (a' := ?_) #[true, false, false, false, false, false, false] rfl rfl (by kernel_rfl) (fun _ _ _ h => h) (Or.inl ⟨by rfl, ?_⟩) ?_ ?_
  rotate_left
  · intro w'
    go_simp
    with_reducible rfl
  rotate_left
  · simp only [Act.put, List.setIfInBounds_toArray, List.set_cons_zero, List.set_cons_succ, i64_w, i32_w]
    rfl
  refine pure_ (i := 2) (N := some 12) (v := ?_) (a' := ?_) #[true, false, true, false, false, false, false] rfl rfl (by kernel_rfl) (fun _ _ _ h => h) (Or.inl ⟨by rfl, ?_⟩) ?_ ?_
  rotate_left
  · intro w'
    go_simp
    with_reducible rfl
  rotate_left
  · simp only [Act.put, List.setIfInBounds_toArray, List.set_cons_zero, List.set_cons_succ, i64_w, i32_w]
    rfl
  refine pure_ (i := 3) (N := some 13) (v := ?_) (a' := ?_) #[true, false, true, true, false, false, false] rfl rfl (by kernel_rfl) (fun _ _ _ h => h) (Or.inl ⟨by rfl, ?_⟩) ?_ ?_
  rotate_left
  · intro w'
    go_simp
    with_reducible rfl
  rotate_left
  · simp only [Act.put, List.setIfInBounds_toArray, List.set_cons_zero, List.set_cons_succ, i64_w, i32_w]
    rfl
  refine pure_ (i := 4) (N := some 14) (v := ?_) (a' := ?_) #[true, false, true, true, true, false, false] rfl rfl (by kernel_rfl) (fun _ _ _ h => h) (Or.inl ⟨by rfl, ?_⟩) ?_ ?_
  rotate_left
  · intro w'
    go_simp
    with_reducible rfl
  rotate_left
  · simp only [Act.put, List.setIfInBounds_toArray, List.set_cons_zero, List.set_cons_succ, i64_w, i32_w]
    rfl
  refine take_ (i := 5) (N := some 15) (v := ?_) (a' := ?_) #[true, false, true, true, true, true, false] rfl rfl (by kernel_rfl) (fun _ _ _ h => h) (Or.inl ⟨by rfl, ?_⟩) hHeld ?_ ?_
  rotate_left
  · intro w' hS
    have s0 := hS.1; clear hS
    go_simp
    with_reducible rfl
  rotate_left
  · simp only [Act.put, List.setIfInBounds_toArray, List.set_cons_zero, List.set_cons_succ, i64_w, i32_w]
    rfl
  refine one_ (i := 1) (N := some 11) #[true, true, true, true, true, true, false] rfl rfl (by kernel_rfl) (by decide) (fun K hK => ?_)
  refine goes_ Try.func17 (by kernel_rfl) rfl #[.pointer (some ⟨g, 0, none⟩)] (by rfl) rfl rfl (by (try simp only [List.map_toArray, List.map_cons, List.map_nil]); first | done | rfl) ?_
  refine (dlive_calls (HD1.out.then_ (below_drew1 (Below.refl _ _))) hl).mono ?_
  rintro e w2 ⟨rfl, rfl⟩
  refine ⟨_, rfl, ?_⟩
  refine hK.out _ _ hHeld (fun hHeld2 => ?_)
  clear hK K
  refine norm_ (a' := ?_) ?_ ?_
  rotate_left
  · show Act.put _ (some 11) _ = _
    simp only [Act.put, List.setIfInBounds_toArray, List.set_cons_zero, List.set_cons_succ, i64_w, i32_w]
    rfl
  refine pure_ (i := 6) (N := some 16) (v := ?_) (a' := ?_) #[true, true, true, true, true, true, true] rfl rfl (by kernel_rfl) (fun _ _ _ h => h) (Or.inl ⟨by rfl, ?_⟩) ?_ ?_
  rotate_left
  · intro w'
    go_simp
    with_reducible rfl
  rotate_left
  · simp only [Act.put, List.setIfInBounds_toArray, List.set_cons_zero, List.set_cons_succ, i64_w, i32_w]
    rfl
  refine done_ (by kernel_rfl) ?_
  have hd : decide (m ≤ ((L.countP Pt.lies : Nat) : Int)) = false := decide_eq_false (by omega)
  clear hHeld
  have HN := Aside0.mk hs
  have HQ := Aside0.mk hq
  have hq1 : q ≤ 1000 := by have := uses_le L s; omega
  have hq0 : 0 ≤ q := by omega
  clear hs hq
  have HD2 := Aside0.mk (HD1.out.then_ (below_drew1 (Below.refl _ _)))
  have HY2 := Aside0.mk (blk_drew HY1.out)
  have HK1 := Aside0.mk (below_drew1 (below_alloc (Below.refl w.heap.size w) (.cells #[.int .i64 0, .int .i64 0] 31)))
  generalize (w.alloc (.cells #[.int .i64 0, .int .i64 0] 31)).drew = w1 at HD2 HY2 HK1 ⊢
  clear HD1 HY1 HG1
  go_wp2_with (first
    | (go_at_call 25; refine (dnext_calls s HD2.out hl HN.out hsb).mono ?_; rintro e w2 ⟨rfl, rfl⟩)
    | (go_at_call 26; refine (duses_calls s HD2.out hl).mono ?_; rintro e w2 ⟨rfl, rfl⟩; rw [HQ.out]))
  obtain ⟨v4, hI4⟩ := HD2.out.then_ (below_alloc (Below.refl _ _) (.cells #[.int .i64 s, .int .i64 (q + 1)] 31))
  obtain ⟨A, c, rfl⟩ := own_slice hI4.row
  have HX4 := Aside0.mk (blk_new w2 (.cells #[.int .i64 s, .int .i64 (q + 1)] 31))
  have HY4 := Aside0.mk (blk_alloc HY2.out (.cells #[.int .i64 s, .int .i64 (q + 1)] 31))
  have hkb : Below w.heap.size w (w2.alloc (.cells #[.int .i64 s, .int .i64 (q + 1)] 31)) := below_step HK1.out (below_alloc (Below.refl _ _) _)
  have hsz4 : w.heap.size ≤ (w2.alloc (.cells #[.int .i64 s, .int .i64 (q + 1)] 31)).heap.size := hkb.size
  have hxw : w.heap.size ≤ w2.heap.size := HK1.out.size
  have hxy : w.heap.size ≠ w2.heap.size := by
    have := blk_lt HY2.out
    omega
  have HKB := Aside0.mk hkb
  generalize hbx : w2.heap.size = bx at HX4 hxw hxy ⊢
  generalize w2.alloc (.cells #[.int .i64 s, .int .i64 (q + 1)] 31) = w4 at hI4 HX4 HY4 HKB hsz4 hkb ⊢
  have HB4 := Aside0.mk hI4.blk
  have HR4 := Aside0.mk hI4.row
  have HW4 := Aside0.mk hI4.below
  have HO := Aside0.mk hI4.old
  have HXY := Aside0.mk hxy
  clear hbx hI4 hkb hxy hd HD2 HY2 HK1
  refine start_ (n := 13) (S := fun w' => w'.cell? ⟨g, 1, none⟩ = some (.slice A L.length c) ∧ w'.cell? ⟨bx, 0, none⟩ = some (.int .i64 s) ∧ w'.cell? ⟨bx, 1, none⟩ = some (.int .i64 (q + 1))) (ds := [12]) #[false, false, false, false, false, false, false, false, false, false, false, false, false] (by kernel_rfl) rfl rfl ⟨(blk_cell (blk_drew HB4.out) 1).trans rfl, (blk_cell (blk_drew HX4.out) 0).trans rfl, (blk_cell (blk_drew HX4.out) 1).trans rfl⟩ (fun hHeld => ?_)
  refine pure_ (i := 0) (N := some 30) (v := ?_) (a' := ?_) #[true, false, false, false, false, false, false, false, false, false, false, false, false] rfl rfl (by kernel_rfl) (fun _ _ _ h => h) (Or.inl ⟨by rfl, ?_⟩) ?_ ?_
  rotate_left
  · intro w'
    go_simp
    with_reducible rfl
  rotate_left
  · simp only [Act.put, List.setIfInBounds_toArray, List.set_cons_zero, List.set_cons_succ, i64_w, i32_w]
    rfl
  refine pure_ (i := 1) (N := some 31) (v := ?_) (a' := ?_) #[true, true, false, false, false, false, false, false, false, false, false, false, false] rfl rfl (by kernel_rfl) (fun _ _ _ h => h) (Or.inl ⟨by rfl, ?_⟩) ?_ ?_
  rotate_left
  · intro w'
    go_simp
    with_reducible rfl
  rotate_left
  · simp only [Act.put, List.setIfInBounds_toArray, List.set_cons_zero, List.set_cons_succ, i64_w, i32_w]
    rfl
  refine pure_ (i := 2) (N := some 32) (v := ?_) (a' := ?_) #[true, true, true, false, false, false, false, false, false, false, false, false, false] rfl rfl (by kernel_rfl) (fun _ _ _ h => h) (Or.inl ⟨by rfl, ?_⟩) ?_ ?_
  rotate_left
  · intro w'
    go_simp
    with_reducible rfl
  rotate_left
  · simp only [Act.put, List.setIfInBounds_toArray, List.set_cons_zero, List.set_cons_succ, i64_w, i32_w]
    rfl
  refine pure_ (i := 3) (N := some 33) (v := ?_) (a' := ?_) #[true, true, true, true, false, false, false, false, false, false, false, false, false] rfl rfl (by kernel_rfl) (fun _ _ _ h => h) (Or.inl ⟨by rfl, ?_⟩) ?_ ?_
  rotate_left
  · intro w'
    go_simp
    with_reducible rfl
  rotate_left
  · simp only [Act.put, List.setIfInBounds_toArray, List.set_cons_zero, List.set_cons_succ, i64_w, i32_w]
    rfl
  refine take_ (i := 4) (N := some 34) (v := ?_) (a' := ?_) #[true, true, true, true, true, false, false, false, false, false, false, false, false] rfl rfl (by kernel_rfl) (fun _ _ _ h => h) (Or.inl ⟨by rfl, ?_⟩) hHeld ?_ ?_
  rotate_left
  · intro w' hS
    have s0 := hS.1; have s1 := hS.2.1; have s2 := hS.2.2; clear hS
    go_simp
    with_reducible rfl
  rotate_left
  · simp only [Act.put, List.setIfInBounds_toArray, List.set_cons_zero, List.set_cons_succ, i64_w, i32_w]
    rfl
  refine take_ (i := 5) (N := some 35) (v := ?_) (a' := ?_) #[true, true, true, true, true, true, false, false, false, false, false, false, false] rfl rfl (by kernel_rfl) (fun _ _ _ h => h) (Or.inl ⟨by rfl, ?_⟩) hHeld ?_ ?_
  rotate_left
  · intro w' hS
    have s0 := hS.1; have s1 := hS.2.1; have s2 := hS.2.2; clear hS
    go_simp
    with_reducible rfl
  rotate_left
  · simp only [Act.put, List.setIfInBounds_toArray, List.set_cons_zero, List.set_cons_succ, i64_w, i32_w]
    rfl
  refine pure_ (i := 6) (N := some 36) (v := ?_) (a' := ?_) #[true, true, true, true, true, true, true, false, false, false, false, false, false] rfl rfl (by kernel_rfl) (fun _ _ _ h => h) (Or.inl ⟨by rfl, ?_⟩) ?_ ?_
  rotate_left
  · intro w'
    go_simp
    with_reducible rfl
  rotate_left
  · simp only [Act.put, List.setIfInBounds_toArray, List.set_cons_zero, List.set_cons_succ, i64_w, i32_w]
    rfl
  refine pure_ (i := 7) (N := some 37) (v := ?_) (a' := ?_) #[true, true, true, true, true, true, true, true, false, false, false, false, false] rfl rfl (by kernel_rfl) (fun _ _ _ h => h) (Or.inl ⟨by rfl, ?_⟩) ?_ ?_
  rotate_left
  · intro w'
    go_simp
    with_reducible rfl
  rotate_left
  · simp only [Act.put, List.setIfInBounds_toArray, List.set_cons_zero, List.set_cons_succ, i64_w, i32_w]
    rfl
  refine one_ (i := 8) (N := some 38) #[true, true, true, true, true, true, true, true, true, false, false, false, false] rfl rfl (by kernel_rfl) (by decide) (fun K hK => ?_)
  refine val_ (w1 := w4.drew.alloc (.cells #[.int .i64 s, .int .i64 (q + 1), .int .i64 x, .bool true, .int .i64 0] 35)) (v := ?_) (by rfl) rfl ?_ ?_
  rotate_left
  · go_simp
    rfl
  have HB2 := Aside0.mk (blk_alloc (blk_drew HB4.out) (.cells #[.int .i64 s, .int .i64 (q + 1), .int .i64 x, .bool true, .int .i64 0] 35))
  have HX2 := Aside0.mk (blk_alloc (blk_drew HX4.out) (.cells #[.int .i64 s, .int .i64 (q + 1), .int .i64 x, .bool true, .int .i64 0] 35))
  refine hK.out _ _ ⟨(blk_cell HB2.out 1).trans rfl, (blk_cell HX2.out 0).trans rfl, (blk_cell HX2.out 1).trans rfl⟩ (fun hHeld => ?_)
  clear hK K
  refine norm_ (a' := ?_) ?_ ?_
  rotate_left
  · show Act.put _ (some 38) _ = _
    simp only [Act.put, List.setIfInBounds_toArray, List.set_cons_zero, List.set_cons_succ, i64_w, i32_w]
    rfl
  refine one_ (i := 9) (N := some 39) #[true, true, true, true, true, true, true, true, true, true, false, false, false] rfl rfl (by kernel_rfl) (by decide) (fun K hK => ?_)
  refine step_append_cells (w0 := w0) (W := w4.drew) base (by rfl) (.tmp 34) (.tmp 38) 27 35 (.agg #[.int .i64 0, .int .i64 0, .int .i64 0, .bool false, .int .i64 0]) 5 40 rfl Try.underlying27 info35 rfl (by decide) (by decide) (.slice A L.length c) L.length (flatP L) [.int .i64 s, .int .i64 (q + 1), .int .i64 x, .bool true, .int .i64 0] rfl rfl rfl (by simp [Value.oneCell']) (KeptT.own (KeptT.drew w4 []) HR4.out (by simp)) (below_drew1 HW4.out) (Nat.le_trans hbase hsz4) (by omega) ?_
  intro v2 w5 hR2 hB2 hg2 hat
  obtain ⟨A5, c5, rfl⟩ := own_slice hR2
  have HB3 := Aside0.mk (blk_grown (blk_drew HB4.out) hg2 (own_ne (KeptT.own (KeptT.drew w4 []) HR4.out (by simp)) (blk_drew HB4.out) (by decide)))
  have HX3 := Aside0.mk (blk_grown (blk_drew HX4.out) hg2 (own_ne (KeptT.own (KeptT.drew w4 []) HR4.out (by simp)) (blk_drew HX4.out) (by decide)))
  have HY3 := Aside0.mk (blk_grown (blk_drew HY4.out) hg2 (own_ne (KeptT.own (KeptT.drew w4 []) HR4.out (by simp)) (blk_drew HY4.out) (by decide)))
  refine hK.out _ _ ⟨(blk_cell HB3.out 1).trans rfl, (blk_cell HX3.out 0).trans rfl, (blk_cell HX3.out 1).trans rfl⟩ (fun hHeld => ?_)
  clear hK K
  refine norm_ (a' := ?_) ?_ ?_
  rotate_left
  · show Act.put _ (some 39) _ = _
    simp only [Act.put, List.setIfInBounds_toArray, List.set_cons_zero, List.set_cons_succ, i64_w, i32_w]
    rfl
  refine pure_ (i := 10) (N := some 40) (v := ?_) (a' := ?_) #[true, true, true, true, true, true, true, true, true, true, true, false, false] rfl rfl (by kernel_rfl) (fun _ _ _ h => h) (Or.inl ⟨by rfl, ?_⟩) ?_ ?_
  rotate_left
  · intro w'
    go_simp
    with_reducible rfl
  rotate_left
  · simp only [Act.put, List.setIfInBounds_toArray, List.set_cons_zero, List.set_cons_succ, i64_w, i32_w]
    rfl
  refine pure_ (i := 11) (N := some 41) (v := ?_) (a' := ?_) #[true, true, true, true, true, true, true, true, true, true, true, true, false] rfl rfl (by kernel_rfl) (fun _ _ _ h => h) (Or.inl ⟨by rfl, ?_⟩) ?_ ?_
  rotate_left
  · intro w'
    go_simp
    with_reducible rfl
  rotate_left
  · simp only [Act.put, List.setIfInBounds_toArray, List.set_cons_zero, List.set_cons_succ, i64_w, i32_w]
    rfl
  refine last_ (i := 12) (N := none) #[true, true, true, true, true, true, true, true, true, true, true, true, true] rfl rfl (by kernel_rfl) (by decide) (fun K hK => ?_)
  have hcl := (blk_cell HB3.out 1).trans rfl
  have hfl := blk_frozen HB3.out 1
  refine skip_ (w1 := w5.setCell ⟨g, 1, none⟩ (.slice A5 (L.length + 1) c5)) (by rfl) rfl ?_ ?_
  · go_simp
  refine hK.out _ _ ?_
  clear hK K hcl hfl
  refine done_ (by kernel_rfl) ?_
  have k5 : KeptT w4.drew w5 [35] := .grown hg2 (fun k hk => by
    obtain ⟨cs, hc⟩ := own_typed (KeptT.own (KeptT.drew w4 []) HR4.out (by simp)) k hk
    exact ⟨cs, 35, hc, by simp⟩)
  have k6 : KeptT w5 (w5.setCell ⟨g, 1, none⟩ (.slice A5 (L.length + 1) c5)) [29] := .set (p := ⟨g, 1, none⟩) HB3.out (by simp) _
  have HB6 := Aside0.mk (blk_put HB3.out 1 (.slice A5 (L.length + 1) c5) rfl)
  have HX6 := Aside0.mk (k6.blk HX3.out (by decide))
  have HY6 := Aside0.mk (k6.blk HY3.out (by decide))
  have HR6 := Aside0.mk (k6.own hR2 (by decide))
  have HW6 := Aside0.mk (hB2.setCell (p := ⟨g, 1, none⟩) HO.out (.slice A5 (L.length + 1) c5))
  have HK6 : Aside0 (KeptT w (w5.setCell ⟨g, 1, none⟩ (.slice A5 (L.length + 1) c5)) [29, 35]) := ⟨(KeptT.below HKB.out _).trans ((KeptT.drew w4 _).trans ((k5.mono (by simp)).trans (k6.mono (by simp))))⟩
  generalize w5.setCell ⟨g, 1, none⟩ (.slice A5 (L.length + 1) c5) = w6 at HB6 HX6 HY6 HR6 HW6 HK6 ⊢
  clear hHeld hR2 hB2 hg2 hat k5 k6 HB2 HX2 HB3 HX3 HY3
  have hx0 := (blk_cell HX6.out 0).trans rfl
  have hx1 := (blk_cell HX6.out 1).trans rfl
  have hy0 := (blk_cell HY6.out 0).trans rfl
  have hy1 := (blk_cell HY6.out 1).trans rfl
  have hyz := blk_frozen HY6.out
  go_wp2_with fail
  have hH5 := blk_put (blk_put HY6.out 0 (.int .i64 s) rfl) 1 (.int .i64 (q + 1)) rfl
  have k7 : KeptT w6 ((w6.setCell ⟨w.heap.size, 0, none⟩ (.int .i64 s)).setCell ⟨w.heap.size, 1, none⟩ (.int .i64 (q + 1))) [31] :=
    (KeptT.set (p := ⟨w.heap.size, 0, none⟩) HY6.out (by simp) _).trans (KeptT.set (p := ⟨w.heap.size, 1, none⟩) (blk_put HY6.out 0 _ rfl) (by simp) _)
  refine bodyPost_ret (v := .tuple #[.agg #[.int .i64 s, .int .i64 (q + 1)], .bool true]) (results_ct (p := 4) (u := 5) rfl _ _ w.heap.size 31 #[.int .i64 s, .int .i64 (q + 1)] (0, 0) _ rfl hH5 Try.underlying31 rfl (by kernel_rfl)) rfl ?_
  refine ⟨rfl, ⟨_, ⟨k7.blk HB6.out (by decide), HO.out, ?_, (HW6.out.setCell (p := ⟨w.heap.size, 0, none⟩) hbase _).setCell (p := ⟨w.heap.size, 1, none⟩) hbase _⟩⟩, ?_⟩
  · rw [flatP_append, List.length_append, List.length_singleton]
    exact k7.own HR6.out (by decide)
  · exact keptNew (keptNew HK6.out (p := ⟨w.heap.size, 0, none⟩) (Nat.le_refl _) _) (p := ⟨w.heap.size, 1, none⟩) (Nat.le_refl _) _
set_option maxHeartbeats 1600000 in
theorem dfree_no {w0 w : World} {base g : Nat} {m n : Int} {L : List Pt} (s h : Int) (hno : ∀ p ∈ L, hit s h p = false) (hI : Doc w0 w base g m L n) (hl : L.length ≤ 1000) :
    Calls Try.prog 13 #[.pointer (some ⟨g, 0, none⟩), .agg #[.int .i64 s, .int .i64 h]] w fun e w' => e = .returned (.bool false) ∧ Below w.heap.size w w' := by
  have HI := Aside0.mk hI
  have HNO := Aside0.mk hno
  clear hI hno
  go_enter Try.func13, Try.ntmps13
  go_wp2_with (go_at_call 28; refine (dfind_no s h HNO.out (HI.out.then_ (below_alloc (Below.refl _ _) _)) hl).mono ?_; rintro e w2 ⟨rfl, hb2⟩; have HB := Aside0.mk (below_step (below_alloc (Below.refl w.heap.size w) _) hb2); clear hb2)
  go_ret
  exact ⟨rfl, HB.out⟩
set_option maxHeartbeats 3200000 in
theorem dfree_yes {w0 w : World} {base g : Nat} {m n : Int} {L : List Pt} (s h : Int) (j : Nat) (hj : j < L.length) (hy : hit s h L[j] = true) (hno : ∀ k' (h' : k' < j), hit s h (L.getD k' ⟨0, 0, 0, false, 0⟩) = false) (hI : Doc w0 w base g m L n) (hl : L.length ≤ 1000) (hn0 : 0 ≤ n) (hn1 : n ≤ 1000) :
    Calls Try.prog 13 #[.pointer (some ⟨g, 0, none⟩), .agg #[.int .i64 s, .int .i64 h]] w fun e w' => e = .returned (.bool true) ∧ Doc w0 w' base g m (L.set j { L[j] with lies := false, fr := n + 1 }) (n + 1) ∧ KeptT w w' [29, 35] := by
  have HI := Aside0.mk hI
  have HNO := Aside0.mk (And.intro hy hno)
  clear hI hno hy
  go_enter Try.func13, Try.ntmps13
  go_wp2_with (go_at_call 28; refine (dfind_yes s h j hj HNO.out.1 HNO.out.2 (HI.out.then_ (below_alloc (Below.refl _ _) _)) hl).mono ?_; rintro e w2 ⟨rfl, hb2⟩; have HB := Aside0.mk (below_step (below_alloc (Below.refl w.heap.size w) _) hb2); clear hb2; obtain ⟨v2, hI2⟩ := HI.out.then_ HB.out; obtain ⟨gs, c2, rfl, hc, -, -, -, hx, -⟩ := hI2.cells j hj; have h1 := (blk_cell hI2.blk 1).trans rfl; have h2 := (blk_cell hI2.blk 2).trans rfl; have hz := blk_frozen hI2.blk; have hz2 := own_frozen hI2.row; have hne := gs_ne hI2.row hI2.blk (by decide); have hen := hne.symm; have HI2 := Aside0.mk hI2; clear hI2)
  have hR3 := own_setCell (p := ⟨g, 2, none⟩) HI2.out.row (own_ne HI2.out.row HI2.out.blk (by decide)) (.int .i64 (n + 1))
  have hS4 := hR3.stored (j * 5 + 3) (.bool false)
  rw [(flatP_set L j hj false 0).1] at hS4
  have hB4 := blk_far (p := ⟨gs, j * 5 + 3, none⟩) (blk_put HI2.out.blk 2 (.int .i64 (n + 1)) rfl) hen (.bool false)
  have hW4 := (HI2.out.below.setCell (p := ⟨g, 2, none⟩) HI2.out.old (.int .i64 (n + 1))).setCell (p := ⟨gs, j * 5 + 3, none⟩) (own_base HI2.out.row gs rfl) (.bool false)
  have hK4 : KeptT w ((w2.setCell ⟨g, 2, none⟩ (.int .i64 (n + 1))).setCell ⟨gs, j * 5 + 3, none⟩ (.bool false)) [29, 35] :=
    (KeptT.below HB.out _).trans (((KeptT.set (p := ⟨g, 2, none⟩) HI2.out.blk (List.mem_singleton.2 rfl) (.int .i64 (n + 1))).mono (us := [29, 35]) (by simp)).trans ((KeptT.setOwn hR3 (j * 5 + 3) (.bool false)).mono (by simp)))
  generalize ((w2.setCell ⟨g, 2, none⟩ (.int .i64 (n + 1))).setCell ⟨gs, j * 5 + 3, none⟩ (.bool false)) = w4 at hS4 hB4 hW4 hK4 ⊢
  have HR4 := Aside0.mk hS4.1
  have HB4 := Aside0.mk hB4
  have HW4 := Aside0.mk hW4
  have HK4 := Aside0.mk hK4
  have HO := Aside0.mk HI2.out.old
  have hgb := own_base HI2.out.row gs rfl
  have HR5 := Aside0.mk (KeptT.own (KeptT.drew w4 []) HR4.out (by simp))
  clear hS4 hB4 hW4 hK4 hR3 hx h1 h2 hz hz2 HI2
  refine start_ (n := 12) (S := fun w' => w'.cell? ⟨g, 1, none⟩ = some (.slice (some ⟨gs, 0, none⟩) L.length c2) ∧ w'.cell? ⟨g, 2, none⟩ = some (.int .i64 (n + 1)) ∧ True) (ds := [11]) #[false, false, false, false, false, false, false, false, false, false, false, false] (by kernel_rfl) rfl rfl ⟨(blk_cell (blk_drew HB4.out) 1).trans rfl, (blk_cell (blk_drew HB4.out) 2).trans rfl, trivial⟩ (fun hHeld => ?_)
  refine pure_ (i := 0) (N := some 25) (v := ?_) (a' := ?_) #[true, false, false, false, false, false, false, false, false, false, false, false] rfl rfl (by kernel_rfl) (fun _ _ _ h => h) (Or.inl ⟨by rfl, ?_⟩) ?_ ?_
  rotate_left
  · intro w'
    go_simp
    with_reducible rfl
  rotate_left
  · simp only [Act.put, List.setIfInBounds_toArray, List.set_cons_zero, List.set_cons_succ, i64_w, i32_w]
    rfl
  refine pure_ (i := 1) (N := some 26) (v := ?_) (a' := ?_) #[true, true, false, false, false, false, false, false, false, false, false, false] rfl rfl (by kernel_rfl) (fun _ _ _ h => h) (Or.inl ⟨by rfl, ?_⟩) ?_ ?_
  rotate_left
  · intro w'
    go_simp
    with_reducible rfl
  rotate_left
  · simp only [Act.put, List.setIfInBounds_toArray, List.set_cons_zero, List.set_cons_succ, i64_w, i32_w]
    rfl
  refine pure_ (i := 2) (N := some 27) (v := ?_) (a' := ?_) #[true, true, true, false, false, false, false, false, false, false, false, false] rfl rfl (by kernel_rfl) (fun _ _ _ h => h) (Or.inl ⟨by rfl, ?_⟩) ?_ ?_
  rotate_left
  · intro w'
    go_simp
    with_reducible rfl
  rotate_left
  · simp only [Act.put, List.setIfInBounds_toArray, List.set_cons_zero, List.set_cons_succ, i64_w, i32_w]
    rfl
  refine take_ (i := 3) (N := some 28) (v := ?_) (a' := ?_) #[true, true, true, true, false, false, false, false, false, false, false, false] rfl rfl (by kernel_rfl) (fun _ _ _ h => h) (Or.inl ⟨by rfl, ?_⟩) hHeld ?_ ?_
  rotate_left
  · intro w' hS
    have s0 := hS.1; have s1 := hS.2.1; clear hS
    go_simp
    with_reducible rfl
  rotate_left
  · simp only [Act.put, List.setIfInBounds_toArray, List.set_cons_zero, List.set_cons_succ, i64_w, i32_w]
    rfl
  refine pure_ (i := 4) (N := some 29) (v := ?_) (a' := ?_) #[true, true, true, true, true, false, false, false, false, false, false, false] rfl rfl (by kernel_rfl) (fun _ _ _ h => h) (Or.inl ⟨by rfl, ?_⟩) ?_ ?_
  rotate_left
  · intro w'
    go_simp
    with_reducible rfl
  rotate_left
  · simp only [Act.put, List.setIfInBounds_toArray, List.set_cons_zero, List.set_cons_succ, i64_w, i32_w]
    rfl
  refine pure_ (i := 5) (N := some 30) (v := ?_) (a' := ?_) #[true, true, true, true, true, true, false, false, false, false, false, false] rfl rfl (by kernel_rfl) (fun _ _ _ h => h) (Or.inl ⟨by rfl, ?_⟩) ?_ ?_
  rotate_left
  · intro w'
    go_simp
    with_reducible rfl
  rotate_left
  · simp only [Act.put, List.setIfInBounds_toArray, List.set_cons_zero, List.set_cons_succ, i64_w, i32_w]
    rfl
  refine pure_ (i := 6) (N := some 31) (v := ?_) (a' := ?_) #[true, true, true, true, true, true, true, false, false, false, false, false] rfl rfl (by kernel_rfl) (fun _ _ _ h => h) (Or.inl ⟨by rfl, ?_⟩) ?_ ?_
  rotate_left
  · intro w'
    go_simp
    with_reducible rfl
  rotate_left
  · simp only [Act.put, List.setIfInBounds_toArray, List.set_cons_zero, List.set_cons_succ, i64_w, i32_w]
    rfl
  refine pure_ (i := 7) (N := some 32) (v := ?_) (a' := ?_) #[true, true, true, true, true, true, true, true, false, false, false, false] rfl rfl (by kernel_rfl) (fun _ _ _ h => h) (Or.inl ⟨by rfl, ?_⟩) ?_ ?_
  rotate_left
  · intro w'
    go_simp
    with_reducible rfl
  rotate_left
  · simp only [Act.put, List.setIfInBounds_toArray, List.set_cons_zero, List.set_cons_succ, i64_w, i32_w]
    rfl
  refine take_ (i := 8) (N := some 33) (v := ?_) (a' := ?_) #[true, true, true, true, true, true, true, true, true, false, false, false] rfl rfl (by kernel_rfl) (fun _ _ _ h => h) (Or.inl ⟨by rfl, ?_⟩) hHeld ?_ ?_
  rotate_left
  · intro w' hS
    have s0 := hS.1; have s1 := hS.2.1; clear hS
    go_simp
    with_reducible rfl
  rotate_left
  · simp only [Act.put, List.setIfInBounds_toArray, List.set_cons_zero, List.set_cons_succ, i64_w, i32_w]
    rfl
  refine pure_ (i := 9) (N := some 34) (v := ?_) (a' := ?_) #[true, true, true, true, true, true, true, true, true, true, false, false] rfl rfl (by kernel_rfl) (fun _ _ _ h => h) (Or.inl ⟨by rfl, ?_⟩) ?_ ?_
  rotate_left
  · intro w'
    go_simp
    with_reducible rfl
  rotate_left
  · simp only [Act.put, List.setIfInBounds_toArray, List.set_cons_zero, List.set_cons_succ, i64_w, i32_w]
    rfl
  refine pure_ (i := 10) (N := some 35) (v := ?_) (a' := ?_) #[true, true, true, true, true, true, true, true, true, true, true, false] rfl rfl (by kernel_rfl) (fun _ _ _ h => h) (Or.inl ⟨by rfl, ?_⟩) ?_ ?_
  rotate_left
  · intro w'
    go_simp
    with_reducible rfl
  rotate_left
  · simp only [Act.put, List.setIfInBounds_toArray, List.set_cons_zero, List.set_cons_succ, i64_w, i32_w]
    rfl
  refine last_ (i := 11) (N := none) #[true, true, true, true, true, true, true, true, true, true, true, true] rfl rfl (by kernel_rfl) (by decide) (fun K hK => ?_)
  have hcl := own_cellat HR5.out _ _ (flatP_get _ j (by rw [List.length_set]; exact hj)).2.2.2.2
  have hfl := own_frozen HR5.out (j * 5 + 4)
  refine skip_ (w1 := w4.drew.setCell ⟨gs, j * 5 + 4, none⟩ (.int .i64 (n + 1))) (by rfl) rfl ?_ ?_
  · go_simp
  refine hK.out _ _ ?_
  clear hK K hcl hfl
  refine done_ (by kernel_rfl) ?_
  try go_wp2
  go_ret
  have hS6 := HR5.out.stored (j * 5 + 4) (.int .i64 (n + 1))
  rw [(flatP_set _ j (by rw [List.length_set]; exact hj) false (n + 1)).2, List.set_set, List.getElem_set_self] at hS6
  have k6 := KeptT.setOwn HR5.out (j * 5 + 4) (.int .i64 (n + 1))
  refine ⟨rfl, ⟨_, ⟨k6.blk (blk_drew HB4.out) (by decide), HO.out, ?_, (below_drew1 HW4.out).setCell (p := ⟨gs, j * 5 + 4, none⟩) hgb _⟩⟩, HK4.out.trans ((KeptT.drew w4 _).trans (k6.mono (by simp)))⟩
  rw [List.length_set]
  exact hS6.1
end Go.Proofs.Ytcdfkjcnjdbmgaa.DocPut
