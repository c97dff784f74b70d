/- Layer 09: the contracts of New, Room, Live. -/
import Derived.Test.YtcdfkjcnjdbmgaaPArenaTurnsx1
namespace Go.Proofs.Ytcdfkjcnjdbmgaa.Arena
open Go.RowKit Go.Proofs.YtcdfkjcnjdbmgaaW.PrintWords Go.Proofs.YtcdfkjcnjdbmgaaW.PrintLast Go.Proofs.YtcdfkjcnjdbmgaaW.PrintMore
set_option linter.unusedVariables false
set_option linter.unusedSimpArgs false
theorem new_yes (w : World) (m : Int) (h0 : 0 ≤ m) (h1 : m ≤ 1048576) :
    Calls Try.prog 9 #[.int .i64 m] w fun e w' => e = .returned (.pointer (some ⟨w.heap.size, 0, none⟩)) ∧ w' = w.alloc (.cells #[.int .i64 m, .slice none 0 0, .slice none 0 0] 57) := by
  go_enter Try.func9, Try.ntmps9
  go_wp2
  go_ret
  exact ⟨rfl, rfl⟩
theorem new_no (w : World) (m : Int) (h : m < 0 ∨ 1048576 < m) :
    Calls Try.prog 9 #[.int .i64 m] w fun e w' => e = .returned (.pointer none) ∧ w' = w := by
  rcases h with h | h
  · go_enter Try.func9, Try.ntmps9
    go_wp2
    go_ret
    exact ⟨rfl, rfl⟩
  · by_cases h0 : m < 0
    · omega
    · go_enter Try.func9, Try.ntmps9
      go_wp2
      go_ret
      exact ⟨rfl, rfl⟩
theorem room_calls (w : World) (g : Nat) (m : Int) (A1 A2 : Option Addr) (n1 c1 n2 c2 : Nat) (hb : w.heap[g]? = some (.cells #[.int .i64 m, .slice A1 n1 c1, .slice A2 n2 c2] 57 (0, 0))) :
    Calls Try.prog 18 #[.pointer (some ⟨g, 0, none⟩)] w fun e w' => e = .returned (.int .i64 (wrap64 (wrap64 (m - (n1 : Int)) + (n2 : Int)))) ∧ ∃ nd, w' = w.drewN nd := by
  have h0 : w.cell? ⟨g, 0, none⟩ = some (.int .i64 m) := (blk_cell hb 0).trans rfl
  have h1 : w.cell? ⟨g, 1, none⟩ = some (.slice A1 n1 c1) := (blk_cell hb 1).trans rfl
  have h2 : w.cell? ⟨g, 2, none⟩ = some (.slice A2 n2 c2) := (blk_cell hb 2).trans rfl
  clear hb
  go_enter Try.func18, Try.ntmps18
  go_wp2
  repeat (go_quiet (fail); try go_wp2)
  go_ret
  exact ⟨rfl, _, rfl⟩
set_option maxHeartbeats 1600000 in
theorem live_calls (w : World) (g : Nat) (m : Int) (A1 A2 : Option Addr) (n1 c1 n2 c2 : Nat) (hb : w.heap[g]? = some (.cells #[.int .i64 m, .slice A1 n1 c1, .slice A2 n2 c2] 57 (0, 0))) :
    Calls Try.prog 16 #[.pointer (some ⟨g, 0, none⟩)] w fun e w' => e = .returned (.int .i64 (wrap64 (m - wrap64 (wrap64 (m - (n1 : Int)) + (n2 : Int))))) ∧ ∃ nd, w' = w.drewN nd := by
  have HG := Aside0.mk hb
  clear hb
  go_enter Try.func16, Try.ntmps16
  go_wp2_with fail
  refine start_ (n := 8) (S := fun w' => w'.cell? ⟨g, 0, none⟩ = some (.int .i64 m) ∧ True) (ds := []) #[false, false, false, false, false, false, false, false] (by kernel_rfl) rfl rfl ⟨(blk_cell (blk_drew HG.out) 0).trans rfl, trivial⟩ (fun hHeld => ?_)
  refine pure_ (i := 0) (N := some 3) (v := ?_) (a' := ?_) #[true, false, false, false, false, false, false, false] rfl rfl (by kernel_rfl) (fun _ _ _ h => h) (Or.inl ⟨by rfl, ?_⟩) ?_ ?_
  rotate_left
  · intro w'
    go_simp
    with_reducible rfl
  rotate_left
  · simp only [Act.put, List.setIfInBounds_toArray, List.set_cons_zero, List.set_cons_succ, i64_w, i32_w]
    rfl
  refine pure_ (i := 1) (N := some 4) (v := ?_) (a' := ?_) #[true, true, false, false, false, false, false, false] rfl rfl (by kernel_rfl) (fun _ _ _ h => h) (Or.inl ⟨by rfl, ?_⟩) ?_ ?_
  rotate_left
  · intro w'
    go_simp
    with_reducible rfl
  rotate_left
  · simp only [Act.put, List.setIfInBounds_toArray, List.set_cons_zero, List.set_cons_succ, i64_w, i32_w]
    rfl
  refine pure_ (i := 2) (N := some 5) (v := ?_) (a' := ?_) #[true, true, true, false, false, false, false, false] rfl rfl (by kernel_rfl) (fun _ _ _ h => h) (Or.inl ⟨by rfl, ?_⟩) ?_ ?_
  rotate_left
  · intro w'
    go_simp
    with_reducible rfl
  rotate_left
  · simp only [Act.put, List.setIfInBounds_toArray, List.set_cons_zero, List.set_cons_succ, i64_w, i32_w]
    rfl
  refine take_ (i := 3) (N := some 6) (v := ?_) (a' := ?_) #[true, true, true, true, false, false, false, false] rfl rfl (by kernel_rfl) (fun _ _ _ h => h) (Or.inl ⟨by rfl, ?_⟩) hHeld ?_ ?_
  rotate_left
  · intro w' hS
    have s0 := hS.1
    go_simp
    with_reducible rfl
  rotate_left
  · simp only [Act.put, List.setIfInBounds_toArray, List.set_cons_zero, List.set_cons_succ, i64_w, i32_w]
    rfl
  refine pure_ (i := 4) (N := some 7) (v := ?_) (a' := ?_) #[true, true, true, true, true, false, false, false] rfl rfl (by kernel_rfl) (fun _ _ _ h => h) (Or.inl ⟨by rfl, ?_⟩) ?_ ?_
  rotate_left
  · intro w'
    go_simp
    with_reducible rfl
  rotate_left
  · simp only [Act.put, List.setIfInBounds_toArray, List.set_cons_zero, List.set_cons_succ, i64_w, i32_w]
    rfl
  refine one_ (i := 5) (N := some 8) #[true, true, true, true, true, true, false, false] rfl rfl (by kernel_rfl) (by decide) (fun K hK => ?_)
  refine goes_ Try.func18 (by kernel_rfl) rfl #[.pointer (some ⟨g, 0, none⟩)] (by rfl) rfl rfl (by (try simp only [List.map_toArray, List.map_cons, List.map_nil]); first | done | rfl) ?_
  refine (room_calls _ g m A1 A2 n1 c1 n2 c2 (blk_drew HG.out)).mono ?_
  rintro e w2 ⟨rfl, nd, rfl⟩
  refine ⟨_, rfl, ?_⟩
  refine hK.out _ _ ⟨(blk_cell (blk_drewN (blk_drew HG.out) nd) 0).trans rfl, trivial⟩ (fun hHeld => ?_)
  clear hK K
  refine norm_ (a' := ?_) ?_ ?_
  rotate_left
  · show Act.put _ (some 8) _ = _
    simp only [Act.put, List.setIfInBounds_toArray, List.set_cons_zero, List.set_cons_succ, i64_w, i32_w]
    rfl
  refine pure_ (i := 6) (N := some 9) (v := ?_) (a' := ?_) #[true, true, true, true, true, true, true, false] rfl rfl (by kernel_rfl) (fun _ _ _ h => h) (Or.inl ⟨by rfl, ?_⟩) ?_ ?_
  rotate_left
  · intro w'
    go_simp
    with_reducible rfl
  rotate_left
  · simp only [Act.put, List.setIfInBounds_toArray, List.set_cons_zero, List.set_cons_succ, i64_w, i32_w]
    rfl
  refine pure_ (i := 7) (N := some 2) (v := ?_) (a' := ?_) #[true, true, true, true, true, true, true, true] rfl rfl (by kernel_rfl) (fun _ _ _ h => h) (Or.inl ⟨by rfl, ?_⟩) ?_ ?_
  rotate_left
  · intro w'
    go_simp
    with_reducible rfl
  rotate_left
  · simp only [Act.put, List.setIfInBounds_toArray, List.set_cons_zero, List.set_cons_succ, i64_w, i32_w]
    rfl
  refine done_ (by kernel_rfl) ?_
  try go_wp2
  go_ret
  exact ⟨rfl, 1 + nd, by first | rfl | exact World.drewN_drewN _ _ _ | simp [World.drewN_drewN]⟩

theorem sroom_calls (w : World) (g : Nat) (m : Int) (A1 A2 : Option Addr) (n1 c1 n2 c2 : Nat) (hb : w.heap[g]? = some (.cells #[.int .i64 m, .slice A1 n1 c1, .slice A2 n2 c2] 66 (0, 0))) :
    Calls Try.prog 20 #[.pointer (some ⟨g, 0, none⟩)] w fun e w' => e = .returned (.int .i64 (wrap64 (wrap64 (m - (n1 : Int)) + (n2 : Int)))) ∧ ∃ nd, w' = w.drewN nd := by
  have h0 : w.cell? ⟨g, 0, none⟩ = some (.int .i64 m) := (blk_cell hb 0).trans rfl
  have h1 : w.cell? ⟨g, 1, none⟩ = some (.slice A1 n1 c1) := (blk_cell hb 1).trans rfl
  have h2 : w.cell? ⟨g, 2, none⟩ = some (.slice A2 n2 c2) := (blk_cell hb 2).trans rfl
  clear hb
  go_enter Try.func20, Try.ntmps20
  go_wp2
  repeat (go_quiet (fail); try go_wp2)
  go_ret
  exact ⟨rfl, _, rfl⟩
set_option maxHeartbeats 1600000 in
theorem slive_calls (w : World) (g : Nat) (m : Int) (A1 A2 : Option Addr) (n1 c1 n2 c2 : Nat) (hb : w.heap[g]? = some (.cells #[.int .i64 m, .slice A1 n1 c1, .slice A2 n2 c2] 66 (0, 0))) :
    Calls Try.prog 21 #[.pointer (some ⟨g, 0, none⟩)] w fun e w' => e = .returned (.int .i64 (wrap64 (m - wrap64 (wrap64 (m - (n1 : Int)) + (n2 : Int))))) ∧ ∃ nd, w' = w.drewN nd := by
  have HG := Aside0.mk hb
  clear hb
  go_enter Try.func21, Try.ntmps21
  go_wp2_with fail
  refine start_ (n := 8) (S := fun w' => w'.cell? ⟨g, 0, none⟩ = some (.int .i64 m) ∧ True) (ds := []) #[false, false, false, false, false, false, false, false] (by kernel_rfl) rfl rfl ⟨(blk_cell (blk_drew HG.out) 0).trans rfl, trivial⟩ (fun hHeld => ?_)
  refine pure_ (i := 0) (N := some 3) (v := ?_) (a' := ?_) #[true, false, false, false, false, false, false, false] rfl rfl (by kernel_rfl) (fun _ _ _ h => h) (Or.inl ⟨by rfl, ?_⟩) ?_ ?_
  rotate_left
  · intro w'
    go_simp
    with_reducible rfl
  rotate_left
  · simp only [Act.put, List.setIfInBounds_toArray, List.set_cons_zero, List.set_cons_succ, i64_w, i32_w]
    rfl
  refine pure_ (i := 1) (N := some 4) (v := ?_) (a' := ?_) #[true, true, false, false, false, false, false, false] rfl rfl (by kernel_rfl) (fun _ _ _ h => h) (Or.inl ⟨by rfl, ?_⟩) ?_ ?_
  rotate_left
  · intro w'
    go_simp
    with_reducible rfl
  rotate_left
  · simp only [Act.put, List.setIfInBounds_toArray, List.set_cons_zero, List.set_cons_succ, i64_w, i32_w]
    rfl
  refine pure_ (i := 2) (N := some 5) (v := ?_) (a' := ?_) #[true, true, true, false, false, false, false, false] rfl rfl (by kernel_rfl) (fun _ _ _ h => h) (Or.inl ⟨by rfl, ?_⟩) ?_ ?_
  rotate_left
  · intro w'
    go_simp
    with_reducible rfl
  rotate_left
  · simp only [Act.put, List.setIfInBounds_toArray, List.set_cons_zero, List.set_cons_succ, i64_w, i32_w]
    rfl
  refine take_ (i := 3) (N := some 6) (v := ?_) (a' := ?_) #[true, true, true, true, false, false, false, false] rfl rfl (by kernel_rfl) (fun _ _ _ h => h) (Or.inl ⟨by rfl, ?_⟩) hHeld ?_ ?_
  rotate_left
  · intro w' hS
    have s0 := hS.1
    go_simp
    with_reducible rfl
  rotate_left
  · simp only [Act.put, List.setIfInBounds_toArray, List.set_cons_zero, List.set_cons_succ, i64_w, i32_w]
    rfl
  refine pure_ (i := 4) (N := some 7) (v := ?_) (a' := ?_) #[true, true, true, true, true, false, false, false] rfl rfl (by kernel_rfl) (fun _ _ _ h => h) (Or.inl ⟨by rfl, ?_⟩) ?_ ?_
  rotate_left
  · intro w'
    go_simp
    with_reducible rfl
  rotate_left
  · simp only [Act.put, List.setIfInBounds_toArray, List.set_cons_zero, List.set_cons_succ, i64_w, i32_w]
    rfl
  refine one_ (i := 5) (N := some 8) #[true, true, true, true, true, true, false, false] rfl rfl (by kernel_rfl) (by decide) (fun K hK => ?_)
  refine goes_ Try.func20 (by kernel_rfl) rfl #[.pointer (some ⟨g, 0, none⟩)] (by rfl) rfl rfl (by (try simp only [List.map_toArray, List.map_cons, List.map_nil]); first | done | rfl) ?_
  refine (sroom_calls _ g m A1 A2 n1 c1 n2 c2 (blk_drew HG.out)).mono ?_
  rintro e w2 ⟨rfl, nd, rfl⟩
  refine ⟨_, rfl, ?_⟩
  refine hK.out _ _ ⟨(blk_cell (blk_drewN (blk_drew HG.out) nd) 0).trans rfl, trivial⟩ (fun hHeld => ?_)
  clear hK K
  refine norm_ (a' := ?_) ?_ ?_
  rotate_left
  · show Act.put _ (some 8) _ = _
    simp only [Act.put, List.setIfInBounds_toArray, List.set_cons_zero, List.set_cons_succ, i64_w, i32_w]
    rfl
  refine pure_ (i := 6) (N := some 9) (v := ?_) (a' := ?_) #[true, true, true, true, true, true, true, false] rfl rfl (by kernel_rfl) (fun _ _ _ h => h) (Or.inl ⟨by rfl, ?_⟩) ?_ ?_
  rotate_left
  · intro w'
    go_simp
    with_reducible rfl
  rotate_left
  · simp only [Act.put, List.setIfInBounds_toArray, List.set_cons_zero, List.set_cons_succ, i64_w, i32_w]
    rfl
  refine pure_ (i := 7) (N := some 2) (v := ?_) (a' := ?_) #[true, true, true, true, true, true, true, true] rfl rfl (by kernel_rfl) (fun _ _ _ h => h) (Or.inl ⟨by rfl, ?_⟩) ?_ ?_
  rotate_left
  · intro w'
    go_simp
    with_reducible rfl
  rotate_left
  · simp only [Act.put, List.setIfInBounds_toArray, List.set_cons_zero, List.set_cons_succ, i64_w, i32_w]
    rfl
  refine done_ (by kernel_rfl) ?_
  try go_wp2
  go_ret
  exact ⟨rfl, 1 + nd, by first | rfl | exact World.drewN_drewN _ _ _ | simp [World.drewN_drewN]⟩

end Go.Proofs.Ytcdfkjcnjdbmgaa.Arena
