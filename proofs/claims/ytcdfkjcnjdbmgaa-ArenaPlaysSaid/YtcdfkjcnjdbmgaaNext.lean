/- Layer 09: the contract of next: a slot at the end, or the one that was freed last. -/
import Derived.Test.YtcdfkjcnjdbmgaaCore
namespace Go.Proofs.Ytcdfkjcnjdbmgaa.Next
open Go.RowKit Go.Proofs.YtcdfkjcnjdbmgaaW.PrintWords Go.Proofs.YtcdfkjcnjdbmgaaW.PrintLast Go.Proofs.YtcdfkjcnjdbmgaaW.PrintMore Go.Proofs.Ytcdfkjcnjdbmgaa.Core
set_option linter.unusedVariables false
set_option linter.unusedSimpArgs false

theorem info : (Try.prog.info? 60).map (fun i => (i.zero, i.size, i.bytes)) = some (some (.agg #[.int .i64 0, .bool false, .int .i64 0]), 3, 24) := by kernel_rfl
set_option maxHeartbeats 1600000 in
theorem next_new {w0 w : World} {base g : Nat} {m : Int} {ss : List Sl} (hI : Arena 57 60 w0 w base g m ss []) (hl : ss.length ≤ 1100000) :
    Calls Try.prog 24 #[.pointer (some ⟨g, 0, none⟩)] w fun e w' => e = .returned (.int .i64 ((ss.length : Int) + 1)) ∧ Arena 57 60 w0 w' base g m (ss ++ [⟨0, false, .int .i64 0⟩]) [] ∧ KeptT w w' [57, 60, 3] := by
  obtain ⟨vs, vf, hI⟩ := hI
  have hr := hI.room
  obtain ⟨A1, c1, rfl⟩ := own_slice hI.slots
  obtain ⟨A2, c2, rfl⟩ := own_slice hI.free
  have h1 : w.cell? ⟨g, 1, none⟩ = some (.slice A1 ss.length c1) := (blk_cell hI.blk 1).trans rfl
  have h2 : w.cell? ⟨g, 2, none⟩ = some (.slice A2 ([] : List Int).length c2) := (blk_cell hI.blk 2).trans rfl
  have hfz := blk_frozen hI.blk 1
  have HI := Aside0.mk hI
  clear hI
  simp only [List.length_nil] at h2
  go_enter Try.func24, Try.ntmps24
  go_wp2_with ((with_reducible refine gate_builtin (b := .append) (xs := #[.tmp 16, .tmp 18]) rfl ?_); at_builtin; refine print_append_cells (w0 := w0) base rfl (.tmp 16) (.tmp 18) 55 60 (.agg #[.int .i64 0, .bool false, .int .i64 0]) 3 24 rfl Try.underlying55 info rfl (by decide) (by decide) (.slice A1 ss.length c1) ss.length (flat ss) [.int .i64 0, .bool false, .int .i64 0] rfl rfl rfl (by decide) HI.out.slots HI.out.below hr (by omega) ?_; intro v1 w1 hown hb hg hat; obtain ⟨A3, c3, rfl⟩ := own_slice hown; have HO := Aside0.mk hown; have HB := Aside0.mk hb; have HG := Aside0.mk hg; have HGB := Aside0.mk (blk_grown HI.out.blk hg (own_ne HI.out.slots HI.out.blk (by decide))); have hfz2 := blk_frozen HGB.out 1; have h11 := (blk_cell HGB.out 1).trans rfl; have h31 := (blk_cell (blk_put HGB.out 1 (.slice A3 (ss.length + 1) c3) rfl) 1).trans rfl; clear hown hb hg hat h1 h2 hfz)
  go_ret
  have hk1 : KeptT w w1 [60] := .grown HG.out (fun k hk => by
    obtain ⟨cs, hc⟩ := own_typed HI.out.slots k hk
    exact ⟨cs, 60, hc, by simp⟩)
  have hk2 : KeptT w1 (w1.setCell ⟨g, 1, none⟩ (.slice A3 (ss.length + 1) c3)) [57] := .set (p := ⟨g, 1, none⟩) HGB.out (by simp) _
  have e1 : (ss ++ [(⟨0, false, .int .i64 0⟩ : Sl)]).length = ss.length + 1 := by simp
  have e2 : flat (ss ++ [(⟨0, false, .int .i64 0⟩ : Sl)]) = flat ss ++ [.int .i64 0, .bool false, .int .i64 0] := by rw [flat_append]; rfl
  refine ⟨rfl, ⟨_, _, ⟨blk_put HGB.out 1 _ rfl, HI.out.old, ?_, hk2.own (hk1.own HI.out.free (by decide)) (by decide), HB.out.setCell HI.out.old _⟩⟩, (hk1.mono (by simp)).trans (hk2.mono (by simp))⟩
  rw [e1, e2]
  exact hk2.own HO.out (by decide)
set_option maxHeartbeats 1600000 in
theorem next_pop {w0 w : World} {base g : Nat} {m : Int} {ss : List Sl} (fs : List Int) (i : Int) (hI : Arena 57 60 w0 w base g m ss (fs ++ [i])) (hl : fs.length ≤ 1100000) :
    Calls Try.prog 24 #[.pointer (some ⟨g, 0, none⟩)] w fun e w' => e = .returned (.int .i64 i) ∧ Arena 57 60 w0 w' base g m ss fs ∧ KeptT w w' [57, 60, 3] := by
  obtain ⟨vs, vf, hI⟩ := hI
  have hr := hI.room
  obtain ⟨A1, c1, rfl⟩ := own_slice hI.slots
  obtain ⟨A2, c2, rfl⟩ := own_slice hI.free
  have hle := own_cap hI.free
  have hfree := hI.free
  rw [List.length_append, List.length_singleton] at hle hfree
  have h2 : w.cell? ⟨g, 2, none⟩ = some (.slice A2 (fs.length + 1) c2) := by
    have := (blk_cell hI.blk 2).trans rfl
    rw [List.length_append, List.length_singleton] at this
    exact this
  have hfz := blk_frozen hI.blk 2
  obtain ⟨ad, ea, hx⟩ : ∃ ad, A2 = some ad ∧ w.cell? (ad.add fs.length) = some (.int .i64 i) := by
    have h := own_reads' hfree
    obtain ⟨ad, ea, hx⟩ := ReadsOf.at_ h (fs.length : Int) (by omega) (by omega)
    refine ⟨ad, ea, ?_⟩
    rw [Int.toNat_natCast] at hx
    rw [hx]
    simp [rdOf]
  subst ea
  have HI := Aside0.mk hI
  have HF := Aside0.mk hfree
  clear hI hfree
  go_enter Try.func24, Try.ntmps24
  go_wp2_with fail
  go_ret
  have hk2 : KeptT w (w.setCell ⟨g, 2, none⟩ (.slice (some ad) fs.length c2)) [57] := .set (p := ⟨g, 2, none⟩) HI.out.blk (by simp) _
  refine ⟨rfl, ⟨_, _, ⟨blk_put HI.out.blk 2 _ rfl, HI.out.old, hk2.own HI.out.slots (by decide), ?_, HI.out.below.setCell HI.out.old _⟩⟩, hk2.mono (by simp)⟩
  have h := own_take HF.out (m := fs.length) (by omega)
  have e : (nums .i64 (fs ++ [i])).take (fs.length * 1) = nums .i64 fs := by simp [nums]
  rw [e] at h
  exact hk2.own h (by decide)

theorem sinfo : (Try.prog.info? 69).map (fun i => (i.zero, i.size, i.bytes)) = some (some (.agg #[.int .i64 0, .bool false, .string ByteArray.empty]), 3, 32) := by kernel_rfl
set_option maxHeartbeats 1600000 in
theorem snext_new {w0 w : World} {base g : Nat} {m : Int} {ss : List Sl} (hI : Arena 66 69 w0 w base g m ss []) (hl : ss.length ≤ 1100000) :
    Calls Try.prog 29 #[.pointer (some ⟨g, 0, none⟩)] w fun e w' => e = .returned (.int .i64 ((ss.length : Int) + 1)) ∧ Arena 66 69 w0 w' base g m (ss ++ [⟨0, false, .string ByteArray.empty⟩]) [] ∧ KeptT w w' [66, 69, 3] := by
  obtain ⟨vs, vf, hI⟩ := hI
  have hr := hI.room
  obtain ⟨A1, c1, rfl⟩ := own_slice hI.slots
  obtain ⟨A2, c2, rfl⟩ := own_slice hI.free
  have h1 : w.cell? ⟨g, 1, none⟩ = some (.slice A1 ss.length c1) := (blk_cell hI.blk 1).trans rfl
  have h2 : w.cell? ⟨g, 2, none⟩ = some (.slice A2 ([] : List Int).length c2) := (blk_cell hI.blk 2).trans rfl
  have hfz := blk_frozen hI.blk 1
  have HI := Aside0.mk hI
  clear hI
  simp only [List.length_nil] at h2
  go_enter Try.func29, Try.ntmps29
  go_wp2_with ((with_reducible refine gate_builtin (b := .append) (xs := #[.tmp 16, .tmp 18]) rfl ?_); at_builtin; refine print_append_cells (w0 := w0) base rfl (.tmp 16) (.tmp 18) 64 69 (.agg #[.int .i64 0, .bool false, .string ByteArray.empty]) 3 32 rfl Try.underlying64 sinfo rfl (by decide) (by decide) (.slice A1 ss.length c1) ss.length (flat ss) [.int .i64 0, .bool false, .string ByteArray.empty] rfl rfl rfl (by decide) HI.out.slots HI.out.below hr (by omega) ?_; intro v1 w1 hown hb hg hat; obtain ⟨A3, c3, rfl⟩ := own_slice hown; have HO := Aside0.mk hown; have HB := Aside0.mk hb; have HG := Aside0.mk hg; have HGB := Aside0.mk (blk_grown HI.out.blk hg (own_ne HI.out.slots HI.out.blk (by decide))); have hfz2 := blk_frozen HGB.out 1; have h11 := (blk_cell HGB.out 1).trans rfl; have h31 := (blk_cell (blk_put HGB.out 1 (.slice A3 (ss.length + 1) c3) rfl) 1).trans rfl; clear hown hb hg hat h1 h2 hfz)
  go_ret
  have hk1 : KeptT w w1 [69] := .grown HG.out (fun k hk => by
    obtain ⟨cs, hc⟩ := own_typed HI.out.slots k hk
    exact ⟨cs, 69, hc, by simp⟩)
  have hk2 : KeptT w1 (w1.setCell ⟨g, 1, none⟩ (.slice A3 (ss.length + 1) c3)) [66] := .set (p := ⟨g, 1, none⟩) HGB.out (by simp) _
  have e1 : (ss ++ [(⟨0, false, .string ByteArray.empty⟩ : Sl)]).length = ss.length + 1 := by simp
  have e2 : flat (ss ++ [(⟨0, false, .string ByteArray.empty⟩ : Sl)]) = flat ss ++ [.int .i64 0, .bool false, .string ByteArray.empty] := by rw [flat_append]; rfl
  refine ⟨rfl, ⟨_, _, ⟨blk_put HGB.out 1 _ rfl, HI.out.old, ?_, hk2.own (hk1.own HI.out.free (by decide)) (by decide), HB.out.setCell HI.out.old _⟩⟩, (hk1.mono (by simp)).trans (hk2.mono (by simp))⟩
  rw [e1, e2]
  exact hk2.own HO.out (by decide)
set_option maxHeartbeats 1600000 in
theorem snext_pop {w0 w : World} {base g : Nat} {m : Int} {ss : List Sl} (fs : List Int) (i : Int) (hI : Arena 66 69 w0 w base g m ss (fs ++ [i])) (hl : fs.length ≤ 1100000) :
    Calls Try.prog 29 #[.pointer (some ⟨g, 0, none⟩)] w fun e w' => e = .returned (.int .i64 i) ∧ Arena 66 69 w0 w' base g m ss fs ∧ KeptT w w' [66, 69, 3] := by
  obtain ⟨vs, vf, hI⟩ := hI
  have hr := hI.room
  obtain ⟨A1, c1, rfl⟩ := own_slice hI.slots
  obtain ⟨A2, c2, rfl⟩ := own_slice hI.free
  have hle := own_cap hI.free
  have hfree := hI.free
  rw [List.length_append, List.length_singleton] at hle hfree
  have h2 : w.cell? ⟨g, 2, none⟩ = some (.slice A2 (fs.length + 1) c2) := by
    have := (blk_cell hI.blk 2).trans rfl
    rw [List.length_append, List.length_singleton] at this
    exact this
  have hfz := blk_frozen hI.blk 2
  obtain ⟨ad, ea, hx⟩ : ∃ ad, A2 = some ad ∧ w.cell? (ad.add fs.length) = some (.int .i64 i) := by
    have h := own_reads' hfree
    obtain ⟨ad, ea, hx⟩ := ReadsOf.at_ h (fs.length : Int) (by omega) (by omega)
    refine ⟨ad, ea, ?_⟩
    rw [Int.toNat_natCast] at hx
    rw [hx]
    simp [rdOf]
  subst ea
  have HI := Aside0.mk hI
  have HF := Aside0.mk hfree
  clear hI hfree
  go_enter Try.func29, Try.ntmps29
  go_wp2_with fail
  go_ret
  have hk2 : KeptT w (w.setCell ⟨g, 2, none⟩ (.slice (some ad) fs.length c2)) [66] := .set (p := ⟨g, 2, none⟩) HI.out.blk (by simp) _
  refine ⟨rfl, ⟨_, _, ⟨blk_put HI.out.blk 2 _ rfl, HI.out.old, hk2.own HI.out.slots (by decide), ?_, HI.out.below.setCell HI.out.old _⟩⟩, hk2.mono (by simp)⟩
  have h := own_take HF.out (m := fs.length) (by omega)
  have e : (nums .i64 (fs ++ [i])).take (fs.length * 1) = nums .i64 fs := by simp [nums]
  rw [e] at h
  exact hk2.own h (by decide)
end Go.Proofs.Ytcdfkjcnjdbmgaa.Next
