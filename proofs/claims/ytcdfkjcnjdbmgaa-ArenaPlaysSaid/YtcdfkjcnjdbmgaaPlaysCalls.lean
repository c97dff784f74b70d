/- Layer 09: Put, Free, Get of the arena and of the document answer alike. -/
import Derived.Test.YtcdfkjcnjdbmgaaPlaysSteps
import Derived.Test.YtcdfkjcnjdbmgaaAwake
namespace Go.Proofs.Ytcdfkjcnjdbmgaa.PlaysCalls
open Go.RowKit Go.Proofs.YtcdfkjcnjdbmgaaW.PrintWords Go.Proofs.Ytcdfkjcnjdbmgaa.Core Go.Proofs.Ytcdfkjcnjdbmgaa.Put Go.Proofs.Ytcdfkjcnjdbmgaa.Find Go.Proofs.Ytcdfkjcnjdbmgaa.Doc Go.Proofs.Ytcdfkjcnjdbmgaa.DocNext Go.Proofs.Ytcdfkjcnjdbmgaa.DocPut Go.Proofs.Ytcdfkjcnjdbmgaa.PlaysModel Go.Proofs.Ytcdfkjcnjdbmgaa.PlaysSteps
set_option linter.unusedVariables false
set_option linter.unusedSimpArgs false
section
variable {m : Int} {ss : List Sl} {fs : List Int} {L : List Pt} {N : Int} {k : Nat}
theorem put_plays (x : Int) (h : Rl m ss fs L N k) (hm : m ≤ 900) (hk : k ≤ 900) : ∃ (a b : Int) (d : Bool) (ss' : List Sl) (fs' : List Int) (L' : List Pt), Rl m ss' fs' L' N (k + 1) ∧
    (∀ (w0 W : World) (base g : Nat), Arena 57 60 w0 W base g m ss fs → Calls Try.prog 10 #[.pointer (some ⟨g, 0, none⟩), .int .i64 x] W fun e w' => e = .returned (.tuple #[.agg #[.int .i64 a, .int .i64 b], .bool d]) ∧ Arena 57 60 w0 w' base g m ss' fs' ∧ KeptT W w' [57, 60, 3]) ∧
    (∀ (w0 W : World) (base g : Nat), Doc w0 W base g m L N → Calls Try.prog 11 #[.pointer (some ⟨g, 0, none⟩), .int .i64 x] W fun e w' => e = .returned (.tuple #[.agg #[.int .i64 a, .int .i64 b], .bool d]) ∧ Doc w0 w' base g m L' N ∧ KeptT W w' [29, 35]) := by
  have hc := h.cnt
  have hmost := h.most
  have hlen := h.len
  by_cases hr : m - (ss.length : Int) + (fs.length : Int) = 0
  · refine ⟨0, 0, false, ss, fs, L, h.more, fun w0 W base g hA => ?_, fun w0 W base g hD => ?_⟩
    · exact put_no x hA (by rw [w64 (m - (ss.length : Int)) ⟨by omega, by omega⟩, w64 _ ⟨by omega, by omega⟩]; exact hr)
    · refine (dput_no x hD (by omega) (by omega)).mono ?_
      rintro e w' ⟨rfl, hb⟩
      exact ⟨rfl, hD.then_ hb, .below hb _⟩
  · rcases List.eq_nil_or_concat fs with rfl | ⟨fs', y, rfl⟩
    · have hlt : (ss.length : Int) < m := by simp at hr; omega
      refine ⟨(ss.length : Int) + 1, 1, true, _, _, _, PlaysSteps.Rl.put_new h hlt x, fun w0 W base g hA => put_new x hA hlt (by omega), fun w0 W base g hD => ?_⟩
      have h0 := h.uses_new
      exact dput_yes x ((ss.length : Int) + 1) hD (by omega) 0 (by rw [h0]; rfl) (by rw [List.length_nil] at hc; omega) h.next_new (by omega)
    · rw [List.concat_eq_append] at *
      obtain ⟨i, hi, rfl, hu⟩ := h.free y (by simp)
      rw [List.length_append, List.length_singleton] at hc hr
      have hg := h.gen_le i hi
      refine ⟨(i : Int) + 1, ss[i].gen + 1, true, _, _, _, PlaysSteps.Rl.put_pop h hi hu x, fun w0 W base g hA => put_pop fs' i x hA hi hmost (by omega) (by omega) hg.1 (by omega), fun w0 W base g hD => ?_⟩
      exact dput_yes x ((i : Int) + 1) hD (by omega) ss[i].gen (h.uses1 i hi) (by omega) (h.next_pop hi hu) (by omega)
theorem free_plays (s z : Int) (h : Rl m ss fs L N k) (hm : m ≤ 900) (hk : k ≤ 900) : ∃ (d : Bool) (ss' : List Sl) (fs' : List Int) (L' : List Pt) (N' : Int), Rl m ss' fs' L' N' (k + 1) ∧
    (∀ (w0 W : World) (base g : Nat), Arena 57 60 w0 W base g m ss fs → Calls Try.prog 12 #[.pointer (some ⟨g, 0, none⟩), .agg #[.int .i64 s, .int .i64 z]] W fun e w' => e = .returned (.bool d) ∧ Arena 57 60 w0 w' base g m ss' fs' ∧ KeptT W w' [57, 60, 3]) ∧
    (∀ (w0 W : World) (base g : Nat), Doc w0 W base g m L N → Calls Try.prog 13 #[.pointer (some ⟨g, 0, none⟩), .agg #[.int .i64 s, .int .i64 z]] W fun e w' => e = .returned (.bool d) ∧ Doc w0 w' base g m L' N' ∧ KeptT W w' [29, 35]) := by
  have hc := h.cnt
  have hmost := h.most
  have hlen := h.len
  have hn0 := h.n0
  have hn1 := h.n1
  cases hl : Find.look ss s z with
  | none =>
    refine ⟨false, ss, fs, L, N, h.more, fun w0 W base g hA => ?_, fun w0 W base g hD => ?_⟩
    · refine (free_no s z hA (by omega) hl).mono ?_
      rintro e w' ⟨rfl, hb⟩
      exact ⟨rfl, hA.then_ hb, .below hb _⟩
    · refine (dfree_no s z (h.find_no hl) hD (by omega)).mono ?_
      rintro e w' ⟨rfl, hb⟩
      exact ⟨rfl, hD.then_ hb, .below hb _⟩
  | some i =>
    obtain ⟨hi, rfl, hu, rfl⟩ := look_some hl
    obtain ⟨j, hj, ha, hb, hx, hh, hno, hlast⟩ := h.find_yes hi hu
    exact ⟨true, _, _, _, _, PlaysSteps.Rl.freed h hi hu j hj ha hb hlast, fun w0 W base g hA => free_yes i hA (by omega) (by omega) hi hu,
      fun w0 W base g hD => dfree_yes _ _ j hj hh hno hD (by omega) hn0 (by omega)⟩
theorem get_plays (s z : Int) (h : Rl m ss fs L N k) (hm : m ≤ 900) (hk : k ≤ 900) : ∃ (x : Int) (d : Bool),
    (∀ (w0 W : World) (base g : Nat), Arena 57 60 w0 W base g m ss fs → Calls Try.prog 14 #[.pointer (some ⟨g, 0, none⟩), .agg #[.int .i64 s, .int .i64 z]] W fun e w' => e = .returned (.tuple #[.int .i64 x, .bool d]) ∧ Below W.heap.size W w') ∧
    (∀ (w0 W : World) (base g : Nat), Doc w0 W base g m L N → Calls Try.prog 15 #[.pointer (some ⟨g, 0, none⟩), .agg #[.int .i64 s, .int .i64 z]] W fun e w' => e = .returned (.tuple #[.int .i64 x, .bool d]) ∧ Below W.heap.size W w') := by
  have hc := h.cnt
  have hmost := h.most
  have hlen := h.len
  cases hl : Find.look ss s z with
  | none => exact ⟨0, false, fun w0 W base g hA => get_no s z hA (by omega) hl, fun w0 W base g hD => dget_no s z (h.find_no hl) hD (by omega)⟩
  | some i =>
    obtain ⟨hi, rfl, hu, rfl⟩ := look_some hl
    obtain ⟨j, hj, ha, hb, hx, hh, hno, hlast⟩ := h.find_yes hi hu
    exact ⟨L[j].x, true, fun w0 W base g hA => get_yes i _ hA (by omega) hi hu hx, fun w0 W base g hD => dget_yes _ _ j hj hh hno hD (by omega)⟩
end
end Go.Proofs.Ytcdfkjcnjdbmgaa.PlaysCalls
