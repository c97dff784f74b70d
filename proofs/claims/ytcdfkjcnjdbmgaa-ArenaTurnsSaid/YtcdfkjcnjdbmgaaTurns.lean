/- Layer 09: the walk of ArenaTurns: it answers true for all sizes and turns. -/
import Derived.Test.YtcdfkjcnjdbmgaaAwake
namespace Go.Proofs.Ytcdfkjcnjdbmgaa.Turns
open Go.RowKit Go.Proofs.YtcdfkjcnjdbmgaaW.PrintWords Go.Proofs.YtcdfkjcnjdbmgaaW.PrintLast Go.Proofs.YtcdfkjcnjdbmgaaW.PrintMore Go.Proofs.Ytcdfkjcnjdbmgaa.Core Go.Proofs.Ytcdfkjcnjdbmgaa.Put Go.Proofs.Ytcdfkjcnjdbmgaa.Find Go.Proofs.Ytcdfkjcnjdbmgaa.Awake
set_option linter.unusedVariables false
set_option linter.unusedSimpArgs false
theorem wf8 {x : Int} (h : (Lit.int .u8 x).wf = true) : 0 ≤ x ∧ x ≤ 255 := by
  unfold Lit.wf at h
  rw [Bool.and_eq_true] at h
  exact ⟨of_decide_eq_true h.1, of_decide_eq_true h.2⟩
def SS (k : Nat) : List Sl := if k = 0 then [] else [⟨(k : Int), false, .int .i64 0⟩]
def FS (k : Nat) : List Int := if k = 0 then [] else [1]
theorem put_turn {w0 w : World} {base g : Nat} {m : Int} (k : Nat) (hI : Arena 57 60 w0 w base g m (SS k) (FS k)) (h0 : 1 ≤ m) (h1 : m ≤ 1048576) (hk : k ≤ 1000) :
    Calls Try.prog 10 #[.pointer (some ⟨g, 0, none⟩), .int .i64 (k : Int)] w fun e w' => e = .returned (.tuple #[.agg #[.int .i64 1, .int .i64 ((k : Int) + 1)], .bool true]) ∧ Arena 57 60 w0 w' base g m [⟨(k : Int) + 1, true, .int .i64 (k : Int)⟩] [] ∧ KeptT w w' [57, 60, 3] := by
  cases k with
  | zero => exact put_new (ss := []) _ hI (by show (0 : Int) < m; omega) h1
  | succ k => exact put_pop (ss := [⟨((k + 1 : Nat) : Int), false, .int .i64 0⟩]) [] 0 _ hI (Nat.lt_succ_self 0) h0 h1 (Nat.zero_le _) (by show (0 : Int) ≤ ((k + 1 : Nat) : Int); omega) (by show ((k + 1 : Nat) : Int) ≤ 1000000; omega)
set_option maxHeartbeats 3200000 in
set_option maxRecDepth 100000 in
theorem turns_calls (size turns : Int) (w : World) (h0 : (Lit.int .u8 size).wf = true) (h1 : (Lit.int .u8 turns).wf = true) :
    Calls Try.prog 7 #[.int .u8 size, .int .u8 turns] w fun e w' => e = .returned (.bool true) ∧ Below w.heap.size w w' := by
  obtain ⟨s0, s1⟩ := wf8 h0
  obtain ⟨t0, t1⟩ := wf8 h1
  clear h0 h1
  go_enter Try.func7, Try.ntmps7
  go_wp2_with (go_at_call 8; refine (awake_calls _).mono ?_; rintro e w1 ⟨rfl, hb1⟩; have HB1 := Aside0.mk hb1; clear hb1)
  have hm : 1 ≤ 1 + size % 20 ∧ 1 + size % 20 ≤ 1048576 := by omega
  generalize 1 + size % 20 = m at hm ⊢
  refine (Arena.new_yes w1 m (by omega) hm.2).mono ?_
  rintro e w2 ⟨rfl, rfl⟩
  have HA : Aside0 (Arena 57 60 w _ w.heap.size w1.heap.size m (SS 0) (FS 0)) := ⟨arena_new (tA := 57) (tS := 60) m HB1.out HB1.out.size⟩
  generalize w1.alloc (.cells #[.int .i64 m, .slice none 0 0, .slice none 0 0] 57) = w2 at HA ⊢
  generalize w1.heap.size = g at HA ⊢
  obtain ⟨n, rfl⟩ : ∃ n : Nat, turns = (n : Int) := ⟨turns.toNat, by omega⟩
  clear s0 s1 HB1
  go_wp2_with fail
  go_loopw [7] (fun i wr => ∃ k : Nat, k ≤ n ∧ i = .int .i64 (k : Int) ∧ Aside0 (Arena 57 60 w wr w.heap.size g m (SS k) (FS k))) (fun i _ => n - (intOf i).toNat)
  case atStart => exact ⟨0, Nat.zero_le _, rfl, HA⟩
  case round =>
    obtain ⟨k, hk, rfl, HA1⟩ := hrel
    clear HA
    by_cases hlt : k < n
    · go_wp2_with fail
      refine (put_turn k HA1.out hm.1 hm.2 (by omega)).mono ?_
      rintro e w3 ⟨rfl, hA3, hk3⟩
      have HA3 := Aside0.mk (hA3.then_ (below_alloc (Below.refl _ _) (.cells #[.int .i64 1, .int .i64 ((k : Int) + 1)] 31)))
      have HX3 := Aside0.mk (blk_new w3 (.cells #[.int .i64 1, .int .i64 ((k : Int) + 1)] 31))
      have hx0 := (blk_cell HX3.out 0).trans rfl
      have hx1 := (blk_cell HX3.out 1).trans rfl
      clear hA3 hk3 HA1
      go_wp2_with fail
      generalize hb3 : w3.heap.size = b3 at HX3 hx0 hx1 ⊢
      generalize w3.alloc (.cells #[.int .i64 1, .int .i64 ((k : Int) + 1)] 31) = w4 at HA3 HX3 hx0 hx1 ⊢
      clear hx0 hx1
      refine (get_yes (ss := [⟨(k : Int) + 1, true, .int .i64 (k : Int)⟩]) 0 (k : Int) HA3.out (Nat.le_of_ble_eq_true rfl) (Nat.lt_succ_self 0) rfl rfl).mono ?_
      rintro e w5 ⟨rfl, hb5⟩
      have HA5 := Aside0.mk (HA3.out.then_ hb5)
      have HX5 := Aside0.mk (blk_below' HX3.out hb5)
      have hx0 := (blk_cell HX5.out 0).trans rfl
      have hx1 := (blk_cell HX5.out 1).trans rfl
      clear HA3 HX3 hb5
      go_wp2_with fail
      refine (live_ar HA5.out hm.1 hm.2 (Nat.zero_le _)).mono ?_
      rintro e w6 ⟨rfl, nd, rfl⟩
      have HX6 := Aside0.mk (blk_drewN HX5.out nd)
      have HA6 := Aside0.mk (HA5.out.then_ (pw_below_drewN (Below.refl _ _) nd))
      go_wp2_with fail
      refine (free_yes (ss := [⟨(k : Int) + 1, true, .int .i64 (k : Int)⟩]) (fs := []) 0 HA6.out (Nat.le_of_ble_eq_true rfl) (by decide) (Nat.lt_succ_self 0) rfl).mono ?_
      rintro e w7 ⟨rfl, hA7, hk7⟩
      have HA7 := Aside0.mk hA7
      clear hA7 hk7 hx0 hx1 HX5 HX6 HA5 HA6
      go_wp2_with fail
      refine (live_ar HA7.out hm.1 hm.2 (Nat.le_refl _)).mono ?_
      rintro e w8 ⟨rfl, nd8, rfl⟩
      have HA8 := Aside0.mk (HA7.out.then_ (pw_below_drewN (Below.refl _ _) nd8))
      clear HA7
      go_wp2
      go_roundw
      case rel =>
        refine ⟨k + 1, by omega, by go_num, ⟨?_⟩⟩
        have h := HA8.out
        exact h
      case measure => simp [intOf]; omega
    · obtain rfl : k = n := by omega
      go_wp2
      go_ret
      exact ⟨rfl, HA1.out.below⟩
end Go.Proofs.Ytcdfkjcnjdbmgaa.Turns
