/- Layer 09: the walk of ArenaNew: it answers true for any number. -/
import Derived.Test.YtcdfkjcnjdbmgaaAwake
namespace Go.Proofs.Ytcdfkjcnjdbmgaa.New
open Go.RowKit Go.Proofs.YtcdfkjcnjdbmgaaW.PrintWords Go.Proofs.YtcdfkjcnjdbmgaaW.PrintLast Go.Proofs.YtcdfkjcnjdbmgaaW.PrintMore Go.Proofs.Ytcdfkjcnjdbmgaa.Core Go.Proofs.Ytcdfkjcnjdbmgaa.Put Go.Proofs.Ytcdfkjcnjdbmgaa.Find Go.Proofs.Ytcdfkjcnjdbmgaa.Awake
set_option linter.unusedVariables false
set_option linter.unusedSimpArgs false
theorem snew_yes (w : World) (m : Int) (h0 : 0 ≤ m) (h1 : m ≤ 1048576) :
    Calls Try.prog 19 #[.int .i64 m] w fun e w' => e = .returned (.pointer (some ⟨w.heap.size, 0, none⟩)) ∧ w' = w.alloc (.cells #[.int .i64 m, .slice none 0 0, .slice none 0 0] 66) := by
  go_enter Try.func19, Try.ntmps19
  go_wp2
  go_ret
  exact ⟨rfl, rfl⟩
theorem snew_no (w : World) (m : Int) (h : m < 0 ∨ 1048576 < m) :
    Calls Try.prog 19 #[.int .i64 m] w fun e w' => e = .returned (.pointer none) ∧ w' = w := by
  rcases h with h | h
  · go_enter Try.func19, Try.ntmps19
    go_wp2
    go_ret
    exact ⟨rfl, rfl⟩
  · by_cases h0 : m < 0
    · omega
    · go_enter Try.func19, Try.ntmps19
      go_wp2
      go_ret
      exact ⟨rfl, rfl⟩
theorem slive_ar {w0 w : World} {base g : Nat} {m : Int} {ss : List Sl} {fs : List Int} (hI : Arena 66 69 w0 w base g m ss fs) (h1 : ss.length ≤ m) (h2 : m ≤ 1048576) (h3 : fs.length ≤ ss.length) :
    Calls Try.prog 21 #[.pointer (some ⟨g, 0, none⟩)] w fun e w' => e = .returned (.int .i64 ((ss.length : Int) - (fs.length : Int))) ∧ ∃ nd, w' = w.drewN nd := by
  obtain ⟨vs, vf, hI⟩ := hI
  obtain ⟨A1, c1, rfl⟩ := own_slice hI.slots
  obtain ⟨A2, c2, rfl⟩ := own_slice hI.free
  refine (Arena.slive_calls w g m A1 A2 _ c1 _ c2 hI.blk).mono ?_
  rintro e w' ⟨rfl, h⟩
  refine ⟨?_, h⟩
  rw [w64 (m - (ss.length : Int)) ⟨by omega, by omega⟩, w64 (m - (ss.length : Int) + _) ⟨by omega, by omega⟩, w64 _ ⟨by omega, by omega⟩]
  congr 2
  omega
theorem sroom_ar {w0 w : World} {base g : Nat} {m : Int} {ss : List Sl} {fs : List Int} (hI : Arena 66 69 w0 w base g m ss fs) (h1 : ss.length ≤ m) (h2 : m ≤ 1048576) (h3 : fs.length ≤ ss.length) :
    Calls Try.prog 20 #[.pointer (some ⟨g, 0, none⟩)] w fun e w' => e = .returned (.int .i64 (m - (ss.length : Int) + (fs.length : Int))) ∧ ∃ nd, w' = w.drewN nd := by
  obtain ⟨vs, vf, hI⟩ := hI
  obtain ⟨A1, c1, rfl⟩ := own_slice hI.slots
  obtain ⟨A2, c2, rfl⟩ := own_slice hI.free
  refine (Arena.sroom_calls w g m A1 A2 _ c1 _ c2 hI.blk).mono ?_
  rintro e w' ⟨rfl, h⟩
  refine ⟨?_, h⟩
  rw [w64 (m - (ss.length : Int)) ⟨by omega, by omega⟩, w64 _ ⟨by omega, by omega⟩]
def SX (k : Nat) : List Sl := List.replicate k ⟨1, true, .string ⟨#[120]⟩⟩
theorem SX_length (k : Nat) : (SX k).length = k := by simp [SX]
theorem put_x {w0 w : World} {base g : Nat} {m : Int} (k : Nat) (hI : Arena 66 69 w0 w base g m (SX k) []) (hm : (k : Int) < m) (hm1 : m ≤ 1048576) :
    Calls Try.prog 22 #[.pointer (some ⟨g, 0, none⟩), .string ⟨#[120]⟩] w fun e w' => e = .returned (.tuple #[.agg #[.int .i64 ((k : Int) + 1), .int .i64 1], .bool true]) ∧ Arena 66 69 w0 w' base g m (SX (k + 1)) [] ∧ KeptT w w' [66, 69, 3] := by
  have h := sput_new (⟨#[120]⟩ : ByteArray) hI (by rw [SX_length]; exact hm) hm1
  rw [SX_length] at h
  have e : SX k ++ [⟨1, true, .string ⟨#[120]⟩⟩] = SX (k + 1) := by simp [SX, List.replicate_succ']
  rw [e] at h
  exact h
set_option maxHeartbeats 3200000 in
set_option maxRecDepth 100000 in
theorem new_calls (size : Int) (w : World) (h0 : (Lit.int .i64 size).wf = true) : Calls Try.prog 4 #[.int .i64 size] w fun e w' => e = .returned (.bool true) ∧ Below w.heap.size w w' := by
  clear h0
  by_cases hout : size < 0 ∨ 1048576 < size
  · have hsz : decide (size < 0) = true ∨ (decide (size < 0) = false ∧ decide (1048576 < size) = true) := by
      by_cases h : size < 0
      · exact .inl (decide_eq_true h)
      · exact .inr ⟨decide_eq_false h, decide_eq_true (by omega)⟩
    rcases hsz with hsz | ⟨hsz, hsz2⟩
    · go_enter Try.func4, Try.ntmps4
      go_wp2_with (go_at_call 8; refine (awake_calls _).mono ?_; rintro e w1 ⟨rfl, hb1⟩; have HB1 := Aside0.mk hb1; clear hb1)
      refine (snew_no w1 size hout).mono ?_
      rintro e w2 ⟨rfl, rfl⟩
      go_wp2
      go_ret
      exact ⟨rfl, HB1.out⟩
    · go_enter Try.func4, Try.ntmps4
      go_wp2_with (go_at_call 8; refine (awake_calls _).mono ?_; rintro e w1 ⟨rfl, hb1⟩; have HB1 := Aside0.mk hb1; clear hb1)
      refine (snew_no w1 size hout).mono ?_
      rintro e w2 ⟨rfl, rfl⟩
      go_wp2
      go_ret
      exact ⟨rfl, HB1.out⟩
  · have hs1 : 0 ≤ size := by omega
    have hs2 : size ≤ 1048576 := by omega
    have hd1 : decide (size < 0) = false := decide_eq_false (by omega)
    have hd2 : decide (1048576 < size) = false := decide_eq_false (by omega)
    clear hout
    go_enter Try.func4, Try.ntmps4
    go_wp2_with (go_at_call 8; refine (awake_calls _).mono ?_; rintro e w1 ⟨rfl, hb1⟩; have HB1 := Aside0.mk hb1; clear hb1)
    refine (snew_yes w1 size hs1 hs2).mono ?_
    rintro e w2 ⟨rfl, rfl⟩
    have HA : Aside0 (Arena 66 69 w _ w.heap.size w1.heap.size size (SX 0) []) := ⟨arena_new (tA := 66) (tS := 69) size HB1.out HB1.out.size⟩
    generalize w1.alloc (.cells #[.int .i64 size, .slice none 0 0, .slice none 0 0] 66) = w2 at HA ⊢
    generalize w1.heap.size = g at HA ⊢
    clear HB1
    go_wp2_with fail
    refine (sroom_ar HA.out hs1 hs2 (Nat.le_refl _)).mono ?_
    rintro e w3 ⟨rfl, nd, rfl⟩
    have HA3 := Aside0.mk (HA.out.then_ (pw_below_drewN (Below.refl _ _) nd))
    clear HA
    have e0 : size - ((SX 0).length : Int) + (([] : List Int).length : Int) = size := by simp [SX]
    rw [e0]
    clear e0
    go_wp2_with fail
    refine (slive_ar HA3.out hs1 hs2 (Nat.le_refl _)).mono ?_
    rintro e w4 ⟨rfl, nd4, rfl⟩
    have HA4 := Aside0.mk (HA3.out.then_ (pw_below_drewN (Below.refl _ _) nd4))
    generalize (w2.drewN nd).drewN nd4 = w4 at HA4 ⊢
    clear HA3
    have e1 : ((SX 0).length : Int) - (([] : List Int).length : Int) = 0 := by simp [SX]
    rw [e1]
    clear e1
    obtain ⟨n, hn⟩ : ∃ n : Nat, (if 40 < size then 40 else size) = (n : Int) := ⟨(if 40 < size then 40 else size).toNat, by split <;> omega⟩
    go_wp2_with fail
    have hnm : (n : Int) ≤ size ∧ n ≤ 40 ∧ ((n : Int) = size ∨ n = 40 ∧ 40 < size ∨ n = 40 ∧ size = 40) := by split at hn <;> omega
    have HNM := Aside0.mk hnm
    clear hnm
    go_loopw [5] (fun i wr => ∃ k : Nat, k ≤ n ∧ i = .int .i64 (k : Int) ∧ Aside0 (Arena 66 69 w wr w.heap.size g size (SX k) [])) (fun i _ => n - (intOf i).toNat)
    case atStart => exact ⟨0, Nat.zero_le _, rfl, HA4⟩
    case round =>
      obtain ⟨k, hk, rfl, HA5⟩ := hrel
      clear HA4
      by_cases hlt : k < n
      · go_wp2_with fail
        refine (put_x k HA5.out (by have := HNM.out; omega) hs2).mono ?_
        rintro e w6 ⟨rfl, hA6, hk6⟩
        have HA6 := Aside0.mk (hA6.then_ (below_alloc (Below.refl _ _) (.cells #[.int .i64 ((k : Int) + 1), .int .i64 1] 31)))
        clear hA6 hk6 HA5
        go_wp2
        go_roundw
        case rel => exact ⟨k + 1, by omega, by go_num, HA6⟩
        case measure => simp [intOf]; omega
      · obtain rfl : k = n := by omega
        by_cases hbig : 40 < size
        · have hd3 : decide (40 < size) = true := decide_eq_true hbig
          have hk40 : k = 40 := by have := HNM.out; omega
          subst hk40
          go_wp2_with fail
          refine (sroom_ar HA5.out (by rw [SX_length]; omega) hs2 (Nat.zero_le _)).mono ?_
          rintro e w3 ⟨rfl, nd9, rfl⟩
          have HA9 := Aside0.mk (HA5.out.then_ (pw_below_drewN (Below.refl _ _) nd9))
          have e0 : size - ((SX 40).length : Int) + (([] : List Int).length : Int) = size - 40 := by simp [SX]
          rw [e0]
          clear e0 HA5
          go_wp2
          go_ret
          exact ⟨rfl, HA9.out.below⟩
        · have hd3 : decide (40 < size) = false := decide_eq_false hbig
          have hks : (k : Int) = size := by have := HNM.out; omega
          subst hks
          go_wp2_with fail
          refine (sput_no (⟨#[121]⟩ : ByteArray) HA5.out (by rw [SX_length, Int.sub_self, w64 0 ⟨by omega, by omega⟩, List.length_nil, w64 _ ⟨by omega, by omega⟩]; rfl)).mono ?_
          rintro e w7 ⟨rfl, hA7, hk7⟩
          have HA7 := Aside0.mk (hA7.then_ (below_alloc (Below.refl _ _) (.cells #[.int .i64 0, .int .i64 0] 31)))
          clear hA7 hk7 HA5
          go_wp2_with fail
          refine (slive_ar HA7.out (by rw [SX_length]; omega) hs2 (Nat.zero_le _)).mono ?_
          rintro e w8 ⟨rfl, nd9, rfl⟩
          have HA9 := Aside0.mk (HA7.out.then_ (pw_below_drewN (Below.refl _ _) nd9))
          have e0 : ((SX k).length : Int) - (([] : List Int).length : Int) = k := by simp [SX]
          rw [e0]
          clear e0 HA7
          go_wp2
          go_ret
          exact ⟨rfl, HA9.out.below⟩
end Go.Proofs.Ytcdfkjcnjdbmgaa.New
