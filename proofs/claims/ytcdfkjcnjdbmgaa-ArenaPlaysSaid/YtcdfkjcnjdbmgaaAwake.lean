/- Layer 09: what the laws are walked with: an arena at first, Live and Room of an arena, a handle's block; and the contract of awake: it is true. -/
import Derived.Test.YtcdfkjcnjdbmgaaFind
namespace Go.Proofs.Ytcdfkjcnjdbmgaa.Awake
open Go.RowKit Go.Proofs.YtcdfkjcnjdbmgaaW.PrintWords Go.Proofs.YtcdfkjcnjdbmgaaW.PrintLast Go.Proofs.YtcdfkjcnjdbmgaaW.PrintMore Go.Proofs.Ytcdfkjcnjdbmgaa.Core Go.Proofs.Ytcdfkjcnjdbmgaa.Put Go.Proofs.Ytcdfkjcnjdbmgaa.Find
set_option linter.unusedVariables false
set_option linter.unusedSimpArgs false
theorem arena_new {tA tS : Nat} {w0 w : World} {base : Nat} (m : Int) (hb : Below base w0 w) (hs : base ≤ w.heap.size) : Arena tA tS w0 (w.alloc (.cells #[.int .i64 m, .slice none 0 0, .slice none 0 0] tA)) base w.heap.size m [] [] :=
  ⟨_, _, ⟨blk_new w _, hs, own_nil _ _ _ _, own_nil _ _ _ _, hb.alloc hs _⟩⟩
theorem live_ar {w0 w : World} {base g : Nat} {m : Int} {ss : List Sl} {fs : List Int} (hI : Arena 57 60 w0 w base g m ss fs) (h1 : ss.length ≤ m) (h2 : m ≤ 1048576) (h3 : fs.length ≤ ss.length) :
    Calls Try.prog 16 #[.pointer (some ⟨g, 0, none⟩)] w fun e w' => e = .returned (.int .i64 ((ss.length : Int) - (fs.length : Int))) ∧ ∃ nd, w' = w.drewN nd := by
  obtain ⟨vs, vf, hI⟩ := hI
  obtain ⟨A1, c1, rfl⟩ := own_slice hI.slots
  obtain ⟨A2, c2, rfl⟩ := own_slice hI.free
  refine (Arena.live_calls w g m A1 A2 _ c1 _ c2 hI.blk).mono ?_
  rintro e w' ⟨rfl, h⟩
  refine ⟨?_, h⟩
  rw [w64 (m - (ss.length : Int)) ⟨by omega, by omega⟩, w64 (m - (ss.length : Int) + _) ⟨by omega, by omega⟩, w64 _ ⟨by omega, by omega⟩]
  congr 2
  omega
theorem room_ar {w0 w : World} {base g : Nat} {m : Int} {ss : List Sl} {fs : List Int} (hI : Arena 57 60 w0 w base g m ss fs) (h1 : ss.length ≤ m) (h2 : m ≤ 1048576) (h3 : fs.length ≤ ss.length) :
    Calls Try.prog 18 #[.pointer (some ⟨g, 0, none⟩)] w fun e w' => e = .returned (.int .i64 (m - (ss.length : Int) + (fs.length : Int))) ∧ ∃ nd, w' = w.drewN nd := by
  obtain ⟨vs, vf, hI⟩ := hI
  obtain ⟨A1, c1, rfl⟩ := own_slice hI.slots
  obtain ⟨A2, c2, rfl⟩ := own_slice hI.free
  refine (Arena.room_calls w g m A1 A2 _ c1 _ c2 hI.blk).mono ?_
  rintro e w' ⟨rfl, h⟩
  refine ⟨?_, h⟩
  rw [w64 (m - (ss.length : Int)) ⟨by omega, by omega⟩, w64 _ ⟨by omega, by omega⟩]
/-- A handle's own block, as it is made and written. -/
theorem hand_new (w : World) (s h : Int) : Below w.heap.size w (((w.alloc (.cells #[.int .i64 0, .int .i64 0] 31)).setCell ⟨w.heap.size, 0, none⟩ (.int .i64 s)).setCell ⟨w.heap.size, 1, none⟩ (.int .i64 h)) ∧
    (((w.alloc (.cells #[.int .i64 0, .int .i64 0] 31)).setCell ⟨w.heap.size, 0, none⟩ (.int .i64 s)).setCell ⟨w.heap.size, 1, none⟩ (.int .i64 h)).heap[w.heap.size]? = some (.cells #[.int .i64 s, .int .i64 h] 31 (0, 0)) :=
  ⟨below_set (below_set (below_alloc (Below.refl _ _) _) (Nat.le_refl _)) (Nat.le_refl _), blk_put (blk_put (blk_new w _) 0 _ rfl) 1 _ rfl⟩
set_option maxHeartbeats 3200000 in
set_option maxRecDepth 100000 in
theorem awake_calls (w : World) : Calls Try.prog 8 #[] w fun e w' => e = .returned (.bool true) ∧ Below w.heap.size w w' := by
  go_enter Try.func8, Try.ntmps8
  go_wp2_with fail
  refine (Arena.new_yes w 2 (by decide) (by decide)).mono ?_
  rintro e w1 ⟨rfl, rfl⟩
  have HA := Aside0.mk (arena_new (tA := 57) (tS := 60) 2 (Below.refl w.heap.size w) (Nat.le_refl _))
  generalize w.alloc (.cells #[.int .i64 2, .slice none 0 0, .slice none 0 0] 57) = w1 at HA ⊢
  go_wp2_with fail
  refine (put_new 5 HA.out (by decide) (by decide)).mono ?_
  rintro e w2 ⟨rfl, hA2, hk2⟩
  have HA2 := Aside0.mk (hA2.then_ (below_alloc (Below.refl _ _) (.cells #[.int .i64 1, .int .i64 1] 31)))
  have HX2 := Aside0.mk (blk_new w2 (.cells #[.int .i64 1, .int .i64 1] 31))
  clear hA2 hk2
  go_wp2_with fail
  generalize hb1 : w2.heap.size = b1 at HX2 ⊢
  generalize w2.alloc (.cells #[.int .i64 1, .int .i64 1] 31) = w3 at HA2 HX2 ⊢
  refine (put_new 6 HA2.out (by decide) (by decide)).mono ?_
  rintro e w4 ⟨rfl, hA4, hk4⟩
  have HX4 := Aside0.mk (blk_alloc (hk4.blk HX2.out (by decide)) (.cells #[.int .i64 2, .int .i64 1] 31))
  have HA4 := Aside0.mk (hA4.then_ (below_alloc (Below.refl _ _) (.cells #[.int .i64 2, .int .i64 1] 31)))
  have HY4 := Aside0.mk (blk_new w4 (.cells #[.int .i64 2, .int .i64 1] 31))
  have hlt := blk_lt (hk4.blk HX2.out (by decide))
  have hx0 := (blk_cell HX4.out 0).trans rfl
  have hx1 := (blk_cell HX4.out 1).trans rfl
  clear hA4 hk4 HA2 HX2
  go_wp2_with fail
  generalize hb3 : w4.heap.size = b3 at HY4 ⊢
  generalize w4.alloc (.cells #[.int .i64 2, .int .i64 1] 31) = w5 at HA4 HX4 HY4 hx0 hx1 ⊢
  clear hx0 hx1 hlt
  refine (free_yes (ss := [⟨1, true, .int .i64 5⟩, ⟨1, true, .int .i64 6⟩]) (fs := []) 0 HA4.out (by decide) (by decide) (by decide) rfl).mono ?_
  rintro e w6 ⟨rfl, hA6, hk6⟩
  have HX6 := Aside0.mk (hk6.blk HX4.out (by decide))
  have HY6 := Aside0.mk (hk6.blk HY4.out (by decide))
  have HA6 := Aside0.mk hA6
  clear hA6 hk6 HA4 HX4 HY4
  go_wp2_with fail
  refine (put_pop (ss := [⟨1, false, .int .i64 0⟩, ⟨1, true, .int .i64 6⟩]) [] 0 7 HA6.out (by decide) (by decide) (by decide) (by decide) (by decide) (by decide)).mono ?_
  rintro e w7 ⟨rfl, hA7, hk7⟩
  have HX7 := Aside0.mk (blk_alloc (hk7.blk HX6.out (by decide)) (.cells #[.int .i64 1, .int .i64 2] 31))
  have HY7 := Aside0.mk (blk_alloc (hk7.blk HY6.out (by decide)) (.cells #[.int .i64 1, .int .i64 2] 31))
  have HA7 := Aside0.mk (hA7.then_ (below_alloc (Below.refl _ _) (.cells #[.int .i64 1, .int .i64 2] 31)))
  have HZ7 := Aside0.mk (blk_new w7 (.cells #[.int .i64 1, .int .i64 2] 31))
  have hlt := blk_lt (hk7.blk HX6.out (by decide))
  have hx0 := (blk_cell HX7.out 0).trans rfl
  have hx1 := (blk_cell HX7.out 1).trans rfl
  clear hA7 hk7 HA6 HX6 HY6
  go_wp2_with fail
  generalize hb7 : w7.heap.size = b7 at HZ7 ⊢
  generalize w7.alloc (.cells #[.int .i64 1, .int .i64 2] 31) = w8 at HA7 HX7 HY7 HZ7 hx0 hx1 ⊢
  clear hx0 hx1 hlt
  refine (get_no 1 1 HA7.out (by decide) (by rfl)).mono ?_
  rintro e w9 ⟨rfl, hb9⟩
  have HA9 := Aside0.mk (HA7.out.then_ hb9)
  have HY9 := Aside0.mk (blk_below' HY7.out hb9)
  have HZ9 := Aside0.mk (blk_below' HZ7.out hb9)
  have hz0 := (blk_cell HZ9.out 0).trans rfl
  have hz1 := (blk_cell HZ9.out 1).trans rfl
  clear HA7 HY7 HZ7 HX7 hb9
  go_wp2_with fail
  clear hz0 hz1
  refine (get_yes (ss := [⟨2, true, .int .i64 7⟩, ⟨1, true, .int .i64 6⟩]) 0 7 HA9.out (by decide) (by decide) rfl rfl).mono ?_
  rintro e w10 ⟨rfl, hb10⟩
  have HA10 := Aside0.mk (HA9.out.then_ hb10)
  have HY10 := Aside0.mk (blk_below' HY9.out hb10)
  have HZ10 := Aside0.mk (blk_below' HZ9.out hb10)
  have hy0 := (blk_cell HY10.out 0).trans rfl
  have hy1 := (blk_cell HY10.out 1).trans rfl
  have hz0 := (blk_cell HZ10.out 0).trans rfl
  have hz1 := (blk_cell HZ10.out 1).trans rfl
  clear HA9 HY9 HZ9 hb10
  go_wp2_with fail
  refine (live_ar HA10.out (by decide) (by decide) (by decide)).mono ?_
  rintro e w11 ⟨rfl, nd, rfl⟩
  go_wp2
  go_ret
  exact ⟨rfl, pw_below_drewN HA10.out.below nd⟩
end Go.Proofs.Ytcdfkjcnjdbmgaa.Awake
