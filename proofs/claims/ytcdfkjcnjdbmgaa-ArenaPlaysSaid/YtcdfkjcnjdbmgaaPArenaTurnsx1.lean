-- PRINTED BY print.sh 35421559b90ae4d0a3588c463048766b98c2df88dd9212a6774a882060cdf62d: not written by this session
import Derived.Test.YtcdfkjcnjdbmgaaPArenaTurnsx0
namespace Go.Proofs.Ytcdfkjcnjdbmgaa.PArenaTurns
open Go.RowKit Go.Proofs.YtcdfkjcnjdbmgaaW.PrintWords Go.Proofs.YtcdfkjcnjdbmgaaW.PrintLast Go.Proofs.YtcdfkjcnjdbmgaaW.PrintMore
attribute [local go_sem] max2_int min2_int max_two min_two max_three min_three max_four min_four   -- for this text's walks alone
set_option linter.unusedVariables false
set_option linter.unusedSimpArgs false

-- NOT PRINTED: function 9 (arena_New_int)

/-- A state of type 57 at block g of W; what its slices lead to came in by w0. -/
def IsS57 (w0 W : World) (g : Nat) (f0 : Int) (f1 : List (S60)) (f2 : List Int) : Prop := ∃ A1 c1, ∃ A2 c2, W.heap[g]? = some (.cells #[.int .i64 f0, .slice A1 f1.length c1, .slice A2 f2.length c2] 57 (0, 0)) ∧ w0.heap.size ≤ g ∧ Kd.C k60 w0 A1 f1.length f1 ∧ Kd.C (Kd.int .i64) w0 A2 f2.length f2
theorem IsS57.grown {w0 W : World} {g : Nat} {f0 : Int} {f1 : List (S60)} {f2 : List Int} {W1 : World} {row : Option Nat} (h : IsS57 w0 W g f0 f1 f2) (hw : W.grownBy W1 row) (hne : some g ≠ row) : IsS57 w0 W1 g f0 f1 f2 := by
  obtain ⟨A1, c1, A2, c2, hb, hg, hr1, hr2⟩ := h
  exact ⟨A1, c1, A2, c2, blk_grown hb hw hne, hg, hr1, hr2⟩
theorem IsS57.own_neN {w0 W : World} {g : Nat} {f0 : Int} {f1 : List (S60)} {f2 : List Int} {α : Type} {d : Kd α} {e : Nat} {base : Nat} {ok : Nat → Prop} {v : Value} {xs : List α} (h : IsS57 w0 W g f0 f1 f2) (ho : Kd.N d e W base ok v xs) (ht : e ≠ 57) : some g ≠ v.ownBlock := by
  obtain ⟨A1, c1, A2, c2, hb, hg, hr1, hr2⟩ := h
  exact Kd.N_ne ho hb ht
theorem IsS57.fresh {w0 W : World} {g : Nat} {f0 : Int} {f1 : List (S60)} {f2 : List Int} (h : IsS57 w0 W g f0 f1 f2) : ∀ k, W.heap.size ≤ k → k ≠ g := by
  obtain ⟨A1, c1, A2, c2, hb, hg, hr1, hr2⟩ := h
  exact Kd.freshB hb
theorem IsS57.kept {w0 W : World} {g : Nat} {f0 : Int} {f1 : List (S60)} {f2 : List Int} {W1 : World} {S : Nat → Prop} (h : IsS57 w0 W g f0 f1 f2) (hk : Kept W W1 S) (hne : ¬ S g) : IsS57 w0 W1 g f0 f1 f2 := by
  obtain ⟨A1, c1, A2, c2, hb, hg, hr1, hr2⟩ := h
  exact ⟨A1, c1, A2, c2, blk_kept hb hk hne, hg, hr1, hr2⟩
theorem IsS57.below {w0 W : World} {g : Nat} {f0 : Int} {f1 : List (S60)} {f2 : List Int} {W1 : World} (h : IsS57 w0 W g f0 f1 f2) (hw : Below W.heap.size W W1) : IsS57 w0 W1 g f0 f1 f2 := h.grown (grown_of_below hw none) (by simp)
theorem IsS57.alloc {w0 W : World} {g : Nat} {f0 : Int} {f1 : List (S60)} {f2 : List Int} (h : IsS57 w0 W g f0 f1 f2) (o : Obj) : IsS57 w0 (W.alloc o) g f0 f1 f2 := h.below (below_alloc (Below.refl _ _) o)
theorem IsS57.drewN {w0 W : World} {g : Nat} {f0 : Int} {f1 : List (S60)} {f2 : List Int} (h : IsS57 w0 W g f0 f1 f2) (m : Nat) : IsS57 w0 (W.drewN m) g f0 f1 f2 := h
theorem IsS57.drew {w0 W : World} {g : Nat} {f0 : Int} {f1 : List (S60)} {f2 : List Int} (h : IsS57 w0 W g f0 f1 f2) : IsS57 w0 W.drew g f0 f1 f2 := h
theorem IsS57.at_ {w0 W : World} {g : Nat} {f0 : Int} {f1 : List (S60)} {f2 : List Int} {w' : World} {m : Nat} (hq : W.drewN m = w') (h : IsS57 w0 W g f0 f1 f2) : IsS57 w0 w' g f0 f1 f2 := by subst hq; exact IsS57.drewN h m
theorem IsS57.apart {w0 W : World} {g : Nat} {f0 : Int} {f1 : List (S60)} {f2 : List Int} {α : Type} {d : Kd α} {e : Nat} {base : Nat} {ok : Nat → Prop} {v : Value} {xs : List α} (h : IsS57 w0 W g f0 f1 f2) (ho : d.R e W base ok v xs) (ht : ∀ q, q ∈ e :: d.E → q ≠ 57) : d.R e W base (fun k => ok k ∧ k ≠ g) v xs := by
  obtain ⟨A1, c1, A2, c2, hb, hg, hr1, hr2⟩ := h
  exact Kd.R_types ho hb ht
theorem IsS57.own_ne {w0 W : World} {g : Nat} {f0 : Int} {f1 : List (S60)} {f2 : List Int} {α : Type} {d : Kd α} {e : Nat} {base : Nat} {ok : Nat → Prop} {v : Value} {xs : List α} (h : IsS57 w0 W g f0 f1 f2) (ho : d.R e W base ok v xs) (ht : e ≠ 57) : some g ≠ v.ownBlock := by
  obtain ⟨A1, c1, A2, c2, hb, hg, hr1, hr2⟩ := h
  exact Kd.R_ne ho hb ht
theorem IsS57.apartQ {w0 W : World} {g : Nat} {f0 : Int} {f1 : List (S60)} {f2 : List Int} {α : Type} {d : Kd α} {e : Nat} {base : Nat} {ok : Nat → Prop} {v : Value} {xs : List α} (h : IsS57 w0 W g f0 f1 f2) (ho : d.Q e W base ok v xs) (ht : ∀ q, q ∈ e :: d.E → q ≠ 57) : d.Q e W base (fun k => ok k ∧ k ≠ g) v xs := by
  obtain ⟨A1, c1, A2, c2, hb, hg, hr1, hr2⟩ := h
  exact Kd.Q_types ho hb ht
theorem IsS57.own_neQ {w0 W : World} {g : Nat} {f0 : Int} {f1 : List (S60)} {f2 : List Int} {α : Type} {d : Kd α} {e : Nat} {base : Nat} {ok : Nat → Prop} {v : Value} {xs : List α} (h : IsS57 w0 W g f0 f1 f2) (ho : d.Q e W base ok v xs) (ht : e ≠ 57) : some g ≠ v.ownBlock := by
  obtain ⟨A1, c1, A2, c2, hb, hg, hr1, hr2⟩ := h
  exact Kd.Q_ne ho hb ht
theorem IsS57.apartS {w0 W : World} {g : Nat} {f0 : Int} {f1 : List (S60)} {f2 : List Int} {α : Type} {d : Kd α} {e : Nat} {base : Nat} {ok : Nat → Prop} {v : Value} {xs : List α} (h : IsS57 w0 W g f0 f1 f2) (ho : d.S e W base ok v xs) (ht : ∀ q, q ∈ e :: d.E → q ≠ 57) : d.S e W base (fun k => ok k ∧ k ≠ g) v xs := by
  obtain ⟨A1, c1, A2, c2, hb, hg, hr1, hr2⟩ := h
  exact Kd.S_types ho hb ht
theorem IsS57.own_neS {w0 W : World} {g : Nat} {f0 : Int} {f1 : List (S60)} {f2 : List Int} {α : Type} {d : Kd α} {e : Nat} {base : Nat} {ok : Nat → Prop} {v : Value} {xs : List α} (h : IsS57 w0 W g f0 f1 f2) (ho : d.S e W base ok v xs) (ht : e ≠ 57) : some g ≠ v.ownBlock := by
  obtain ⟨A1, c1, A2, c2, hb, hg, hr1, hr2⟩ := h
  exact Kd.S_ne ho hb ht
theorem IsS57.lt {w0 W : World} {g : Nat} {f0 : Int} {f1 : List (S60)} {f2 : List Int} (h : IsS57 w0 W g f0 f1 f2) : g < W.heap.size := by
  obtain ⟨A1, c1, A2, c2, hb, hg, hr1, hr2⟩ := h
  exact blk_lt hb
theorem IsS57.ge {w0 W : World} {g : Nat} {f0 : Int} {f1 : List (S60)} {f2 : List Int} (h : IsS57 w0 W g f0 f1 f2) : w0.heap.size ≤ g := by
  obtain ⟨A1, c1, A2, c2, hb, hg, hr1, hr2⟩ := h
  exact hg
theorem IsS57.ne_blk {w0 W : World} {g : Nat} {f0 : Int} {f1 : List (S60)} {f2 : List Int} {a : Nat} {cs : Array Value} {t : TypeId} {fr : Nat × Nat} (h : IsS57 w0 W g f0 f1 f2) (hb2 : W.heap[a]? = some (.cells cs t fr)) (ht : t ≠ 57) : g ≠ a := by
  obtain ⟨A1, c1, A2, c2, hb, hg, hr1, hr2⟩ := h
  rintro rfl
  rw [hb] at hb2
  injection hb2 with hb2
  injection hb2 with _ ht2
  exact ht ht2.symm
theorem IsS57.far {w0 W : World} {g : Nat} {f0 : Int} {f1 : List (S60)} {f2 : List Int} {p : Addr} (h : IsS57 w0 W g f0 f1 f2) (hne : g ≠ p.block) (u : Value) : IsS57 w0 (W.setCell p u) g f0 f1 f2 := by
  obtain ⟨A1, c1, A2, c2, hb, hg, hr1, hr2⟩ := h
  exact ⟨A1, c1, A2, c2, blk_far hb hne u, hg, hr1, hr2⟩
theorem cellS57_0 {W : World} {g : Nat} {A1 : Option Addr} {c1 : Nat} {A2 : Option Addr} {c2 : Nat} {f0 : Int} {f1 : List (S60)} {f2 : List Int} (h : W.heap[g]? = some (.cells #[.int .i64 f0, .slice A1 f1.length c1, .slice A2 f2.length c2] 57 (0, 0))) : W.cell? ⟨g, 0, none⟩ = some (.int .i64 f0) := (blk_cell h 0).trans rfl
theorem IsS57.set_0 {w0 W : World} {g : Nat} {f0 : Int} {f1 : List (S60)} {f2 : List Int} (h : IsS57 w0 W g f0 f1 f2) (x : Int) : IsS57 w0 (W.setCell ⟨g, 0, none⟩ (.int .i64 x)) g x f1 f2 := by
  obtain ⟨A1, c1, A2, c2, hb, hg, hr1, hr2⟩ := h
  exact ⟨A1, c1, A2, c2, by simpa using blk_set hb 0 (.int .i64 x), hg, hr1, hr2⟩
theorem cellS57_1 {W : World} {g : Nat} {A1 : Option Addr} {c1 : Nat} {A2 : Option Addr} {c2 : Nat} {f0 : Int} {f1 : List (S60)} {f2 : List Int} (h : W.heap[g]? = some (.cells #[.int .i64 f0, .slice A1 f1.length c1, .slice A2 f2.length c2] 57 (0, 0))) : W.cell? ⟨g, 1, none⟩ = some (.slice A1 f1.length c1) := (blk_cell h 1).trans rfl
theorem cellS57_2 {W : World} {g : Nat} {A1 : Option Addr} {c1 : Nat} {A2 : Option Addr} {c2 : Nat} {f0 : Int} {f1 : List (S60)} {f2 : List Int} (h : W.heap[g]? = some (.cells #[.int .i64 f0, .slice A1 f1.length c1, .slice A2 f2.length c2] 57 (0, 0))) : W.cell? ⟨g, 2, none⟩ = some (.slice A2 f2.length c2) := (blk_cell h 2).trans rfl
theorem IsS57.new (w0 W : World) (A1 : Option Addr) (c1 : Nat) (A2 : Option Addr) (c2 : Nat) (f0 : Int) (f1 : List (S60)) (f2 : List Int) (hB : Below w0.heap.size w0 W) (hr1 : Kd.C k60 w0 A1 f1.length f1) (hr2 : Kd.C (Kd.int .i64) w0 A2 f2.length f2) : IsS57 w0 (W.alloc (.cells #[.int .i64 f0, .slice A1 f1.length c1, .slice A2 f2.length c2] 57)) W.heap.size f0 f1 f2 := ⟨A1, c1, A2, c2, by simpa using heap_alloc_new W _, hB.size, hr1, hr2⟩

/-! ### arena_Arena_int_Room: function 18 -/
def arena_Arena_int_Room.f (s0_0 : Int) (s0_1 : List (S60)) (s0_2 : List Int) : Option (Int × Int) := some (wrap64 ((wrap64 (s0_0 - (s0_1.length : Int))) + (s0_2.length : Int)), s0_0)
set_option maxHeartbeats 8000000 in
set_option maxRecDepth 100000 in
theorem arena_Arena_int_Room.calls (g : Nat) (s0_0 : Int) (s0_1 : List (S60)) (s0_2 : List Int) (r1 : Int) (r2 : Int) (w0 w : World) (hI : IsS57 w0 w g s0_0 s0_1 s0_2) (hB : Below w0.heap.size w0 w) (h : arena_Arena_int_Room.f s0_0 s0_1 s0_2 = some (r1, r2)) :
    Calls Try.prog 18 #[.pointer (some ⟨g, 0, none⟩)] w fun e w' => e = .returned (.int .i64 r1) ∧ IsS57 w0 w' g r2 s0_1 s0_2 ∧ Below w0.heap.size w0 w' ∧ KeepBut w w' g none := by
  have HI0 := Aside0.mk hI
  have HK := Aside0.mk (KeepBut.refl w g none)
  have HL := Aside0.mk hB.size
  clear hI
  have HW0 := Aside0.mk hB.size
  have HB := Aside0.mk hB
  clear hB
  have H : (some (wrap64 ((wrap64 (s0_0 - (s0_1.length : Int))) + (s0_2.length : Int)), s0_0)) = some (r1, r2) := h
  clear h
  simp only [Option.some.injEq, Prod.mk.injEq] at H
  obtain ⟨rfl, rfl⟩ := H
  obtain ⟨ASz2_1, cSz2_1, ASz2_2, cSz2_2, HGz2, hgz2, HSz2_1, HSz2_2⟩ := HI0.out
  have hcz2_0 := cellS57_0 HGz2
  have hcz2_1 := cellS57_1 HGz2
  have hcz2_2 := cellS57_2 HGz2
  have hfz2_0 := blk_frozen HGz2 0
  clear HGz2 hgz2
  go_enter Try.func18, Try.ntmps18
  go_wp2
  repeat (go_quiet (fail); try go_wp2)
  go_ret
  exact ⟨by first | rfl | (simp [errW_none, errW_some] <;> rfl) | (simp [*, errW_none, errW_some] <;> rfl), by repeat (first | (with_reducible first | exact HI0.out | apply IsS57.alloc | apply IsS57.drewN | apply IsS57.drew | apply IsS57.set_0) | exact HI0.out), by repeat (first | (with_reducible first | exact HB.out | apply below_alloc | apply pw_below_drewN | apply below_drew1 | refine below_set ?_ (IsS57.ge HI0.out)) | exact HB.out), by repeat (first | (with_reducible first | exact HK.out | apply KeepBut.set_ | apply keep_drewN | apply keep_drew | apply keep_alloc) | exact HK.out)⟩

-- NOT PRINTED: function 24 (arena_Arena_int_next)

-- NOT PRINTED: function 10 (arena_Arena_int_Put)

-- NOT PRINTED: function 27 (arena_Arena_int_find)

-- NOT PRINTED: function 12 (arena_Arena_int_Free)

-- NOT PRINTED: function 14 (arena_Arena_int_Get)

-- NOT PRINTED: function 16 (arena_Arena_int_Live)

-- NOT PRINTED: function 8 (holtlaw09_awake)

-- NOT PRINTED: function 7 (holtlaw09_ArenaTurns)

end Go.Proofs.Ytcdfkjcnjdbmgaa.PArenaTurns
