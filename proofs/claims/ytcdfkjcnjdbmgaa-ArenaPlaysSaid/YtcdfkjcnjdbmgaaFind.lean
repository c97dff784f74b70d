/- Layer 09: the contracts of find, Get, Free. -/
import Derived.Test.YtcdfkjcnjdbmgaaPut
import Derived.Deep.DeepMust
namespace Go.Proofs.Ytcdfkjcnjdbmgaa.Find
open Go.RowKit Go.Proofs.YtcdfkjcnjdbmgaaW.PrintWords Go.Proofs.YtcdfkjcnjdbmgaaW.PrintLast Go.Proofs.YtcdfkjcnjdbmgaaW.PrintMore Go.Proofs.Ytcdfkjcnjdbmgaa.Core Go.Proofs.Ytcdfkjcnjdbmgaa.Put
set_option linter.unusedVariables false
set_option linter.unusedSimpArgs false
theorem below_step' {base : Nat} {w0 w w1 : World} (h : Below base w0 w) (hb : base ≤ w.heap.size) (k : Below w.heap.size w w1) : Below base w0 w1 := h.trans (k.mono hb)
theorem blk_below' {w w1 : World} {k : Nat} {o : Obj} (h : w.heap[k]? = some o) (hb : Below w.heap.size w w1) : w1.heap[k]? = some o := (hb.block k (blk_lt h)).trans h
/-- An operation that gives a value. -/
theorem val_ {P : Program} {ops : Array Oper} {Q : Exit → Act → World → Prop} {oi : Oper} {N : Option Tmp} {a : Act} {w w1 : World} {v : Value} {K : Act → World → Prop} (hw : Region.wanted oi (yielded ops a.tmps) = true) (hN : oi.dst = N) (hrun : (execOp a.eval oi).run P w = .ok (.value v) w1)
    (h : K (a.put N v) w1) : if Region.wanted oi (yielded ops a.tmps) = true then Oper.wp P oi a w K Q else K (a.put N undef) w := by
  rw [if_pos hw]
  unfold Oper.wp
  rw [hrun]
  show K (a.put oi.dst v) w1
  rw [hN]
  exact h
theorem Below.cell_ {w w1 : World} (h : Below w.heap.size w w1) {a : Addr} {v : Value} (hc : w.cell? a = some v) : w1.cell? a = some v :=
  (World.cell?_of_block (h.block a.block (World.block_lt_of_cell? w a hc))).trans hc

/-- Where what has a handle lies. -/
def look (ss : List Sl) (s h : Int) : Option Nat := match ss[(s - 1).toNat]? with
  | some t => if 1 ≤ s ∧ t.used = true ∧ t.gen = h then some (s - 1).toNat else none
  | none => none
theorem look_some {ss : List Sl} {s h : Int} {k : Nat} (hl : look ss s h = some k) : ∃ hk : k < ss.length, s = (k : Int) + 1 ∧ ss[k].used = true ∧ ss[k].gen = h := by
  unfold look at hl
  split at hl
  · rename_i t ht
    split at hl
    · rename_i hc
      injection hl with hl
      subst hl
      obtain ⟨hk, e⟩ := List.getElem?_eq_some_iff.1 ht
      subst e
      exact ⟨hk, by omega, hc.2.1, hc.2.2⟩
    · cases hl
  · cases hl
theorem look_of {ss : List Sl} {k : Nat} (hk : k < ss.length) (hu : ss[k].used = true) : look ss ((k : Int) + 1) ss[k].gen = some k := by
  have e : ((k : Int) + 1 - 1).toNat = k := by omega
  unfold look
  rw [e, List.getElem?_eq_getElem hk]
  simp only
  rw [if_pos ⟨by omega, hu, trivial⟩]

set_option maxHeartbeats 3200000 in
theorem find_dead {w0 w : World} {base gs g c : Nat} {m : Int} {vf : Value} {ss : List Sl} {fs : List Int} (k : Nat) (hg : Int) (hI : Ar 57 60 w0 w base g m (.slice (some ⟨gs, 0, none⟩) ss.length c) vf ss fs) (hk : k < ss.length) (hb : ss.length ≤ 1048576) (hu : ss[k].used = false) :
    Calls Try.prog 27 #[.pointer (some ⟨g, 0, none⟩), .agg #[.int .i64 ((k : Int) + 1), .int .i64 hg]] w fun e w' => e = .returned (.pointer none) ∧ Below w.heap.size w w' := by
  have h1 : w.cell? ⟨g, 1, none⟩ = some (.slice (some ⟨gs, 0, none⟩) ss.length c) := (blk_cell hI.blk 1).trans rfl
  have hd : decide ((k : Int) + 1 < 1) = false := decide_eq_false (by omega)
  have hd2 : decide ((ss.length : Int) < (k : Int) + 1) = false := decide_eq_false (by omega)
  have hlt := blk_lt hI.blk
  have hlt2 := own_lt hI.slots gs rfl
  have hne : g ≠ w.heap.size := by omega
  have hne2 : w.heap.size ≠ g := by omega
  have hne3 : gs ≠ w.heap.size := by omega
  have hne4 : w.heap.size ≠ gs := by omega
  have hle := own_cap hI.slots
  have hq := flat_get ss k hk
  have hc0 := own_cellat hI.slots _ _ hq.1
  have hc1 := own_cellat hI.slots _ _ hq.2.1
  rw [hu] at hc1
  have HI := Aside0.mk hI
  clear hI hq
  go_enter Try.func27, Try.ntmps27
  go_wp2_with fail
  repeat (go_quiet (fail); try go_wp2)
  go_ret
  exact ⟨rfl, by repeat (first | (with_reducible first | exact Below.refl _ _ | apply below_alloc | apply pw_below_drewN | apply below_drew1) | exact Below.refl _ _)⟩

set_option maxHeartbeats 3200000 in
theorem find_old {w0 w : World} {base gs g c : Nat} {m : Int} {vf : Value} {ss : List Sl} {fs : List Int} (k : Nat) (hg : Int) (hI : Ar 57 60 w0 w base g m (.slice (some ⟨gs, 0, none⟩) ss.length c) vf ss fs) (hk : k < ss.length) (hb : ss.length ≤ 1048576) (hu : ss[k].used = true) (hn : ss[k].gen ≠ hg) :
    Calls Try.prog 27 #[.pointer (some ⟨g, 0, none⟩), .agg #[.int .i64 ((k : Int) + 1), .int .i64 hg]] w fun e w' => e = .returned (.pointer none) ∧ Below w.heap.size w w' := by
  have h1 : w.cell? ⟨g, 1, none⟩ = some (.slice (some ⟨gs, 0, none⟩) ss.length c) := (blk_cell hI.blk 1).trans rfl
  have hd : decide ((k : Int) + 1 < 1) = false := decide_eq_false (by omega)
  have hd2 : decide ((ss.length : Int) < (k : Int) + 1) = false := decide_eq_false (by omega)
  have hlt := blk_lt hI.blk
  have hlt2 := own_lt hI.slots gs rfl
  have hne : g ≠ w.heap.size := by omega
  have hne2 : w.heap.size ≠ g := by omega
  have hne3 : gs ≠ w.heap.size := by omega
  have hne4 : w.heap.size ≠ gs := by omega
  have hle := own_cap hI.slots
  have hq := flat_get ss k hk
  have hc0 := own_cellat hI.slots _ _ hq.1
  have hc1 := own_cellat hI.slots _ _ hq.2.1
  rw [hu] at hc1; have hn2 : (ss[k].gen != hg) = true := (by simpa using hn); clear hn
  have HI := Aside0.mk hI
  clear hI hq
  go_enter Try.func27, Try.ntmps27
  go_wp2_with fail
  repeat (go_quiet (fail); try go_wp2)
  go_ret
  exact ⟨rfl, by repeat (first | (with_reducible first | exact Below.refl _ _ | apply below_alloc | apply pw_below_drewN | apply below_drew1) | exact Below.refl _ _)⟩

set_option maxHeartbeats 3200000 in
theorem find_yes {w0 w : World} {base gs g c : Nat} {m : Int} {vf : Value} {ss : List Sl} {fs : List Int} (k : Nat) (hg : Int) (hI : Ar 57 60 w0 w base g m (.slice (some ⟨gs, 0, none⟩) ss.length c) vf ss fs) (hk : k < ss.length) (hb : ss.length ≤ 1048576) (hu : ss[k].used = true) (hn : ss[k].gen = hg) :
    Calls Try.prog 27 #[.pointer (some ⟨g, 0, none⟩), .agg #[.int .i64 ((k : Int) + 1), .int .i64 hg]] w fun e w' => e = .returned (.pointer (some ⟨gs, k * 3, none⟩)) ∧ Below w.heap.size w w' := by
  have h1 : w.cell? ⟨g, 1, none⟩ = some (.slice (some ⟨gs, 0, none⟩) ss.length c) := (blk_cell hI.blk 1).trans rfl
  have hd : decide ((k : Int) + 1 < 1) = false := decide_eq_false (by omega)
  have hd2 : decide ((ss.length : Int) < (k : Int) + 1) = false := decide_eq_false (by omega)
  have hlt := blk_lt hI.blk
  have hlt2 := own_lt hI.slots gs rfl
  have hne : g ≠ w.heap.size := by omega
  have hne2 : w.heap.size ≠ g := by omega
  have hne3 : gs ≠ w.heap.size := by omega
  have hne4 : w.heap.size ≠ gs := by omega
  have hle := own_cap hI.slots
  have hq := flat_get ss k hk
  have hc0 := own_cellat hI.slots _ _ hq.1
  have hc1 := own_cellat hI.slots _ _ hq.2.1
  rw [hu] at hc1; subst hn; have hn2 : (ss[k].gen != ss[k].gen) = false := by simp
  have HI := Aside0.mk hI
  clear hI hq
  go_enter Try.func27, Try.ntmps27
  go_wp2_with fail
  repeat (go_quiet (fail); try go_wp2)
  go_ret
  exact ⟨rfl, by repeat (first | (with_reducible first | exact Below.refl _ _ | apply below_alloc | apply pw_below_drewN | apply below_drew1) | exact Below.refl _ _)⟩

set_option maxHeartbeats 3200000 in
theorem find_low {w0 w : World} {base g c : Nat} {m : Int} {A : Option Addr} {vf : Value} {ss : List Sl} {fs : List Int} (s hg : Int) (hI : Ar 57 60 w0 w base g m (.slice A ss.length c) vf ss fs) (h : s < 1) :
    Calls Try.prog 27 #[.pointer (some ⟨g, 0, none⟩), .agg #[.int .i64 s, .int .i64 hg]] w fun e w' => e = .returned (.pointer none) ∧ Below w.heap.size w w' := by
  have h1 : w.cell? ⟨g, 1, none⟩ = some (.slice A ss.length c) := (blk_cell hI.blk 1).trans rfl
  have hd : decide (s < 1) = true := decide_eq_true h
  have hlt := blk_lt hI.blk
  have hne : g ≠ w.heap.size := by omega
  have hne2 : w.heap.size ≠ g := by omega
  have HI := Aside0.mk hI
  clear hI
  go_enter Try.func27, Try.ntmps27
  go_wp2_with fail
  repeat (go_quiet (fail); try go_wp2)
  go_ret
  exact ⟨rfl, by repeat (first | (with_reducible first | exact Below.refl _ _ | apply below_alloc | apply pw_below_drewN | apply below_drew1) | exact Below.refl _ _)⟩
set_option maxHeartbeats 3200000 in
theorem find_high {w0 w : World} {base g c : Nat} {m : Int} {A : Option Addr} {vf : Value} {ss : List Sl} {fs : List Int} (s hg : Int) (hI : Ar 57 60 w0 w base g m (.slice A ss.length c) vf ss fs) (h : (ss.length : Int) < s) :
    Calls Try.prog 27 #[.pointer (some ⟨g, 0, none⟩), .agg #[.int .i64 s, .int .i64 hg]] w fun e w' => e = .returned (.pointer none) ∧ Below w.heap.size w w' := by
  have h1 : w.cell? ⟨g, 1, none⟩ = some (.slice A ss.length c) := (blk_cell hI.blk 1).trans rfl
  have hd : decide (s < 1) = false := decide_eq_false (by omega)
  have hd2 : decide ((ss.length : Int) < s) = true := decide_eq_true h
  have hlt := blk_lt hI.blk
  have hne : g ≠ w.heap.size := by omega
  have hne2 : w.heap.size ≠ g := by omega
  have HI := Aside0.mk hI
  clear hI
  go_enter Try.func27, Try.ntmps27
  go_wp2_with fail
  repeat (go_quiet (fail); try go_wp2)
  go_ret
  exact ⟨rfl, by repeat (first | (with_reducible first | exact Below.refl _ _ | apply below_alloc | apply pw_below_drewN | apply below_drew1) | exact Below.refl _ _)⟩

theorem find_no {w0 w : World} {base g c : Nat} {m : Int} {A : Option Addr} {vf : Value} {ss : List Sl} {fs : List Int} (s hg : Int) (hI : Ar 57 60 w0 w base g m (.slice A ss.length c) vf ss fs) (hb : ss.length ≤ 1048576) (hl : look ss s hg = none) :
    Calls Try.prog 27 #[.pointer (some ⟨g, 0, none⟩), .agg #[.int .i64 s, .int .i64 hg]] w fun e w' => e = .returned (.pointer none) ∧ Below w.heap.size w w' := by
  by_cases h1 : s < 1
  · exact find_low s hg hI h1
  · by_cases h2 : (ss.length : Int) < s
    · exact find_high s hg hI h2
    · obtain ⟨k, rfl⟩ : ∃ k : Nat, s = (k : Int) + 1 := ⟨(s - 1).toNat, by omega⟩
      have hk : k < ss.length := by omega
      obtain ⟨gs, c', e⟩ := own_some hI.slots (by omega)
      injection e with e1 e2 e3
      subst e1
      subst e3
      have e : ((k : Int) + 1 - 1).toNat = k := by omega
      unfold look at hl
      rw [e, List.getElem?_eq_getElem hk] at hl
      simp only at hl
      cases hu : ss[k].used with
      | false => exact find_dead k hg hI hk hb hu
      | true =>
        refine find_old k hg hI hk hb hu (fun he => ?_)
        rw [if_pos ⟨by omega, hu, he⟩] at hl
        cases hl
set_option maxHeartbeats 1600000 in
theorem get_no {w0 w : World} {base g : Nat} {m : Int} {ss : List Sl} {fs : List Int} (s hg : Int) (hI : Arena 57 60 w0 w base g m ss fs) (hb : ss.length ≤ 1048576) (hl : look ss s hg = none) :
    Calls Try.prog 14 #[.pointer (some ⟨g, 0, none⟩), .agg #[.int .i64 s, .int .i64 hg]] w fun e w' => e = .returned (.tuple #[.int .i64 0, .bool false]) ∧ Below w.heap.size w w' := by
  obtain ⟨vs, vf, hI⟩ := hI
  obtain ⟨A1, c1, rfl⟩ := own_slice hI.slots
  have HI := Aside0.mk hI
  have HL := Aside0.mk hl
  clear hI hl
  go_enter Try.func14, Try.ntmps14
  go_wp2_with (go_at_call 27; refine (find_no s hg (HI.out.stay (KeptT.alloc _ _ []) (by simp) (by simp) (by simp) (below_step' HI.out.below HI.out.room (below_alloc (Below.refl _ _) _))) hb HL.out).mono ?_; rintro e w2 ⟨rfl, hb2⟩; have HB := Aside0.mk (below_step (below_alloc (Below.refl w.heap.size w) _) hb2); clear hb2)
  go_ret2
  exact ⟨rfl, HB.out⟩
set_option maxHeartbeats 1600000 in
theorem get_yes {w0 w : World} {base g : Nat} {m : Int} {ss : List Sl} {fs : List Int} (k : Nat) (x : Int) (hI : Arena 57 60 w0 w base g m ss fs) (hb : ss.length ≤ 1048576) (hk : k < ss.length) (hu : ss[k].used = true) (hx : ss[k].x = .int .i64 x) :
    Calls Try.prog 14 #[.pointer (some ⟨g, 0, none⟩), .agg #[.int .i64 ((k : Int) + 1), .int .i64 ss[k].gen]] w fun e w' => e = .returned (.tuple #[.int .i64 x, .bool true]) ∧ Below w.heap.size w w' := by
  obtain ⟨vs, vf, hI⟩ := hI
  obtain ⟨gs, c1, rfl⟩ := own_some hI.slots (by omega)
  have hq := flat_get ss k hk
  have hc2 := own_cellat hI.slots _ _ hq.2.2
  rw [hx] at hc2
  have HI := Aside0.mk hI
  have HC := Aside0.mk hc2
  clear hI hq hc2
  go_enter Try.func14, Try.ntmps14
  go_wp2_with (go_at_call 27; refine (find_yes k ss[k].gen (HI.out.stay (KeptT.alloc _ _ []) (by simp) (by simp) (by simp) (below_step' HI.out.below HI.out.room (below_alloc (Below.refl _ _) _))) hk hb hu rfl).mono ?_; rintro e w2 ⟨rfl, hb2⟩; have HB := Aside0.mk (below_step (below_alloc (Below.refl w.heap.size w) _) hb2); clear hb2; have hc := Below.cell_ HB.out HC.out)
  go_ret2
  exact ⟨rfl, HB.out⟩

set_option maxHeartbeats 1600000 in
theorem free_no {w0 w : World} {base g : Nat} {m : Int} {ss : List Sl} {fs : List Int} (s hg : Int) (hI : Arena 57 60 w0 w base g m ss fs) (hb : ss.length ≤ 1048576) (hl : look ss s hg = none) :
    Calls Try.prog 12 #[.pointer (some ⟨g, 0, none⟩), .agg #[.int .i64 s, .int .i64 hg]] w fun e w' => e = .returned (.bool false) ∧ Below w.heap.size w w' := by
  obtain ⟨vs, vf, hI⟩ := hI
  obtain ⟨A1, c1, rfl⟩ := own_slice hI.slots
  have HI := Aside0.mk hI
  have HL := Aside0.mk hl
  clear hI hl
  go_enter Try.func12, Try.ntmps12
  go_wp2_with (go_at_call 27; refine (find_no s hg (HI.out.stay (KeptT.alloc _ _ []) (by simp) (by simp) (by simp) (below_step' HI.out.below HI.out.room (below_alloc (Below.refl _ _) _))) hb HL.out).mono ?_; rintro e w2 ⟨rfl, hb2⟩; have HB := Aside0.mk (below_step (below_alloc (Below.refl w.heap.size w) _) hb2); clear hb2)
  go_ret
  exact ⟨rfl, HB.out⟩
theorem info3 : (Try.prog.info? 3).map (fun i => (i.zero, i.size, i.bytes)) = some (some (.int .i64 0), 1, 8) := by kernel_rfl
set_option maxHeartbeats 3200000 in
theorem free_yes {w0 w : World} {base g : Nat} {m : Int} {ss : List Sl} {fs : List Int} (k : Nat) (hI : Arena 57 60 w0 w base g m ss fs) (hb : ss.length ≤ 1048576) (hfs : fs.length ≤ 1048576) (hk : k < ss.length) (hu : ss[k].used = true) :
    Calls Try.prog 12 #[.pointer (some ⟨g, 0, none⟩), .agg #[.int .i64 ((k : Int) + 1), .int .i64 ss[k].gen]] w fun e w' => e = .returned (.bool true) ∧ Arena 57 60 w0 w' base g m (ss.set k ⟨ss[k].gen, false, .int .i64 0⟩) (fs ++ [(k : Int) + 1]) ∧ KeptT w w' [57, 60, 3] := by
  obtain ⟨vs, vf, hI⟩ := hI
  obtain ⟨gs, c1, rfl⟩ := own_some hI.slots (by omega)
  obtain ⟨A2, c2, rfl⟩ := own_slice hI.free
  have hq := flat_get ss k hk
  have hc1 := own_cellat hI.slots _ _ hq.2.1
  have hc2 := own_cellat hI.slots _ _ hq.2.2
  have HI := Aside0.mk hI
  have HC1 := Aside0.mk hc1
  have HC2 := Aside0.mk hc2
  have hgn : ss[k].gen = ss[k].gen := rfl
  generalize hh : ss[k].gen = hgen at hgn ⊢
  have HH := Aside0.mk hh
  clear hI hq hc1 hc2 hh hgn
  go_enter Try.func12, Try.ntmps12
  go_wp2_with (go_at_call 27; refine (find_yes k hgen (HI.out.stay (KeptT.alloc _ _ []) (by simp) (by simp) (by simp) (below_step' HI.out.below HI.out.room (below_alloc (Below.refl _ _) _))) hk hb hu HH.out).mono ?_; rintro e w2 ⟨rfl, hb2⟩; have HBX := Aside0.mk (blk_below' (blk_new w (.cells #[.int .i64 ((k : Int) + 1), .int .i64 hgen] 31)) hb2); have HB := Aside0.mk (below_step (below_alloc (Below.refl w.heap.size w) _) hb2); clear hb2; have hc1 := Below.cell_ HB.out HC1.out; have hc2 := Below.cell_ HB.out HC2.out; have hz := own_frozen (HI.out.stay (KeptT.below HB.out []) (by simp) (by simp) (by simp) (below_step' HI.out.below HI.out.room HB.out)).slots)
  have hI2 := HI.out.stay (KeptT.below HB.out []) (by simp) (by simp) (by simp) (below_step' HI.out.below HI.out.room HB.out)
  obtain ⟨hp1, hp2⟩ := put2 hI2.slots hk false (.int .i64 0)
  have hBw := (hI2.below.setCell (p := ⟨gs, k * 3 + 1, none⟩) (own_base hI2.slots _ rfl) (.bool false)).setCell (p := ⟨gs, k * 3 + 2, none⟩) (own_base hI2.slots _ rfl) (.int .i64 0)
  have hB4 := hp2.blk hI2.blk (by decide)
  have hX4 := hp2.blk HBX.out (by decide)
  have hf4 := hp2.own hI2.free (by decide)
  have hk4 := ((KeptT.below HB.out [57, 60, 3]).trans (hp2.mono (by simp)))
  have hsz4 := hk4.1
  generalize ((w2.setCell ⟨gs, k * 3 + 1, none⟩ (.bool false)).setCell ⟨gs, k * 3 + 2, none⟩ (.int .i64 0)) = w4 at hp1 hp2 hBw hB4 hX4 hf4 hk4 hsz4 ⊢
  have HS4 := Aside0.mk hp1
  have HW4 := Aside0.mk hBw
  have HB4 := Aside0.mk hB4
  have HX4 := Aside0.mk hX4
  have HF4 : Aside0 (Kd.R (Kd.int .i64) 3 w4 base (fun _ => True) (.slice A2 fs.length c2) fs) := ⟨Kd.R_of_own (by simpa [nums, encs] using hf4) (fun _ _ => trivial)⟩
  have HK4 := Aside0.mk hk4
  clear hp1 hp2 hBw hB4 hX4 hf4 hk4 hI2 hc1 hc2 hz
  refine start_ (n := 12) (S := fun w' => w'.cell? ⟨g, 2, none⟩ = some (.slice A2 fs.length c2) ∧ w'.cell? ⟨w.heap.size, 0, none⟩ = some (.int .i64 ((k : Int) + 1)) ∧ True) (ds := [11]) #[false, false, false, false, false, false, false, false, false, false, false, false] (by kernel_rfl) rfl rfl ⟨(blk_cell (blk_drew HB4.out) 2).trans rfl, (blk_cell (blk_drew HX4.out) 0).trans rfl, trivial⟩ (fun hHeld => ?_)
  refine pure_ (i := 0) (N := some 19) (v := ?_) (a' := ?_) #[true, false, false, false, false, false, false, false, false, false, false, false] rfl rfl (by kernel_rfl) (fun _ _ _ h => h) (Or.inl ⟨by rfl, ?_⟩) ?_ ?_
  rotate_left
  · intro w'
    go_simp
    with_reducible rfl
  rotate_left
  · simp only [Act.put, List.setIfInBounds_toArray, List.set_cons_zero, List.set_cons_succ, i64_w, i32_w]
    rfl
  refine pure_ (i := 1) (N := some 20) (v := ?_) (a' := ?_) #[true, true, false, false, false, false, false, false, false, false, false, false] rfl rfl (by kernel_rfl) (fun _ _ _ h => h) (Or.inl ⟨by rfl, ?_⟩) ?_ ?_
  rotate_left
  · intro w'
    go_simp
    with_reducible rfl
  rotate_left
  · simp only [Act.put, List.setIfInBounds_toArray, List.set_cons_zero, List.set_cons_succ, i64_w, i32_w]
    rfl
  refine pure_ (i := 2) (N := some 21) (v := ?_) (a' := ?_) #[true, true, true, false, false, false, false, false, false, false, false, false] rfl rfl (by kernel_rfl) (fun _ _ _ h => h) (Or.inl ⟨by rfl, ?_⟩) ?_ ?_
  rotate_left
  · intro w'
    go_simp
    with_reducible rfl
  rotate_left
  · simp only [Act.put, List.setIfInBounds_toArray, List.set_cons_zero, List.set_cons_succ, i64_w, i32_w]
    rfl
  refine pure_ (i := 3) (N := some 22) (v := ?_) (a' := ?_) #[true, true, true, true, false, false, false, false, false, false, false, false] rfl rfl (by kernel_rfl) (fun _ _ _ h => h) (Or.inl ⟨by rfl, ?_⟩) ?_ ?_
  rotate_left
  · intro w'
    go_simp
    with_reducible rfl
  rotate_left
  · simp only [Act.put, List.setIfInBounds_toArray, List.set_cons_zero, List.set_cons_succ, i64_w, i32_w]
    rfl
  refine take_ (i := 4) (N := some 23) (v := ?_) (a' := ?_) #[true, true, true, true, true, false, false, false, false, false, false, false] rfl rfl (by kernel_rfl) (fun _ _ _ h => h) (Or.inl ⟨by rfl, ?_⟩) hHeld ?_ ?_
  rotate_left
  · intro w' hS
    have s2 := hS.1; have s0 := hS.2.1; clear hS
    go_simp
    with_reducible rfl
  rotate_left
  · simp only [Act.put, List.setIfInBounds_toArray, List.set_cons_zero, List.set_cons_succ, i64_w, i32_w]
    rfl
  refine pure_ (i := 5) (N := some 24) (v := ?_) (a' := ?_) #[true, true, true, true, true, true, false, false, false, false, false, false] rfl rfl (by kernel_rfl) (fun _ _ _ h => h) (Or.inl ⟨by rfl, ?_⟩) ?_ ?_
  rotate_left
  · intro w'
    go_simp
    with_reducible rfl
  rotate_left
  · simp only [Act.put, List.setIfInBounds_toArray, List.set_cons_zero, List.set_cons_succ, i64_w, i32_w]
    rfl
  refine take_ (i := 6) (N := some 25) (v := ?_) (a' := ?_) #[true, true, true, true, true, true, true, false, false, false, false, false] rfl rfl (by kernel_rfl) (fun _ _ _ h => h) (Or.inl ⟨by rfl, ?_⟩) hHeld ?_ ?_
  rotate_left
  · intro w' hS
    have s2 := hS.1; have s0 := hS.2.1; clear hS
    go_simp
    with_reducible rfl
  rotate_left
  · simp only [Act.put, List.setIfInBounds_toArray, List.set_cons_zero, List.set_cons_succ, i64_w, i32_w]
    rfl
  refine one_ (i := 7) (N := some 26) #[true, true, true, true, true, true, true, true, false, false, false, false] rfl rfl (by kernel_rfl) (by decide) (fun K hK => ?_)
  refine val_ (w1 := w4.drew.alloc (.cells #[.int .i64 ((k : Int) + 1)] 3)) (v := ?_) (by rfl) rfl ?_ ?_
  rotate_left
  · go_simp
    rfl
  have HB2 := Aside0.mk (blk_alloc (blk_drew HB4.out) (.cells #[.int .i64 ((k : Int) + 1)] 3))
  have HX2 := Aside0.mk (blk_alloc (blk_drew HX4.out) (.cells #[.int .i64 ((k : Int) + 1)] 3))
  refine hK.out _ _ ⟨(blk_cell HB2.out 2).trans rfl, (blk_cell HX2.out 0).trans rfl, trivial⟩ (fun hHeld => ?_)
  clear hK K
  refine norm_ (a' := ?_) ?_ ?_
  rotate_left
  · show Act.put _ (some 26) _ = _
    simp only [Act.put, List.setIfInBounds_toArray, List.set_cons_zero, List.set_cons_succ, i64_w, i32_w]
    rfl
  refine one_ (i := 8) (N := some 27) #[true, true, true, true, true, true, true, true, true, false, false, false] rfl rfl (by kernel_rfl) (by decide) (fun K hK => ?_)
  refine Kd.R_append_step (Kd.int .i64) (w0 := w0) (W := w4.drew) base (by rfl) (.tmp 23) (.tmp 26) 51 3 (.int .i64 0) 8 rfl Try.underlying51 info3 rfl (by decide) (by decide) (.slice A2 fs.length c2) fs ((k : Int) + 1) [.int .i64 ((k : Int) + 1)] (fun _ => True) (fun _ => False) rfl rfl rfl (fun _ hk => hk.elim) (fun _ _ => trivial) (Kd.R_drew HF4.out) (below_drew1 HW4.out) (Nat.le_trans HI.out.room hsz4) (by omega) ?_
  intro v2 w5 hR2 hB2 hg2 hat
  obtain ⟨A5, c5, rfl⟩ := Kd.R_slice hR2
  have HB3 := Aside0.mk (blk_grown (blk_drew HB4.out) hg2 (Kd.R_ne HF4.out HB4.out (by decide)))
  have HX3 := Aside0.mk (blk_grown (blk_drew HX4.out) hg2 (Kd.R_ne HF4.out HX4.out (by decide)))
  refine hK.out _ _ ⟨(blk_cell HB3.out 2).trans rfl, (blk_cell HX3.out 0).trans rfl, trivial⟩ (fun hHeld => ?_)
  clear hK K
  refine norm_ (a' := ?_) ?_ ?_
  rotate_left
  · show Act.put _ (some 27) _ = _
    simp only [Act.put, List.setIfInBounds_toArray, List.set_cons_zero, List.set_cons_succ, i64_w, i32_w]
    rfl
  refine pure_ (i := 9) (N := some 28) (v := ?_) (a' := ?_) #[true, true, true, true, true, true, true, true, true, true, false, false] rfl rfl (by kernel_rfl) (fun _ _ _ h => h) (Or.inl ⟨by rfl, ?_⟩) ?_ ?_
  rotate_left
  · intro w'
    go_simp
    with_reducible rfl
  rotate_left
  · simp only [Act.put, List.setIfInBounds_toArray, List.set_cons_zero, List.set_cons_succ, i64_w, i32_w]
    rfl
  refine pure_ (i := 10) (N := some 29) (v := ?_) (a' := ?_) #[true, true, true, true, true, true, true, true, true, true, true, false] rfl rfl (by kernel_rfl) (fun _ _ _ h => h) (Or.inl ⟨by rfl, ?_⟩) ?_ ?_
  rotate_left
  · intro w'
    go_simp
    with_reducible rfl
  rotate_left
  · simp only [Act.put, List.setIfInBounds_toArray, List.set_cons_zero, List.set_cons_succ, i64_w, i32_w]
    rfl
  refine last_ (i := 11) (N := none) #[true, true, true, true, true, true, true, true, true, true, true, true] rfl rfl (by kernel_rfl) (by decide) (fun K hK => ?_)
  have hcl := (blk_cell HB3.out 2).trans rfl
  have hfl := blk_frozen HB3.out 2
  refine skip_ (w1 := w5.setCell ⟨g, 2, none⟩ (.slice A5 (fs ++ [(k : Int) + 1]).length c5)) (by rfl) rfl ?_ ?_
  · go_simp
  refine hK.out _ _ ?_
  clear hK K
  refine done_ (by kernel_rfl) ?_
  try go_wp2
  go_ret
  have k5 : KeptT w4.drew w5 [3] := .grown hg2 (fun k hk => by
    obtain ⟨inner, ho⟩ := Kd.R_own HF4.out
    obtain ⟨cs, hc⟩ := own_typed ho k hk
    exact ⟨cs, 3, hc, by simp⟩)
  have k6 : KeptT w5 (w5.setCell ⟨g, 2, none⟩ (.slice A5 (fs ++ [(k : Int) + 1]).length c5)) [57] := .set (p := ⟨g, 2, none⟩) HB3.out (by simp) _
  refine ⟨rfl, ⟨_, _, ⟨blk_put HB3.out 2 _ rfl, HI.out.old, ?_, k6.own (by simpa [nums, encs] using Kd.own_of_R hR2) (by decide), hB2.setCell HI.out.old _⟩⟩, HK4.out.trans ((KeptT.drew w4 _).trans ((k5.mono (by simp)).trans (k6.mono (by simp))))⟩
  rw [List.length_set]
  have hs := k6.own (k5.own (KeptT.own (KeptT.drew w4 []) HS4.out (by simp)) (by decide)) (by decide)
  rw [HH.out] at hs
  exact hs
end Go.Proofs.Ytcdfkjcnjdbmgaa.Find
