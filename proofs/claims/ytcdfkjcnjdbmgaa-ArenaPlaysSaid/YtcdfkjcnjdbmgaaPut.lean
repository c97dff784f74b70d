/- Layer 09: the contract of Put. -/
import Derived.Test.YtcdfkjcnjdbmgaaNext
namespace Go.Proofs.Ytcdfkjcnjdbmgaa.Put
open Go.RowKit Go.Proofs.YtcdfkjcnjdbmgaaW.PrintWords Go.Proofs.YtcdfkjcnjdbmgaaW.PrintLast Go.Proofs.YtcdfkjcnjdbmgaaW.PrintMore Go.Proofs.Ytcdfkjcnjdbmgaa.Core
set_option linter.unusedVariables false
set_option linter.unusedSimpArgs false
theorem keptNew {w W : World} {ts : List Nat} (h : KeptT w W ts) {p : Addr} (hp : w.heap.size ≤ p.block) (u : Value) : KeptT w (W.setCell p u) ts :=
  ⟨by have := h.1; simpa [World.setCell] using this, fun k cs t hk ht => (Below.heap_setCell W p u k (by have := blk_lt hk; omega)).trans (h.2 k cs t hk ht)⟩
theorem own_frozen {W : World} {base g n cap size e : Nat} {xs : List Value} (h : W.ownsRow base e size (.slice (some ⟨g, 0, none⟩) n cap) n xs) (i : Nat) : W.frozen? ⟨g, i, none⟩ = false := by
  obtain ⟨cs, hc⟩ := own_typed h g rfl
  exact blk_frozen hc i
theorem own_some {W : World} {base n e size : Nat} {v : Value} {xs : List Value} (h : W.ownsRow base e size v n xs) (hn : 0 < n) : ∃ g c, v = .slice (some ⟨g, 0, none⟩) n c := by
  rcases h.2 with ⟨_, h0⟩ | ⟨g, cap, cur, hv, _⟩
  · omega
  · exact ⟨g, cap, hv⟩
theorem own_cellat {W : World} {base g n cap size e : Nat} {xs : List Value} (h : W.ownsRow base e size (.slice (some ⟨g, 0, none⟩) n cap) n xs) (j : Nat) (u : Value) (hu : xs[j]? = some u) : W.cell? ⟨g, j, none⟩ = some u := by
  have := h.cells rfl j u hu
  rwa [add_plain] at this
theorem w64 (n : Int) (h : -9223372036854775808 ≤ n ∧ n ≤ 9223372036854775807) : wrap64 n = n := by unfold wrap64; omega
theorem gs_ne {W : World} {base g n cap size e t k : Nat} {xs : List Value} {cs : Array Value} (h : W.ownsRow base e size (.slice (some ⟨g, 0, none⟩) n cap) n xs) (hb : W.heap[k]? = some (.cells cs t (0, 0))) (ht : e ≠ t) : g ≠ k := by
  obtain ⟨cs', hc⟩ := own_typed h g rfl
  exact blk_ne hc hb ht
theorem KeptT.setOwn {W : World} {base g n cap size e : Nat} {xs : List Value} (h : W.ownsRow base e size (.slice (some ⟨g, 0, none⟩) n cap) n xs) (j : Nat) (u : Value) : KeptT W (W.setCell ⟨g, j, none⟩ u) [e] := by
  obtain ⟨cs', hc⟩ := own_typed h g rfl
  exact .set (p := ⟨g, j, none⟩) hc (by simp) u
/-- Two cells of a slot are stored. -/
theorem put2 {W : World} {base gs n c e k : Nat} {ss : List Sl} (h : W.ownsRow base e 3 (.slice (some ⟨gs, 0, none⟩) n c) n (flat ss)) (hk : k < ss.length) (b : Bool) (x : Value) :
    ((W.setCell ⟨gs, k * 3 + 1, none⟩ (.bool b)).setCell ⟨gs, k * 3 + 2, none⟩ x).ownsRow base e 3 (.slice (some ⟨gs, 0, none⟩) n c) n (flat (ss.set k ⟨ss[k].gen, b, x⟩)) ∧ KeptT W ((W.setCell ⟨gs, k * 3 + 1, none⟩ (.bool b)).setCell ⟨gs, k * 3 + 2, none⟩ x) [e] := by
  have s1 := (h.stored (k * 3 + 1) (.bool b)).1
  have k1 := KeptT.setOwn h (k * 3 + 1) (.bool b)
  rw [(flat_set ss k hk 0 b x).2.1] at s1
  have s2 := (s1.stored (k * 3 + 2) x).1
  have k2 := KeptT.setOwn s1 (k * 3 + 2) x
  rw [(flat_set _ k (by rw [List.length_set]; exact hk) 0 b x).2.2, List.set_set, List.getElem_set_self] at s2
  exact ⟨s2, k1.trans k2⟩
/-- Three cells of a slot are stored. -/
theorem put3 {W : World} {base gs n c e k : Nat} {ss : List Sl} (h : W.ownsRow base e 3 (.slice (some ⟨gs, 0, none⟩) n c) n (flat ss)) (hk : k < ss.length) (a : Int) (b : Bool) (x : Value) :
    (((W.setCell ⟨gs, k * 3, none⟩ (.int .i64 a)).setCell ⟨gs, k * 3 + 1, none⟩ (.bool b)).setCell ⟨gs, k * 3 + 2, none⟩ x).ownsRow base e 3 (.slice (some ⟨gs, 0, none⟩) n c) n (flat (ss.set k ⟨a, b, x⟩)) ∧ KeptT W (((W.setCell ⟨gs, k * 3, none⟩ (.int .i64 a)).setCell ⟨gs, k * 3 + 1, none⟩ (.bool b)).setCell ⟨gs, k * 3 + 2, none⟩ x) [e] := by
  have s1 := (h.stored (k * 3) (.int .i64 a)).1
  have k1 := KeptT.setOwn h (k * 3) (.int .i64 a)
  rw [(flat_set ss k hk a b x).1] at s1
  obtain ⟨s2, k2⟩ := put2 s1 (k := k) (by rw [List.length_set]; exact hk) b x
  rw [List.set_set, List.getElem_set_self] at s2
  exact ⟨s2, k1.trans k2⟩

set_option maxHeartbeats 3200000 in
theorem put_core {w0 w : World} {base g : Nat} {m : Int} {ss ss1 : List Sl} {fs fs1 : List Int} (x : Int) (k : Nat) (R : Int) (hI : Arena 57 60 w0 w base g m ss fs)
    (hnext : ∀ W, Arena 57 60 w0 W base g m ss fs → Calls Try.prog 24 #[.pointer (some ⟨g, 0, none⟩)] W fun e w' => e = .returned (.int .i64 ((k : Int) + 1)) ∧ Arena 57 60 w0 w' base g m ss1 fs1 ∧ KeptT W w' [57, 60, 3])
    (hk : k < ss1.length) (hR : wrap64 (wrap64 (m - (ss.length : Int)) + (fs.length : Int)) = R) (hR0 : R ≠ 0) (hks : k ≤ 1100000) (gen : Int) (hgen : ss1[k].gen = gen) (hg0 : 0 ≤ gen) (hg1 : gen ≤ 1100000) :
    Calls Try.prog 10 #[.pointer (some ⟨g, 0, none⟩), .int .i64 x] w fun e w' => e = .returned (.tuple #[.agg #[.int .i64 ((k : Int) + 1), .int .i64 (gen + 1)], .bool true]) ∧ Arena 57 60 w0 w' base g m (ss1.set k ⟨gen + 1, true, .int .i64 x⟩) fs1 ∧ KeptT w w' [57, 60, 3] := by
  have HI := Aside0.mk hI
  have HN := Aside0.mk hnext
  have HR := Aside0.mk hR
  have HGn := Aside0.mk hgen
  have hR1 : (R == 0) = false := by simpa using hR0
  clear hI hnext hR hgen
  go_enter Try.func10, Try.ntmps10
  go_wp2_with (first
    | (go_at_call 18; obtain ⟨vs, vf, hI⟩ := HI.out; obtain ⟨A1, c1, rfl⟩ := own_slice hI.slots; obtain ⟨A2, c2, rfl⟩ := own_slice hI.free; refine (Arena.room_calls _ g m A1 A2 ss.length c1 fs.length c2 (blk_alloc hI.blk _)).mono ?_; rintro e w2 ⟨he, nd, rfl⟩; rw [HR.out] at he; subst he; clear hI)
    | (go_at_call 24; refine (HN.out _ ((HI.out.then_ (below_alloc (Below.refl _ _) _)).then_ (pw_below_drewN (Below.refl _ _) _))).mono ?_; rintro e w3 ⟨rfl, hI3, hk3⟩; have HK3 := Aside0.mk (((KeptT.alloc w (.cells #[.int .i64 0, .int .i64 0] 31) [57, 60, 3]).trans (KeptT.drewN _ nd _)).trans hk3); have HH := Aside0.mk (hk3.blk (blk_drewN (blk_new w (.cells #[.int .i64 0, .int .i64 0] 31)) nd) (by decide)); clear hk3; obtain ⟨vs3, vf3, hI3⟩ := hI3; obtain ⟨gs, c3, rfl⟩ := own_some hI3.slots (by omega); have h1 := (blk_cell hI3.blk 1).trans rfl; have hz := own_frozen hI3.slots; have hq := flat_get ss1 k hk; have hc0 := own_cellat hI3.slots _ _ hq.1; have hc1 := own_cellat hI3.slots _ _ hq.2.1; have hc2 := own_cellat hI3.slots _ _ hq.2.2; have hd0 := (blk_cell HH.out 0).trans rfl; have hd1 := (blk_cell HH.out 1).trans rfl; have hdz := blk_frozen HH.out; have hne := gs_ne hI3.slots HH.out (by decide); have hen := hne.symm; have hle := own_cap hI3.slots; rw [HGn.out] at hc0; have HI3 := Aside0.mk hI3; clear hI3 hq))
  obtain ⟨hp1, hp2⟩ := put3 HI3.out.slots hk (gen + 1) true (.int .i64 x)
  have hB3 := ((HI3.out.below.setCell (p := ⟨gs, k * 3, none⟩) (own_base HI3.out.slots _ rfl) (.int .i64 (gen + 1))).setCell (p := ⟨gs, k * 3 + 1, none⟩) (own_base HI3.out.slots _ rfl) (.bool true)).setCell (p := ⟨gs, k * 3 + 2, none⟩) (own_base HI3.out.slots _ rfl) (.int .i64 x)
  generalize hW : ((w3.setCell ⟨gs, k * 3, none⟩ (.int .i64 (gen + 1))).setCell ⟨gs, k * 3 + 1, none⟩ (.bool true)).setCell ⟨gs, k * 3 + 2, none⟩ (.int .i64 x) = w4 at hp1 hp2 hB3
  have hH4 := hp2.blk HH.out (by decide)
  have hb4 := hp2.blk HI3.out.blk (by decide)
  have hf4 := hp2.own HI3.out.free (by decide)
  have hH5 := blk_put (blk_put hH4 0 (.int .i64 ((k : Int) + 1)) rfl) 1 (.int .i64 (gen + 1)) rfl
  have hbase : base ≤ w.heap.size := HI.out.room
  have k5 : KeptT w4 ((w4.setCell ⟨w.heap.size, 0, none⟩ (.int .i64 ((k : Int) + 1))).setCell ⟨w.heap.size, 1, none⟩ (.int .i64 (gen + 1))) [31] :=
    (KeptT.set (p := ⟨w.heap.size, 0, none⟩) hH4 (by simp) _).trans (KeptT.set (p := ⟨w.heap.size, 1, none⟩) (blk_put hH4 0 _ rfl) (by simp) _)
  refine bodyPost_ret (v := .tuple #[.agg #[.int .i64 ((k : Int) + 1), .int .i64 (gen + 1)], .bool true]) (results_ct (p := 4) (u := 5) rfl _ _ w.heap.size 31 #[.int .i64 ((k : Int) + 1), .int .i64 (gen + 1)] (0, 0) _ rfl hH5 Try.underlying31 rfl (by kernel_rfl)) rfl ?_
  refine ⟨rfl, ⟨_, _, ⟨k5.blk hb4 (by decide), HI3.out.old, ?_, k5.own hf4 (by decide), (hB3.setCell (p := ⟨w.heap.size, 0, none⟩) hbase _).setCell (p := ⟨w.heap.size, 1, none⟩) hbase _⟩⟩, ?_⟩
  · rw [List.length_set]
    exact k5.own hp1 (by decide)
  · exact keptNew (keptNew (HK3.out.trans (hp2.mono (by simp))) (p := ⟨w.heap.size, 0, none⟩) (Nat.le_refl _) _) (p := ⟨w.heap.size, 1, none⟩) (Nat.le_refl _) _
set_option maxHeartbeats 3200000 in
theorem put_no {w0 w : World} {base g : Nat} {m : Int} {ss : List Sl} {fs : List Int} (x : Int) (hI : Arena 57 60 w0 w base g m ss fs) (hR : wrap64 (wrap64 (m - (ss.length : Int)) + (fs.length : Int)) = 0) :
    Calls Try.prog 10 #[.pointer (some ⟨g, 0, none⟩), .int .i64 x] w fun e w' => e = .returned (.tuple #[.agg #[.int .i64 0, .int .i64 0], .bool false]) ∧ Arena 57 60 w0 w' base g m ss fs ∧ KeptT w w' [57, 60, 3] := by
  have HI := Aside0.mk hI
  have HR := Aside0.mk hR
  clear hI hR
  go_enter Try.func10, Try.ntmps10
  go_wp2_with (go_at_call 18; obtain ⟨vs, vf, hI⟩ := HI.out; obtain ⟨A1, c1, rfl⟩ := own_slice hI.slots; obtain ⟨A2, c2, rfl⟩ := own_slice hI.free; refine (Arena.room_calls _ g m A1 A2 ss.length c1 fs.length c2 (blk_alloc hI.blk _)).mono ?_; rintro e w2 ⟨he, nd, rfl⟩; rw [HR.out] at he; subst he; clear hI; have HH := Aside0.mk (blk_drewN (blk_new w (.cells #[.int .i64 0, .int .i64 0] 31)) nd); have hd0 := (blk_cell HH.out 0).trans rfl; have hd1 := (blk_cell HH.out 1).trans rfl; have hdz := blk_frozen HH.out)
  have hH5 := blk_put (blk_put HH.out 0 (.int .i64 0) rfl) 1 (.int .i64 0) rfl
  have hB : Below w.heap.size w (((w.alloc (.cells #[.int .i64 0, .int .i64 0] 31)).drewN nd).setCell ⟨w.heap.size, 0, none⟩ (.int .i64 0) |>.setCell ⟨w.heap.size, 1, none⟩ (.int .i64 0)) :=
    below_set (below_set (pw_below_drewN (below_alloc (Below.refl _ _) _) _) (Nat.le_refl _)) (Nat.le_refl _)
  refine bodyPost_ret (v := .tuple #[.agg #[.int .i64 0, .int .i64 0], .bool false]) (results_ct (p := 4) (u := 5) rfl _ _ w.heap.size 31 #[.int .i64 0, .int .i64 0] (0, 0) _ rfl hH5 Try.underlying31 rfl (by kernel_rfl)) rfl ?_
  exact ⟨rfl, HI.out.then_ hB, .below hB _⟩
/-- Into a slot that was never used. -/
theorem put_new {w0 w : World} {base g : Nat} {m : Int} {ss : List Sl} (x : Int) (hI : Arena 57 60 w0 w base g m ss []) (hm : (ss.length : Int) < m) (hm1 : m ≤ 1048576) :
    Calls Try.prog 10 #[.pointer (some ⟨g, 0, none⟩), .int .i64 x] w fun e w' => e = .returned (.tuple #[.agg #[.int .i64 ((ss.length : Int) + 1), .int .i64 1], .bool true]) ∧ Arena 57 60 w0 w' base g m (ss ++ [⟨1, true, .int .i64 x⟩]) [] ∧ KeptT w w' [57, 60, 3] := by
  refine (put_core x ss.length (m - ss.length) hI (fun W hW => Next.next_new hW (by omega)) (by simp) ?_ (by omega) (by omega) 0 (by simp) (by omega) (by omega)).mono ?_
  · rw [w64 (m - (ss.length : Int)) ⟨by omega, by omega⟩, w64 _ ⟨by simp; omega, by simp; omega⟩]
    simp
  · rintro e w' ⟨rfl, hA, hk⟩
    refine ⟨rfl, ?_, hk⟩
    rw [List.set_append_right _ _ (Nat.le_refl _), Nat.sub_self] at hA
    exact hA
/-- Into the slot that was freed last. -/
theorem put_pop {w0 w : World} {base g : Nat} {m : Int} {ss : List Sl} (fs : List Int) (k : Nat) (x : Int) (hI : Arena 57 60 w0 w base g m ss (fs ++ [(k : Int) + 1])) (hk : k < ss.length) (hm : (ss.length : Int) ≤ m) (hm1 : m ≤ 1048576) (hf : fs.length ≤ 1048576)
    (h0 : 0 ≤ ss[k].gen) (h1 : ss[k].gen ≤ 1000000) :
    Calls Try.prog 10 #[.pointer (some ⟨g, 0, none⟩), .int .i64 x] w fun e w' => e = .returned (.tuple #[.agg #[.int .i64 ((k : Int) + 1), .int .i64 (ss[k].gen + 1)], .bool true]) ∧ Arena 57 60 w0 w' base g m (ss.set k ⟨ss[k].gen + 1, true, .int .i64 x⟩) fs ∧ KeptT w w' [57, 60, 3] := by
  refine put_core x k (m - ss.length + (fs.length + 1)) hI (fun W hW => Next.next_pop fs _ hW (by omega)) hk ?_ (by omega) (by omega) _ rfl h0 (by omega)
  rw [List.length_append, List.length_singleton, w64 (m - (ss.length : Int)) ⟨by omega, by omega⟩, w64 _ ⟨by omega, by omega⟩]
  omega

set_option maxHeartbeats 3200000 in
theorem sput_core {w0 w : World} {base g : Nat} {m : Int} {ss ss1 : List Sl} {fs fs1 : List Int} (x : ByteArray) (k : Nat) (R : Int) (hI : Arena 66 69 w0 w base g m ss fs)
    (hnext : ∀ W, Arena 66 69 w0 W base g m ss fs → Calls Try.prog 29 #[.pointer (some ⟨g, 0, none⟩)] W fun e w' => e = .returned (.int .i64 ((k : Int) + 1)) ∧ Arena 66 69 w0 w' base g m ss1 fs1 ∧ KeptT W w' [66, 69, 3])
    (hk : k < ss1.length) (hR : wrap64 (wrap64 (m - (ss.length : Int)) + (fs.length : Int)) = R) (hR0 : R ≠ 0) (hks : k ≤ 1100000) (gen : Int) (hgen : ss1[k].gen = gen) (hg0 : 0 ≤ gen) (hg1 : gen ≤ 1100000) :
    Calls Try.prog 22 #[.pointer (some ⟨g, 0, none⟩), .string x] w fun e w' => e = .returned (.tuple #[.agg #[.int .i64 ((k : Int) + 1), .int .i64 (gen + 1)], .bool true]) ∧ Arena 66 69 w0 w' base g m (ss1.set k ⟨gen + 1, true, .string x⟩) fs1 ∧ KeptT w w' [66, 69, 3] := by
  have HI := Aside0.mk hI
  have HN := Aside0.mk hnext
  have HR := Aside0.mk hR
  have HGn := Aside0.mk hgen
  have hR1 : (R == 0) = false := by simpa using hR0
  clear hI hnext hR hgen
  go_enter Try.func22, Try.ntmps22
  go_wp2_with (first
    | (go_at_call 20; obtain ⟨vs, vf, hI⟩ := HI.out; obtain ⟨A1, c1, rfl⟩ := own_slice hI.slots; obtain ⟨A2, c2, rfl⟩ := own_slice hI.free; refine (Arena.sroom_calls _ g m A1 A2 ss.length c1 fs.length c2 (blk_alloc hI.blk _)).mono ?_; rintro e w2 ⟨he, nd, rfl⟩; rw [HR.out] at he; subst he; clear hI)
    | (go_at_call 29; refine (HN.out _ ((HI.out.then_ (below_alloc (Below.refl _ _) _)).then_ (pw_below_drewN (Below.refl _ _) _))).mono ?_; rintro e w3 ⟨rfl, hI3, hk3⟩; have HK3 := Aside0.mk (((KeptT.alloc w (.cells #[.int .i64 0, .int .i64 0] 31) [66, 69, 3]).trans (KeptT.drewN _ nd _)).trans hk3); have HH := Aside0.mk (hk3.blk (blk_drewN (blk_new w (.cells #[.int .i64 0, .int .i64 0] 31)) nd) (by decide)); clear hk3; obtain ⟨vs3, vf3, hI3⟩ := hI3; obtain ⟨gs, c3, rfl⟩ := own_some hI3.slots (by omega); have h1 := (blk_cell hI3.blk 1).trans rfl; have hz := own_frozen hI3.slots; have hq := flat_get ss1 k hk; have hc0 := own_cellat hI3.slots _ _ hq.1; have hc1 := own_cellat hI3.slots _ _ hq.2.1; have hc2 := own_cellat hI3.slots _ _ hq.2.2; have hd0 := (blk_cell HH.out 0).trans rfl; have hd1 := (blk_cell HH.out 1).trans rfl; have hdz := blk_frozen HH.out; have hne := gs_ne hI3.slots HH.out (by decide); have hen := hne.symm; have hle := own_cap hI3.slots; rw [HGn.out] at hc0; have HI3 := Aside0.mk hI3; clear hI3 hq))
  obtain ⟨hp1, hp2⟩ := put3 HI3.out.slots hk (gen + 1) true (.string x)
  have hB3 := ((HI3.out.below.setCell (p := ⟨gs, k * 3, none⟩) (own_base HI3.out.slots _ rfl) (.int .i64 (gen + 1))).setCell (p := ⟨gs, k * 3 + 1, none⟩) (own_base HI3.out.slots _ rfl) (.bool true)).setCell (p := ⟨gs, k * 3 + 2, none⟩) (own_base HI3.out.slots _ rfl) (.string x)
  generalize hW : ((w3.setCell ⟨gs, k * 3, none⟩ (.int .i64 (gen + 1))).setCell ⟨gs, k * 3 + 1, none⟩ (.bool true)).setCell ⟨gs, k * 3 + 2, none⟩ (.string x) = w4 at hp1 hp2 hB3
  have hH4 := hp2.blk HH.out (by decide)
  have hb4 := hp2.blk HI3.out.blk (by decide)
  have hf4 := hp2.own HI3.out.free (by decide)
  have hH5 := blk_put (blk_put hH4 0 (.int .i64 ((k : Int) + 1)) rfl) 1 (.int .i64 (gen + 1)) rfl
  have hbase : base ≤ w.heap.size := HI.out.room
  have k5 : KeptT w4 ((w4.setCell ⟨w.heap.size, 0, none⟩ (.int .i64 ((k : Int) + 1))).setCell ⟨w.heap.size, 1, none⟩ (.int .i64 (gen + 1))) [31] :=
    (KeptT.set (p := ⟨w.heap.size, 0, none⟩) hH4 (by simp) _).trans (KeptT.set (p := ⟨w.heap.size, 1, none⟩) (blk_put hH4 0 _ rfl) (by simp) _)
  refine bodyPost_ret (v := .tuple #[.agg #[.int .i64 ((k : Int) + 1), .int .i64 (gen + 1)], .bool true]) (results_ct (p := 4) (u := 5) rfl _ _ w.heap.size 31 #[.int .i64 ((k : Int) + 1), .int .i64 (gen + 1)] (0, 0) _ rfl hH5 Try.underlying31 rfl (by kernel_rfl)) rfl ?_
  refine ⟨rfl, ⟨_, _, ⟨k5.blk hb4 (by decide), HI3.out.old, ?_, k5.own hf4 (by decide), (hB3.setCell (p := ⟨w.heap.size, 0, none⟩) hbase _).setCell (p := ⟨w.heap.size, 1, none⟩) hbase _⟩⟩, ?_⟩
  · rw [List.length_set]
    exact k5.own hp1 (by decide)
  · exact keptNew (keptNew (HK3.out.trans (hp2.mono (by simp))) (p := ⟨w.heap.size, 0, none⟩) (Nat.le_refl _) _) (p := ⟨w.heap.size, 1, none⟩) (Nat.le_refl _) _
set_option maxHeartbeats 3200000 in
theorem sput_no {w0 w : World} {base g : Nat} {m : Int} {ss : List Sl} {fs : List Int} (x : ByteArray) (hI : Arena 66 69 w0 w base g m ss fs) (hR : wrap64 (wrap64 (m - (ss.length : Int)) + (fs.length : Int)) = 0) :
    Calls Try.prog 22 #[.pointer (some ⟨g, 0, none⟩), .string x] w fun e w' => e = .returned (.tuple #[.agg #[.int .i64 0, .int .i64 0], .bool false]) ∧ Arena 66 69 w0 w' base g m ss fs ∧ KeptT w w' [66, 69, 3] := by
  have HI := Aside0.mk hI
  have HR := Aside0.mk hR
  clear hI hR
  go_enter Try.func22, Try.ntmps22
  go_wp2_with (go_at_call 20; obtain ⟨vs, vf, hI⟩ := HI.out; obtain ⟨A1, c1, rfl⟩ := own_slice hI.slots; obtain ⟨A2, c2, rfl⟩ := own_slice hI.free; refine (Arena.sroom_calls _ g m A1 A2 ss.length c1 fs.length c2 (blk_alloc hI.blk _)).mono ?_; rintro e w2 ⟨he, nd, rfl⟩; rw [HR.out] at he; subst he; clear hI; have HH := Aside0.mk (blk_drewN (blk_new w (.cells #[.int .i64 0, .int .i64 0] 31)) nd); have hd0 := (blk_cell HH.out 0).trans rfl; have hd1 := (blk_cell HH.out 1).trans rfl; have hdz := blk_frozen HH.out)
  have hH5 := blk_put (blk_put HH.out 0 (.int .i64 0) rfl) 1 (.int .i64 0) rfl
  have hB : Below w.heap.size w (((w.alloc (.cells #[.int .i64 0, .int .i64 0] 31)).drewN nd).setCell ⟨w.heap.size, 0, none⟩ (.int .i64 0) |>.setCell ⟨w.heap.size, 1, none⟩ (.int .i64 0)) :=
    below_set (below_set (pw_below_drewN (below_alloc (Below.refl _ _) _) _) (Nat.le_refl _)) (Nat.le_refl _)
  refine bodyPost_ret (v := .tuple #[.agg #[.int .i64 0, .int .i64 0], .bool false]) (results_ct (p := 4) (u := 5) rfl _ _ w.heap.size 31 #[.int .i64 0, .int .i64 0] (0, 0) _ rfl hH5 Try.underlying31 rfl (by kernel_rfl)) rfl ?_
  exact ⟨rfl, HI.out.then_ hB, .below hB _⟩
/-- Into a slot that was never used. -/
theorem sput_new {w0 w : World} {base g : Nat} {m : Int} {ss : List Sl} (x : ByteArray) (hI : Arena 66 69 w0 w base g m ss []) (hm : (ss.length : Int) < m) (hm1 : m ≤ 1048576) :
    Calls Try.prog 22 #[.pointer (some ⟨g, 0, none⟩), .string x] w fun e w' => e = .returned (.tuple #[.agg #[.int .i64 ((ss.length : Int) + 1), .int .i64 1], .bool true]) ∧ Arena 66 69 w0 w' base g m (ss ++ [⟨1, true, .string x⟩]) [] ∧ KeptT w w' [66, 69, 3] := by
  refine (sput_core x ss.length (m - ss.length) hI (fun W hW => Next.snext_new hW (by omega)) (by simp) ?_ (by omega) (by omega) 0 (by simp) (by omega) (by omega)).mono ?_
  · rw [w64 (m - (ss.length : Int)) ⟨by omega, by omega⟩, w64 _ ⟨by simp; omega, by simp; omega⟩]
    simp
  · rintro e w' ⟨rfl, hA, hk⟩
    refine ⟨rfl, ?_, hk⟩
    rw [List.set_append_right _ _ (Nat.le_refl _), Nat.sub_self] at hA
    exact hA
/-- Into the slot that was freed last. -/
theorem sput_pop {w0 w : World} {base g : Nat} {m : Int} {ss : List Sl} (fs : List Int) (k : Nat) (x : ByteArray) (hI : Arena 66 69 w0 w base g m ss (fs ++ [(k : Int) + 1])) (hk : k < ss.length) (hm : (ss.length : Int) ≤ m) (hm1 : m ≤ 1048576) (hf : fs.length ≤ 1048576)
    (h0 : 0 ≤ ss[k].gen) (h1 : ss[k].gen ≤ 1000000) :
    Calls Try.prog 22 #[.pointer (some ⟨g, 0, none⟩), .string x] w fun e w' => e = .returned (.tuple #[.agg #[.int .i64 ((k : Int) + 1), .int .i64 (ss[k].gen + 1)], .bool true]) ∧ Arena 66 69 w0 w' base g m (ss.set k ⟨ss[k].gen + 1, true, .string x⟩) fs ∧ KeptT w w' [66, 69, 3] := by
  refine sput_core x k (m - ss.length + (fs.length + 1)) hI (fun W hW => Next.snext_pop fs _ hW (by omega)) hk ?_ (by omega) (by omega) _ rfl h0 (by omega)
  rw [List.length_append, List.length_singleton, w64 (m - (ss.length : Int)) ⟨by omega, by omega⟩, w64 _ ⟨by omega, by omega⟩]
  omega
end Go.Proofs.Ytcdfkjcnjdbmgaa.Put
