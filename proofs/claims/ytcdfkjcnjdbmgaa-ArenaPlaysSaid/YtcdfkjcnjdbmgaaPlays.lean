/- Layer 09: the walk of ArenaPlays: it answers true for all sizes and acts. -/
import Derived.Test.YtcdfkjcnjdbmgaaPlaysCalls
namespace Go.Proofs.Ytcdfkjcnjdbmgaa.Plays
open Go.RowKit Go.Proofs.YtcdfkjcnjdbmgaaW.PrintWords Go.Proofs.YtcdfkjcnjdbmgaaW.PrintLast Go.Proofs.YtcdfkjcnjdbmgaaW.PrintMore Go.Proofs.Ytcdfkjcnjdbmgaa.Core Go.Proofs.Ytcdfkjcnjdbmgaa.Put Go.Proofs.Ytcdfkjcnjdbmgaa.Find Go.Proofs.Ytcdfkjcnjdbmgaa.Awake Go.Proofs.Ytcdfkjcnjdbmgaa.Doc Go.Proofs.Ytcdfkjcnjdbmgaa.PlaysModel Go.Proofs.Ytcdfkjcnjdbmgaa.PlaysCalls
set_option linter.unusedVariables false
set_option linter.unusedSimpArgs false
theorem wf8 {x : Int} (h : (Lit.int .u8 x).wf = true) : 0 ≤ x ∧ x ≤ 255 := by
  unfold Lit.wf at h
  rw [Bool.and_eq_true] at h
  exact ⟨of_decide_eq_true h.1, of_decide_eq_true h.2⟩
/-- What is done. -/
structure Ac where
  kind : Int
  n : Int
  s : Int
  g : Int
/-- A row of acts, as it came in. -/
def ActRow (w : World) (A : Option Addr) (l : List Ac) : Prop := ∀ k (hk : k < l.length), ∃ ad : Addr, A = some ad ∧ w.cell? (ad.add (k * 4)) = some (.int .i64 l[k].kind) ∧ w.cell? (ad.add (k * 4 + 1)) = some (.int .i64 l[k].n) ∧ w.cell? (ad.add (k * 4 + 2)) = some (.int .i64 l[k].s) ∧ w.cell? (ad.add (k * 4 + 3)) = some (.int .i64 l[k].g)
theorem ActRow.at_ {w W : World} {A : Option Addr} {l : List Ac} (h : ActRow w A l) (hb : Below w.heap.size w W) (k : Nat) (hk : k < l.length) : ∃ ad : Addr, A = some ad ∧ W.cell? (ad.add (k * 4)) = some (.int .i64 l[k].kind) ∧ W.cell? ⟨(ad.add (k * 4)).block, (ad.add (k * 4)).off + 1, none⟩ = some (.int .i64 l[k].n) ∧
    W.cell? ⟨(ad.add (k * 4)).block, (ad.add (k * 4)).off + 2, none⟩ = some (.int .i64 l[k].s) ∧ W.cell? ⟨(ad.add (k * 4)).block, (ad.add (k * 4)).off + 3, none⟩ = some (.int .i64 l[k].g) ∧ (ad.add (k * 4)).block < w.heap.size := by
  obtain ⟨ad, e, h0, h1, h2, h3⟩ := h k hk
  refine ⟨ad, e, Below.cell_ hb h0, ?_, ?_, ?_, World.block_lt_of_cell? w _ h0⟩
  · rw [← add_field _ _ 1 (by omega)]; exact Below.cell_ hb h1
  · rw [← add_field _ _ 2 (by omega)]; exact Below.cell_ hb h2
  · rw [← add_field _ _ 3 (by omega)]; exact Below.cell_ hb h3
set_option maxHeartbeats 12800000 in
set_option maxRecDepth 100000 in
theorem plays_calls (size : Int) (A1 : Option Addr) (c1 : Nat) (l : List Ac) (w : World) (h0 : (Lit.int .u8 size).wf = true) (h1 : ActRow w A1 l) (hc1 : l.length ≤ c1) :
    Calls Try.prog 3 #[.int .u8 size, .slice A1 l.length c1] w fun e w' => e = .returned (.bool true) ∧ Below w.heap.size w w' := by
  have HR1 := Aside0.mk h1
  obtain ⟨s0, s1⟩ := wf8 h0
  clear h0 h1
  by_cases hf : 40 < l.length
  · have hd2 : decide ((40 : Int) < (l.length : Int)) = true := decide_eq_true (by omega)
    go_enter Try.func3, Try.ntmps3
    go_wp2_with (go_at_call 8; refine (awake_calls _).mono ?_; rintro e w1 ⟨rfl, hb1⟩; have HB1 := Aside0.mk hb1; clear hb1)
    go_ret
    exact ⟨rfl, HB1.out⟩
  · have hd2 : decide ((40 : Int) < (l.length : Int)) = false := decide_eq_false (by omega)
    go_enter Try.func3, Try.ntmps3
    go_wp2_with (go_at_call 8; refine (awake_calls _).mono ?_; rintro e w1 ⟨rfl, hb1⟩; have HB1 := Aside0.mk hb1; clear hb1)
    have hm : 0 ≤ size % 21 ∧ size % 21 ≤ 20 := by omega
    generalize size % 21 = m at hm ⊢
    refine (Arena.new_yes w1 m hm.1 (by omega)).mono ?_
    rintro e w2 ⟨rfl, rfl⟩
    have HA : Aside0 (Arena 57 60 w _ w.heap.size w1.heap.size m [] []) := ⟨arena_new (tA := 57) (tS := 60) m HB1.out HB1.out.size⟩
    generalize w1.alloc (.cells #[.int .i64 m, .slice none 0 0, .slice none 0 0] 57) = w2 at HA ⊢
    generalize w1.heap.size = g at HA ⊢
    have HM := Aside0.mk hm
    clear s0 s1 HB1 hm
    go_wp2_with fail
    have HD : Aside0 (Doc w (w2.alloc (.cells #[.int .i64 m, .slice none 0 0, .int .i64 0] 29)) w.heap.size w2.heap.size m [] 0) := ⟨⟨_, ⟨blk_new w2 _, HA.out.room, own_nil _ _ _ _, HA.out.below.alloc HA.out.room _⟩⟩⟩
    have HA2 := Aside0.mk (HA.out.then_ (below_alloc (Below.refl _ _) (.cells #[.int .i64 m, .slice none 0 0, .int .i64 0] 29)))
    generalize w2.alloc (.cells #[.int .i64 m, .slice none 0 0, .int .i64 0] 29) = w3 at HA2 HD ⊢
    generalize w2.heap.size = gd at HD ⊢
    clear HA
    go_loopw [9] (fun i wr => ∃ (k : Nat) (ss : List Sl) (fs : List Int) (L : List Pt) (N : Int), k ≤ l.length ∧ i = .int .i64 (k : Int) ∧ Aside0 (Rl m ss fs L N k) ∧ Aside0 (Arena 57 60 w wr w.heap.size g m ss fs) ∧ Aside0 (Doc w wr w.heap.size gd m L N)) (fun i _ => l.length - (intOf i).toNat)
    case atStart => exact ⟨0, [], [], [], 0, Nat.zero_le _, rfl, ⟨Rl.start m HM.out.1⟩, HA2, HD⟩
    case round =>
      obtain ⟨k, ss, fs, L, N, hk, rfl, HO, HA1, HD1⟩ := hrel
      clear HA2 HD
      by_cases hlt : k < l.length
      · obtain ⟨ad, ea, -⟩ := HR1.out k hlt
        subst ea
        obtain ⟨pk, hpk⟩ : ∃ pk, l[k].kind = pk := ⟨_, rfl⟩
        obtain ⟨pn, hpn⟩ : ∃ pn, l[k].n = pn := ⟨_, rfl⟩
        obtain ⟨pa, hpa⟩ : ∃ pa, l[k].s = pa := ⟨_, rfl⟩
        obtain ⟨pb, hpb⟩ : ∃ pb, l[k].g = pb := ⟨_, rfl⟩
        have HAC : Aside0 (∀ W, Below w.heap.size w W → W.cell? (ad.add (k * 4)) = some (.int .i64 pk) ∧ W.cell? ⟨(ad.add (k * 4)).block, (ad.add (k * 4)).off + 1, none⟩ = some (.int .i64 pn) ∧ W.cell? ⟨(ad.add (k * 4)).block, (ad.add (k * 4)).off + 2, none⟩ = some (.int .i64 pa) ∧ W.cell? ⟨(ad.add (k * 4)).block, (ad.add (k * 4)).off + 3, none⟩ = some (.int .i64 pb)) := ⟨fun W hW => by
          obtain ⟨ad', e', h0, h1, h2, h3, _⟩ := HR1.out.at_ hW k hlt
          injection e' with e'
          subst e'
          rw [hpk] at h0
          rw [hpn] at h1
          rw [hpa] at h2
          rw [hpb] at h3
          exact ⟨h0, h1, h2, h3⟩⟩
        have HKL := Aside0.mk (And.intro hk hlt)
        have HAc := Aside0.mk (HA1.out.then_ (below_alloc (Below.refl _ _) (.cells #[.int .i64 pa, .int .i64 pb] 31)))
        have HDc := Aside0.mk (HD1.out.then_ (below_alloc (Below.refl _ _) (.cells #[.int .i64 pa, .int .i64 pb] 31)))
        have HX := Aside0.mk (blk_new wr (.cells #[.int .i64 pa, .int .i64 pb] 31))
        obtain ⟨k0, k1, k2, k3⟩ := HAC.out wr HA1.out.below
        obtain ⟨k0', k1', -, -⟩ := HAC.out _ HAc.out.below
        clear hpk hpn hpa hpb HA1
        obtain ⟨vl, hDl⟩ := HD1.out
        obtain ⟨Al, cl, rfl⟩ := own_slice hDl.row
        have hl1 : wr.cell? ⟨gd, 1, none⟩ = some (.slice Al L.length cl) := (blk_cell hDl.blk 1).trans rfl
        have hgd := blk_lt hDl.blk
        have HDl := Aside0.mk hDl
        clear hDl
        by_cases hk33 : pk = 3
        · subst hk33
          go_wp2_with fail
          generalize hbx : wr.heap.size = hb at HX ⊢
          generalize wr.alloc (.cells #[.int .i64 pa, .int .i64 pb] 31) = wc at HAc HDc HX ⊢
          clear hbx hl1 hgd HD1 k0' k1' k2 k3
          obtain ⟨x, d, hP, hQ⟩ := get_plays pa pb HO.out (by have := HM.out; omega) (by omega)
          have HQ := Aside0.mk hQ
          refine (hP _ _ _ _ HAc.out).mono ?_
          rintro e w5 ⟨rfl, hb5⟩
          have HA5 := Aside0.mk (HAc.out.then_ hb5)
          have HD5 := Aside0.mk (HDc.out.then_ hb5)
          have HX5 := Aside0.mk (blk_below' HX.out hb5)
          clear hP hQ hb5 HAc HDc HX
          have hx0 := (blk_cell HX5.out 0).trans rfl
          have hx1 := (blk_cell HX5.out 1).trans rfl
          go_wp2_with fail
          refine (HQ.out _ _ _ _ HD5.out).mono ?_
          rintro e wz ⟨rfl, hb7⟩
          have HAz := Aside0.mk (HA5.out.then_ hb7)
          have HDz := Aside0.mk (HD5.out.then_ hb7)
          have HOz := Aside0.mk (HO.out.more)
          have hdd : (d != d) = false := by cases d <;> rfl
          clear hx0 hx1 HX5 HA5 HD5 hb7 k0 k1
          go_wp2_with fail
          clear hdd
          have hqc := HOz.out.cnt
          have HQC := Aside0.mk hqc
          have hq1 : L.countP Pt.lies ≤ 1000 := by have := HOz.out.most; have := HM.out; omega
          clear hqc
          go_wp2_with fail
          refine (live_ar HAz.out HOz.out.most (by have := HM.out; omega) (by have := HQC.out; omega)).mono ?_
          rintro e wq ⟨rfl, nd1, hwq⟩
          have e0 : (ss.length : Int) - (fs.length : Int) = ((L.countP Pt.lies : Nat) : Int) := by have := HQC.out; omega
          rw [e0]
          clear e0
          have HAy : Aside0 (Arena 57 60 w wq w.heap.size g m ss fs) := ⟨by rw [hwq]; exact HAz.out.then_ (pw_below_drewN (Below.refl _ _) nd1)⟩
          have HDy : Aside0 (Doc w wq w.heap.size gd m L N) := ⟨by rw [hwq]; exact HDz.out.then_ (pw_below_drewN (Below.refl _ _) nd1)⟩
          clear HAz HDz hwq
          go_wp2_with fail
          refine (dlive_calls HDy.out (by have := HOz.out.len; omega)).mono ?_
          rintro e wq0 ⟨rfl, rfl⟩
          go_wp2_with fail
          refine (room_ar HAy.out HOz.out.most (by have := HM.out; omega) (by have := HQC.out; omega)).mono ?_
          rintro e wq2 ⟨rfl, nd2, hwq⟩
          have e1 : m - (ss.length : Int) + (fs.length : Int) = m - ((L.countP Pt.lies : Nat) : Int) := by have := HQC.out; omega
          rw [e1]
          clear e1
          have HAx : Aside0 (Arena 57 60 w wq2 w.heap.size g m ss fs) := ⟨by rw [hwq]; exact HAy.out.then_ (pw_below_drewN (Below.refl _ _) nd2)⟩
          have HDx : Aside0 (Doc w wq2 w.heap.size gd m L N) := ⟨by rw [hwq]; exact HDy.out.then_ (pw_below_drewN (Below.refl _ _) nd2)⟩
          clear HAy HDy hwq
          go_wp2_with fail
          refine (dlive_calls HDx.out (by have := HOz.out.len; omega)).mono ?_
          rintro e wq3 ⟨rfl, rfl⟩
          have hm1 := HM.out
          go_wp2
          go_roundw
          case rel => exact ⟨k + 1, ss, fs, L, N, by omega, by go_num, HOz, HAx, HDx⟩
          case measure => simp [intOf]; omega
        · by_cases hL : L.length = 0
          · obtain rfl : L = [] := List.length_eq_zero_iff.1 hL
            clear hL
            by_cases hk0 : pk = 0
            · subst hk0
              go_wp2_with fail
              generalize hbx : wr.heap.size = hb at HX ⊢
              generalize wr.alloc (.cells #[.int .i64 pa, .int .i64 pb] 31) = wc at HAc HDc HX ⊢
              clear hbx hl1 hgd HD1 k0' k1' k2 k3
              obtain ⟨a, b, d, ssz, fsz, Lz, hOz, hP, hQ⟩ := put_plays pn HO.out (by have := HM.out; omega) (by omega)
              have HOz := Aside0.mk hOz
              have HQ := Aside0.mk hQ
              refine (hP _ _ _ _ HAc.out).mono ?_
              rintro e w5 ⟨rfl, hA5, hk5⟩
              have HA5 := Aside0.mk (hA5.then_ (below_alloc (Below.refl _ _) (.cells #[.int .i64 a, .int .i64 b] 31)))
              have HD5 := Aside0.mk ((HDc.out.stay hk5 (by decide) (by decide) hA5.below).then_ (below_alloc (Below.refl _ _) (.cells #[.int .i64 a, .int .i64 b] 31)))
              have HX5 := Aside0.mk (blk_new w5 (.cells #[.int .i64 a, .int .i64 b] 31))
              obtain ⟨k0', k1', -, -⟩ := HAC.out _ HA5.out.below
              clear hOz hP hQ hA5 hk5 HAc HDc k0 k1 HX
              go_wp2_with fail
              generalize hb5 : w5.heap.size = b5 at HX5 ⊢
              generalize w5.alloc (.cells #[.int .i64 a, .int .i64 b] 31) = w6 at HA5 HD5 HX5 k0' k1' ⊢
              refine (HQ.out _ _ _ _ HD5.out).mono ?_
              rintro e w7 ⟨rfl, hD7, hk7⟩
              have HD7 := Aside0.mk (hD7.then_ (below_alloc (Below.refl _ _) (.cells #[.int .i64 a, .int .i64 b] 31)))
              have HA7 := Aside0.mk ((HA5.out.stay hk7 (by decide) (by decide) (by decide) hD7.below).then_ (below_alloc (Below.refl _ _) (.cells #[.int .i64 a, .int .i64 b] 31)))
              have HX7 := Aside0.mk (blk_alloc (hk7.blk HX5.out (by decide)) (.cells #[.int .i64 a, .int .i64 b] 31))
              have hx0 := (blk_cell HX7.out 0).trans rfl
              have hx1 := (blk_cell HX7.out 1).trans rfl
              have hne7 := blk_lt (hk7.blk HX5.out (by decide))
              have hdd : (d != d) = false := by cases d <;> rfl
              clear hD7 hk7 HA5 HD5 HX5 k0' k1'
              go_wp2_with fail
              have HAz := HA7
              have HDz := HD7
              clear HX7 hx0 hx1 hne7 hdd HA7 HD7
              generalize w7.alloc (.cells #[.int .i64 a, .int .i64 b] 31) = wz at HAz HDz ⊢
              have hqc := HOz.out.cnt
              have HQC := Aside0.mk hqc
              have hq1 : Lz.countP Pt.lies ≤ 1000 := by have := HOz.out.most; have := HM.out; omega
              clear hqc
              go_wp2_with fail
              refine (live_ar HAz.out HOz.out.most (by have := HM.out; omega) (by have := HQC.out; omega)).mono ?_
              rintro e wq ⟨rfl, nd1, hwq⟩
              have e0 : (ssz.length : Int) - (fsz.length : Int) = ((Lz.countP Pt.lies : Nat) : Int) := by have := HQC.out; omega
              rw [e0]
              clear e0
              have HAy : Aside0 (Arena 57 60 w wq w.heap.size g m ssz fsz) := ⟨by rw [hwq]; exact HAz.out.then_ (pw_below_drewN (Below.refl _ _) nd1)⟩
              have HDy : Aside0 (Doc w wq w.heap.size gd m Lz N) := ⟨by rw [hwq]; exact HDz.out.then_ (pw_below_drewN (Below.refl _ _) nd1)⟩
              clear HAz HDz hwq
              go_wp2_with fail
              refine (dlive_calls HDy.out (by have := HOz.out.len; omega)).mono ?_
              rintro e wq0 ⟨rfl, rfl⟩
              go_wp2_with fail
              refine (room_ar HAy.out HOz.out.most (by have := HM.out; omega) (by have := HQC.out; omega)).mono ?_
              rintro e wq2 ⟨rfl, nd2, hwq⟩
              have e1 : m - (ssz.length : Int) + (fsz.length : Int) = m - ((Lz.countP Pt.lies : Nat) : Int) := by have := HQC.out; omega
              rw [e1]
              clear e1
              have HAx : Aside0 (Arena 57 60 w wq2 w.heap.size g m ssz fsz) := ⟨by rw [hwq]; exact HAy.out.then_ (pw_below_drewN (Below.refl _ _) nd2)⟩
              have HDx : Aside0 (Doc w wq2 w.heap.size gd m Lz N) := ⟨by rw [hwq]; exact HDy.out.then_ (pw_below_drewN (Below.refl _ _) nd2)⟩
              clear HAy HDy hwq
              go_wp2_with fail
              refine (dlive_calls HDx.out (by have := HOz.out.len; omega)).mono ?_
              rintro e wq3 ⟨rfl, rfl⟩
              have hm1 := HM.out
              go_wp2
              go_roundw
              case rel => exact ⟨k + 1, ssz, fsz, Lz, N, by omega, by go_num, HOz, HAx, HDx⟩
              case measure => simp [intOf]; omega
            · by_cases hk1 : pk = 1
              · subst hk1
                have hk1 : ((1 : Int) == 0) = false := rfl
                have hk2 := hk1
                go_wp2_with fail
                generalize hbx : wr.heap.size = hb at HX ⊢
                generalize wr.alloc (.cells #[.int .i64 pa, .int .i64 pb] 31) = wc at HAc HDc HX ⊢
                clear hbx hl1 hgd HD1 k0' k1' k2 k3
                obtain ⟨d, ssz, fsz, Lz, Nz, hOz, hP, hQ⟩ := free_plays pa pb HO.out (by have := HM.out; omega) (by omega)
                have HOz := Aside0.mk hOz
                have HP := Aside0.mk hP
                have HQ := Aside0.mk hQ
                clear hOz hP hQ k0 k1 hk1 hk2 hk hlt
                refine start_ (n := 7) (S := fun w' => w'.cell? ⟨hb, 0, none⟩ = some (.int .i64 pa) ∧ w'.cell? ⟨hb, 1, none⟩ = some (.int .i64 pb)) (ds := []) #[false, false, false, false, false, false, false] (by kernel_rfl) rfl rfl ⟨(blk_cell (blk_drew HX.out) 0).trans rfl, (blk_cell (blk_drew HX.out) 1).trans rfl⟩ (fun hHeld => ?_)
                refine pure_ (i := 0) (N := some 142) (v := ?_) (a' := ?_) #[true, false, false, false, false, false, false] rfl rfl (by kernel_rfl) (fun _ _ _ h => h) (Or.inl ⟨by rfl, ?_⟩) ?_ ?_
                rotate_left
                · intro w'
                  go_simp
                  with_reducible rfl
                rotate_left
                · simp only [Act.put, List.setIfInBounds_toArray, List.set_cons_zero, List.set_cons_succ, i64_w, i32_w]
                  rfl
                refine take_ (i := 1) (N := some 143) (v := ?_) (a' := ?_) #[true, true, false, false, false, false, false] rfl rfl (by kernel_rfl) (fun _ _ _ h => h) (Or.inl ⟨by rfl, ?_⟩) hHeld ?_ ?_
                rotate_left
                · intro w' hS
                  have s0 := hS.1; have s1 := hS.2; clear hS
                  go_simp
                  with_reducible rfl
                rotate_left
                · simp only [Act.put, List.setIfInBounds_toArray, List.set_cons_zero, List.set_cons_succ, i64_w, i32_w]
                  rfl
                refine pure_ (i := 3) (N := some 145) (v := ?_) (a' := ?_) #[true, true, false, true, false, false, false] rfl rfl (by kernel_rfl) (fun _ _ _ h => h) (Or.inl ⟨by rfl, ?_⟩) ?_ ?_
                rotate_left
                · intro w'
                  go_simp
                  with_reducible rfl
                rotate_left
                · simp only [Act.put, List.setIfInBounds_toArray, List.set_cons_zero, List.set_cons_succ, i64_w, i32_w]
                  rfl
                refine take_ (i := 4) (N := some 146) (v := ?_) (a' := ?_) #[true, true, false, true, true, false, false] rfl rfl (by kernel_rfl) (fun _ _ _ h => h) (Or.inl ⟨by rfl, ?_⟩) hHeld ?_ ?_
                rotate_left
                · intro w' hS
                  have s0 := hS.1; have s1 := hS.2; clear hS
                  go_simp
                  with_reducible rfl
                rotate_left
                · simp only [Act.put, List.setIfInBounds_toArray, List.set_cons_zero, List.set_cons_succ, i64_w, i32_w]
                  rfl
                refine one_ (i := 2) (N := some 144) #[true, true, true, true, true, false, false] rfl rfl (by kernel_rfl) (by decide) (fun K hK => ?_)
                refine goes_ Try.func12 (by kernel_rfl) rfl #[.pointer (some ⟨g, 0, none⟩), .agg #[.int .i64 pa, .int .i64 pb]] (by rfl) rfl rfl (by (try simp only [List.map_toArray, List.map_cons, List.map_nil]); first | done | rfl) ?_
                refine (HP.out _ _ _ _ (HAc.out.then_ (below_drew1 (Below.refl _ _)))).mono ?_
                rintro e w5 ⟨rfl, hA5, hk5⟩
                refine ⟨_, rfl, ?_⟩
                have HA5 := Aside0.mk hA5
                have HD5 := Aside0.mk ((HDc.out.then_ (below_drew1 (Below.refl _ _))).stay hk5 (by decide) (by decide) hA5.below)
                have HX5 := Aside0.mk (hk5.blk (blk_drew HX.out) (by decide))
                clear hA5 hk5 HAc HDc
                refine hK.out _ _ ⟨(blk_cell HX5.out 0).trans rfl, (blk_cell HX5.out 1).trans rfl⟩ (fun hHeld2 => ?_)
                clear hK K
                refine norm_ (a' := ?_) ?_ ?_
                rotate_left
                · show Act.put _ (some 144) _ = _
                  simp only [Act.put, List.setIfInBounds_toArray, List.set_cons_zero, List.set_cons_succ, i64_w, i32_w]
                  rfl
                refine one_ (i := 5) (N := some 147) #[true, true, true, true, true, true, false] rfl rfl (by kernel_rfl) (by decide) (fun K hK => ?_)
                refine goes_ Try.func13 (by kernel_rfl) rfl #[.pointer (some ⟨gd, 0, none⟩), .agg #[.int .i64 pa, .int .i64 pb]] (by rfl) rfl rfl (by (try simp only [List.map_toArray, List.map_cons, List.map_nil]); first | done | rfl) ?_
                refine (HQ.out _ _ _ _ HD5.out).mono ?_
                rintro e wz ⟨rfl, hD7, hk7⟩
                refine ⟨_, rfl, ?_⟩
                have HDz := Aside0.mk hD7
                have HAz := Aside0.mk (HA5.out.stay hk7 (by decide) (by decide) (by decide) hD7.below)
                have HX7 := Aside0.mk (hk7.blk HX5.out (by decide))
                clear hD7 hk7 HA5 HD5 HX5
                refine hK.out _ _ ⟨(blk_cell HX7.out 0).trans rfl, (blk_cell HX7.out 1).trans rfl⟩ (fun hHeld3 => ?_)
                clear hK K
                refine norm_ (a' := ?_) ?_ ?_
                rotate_left
                · show Act.put _ (some 147) _ = _
                  simp only [Act.put, List.setIfInBounds_toArray, List.set_cons_zero, List.set_cons_succ, i64_w, i32_w]
                  rfl
                refine pure_ (i := 6) (N := some 148) (v := ?_) (a' := ?_) #[true, true, true, true, true, true, true] rfl rfl (by kernel_rfl) (fun _ _ _ h => h) (Or.inl ⟨by rfl, ?_⟩) ?_ ?_
                rotate_left
                · intro w'
                  go_simp
                  with_reducible rfl
                rotate_left
                · simp only [Act.put, List.setIfInBounds_toArray, List.set_cons_zero, List.set_cons_succ, i64_w, i32_w]
                  rfl
                refine done_ (by kernel_rfl) ?_
                have hdd : (d != d) = false := by cases d <;> rfl
                have hk := HKL.out.1
                have hlt := HKL.out.2
                clear HX7
                go_wp2_with fail
                clear hdd
                have hqc := HOz.out.cnt
                have HQC := Aside0.mk hqc
                have hq1 : Lz.countP Pt.lies ≤ 1000 := by have := HOz.out.most; have := HM.out; omega
                clear hqc
                go_wp2_with fail
                refine (live_ar HAz.out HOz.out.most (by have := HM.out; omega) (by have := HQC.out; omega)).mono ?_
                rintro e wq ⟨rfl, nd1, hwq⟩
                have e0 : (ssz.length : Int) - (fsz.length : Int) = ((Lz.countP Pt.lies : Nat) : Int) := by have := HQC.out; omega
                rw [e0]
                clear e0
                have HAy : Aside0 (Arena 57 60 w wq w.heap.size g m ssz fsz) := ⟨by rw [hwq]; exact HAz.out.then_ (pw_below_drewN (Below.refl _ _) nd1)⟩
                have HDy : Aside0 (Doc w wq w.heap.size gd m Lz Nz) := ⟨by rw [hwq]; exact HDz.out.then_ (pw_below_drewN (Below.refl _ _) nd1)⟩
                clear HAz HDz hwq
                go_wp2_with fail
                refine (dlive_calls HDy.out (by have := HOz.out.len; omega)).mono ?_
                rintro e wq0 ⟨rfl, rfl⟩
                go_wp2_with fail
                refine (room_ar HAy.out HOz.out.most (by have := HM.out; omega) (by have := HQC.out; omega)).mono ?_
                rintro e wq2 ⟨rfl, nd2, hwq⟩
                have e1 : m - (ssz.length : Int) + (fsz.length : Int) = m - ((Lz.countP Pt.lies : Nat) : Int) := by have := HQC.out; omega
                rw [e1]
                clear e1
                have HAx : Aside0 (Arena 57 60 w wq2 w.heap.size g m ssz fsz) := ⟨by rw [hwq]; exact HAy.out.then_ (pw_below_drewN (Below.refl _ _) nd2)⟩
                have HDx : Aside0 (Doc w wq2 w.heap.size gd m Lz Nz) := ⟨by rw [hwq]; exact HDy.out.then_ (pw_below_drewN (Below.refl _ _) nd2)⟩
                clear HAy HDy hwq
                go_wp2_with fail
                refine (dlive_calls HDx.out (by have := HOz.out.len; omega)).mono ?_
                rintro e wq3 ⟨rfl, rfl⟩
                have hm1 := HM.out
                go_wp2
                go_roundw
                case rel => exact ⟨k + 1, ssz, fsz, Lz, Nz, by omega, by go_num, HOz, HAx, HDx⟩
                case measure => simp [intOf]; omega
              · have hk2 : (pk == 0) = false := by simpa using hk0
                have hk3 : (pk == 1) = false := by simpa using hk1
                clear hk0 hk1
                go_wp2_with fail
                generalize hbx : wr.heap.size = hb at HX ⊢
                generalize wr.alloc (.cells #[.int .i64 pa, .int .i64 pb] 31) = wc at HAc HDc HX ⊢
                clear hbx hl1 hgd HD1 k0' k1' k2 k3
                obtain ⟨x, d, hP, hQ⟩ := get_plays pa pb HO.out (by have := HM.out; omega) (by omega)
                have HQ := Aside0.mk hQ
                refine (hP _ _ _ _ HAc.out).mono ?_
                rintro e w5 ⟨rfl, hb5⟩
                have HA5 := Aside0.mk (HAc.out.then_ hb5)
                have HD5 := Aside0.mk (HDc.out.then_ hb5)
                have HX5 := Aside0.mk (blk_below' HX.out hb5)
                clear hP hQ hb5 HAc HDc HX
                have hx0 := (blk_cell HX5.out 0).trans rfl
                have hx1 := (blk_cell HX5.out 1).trans rfl
                go_wp2_with fail
                refine (HQ.out _ _ _ _ HD5.out).mono ?_
                rintro e wz ⟨rfl, hb7⟩
                have HAz := Aside0.mk (HA5.out.then_ hb7)
                have HDz := Aside0.mk (HD5.out.then_ hb7)
                have HOz := Aside0.mk (HO.out.more)
                have hdd : (d != d) = false := by cases d <;> rfl
                clear hx0 hx1 HX5 HA5 HD5 hb7 k0 k1
                go_wp2_with fail
                clear hdd
                have hqc := HOz.out.cnt
                have HQC := Aside0.mk hqc
                have hq1 : ([] : List Pt).countP Pt.lies ≤ 1000 := by have := HOz.out.most; have := HM.out; omega
                clear hqc
                go_wp2_with fail
                refine (live_ar HAz.out HOz.out.most (by have := HM.out; omega) (by have := HQC.out; omega)).mono ?_
                rintro e wq ⟨rfl, nd1, hwq⟩
                have e0 : (ss.length : Int) - (fs.length : Int) = ((([] : List Pt).countP Pt.lies : Nat) : Int) := by have := HQC.out; omega
                rw [e0]
                clear e0
                have HAy : Aside0 (Arena 57 60 w wq w.heap.size g m ss fs) := ⟨by rw [hwq]; exact HAz.out.then_ (pw_below_drewN (Below.refl _ _) nd1)⟩
                have HDy : Aside0 (Doc w wq w.heap.size gd m ([] : List Pt) N) := ⟨by rw [hwq]; exact HDz.out.then_ (pw_below_drewN (Below.refl _ _) nd1)⟩
                clear HAz HDz hwq
                go_wp2_with fail
                refine (dlive_calls HDy.out (by have := HOz.out.len; omega)).mono ?_
                rintro e wq0 ⟨rfl, rfl⟩
                go_wp2_with fail
                refine (room_ar HAy.out HOz.out.most (by have := HM.out; omega) (by have := HQC.out; omega)).mono ?_
                rintro e wq2 ⟨rfl, nd2, hwq⟩
                have e1 : m - (ss.length : Int) + (fs.length : Int) = m - ((([] : List Pt).countP Pt.lies : Nat) : Int) := by have := HQC.out; omega
                rw [e1]
                clear e1
                have HAx : Aside0 (Arena 57 60 w wq2 w.heap.size g m ss fs) := ⟨by rw [hwq]; exact HAy.out.then_ (pw_below_drewN (Below.refl _ _) nd2)⟩
                have HDx : Aside0 (Doc w wq2 w.heap.size gd m ([] : List Pt) N) := ⟨by rw [hwq]; exact HDy.out.then_ (pw_below_drewN (Below.refl _ _) nd2)⟩
                clear HAy HDy hwq
                go_wp2_with fail
                refine (dlive_calls HDx.out (by have := HOz.out.len; omega)).mono ?_
                rintro e wq3 ⟨rfl, rfl⟩
                have hm1 := HM.out
                go_wp2
                go_roundw
                case rel => exact ⟨k + 1, ss, fs, ([] : List Pt), N, by omega, by go_num, HOz, HAx, HDx⟩
                case measure => simp [intOf]; omega
          · by_cases hpn0 : 0 ≤ pn
            · have hpn1 : decide (0 ≤ pn) = true := decide_eq_true hpn0
              have hL1 : 0 < L.length := by omega
              obtain ⟨q, hq⟩ : ∃ q : Nat, pn % (L.length : Int) = (q : Int) := ⟨_, (Int.toNat_of_nonneg (Int.emod_nonneg pn (show (L.length : Int) ≠ 0 by omega))).symm⟩
              have hql : q < L.length := by have h := Int.emod_lt_of_pos pn (show (0 : Int) < (L.length : Int) by omega); rw [hq] at h; omega
              obtain ⟨gs, cl', e, hcl, c0, c1, -, -, -⟩ := HDl.out.cells q hql
              injection e with e1 e2 e3
              subst e1
              subst e3
              have HSW : Aside0 (∀ W, Below wr.heap.size wr W → W.cell? ⟨gd, 1, none⟩ = some (.slice (some ⟨gs, 0, none⟩) L.length cl) ∧ W.cell? ⟨(ad.add (k * 4)).block, (ad.add (k * 4)).off + 1, none⟩ = some (.int .i64 pn) ∧ W.cell? ⟨gs, q * 5, none⟩ = some (.int .i64 L[q].s) ∧ W.cell? ⟨gs, q * 5 + 1, none⟩ = some (.int .i64 L[q].g)) :=
                ⟨fun W h => ⟨Below.cell_ h hl1, Below.cell_ h k1, Below.cell_ h c0, Below.cell_ h c1⟩⟩
              have HQ0 := Aside0.mk (And.intro hq hql)
              clear hq e2 c0 c1
              go_wp2_with fail
              have HS := Aside0.mk (HSW.out _ (below_drew1 (below_alloc (Below.refl wr.heap.size wr) (.cells #[.int .i64 pa, .int .i64 pb] 31))))
              generalize hbx : wr.heap.size = hb at HX ⊢
              have HBX : Aside0 (w.heap.size ≤ hb) := ⟨by rw [← hbx]; exact HD1.out.room⟩
              have HBL : Aside0 (Below w.heap.size w (wr.alloc (.cells #[.int .i64 pa, .int .i64 pb] 31))) := ⟨HAc.out.below⟩
              generalize wr.alloc (.cells #[.int .i64 pa, .int .i64 pb] 31) = wc at HAc HDc HX HS HBL ⊢
              clear hbx hl1 hgd HD1 k0' k1' k0 k1 k2 k3 HDl HSW hL hpn1
              have hLn : ¬ L = [] := fun e => by rw [e] at hL1; exact absurd hL1 (Nat.lt_irrefl 0)
              have hqm : pn.tmod (L.length : Int) = (q : Int) := by rw [Int.tmod_eq_emod_of_nonneg hpn0]; exact HQ0.out.1
              have hpl : (L.length : Int) ≤ 1000 := by have := HO.out.len; omega
              refine start_ (n := 19) (S := fun w' => w'.cell? ⟨gd, 1, none⟩ = some (.slice (some ⟨gs, 0, none⟩) L.length cl) ∧ w'.cell? ⟨(ad.add (k * 4)).block, (ad.add (k * 4)).off + 1, none⟩ = some (.int .i64 pn) ∧ w'.cell? ⟨gs, q * 5, none⟩ = some (.int .i64 L[q].s) ∧ w'.cell? ⟨gs, q * 5 + 1, none⟩ = some (.int .i64 L[q].g)) (ds := [18]) #[false, false, false, false, false, false, false, false, false, false, false, false, false, false, false, false, false, false, false] (by kernel_rfl) rfl rfl HS.out (fun hHeld => ?_)
              refine pure_ (i := 0) (N := some 67) (v := ?_) (a' := ?_) #[true, false, false, false, false, false, false, false, false, false, false, false, false, false, false, false, false, false, false] rfl rfl (by kernel_rfl) (fun _ _ _ h => h) (Or.inl ⟨by rfl, ?_⟩) ?_ ?_
              rotate_left
              · intro w'
                go_simp
                with_reducible rfl
              rotate_left
              · simp only [Act.put, List.setIfInBounds_toArray, List.set_cons_zero, List.set_cons_succ, i64_w, i32_w]
                rfl
              refine pure_ (i := 1) (N := some 68) (v := ?_) (a' := ?_) #[true, true, false, false, false, false, false, false, false, false, false, false, false, false, false, false, false, false, false] rfl rfl (by kernel_rfl) (fun _ _ _ h => h) (Or.inl ⟨by rfl, ?_⟩) ?_ ?_
              rotate_left
              · intro w'
                go_simp
                with_reducible rfl
              rotate_left
              · simp only [Act.put, List.setIfInBounds_toArray, List.set_cons_zero, List.set_cons_succ, i64_w, i32_w]
                rfl
              refine pure_ (i := 2) (N := some 69) (v := ?_) (a' := ?_) #[true, true, true, false, false, false, false, false, false, false, false, false, false, false, false, false, false, false, false] rfl rfl (by kernel_rfl) (fun _ _ _ h => h) (Or.inl ⟨by rfl, ?_⟩) ?_ ?_
              rotate_left
              · intro w'
                go_simp
                with_reducible rfl
              rotate_left
              · simp only [Act.put, List.setIfInBounds_toArray, List.set_cons_zero, List.set_cons_succ, i64_w, i32_w]
                rfl
              refine take_ (i := 3) (N := some 70) (v := ?_) (a' := ?_) #[true, true, true, true, false, false, false, false, false, false, false, false, false, false, false, false, false, false, false] rfl rfl (by kernel_rfl) (fun _ _ _ h => h) (Or.inl ⟨by rfl, ?_⟩) hHeld ?_ ?_
              rotate_left
              · intro w' hS
                have s0 := hS.1; have s1 := hS.2.1; have s2 := hS.2.2.1; have s3 := hS.2.2.2; clear hS
                go_simp
                with_reducible rfl
              rotate_left
              · simp only [Act.put, List.setIfInBounds_toArray, List.set_cons_zero, List.set_cons_succ, i64_w, i32_w]
                rfl
              refine pure_ (i := 4) (N := some 71) (v := ?_) (a' := ?_) #[true, true, true, true, true, false, false, false, false, false, false, false, false, false, false, false, false, false, false] rfl rfl (by kernel_rfl) (fun _ _ _ h => h) (Or.inl ⟨by rfl, ?_⟩) ?_ ?_
              rotate_left
              · intro w'
                go_simp
                with_reducible rfl
              rotate_left
              · simp only [Act.put, List.setIfInBounds_toArray, List.set_cons_zero, List.set_cons_succ, i64_w, i32_w]
                rfl
              refine pure_ (i := 5) (N := some 72) (v := ?_) (a' := ?_) #[true, true, true, true, true, true, false, false, false, false, false, false, false, false, false, false, false, false, false] rfl rfl (by kernel_rfl) (fun _ _ _ h => h) (Or.inl ⟨by rfl, ?_⟩) ?_ ?_
              rotate_left
              · intro w'
                go_simp
                with_reducible rfl
              rotate_left
              · simp only [Act.put, List.setIfInBounds_toArray, List.set_cons_zero, List.set_cons_succ, i64_w, i32_w]
                rfl
              refine pure_ (i := 6) (N := some 73) (v := ?_) (a' := ?_) #[true, true, true, true, true, true, true, false, false, false, false, false, false, false, false, false, false, false, false] rfl rfl (by kernel_rfl) (fun _ _ _ h => h) (Or.inl ⟨by rfl, ?_⟩) ?_ ?_
              rotate_left
              · intro w'
                go_simp
                with_reducible rfl
              rotate_left
              · simp only [Act.put, List.setIfInBounds_toArray, List.set_cons_zero, List.set_cons_succ, i64_w, i32_w]
                rfl
              refine pure_ (i := 7) (N := some 74) (v := ?_) (a' := ?_) #[true, true, true, true, true, true, true, true, false, false, false, false, false, false, false, false, false, false, false] rfl rfl (by kernel_rfl) (fun _ _ _ h => h) (Or.inl ⟨by rfl, ?_⟩) ?_ ?_
              rotate_left
              · intro w'
                go_simp
                with_reducible rfl
              rotate_left
              · simp only [Act.put, List.setIfInBounds_toArray, List.set_cons_zero, List.set_cons_succ, i64_w, i32_w]
                rfl
              refine take_ (i := 8) (N := some 75) (v := ?_) (a' := ?_) #[true, true, true, true, true, true, true, true, true, false, false, false, false, false, false, false, false, false, false] rfl rfl (by kernel_rfl) (fun _ _ _ h => h) (Or.inl ⟨by rfl, ?_⟩) hHeld ?_ ?_
              rotate_left
              · intro w' hS
                have s0 := hS.1; have s1 := hS.2.1; have s2 := hS.2.2.1; have s3 := hS.2.2.2; clear hS
                go_simp
                with_reducible rfl
              rotate_left
              · simp only [Act.put, List.setIfInBounds_toArray, List.set_cons_zero, List.set_cons_succ, i64_w, i32_w]
                rfl
              refine pure_ (i := 9) (N := some 76) (v := ?_) (a' := ?_) #[true, true, true, true, true, true, true, true, true, true, false, false, false, false, false, false, false, false, false] rfl rfl (by kernel_rfl) (fun _ _ _ h => h) (Or.inl ⟨by rfl, ?_⟩) ?_ ?_
              rotate_left
              · intro w'
                go_simp
                with_reducible rfl
              rotate_left
              · simp only [Act.put, List.setIfInBounds_toArray, List.set_cons_zero, List.set_cons_succ, i64_w, i32_w]
                rfl
              refine pure_ (i := 10) (N := some 77) (v := ?_) (a' := ?_) #[true, true, true, true, true, true, true, true, true, true, true, false, false, false, false, false, false, false, false] rfl rfl (by kernel_rfl) (fun _ _ _ h => h) (Or.inl ⟨by rfl, ?_⟩) ?_ ?_
              rotate_left
              · intro w'
                go_simp
                with_reducible rfl
              rotate_left
              · simp only [Act.put, List.setIfInBounds_toArray, List.set_cons_zero, List.set_cons_succ, i64_w, i32_w]
                rfl
              refine pure_ (i := 11) (N := some 78) (v := ?_) (a' := ?_) #[true, true, true, true, true, true, true, true, true, true, true, true, false, false, false, false, false, false, false] rfl rfl (by kernel_rfl) (fun _ _ _ h => h) (Or.inl ⟨by rfl, ?_⟩) ?_ ?_
              rotate_left
              · intro w'
                go_simp
                with_reducible rfl
              rotate_left
              · simp only [Act.put, List.setIfInBounds_toArray, List.set_cons_zero, List.set_cons_succ, i64_w, i32_w]
                rfl
              refine take_ (i := 12) (N := some 79) (v := ?_) (a' := ?_) #[true, true, true, true, true, true, true, true, true, true, true, true, true, false, false, false, false, false, false] rfl rfl (by kernel_rfl) (fun _ _ _ h => h) (Or.inl ⟨by rfl, ?_⟩) hHeld ?_ ?_
              rotate_left
              · intro w' hS
                have s0 := hS.1; have s1 := hS.2.1; have s2 := hS.2.2.1; have s3 := hS.2.2.2; clear hS
                go_simp
                with_reducible rfl
              rotate_left
              · simp only [Act.put, List.setIfInBounds_toArray, List.set_cons_zero, List.set_cons_succ, i64_w, i32_w]
                rfl
              refine pure_ (i := 13) (N := some 80) (v := ?_) (a' := ?_) #[true, true, true, true, true, true, true, true, true, true, true, true, true, true, false, false, false, false, false] rfl rfl (by kernel_rfl) (fun _ _ _ h => h) (Or.inl ⟨by rfl, ?_⟩) ?_ ?_
              rotate_left
              · intro w'
                go_simp
                with_reducible rfl
              rotate_left
              · simp only [Act.put, List.setIfInBounds_toArray, List.set_cons_zero, List.set_cons_succ, i64_w, i32_w]
                rfl
              refine pure_ (i := 14) (N := some 81) (v := ?_) (a' := ?_) #[true, true, true, true, true, true, true, true, true, true, true, true, true, true, true, false, false, false, false] rfl rfl (by kernel_rfl) (fun _ _ _ h => h) (Or.inl ⟨by rfl, ?_⟩) ?_ ?_
              rotate_left
              · intro w'
                go_simp
                with_reducible rfl
              rotate_left
              · simp only [Act.put, List.setIfInBounds_toArray, List.set_cons_zero, List.set_cons_succ, i64_w, i32_w]
                rfl
              refine pure_ (i := 15) (N := some 82) (v := ?_) (a' := ?_) #[true, true, true, true, true, true, true, true, true, true, true, true, true, true, true, true, false, false, false] rfl rfl (by kernel_rfl) (fun _ _ _ h => h) (Or.inl ⟨by rfl, ?_⟩) ?_ ?_
              rotate_left
              · intro w'
                go_simp
                with_reducible rfl
              rotate_left
              · simp only [Act.put, List.setIfInBounds_toArray, List.set_cons_zero, List.set_cons_succ, i64_w, i32_w]
                rfl
              refine pure_ (i := 16) (N := some 83) (v := ?_) (a' := ?_) #[true, true, true, true, true, true, true, true, true, true, true, true, true, true, true, true, true, false, false] rfl rfl (by kernel_rfl) (fun _ _ _ h => h) (Or.inl ⟨by rfl, ?_⟩) ?_ ?_
              rotate_left
              · intro w'
                go_simp
                with_reducible rfl
              rotate_left
              · simp only [Act.put, List.setIfInBounds_toArray, List.set_cons_zero, List.set_cons_succ, i64_w, i32_w]
                rfl
              refine take_ (i := 17) (N := some 84) (v := ?_) (a' := ?_) #[true, true, true, true, true, true, true, true, true, true, true, true, true, true, true, true, true, true, false] rfl rfl (by kernel_rfl) (fun _ _ _ h => h) (Or.inl ⟨by rfl, ?_⟩) hHeld ?_ ?_
              rotate_left
              · intro w' hS
                have s0 := hS.1; have s1 := hS.2.1; have s2 := hS.2.2.1; have s3 := hS.2.2.2; clear hS
                go_simp
                with_reducible rfl
              rotate_left
              · simp only [Act.put, List.setIfInBounds_toArray, List.set_cons_zero, List.set_cons_succ, i64_w, i32_w]
                rfl
              refine last_ (i := 18) (N := none) #[true, true, true, true, true, true, true, true, true, true, true, true, true, true, true, true, true, true, true] rfl rfl (by kernel_rfl) (by decide) (fun K hK => ?_)
              have hd0 := (blk_cell HX.out 0).trans rfl
              have hd1 := (blk_cell HX.out 1).trans rfl
              have hdz := blk_frozen HX.out
              refine skip_ (w1 := (wc.drew.setCell ⟨hb, 0, none⟩ (.int .i64 L[q].s)).setCell ⟨hb, 1, none⟩ (.int .i64 L[q].g)) (by rfl) rfl ?_ ?_
              · go_simp
              refine hK.out _ _ ?_
              clear hK K hd0 hd1 hdz
              refine done_ (by kernel_rfl) ?_
              have hX2 := blk_put (blk_put (blk_drew HX.out) 0 (.int .i64 L[q].s) rfl) 1 (.int .i64 L[q].g) rfl
              have hK2 : KeptT wc ((wc.drew.setCell ⟨hb, 0, none⟩ (.int .i64 L[q].s)).setCell ⟨hb, 1, none⟩ (.int .i64 L[q].g)) [31] :=
                (KeptT.drew wc _).trans ((KeptT.set (p := ⟨hb, 0, none⟩) (blk_drew HX.out) (by simp) _).trans (KeptT.set (p := ⟨hb, 1, none⟩) (blk_put (blk_drew HX.out) 0 _ rfl) (by simp) _))
              have hW2 := ((below_drew1 HBL.out).setCell (p := ⟨hb, 0, none⟩) HBX.out (.int .i64 L[q].s)).setCell (p := ⟨hb, 1, none⟩) HBX.out (.int .i64 L[q].g)
              have HA2 := Aside0.mk (HAc.out.stay hK2 (by decide) (by decide) (by decide) hW2)
              have HD2 := Aside0.mk (HDc.out.stay hK2 (by decide) (by decide) hW2)
              have HX2 := Aside0.mk hX2
              clear hX2 hK2 hW2 HAc HDc HX HS hHeld hLn hqm hpl
              generalize ((wc.drew.setCell ⟨hb, 0, none⟩ (.int .i64 L[q].s)).setCell ⟨hb, 1, none⟩ (.int .i64 L[q].g)) = wd at HA2 HD2 HX2 ⊢
              generalize L[q].s = qa at HX2 ⊢
              generalize L[q].g = qb at HX2 ⊢
              have HAc := HA2
              have HDc := HD2
              have HX := HX2
              clear HA2 HD2 HX2
              obtain ⟨k0, k1, -, -⟩ := HAC.out _ HAc.out.below
              by_cases hk0 : pk = 0
              · subst hk0
                have hx0 := (blk_cell HX.out 0).trans rfl
                have hx1 := (blk_cell HX.out 1).trans rfl
                go_wp2_with fail
                clear hx0 hx1
                obtain ⟨a, b, d, ssz, fsz, Lz, hOz, hP, hQ⟩ := put_plays pn HO.out (by have := HM.out; omega) (by omega)
                have HOz := Aside0.mk hOz
                have HQ := Aside0.mk hQ
                refine (hP _ _ _ _ HAc.out).mono ?_
                rintro e w5 ⟨rfl, hA5, hk5⟩
                have HA5 := Aside0.mk (hA5.then_ (below_alloc (Below.refl _ _) (.cells #[.int .i64 a, .int .i64 b] 31)))
                have HD5 := Aside0.mk ((HDc.out.stay hk5 (by decide) (by decide) hA5.below).then_ (below_alloc (Below.refl _ _) (.cells #[.int .i64 a, .int .i64 b] 31)))
                have HX5 := Aside0.mk (blk_new w5 (.cells #[.int .i64 a, .int .i64 b] 31))
                obtain ⟨k0', k1', -, -⟩ := HAC.out _ HA5.out.below
                clear hOz hP hQ hA5 hk5 HAc HDc k0 k1 HX
                go_wp2_with fail
                generalize hb5 : w5.heap.size = b5 at HX5 ⊢
                generalize w5.alloc (.cells #[.int .i64 a, .int .i64 b] 31) = w6 at HA5 HD5 HX5 k0' k1' ⊢
                refine (HQ.out _ _ _ _ HD5.out).mono ?_
                rintro e w7 ⟨rfl, hD7, hk7⟩
                have HD7 := Aside0.mk (hD7.then_ (below_alloc (Below.refl _ _) (.cells #[.int .i64 a, .int .i64 b] 31)))
                have HA7 := Aside0.mk ((HA5.out.stay hk7 (by decide) (by decide) (by decide) hD7.below).then_ (below_alloc (Below.refl _ _) (.cells #[.int .i64 a, .int .i64 b] 31)))
                have HX7 := Aside0.mk (blk_alloc (hk7.blk HX5.out (by decide)) (.cells #[.int .i64 a, .int .i64 b] 31))
                have hx0 := (blk_cell HX7.out 0).trans rfl
                have hx1 := (blk_cell HX7.out 1).trans rfl
                have hne7 := blk_lt (hk7.blk HX5.out (by decide))
                have hdd : (d != d) = false := by cases d <;> rfl
                clear hD7 hk7 HA5 HD5 HX5 k0' k1'
                go_wp2_with fail
                have HAz := HA7
                have HDz := HD7
                clear HX7 hx0 hx1 hne7 hdd HA7 HD7
                generalize w7.alloc (.cells #[.int .i64 a, .int .i64 b] 31) = wz at HAz HDz ⊢
                have hqc := HOz.out.cnt
                have HQC := Aside0.mk hqc
                have hq1 : Lz.countP Pt.lies ≤ 1000 := by have := HOz.out.most; have := HM.out; omega
                clear hqc
                go_wp2_with fail
                refine (live_ar HAz.out HOz.out.most (by have := HM.out; omega) (by have := HQC.out; omega)).mono ?_
                rintro e wq ⟨rfl, nd1, hwq⟩
                have e0 : (ssz.length : Int) - (fsz.length : Int) = ((Lz.countP Pt.lies : Nat) : Int) := by have := HQC.out; omega
                rw [e0]
                clear e0
                have HAy : Aside0 (Arena 57 60 w wq w.heap.size g m ssz fsz) := ⟨by rw [hwq]; exact HAz.out.then_ (pw_below_drewN (Below.refl _ _) nd1)⟩
                have HDy : Aside0 (Doc w wq w.heap.size gd m Lz N) := ⟨by rw [hwq]; exact HDz.out.then_ (pw_below_drewN (Below.refl _ _) nd1)⟩
                clear HAz HDz hwq
                go_wp2_with fail
                refine (dlive_calls HDy.out (by have := HOz.out.len; omega)).mono ?_
                rintro e wq0 ⟨rfl, rfl⟩
                go_wp2_with fail
                refine (room_ar HAy.out HOz.out.most (by have := HM.out; omega) (by have := HQC.out; omega)).mono ?_
                rintro e wq2 ⟨rfl, nd2, hwq⟩
                have e1 : m - (ssz.length : Int) + (fsz.length : Int) = m - ((Lz.countP Pt.lies : Nat) : Int) := by have := HQC.out; omega
                rw [e1]
                clear e1
                have HAx : Aside0 (Arena 57 60 w wq2 w.heap.size g m ssz fsz) := ⟨by rw [hwq]; exact HAy.out.then_ (pw_below_drewN (Below.refl _ _) nd2)⟩
                have HDx : Aside0 (Doc w wq2 w.heap.size gd m Lz N) := ⟨by rw [hwq]; exact HDy.out.then_ (pw_below_drewN (Below.refl _ _) nd2)⟩
                clear HAy HDy hwq
                go_wp2_with fail
                refine (dlive_calls HDx.out (by have := HOz.out.len; omega)).mono ?_
                rintro e wq3 ⟨rfl, rfl⟩
                have hm1 := HM.out
                go_wp2
                go_roundw
                case rel => exact ⟨k + 1, ssz, fsz, Lz, N, by omega, by go_num, HOz, HAx, HDx⟩
                case measure => simp [intOf]; omega
              · by_cases hk1 : pk = 1
                · subst hk1
                  have hk1 : ((1 : Int) == 0) = false := rfl
                  have hk2 := hk1
                  have hx0 := (blk_cell HX.out 0).trans rfl
                  have hx1 := (blk_cell HX.out 1).trans rfl
                  go_wp2_with fail
                  clear hx0 hx1
                  obtain ⟨d, ssz, fsz, Lz, Nz, hOz, hP, hQ⟩ := free_plays qa qb HO.out (by have := HM.out; omega) (by omega)
                  have HOz := Aside0.mk hOz
                  have HP := Aside0.mk hP
                  have HQ := Aside0.mk hQ
                  clear hOz hP hQ k0 k1 hk1 hk2 hk hlt
                  refine start_ (n := 7) (S := fun w' => w'.cell? ⟨hb, 0, none⟩ = some (.int .i64 qa) ∧ w'.cell? ⟨hb, 1, none⟩ = some (.int .i64 qb)) (ds := []) #[false, false, false, false, false, false, false] (by kernel_rfl) rfl rfl ⟨(blk_cell (blk_drew HX.out) 0).trans rfl, (blk_cell (blk_drew HX.out) 1).trans rfl⟩ (fun hHeld => ?_)
                  refine pure_ (i := 0) (N := some 142) (v := ?_) (a' := ?_) #[true, false, false, false, false, false, false] rfl rfl (by kernel_rfl) (fun _ _ _ h => h) (Or.inl ⟨by rfl, ?_⟩) ?_ ?_
                  rotate_left
                  · intro w'
                    go_simp
                    with_reducible rfl
                  rotate_left
                  · simp only [Act.put, List.setIfInBounds_toArray, List.set_cons_zero, List.set_cons_succ, i64_w, i32_w]
                    rfl
                  refine take_ (i := 1) (N := some 143) (v := ?_) (a' := ?_) #[true, true, false, false, false, false, false] rfl rfl (by kernel_rfl) (fun _ _ _ h => h) (Or.inl ⟨by rfl, ?_⟩) hHeld ?_ ?_
                  rotate_left
                  · intro w' hS
                    have s0 := hS.1; have s1 := hS.2; clear hS
                    go_simp
                    with_reducible rfl
                  rotate_left
                  · simp only [Act.put, List.setIfInBounds_toArray, List.set_cons_zero, List.set_cons_succ, i64_w, i32_w]
                    rfl
                  refine pure_ (i := 3) (N := some 145) (v := ?_) (a' := ?_) #[true, true, false, true, false, false, false] rfl rfl (by kernel_rfl) (fun _ _ _ h => h) (Or.inl ⟨by rfl, ?_⟩) ?_ ?_
                  rotate_left
                  · intro w'
                    go_simp
                    with_reducible rfl
                  rotate_left
                  · simp only [Act.put, List.setIfInBounds_toArray, List.set_cons_zero, List.set_cons_succ, i64_w, i32_w]
                    rfl
                  refine take_ (i := 4) (N := some 146) (v := ?_) (a' := ?_) #[true, true, false, true, true, false, false] rfl rfl (by kernel_rfl) (fun _ _ _ h => h) (Or.inl ⟨by rfl, ?_⟩) hHeld ?_ ?_
                  rotate_left
                  · intro w' hS
                    have s0 := hS.1; have s1 := hS.2; clear hS
                    go_simp
                    with_reducible rfl
                  rotate_left
                  · simp only [Act.put, List.setIfInBounds_toArray, List.set_cons_zero, List.set_cons_succ, i64_w, i32_w]
                    rfl
                  refine one_ (i := 2) (N := some 144) #[true, true, true, true, true, false, false] rfl rfl (by kernel_rfl) (by decide) (fun K hK => ?_)
                  refine goes_ Try.func12 (by kernel_rfl) rfl #[.pointer (some ⟨g, 0, none⟩), .agg #[.int .i64 qa, .int .i64 qb]] (by rfl) rfl rfl (by (try simp only [List.map_toArray, List.map_cons, List.map_nil]); first | done | rfl) ?_
                  refine (HP.out _ _ _ _ (HAc.out.then_ (below_drew1 (Below.refl _ _)))).mono ?_
                  rintro e w5 ⟨rfl, hA5, hk5⟩
                  refine ⟨_, rfl, ?_⟩
                  have HA5 := Aside0.mk hA5
                  have HD5 := Aside0.mk ((HDc.out.then_ (below_drew1 (Below.refl _ _))).stay hk5 (by decide) (by decide) hA5.below)
                  have HX5 := Aside0.mk (hk5.blk (blk_drew HX.out) (by decide))
                  clear hA5 hk5 HAc HDc
                  refine hK.out _ _ ⟨(blk_cell HX5.out 0).trans rfl, (blk_cell HX5.out 1).trans rfl⟩ (fun hHeld2 => ?_)
                  clear hK K
                  refine norm_ (a' := ?_) ?_ ?_
                  rotate_left
                  · show Act.put _ (some 144) _ = _
                    simp only [Act.put, List.setIfInBounds_toArray, List.set_cons_zero, List.set_cons_succ, i64_w, i32_w]
                    rfl
                  refine one_ (i := 5) (N := some 147) #[true, true, true, true, true, true, false] rfl rfl (by kernel_rfl) (by decide) (fun K hK => ?_)
                  refine goes_ Try.func13 (by kernel_rfl) rfl #[.pointer (some ⟨gd, 0, none⟩), .agg #[.int .i64 qa, .int .i64 qb]] (by rfl) rfl rfl (by (try simp only [List.map_toArray, List.map_cons, List.map_nil]); first | done | rfl) ?_
                  refine (HQ.out _ _ _ _ HD5.out).mono ?_
                  rintro e wz ⟨rfl, hD7, hk7⟩
                  refine ⟨_, rfl, ?_⟩
                  have HDz := Aside0.mk hD7
                  have HAz := Aside0.mk (HA5.out.stay hk7 (by decide) (by decide) (by decide) hD7.below)
                  have HX7 := Aside0.mk (hk7.blk HX5.out (by decide))
                  clear hD7 hk7 HA5 HD5 HX5
                  refine hK.out _ _ ⟨(blk_cell HX7.out 0).trans rfl, (blk_cell HX7.out 1).trans rfl⟩ (fun hHeld3 => ?_)
                  clear hK K
                  refine norm_ (a' := ?_) ?_ ?_
                  rotate_left
                  · show Act.put _ (some 147) _ = _
                    simp only [Act.put, List.setIfInBounds_toArray, List.set_cons_zero, List.set_cons_succ, i64_w, i32_w]
                    rfl
                  refine pure_ (i := 6) (N := some 148) (v := ?_) (a' := ?_) #[true, true, true, true, true, true, true] rfl rfl (by kernel_rfl) (fun _ _ _ h => h) (Or.inl ⟨by rfl, ?_⟩) ?_ ?_
                  rotate_left
                  · intro w'
                    go_simp
                    with_reducible rfl
                  rotate_left
                  · simp only [Act.put, List.setIfInBounds_toArray, List.set_cons_zero, List.set_cons_succ, i64_w, i32_w]
                    rfl
                  refine done_ (by kernel_rfl) ?_
                  have hdd : (d != d) = false := by cases d <;> rfl
                  have hk := HKL.out.1
                  have hlt := HKL.out.2
                  clear HX7
                  go_wp2_with fail
                  clear hdd
                  have hqc := HOz.out.cnt
                  have HQC := Aside0.mk hqc
                  have hq1 : Lz.countP Pt.lies ≤ 1000 := by have := HOz.out.most; have := HM.out; omega
                  clear hqc
                  go_wp2_with fail
                  refine (live_ar HAz.out HOz.out.most (by have := HM.out; omega) (by have := HQC.out; omega)).mono ?_
                  rintro e wq ⟨rfl, nd1, hwq⟩
                  have e0 : (ssz.length : Int) - (fsz.length : Int) = ((Lz.countP Pt.lies : Nat) : Int) := by have := HQC.out; omega
                  rw [e0]
                  clear e0
                  have HAy : Aside0 (Arena 57 60 w wq w.heap.size g m ssz fsz) := ⟨by rw [hwq]; exact HAz.out.then_ (pw_below_drewN (Below.refl _ _) nd1)⟩
                  have HDy : Aside0 (Doc w wq w.heap.size gd m Lz Nz) := ⟨by rw [hwq]; exact HDz.out.then_ (pw_below_drewN (Below.refl _ _) nd1)⟩
                  clear HAz HDz hwq
                  go_wp2_with fail
                  refine (dlive_calls HDy.out (by have := HOz.out.len; omega)).mono ?_
                  rintro e wq0 ⟨rfl, rfl⟩
                  go_wp2_with fail
                  refine (room_ar HAy.out HOz.out.most (by have := HM.out; omega) (by have := HQC.out; omega)).mono ?_
                  rintro e wq2 ⟨rfl, nd2, hwq⟩
                  have e1 : m - (ssz.length : Int) + (fsz.length : Int) = m - ((Lz.countP Pt.lies : Nat) : Int) := by have := HQC.out; omega
                  rw [e1]
                  clear e1
                  have HAx : Aside0 (Arena 57 60 w wq2 w.heap.size g m ssz fsz) := ⟨by rw [hwq]; exact HAy.out.then_ (pw_below_drewN (Below.refl _ _) nd2)⟩
                  have HDx : Aside0 (Doc w wq2 w.heap.size gd m Lz Nz) := ⟨by rw [hwq]; exact HDy.out.then_ (pw_below_drewN (Below.refl _ _) nd2)⟩
                  clear HAy HDy hwq
                  go_wp2_with fail
                  refine (dlive_calls HDx.out (by have := HOz.out.len; omega)).mono ?_
                  rintro e wq3 ⟨rfl, rfl⟩
                  have hm1 := HM.out
                  go_wp2
                  go_roundw
                  case rel => exact ⟨k + 1, ssz, fsz, Lz, Nz, by omega, by go_num, HOz, HAx, HDx⟩
                  case measure => simp [intOf]; omega
                · have hk2 : (pk == 0) = false := by simpa using hk0
                  have hk3 : (pk == 1) = false := by simpa using hk1
                  clear hk0 hk1
                  have hx0 := (blk_cell HX.out 0).trans rfl
                  have hx1 := (blk_cell HX.out 1).trans rfl
                  go_wp2_with fail
                  clear hx0 hx1
                  obtain ⟨x, d, hP, hQ⟩ := get_plays qa qb HO.out (by have := HM.out; omega) (by omega)
                  have HQ := Aside0.mk hQ
                  refine (hP _ _ _ _ HAc.out).mono ?_
                  rintro e w5 ⟨rfl, hb5⟩
                  have HA5 := Aside0.mk (HAc.out.then_ hb5)
                  have HD5 := Aside0.mk (HDc.out.then_ hb5)
                  have HX5 := Aside0.mk (blk_below' HX.out hb5)
                  clear hP hQ hb5 HAc HDc HX
                  have hx0 := (blk_cell HX5.out 0).trans rfl
                  have hx1 := (blk_cell HX5.out 1).trans rfl
                  go_wp2_with fail
                  refine (HQ.out _ _ _ _ HD5.out).mono ?_
                  rintro e wz ⟨rfl, hb7⟩
                  have HAz := Aside0.mk (HA5.out.then_ hb7)
                  have HDz := Aside0.mk (HD5.out.then_ hb7)
                  have HOz := Aside0.mk (HO.out.more)
                  have hdd : (d != d) = false := by cases d <;> rfl
                  clear hx0 hx1 HX5 HA5 HD5 hb7 k0 k1
                  go_wp2_with fail
                  clear hdd
                  have hqc := HOz.out.cnt
                  have HQC := Aside0.mk hqc
                  have hq1 : L.countP Pt.lies ≤ 1000 := by have := HOz.out.most; have := HM.out; omega
                  clear hqc
                  go_wp2_with fail
                  refine (live_ar HAz.out HOz.out.most (by have := HM.out; omega) (by have := HQC.out; omega)).mono ?_
                  rintro e wq ⟨rfl, nd1, hwq⟩
                  have e0 : (ss.length : Int) - (fs.length : Int) = ((L.countP Pt.lies : Nat) : Int) := by have := HQC.out; omega
                  rw [e0]
                  clear e0
                  have HAy : Aside0 (Arena 57 60 w wq w.heap.size g m ss fs) := ⟨by rw [hwq]; exact HAz.out.then_ (pw_below_drewN (Below.refl _ _) nd1)⟩
                  have HDy : Aside0 (Doc w wq w.heap.size gd m L N) := ⟨by rw [hwq]; exact HDz.out.then_ (pw_below_drewN (Below.refl _ _) nd1)⟩
                  clear HAz HDz hwq
                  go_wp2_with fail
                  refine (dlive_calls HDy.out (by have := HOz.out.len; omega)).mono ?_
                  rintro e wq0 ⟨rfl, rfl⟩
                  go_wp2_with fail
                  refine (room_ar HAy.out HOz.out.most (by have := HM.out; omega) (by have := HQC.out; omega)).mono ?_
                  rintro e wq2 ⟨rfl, nd2, hwq⟩
                  have e1 : m - (ss.length : Int) + (fs.length : Int) = m - ((L.countP Pt.lies : Nat) : Int) := by have := HQC.out; omega
                  rw [e1]
                  clear e1
                  have HAx : Aside0 (Arena 57 60 w wq2 w.heap.size g m ss fs) := ⟨by rw [hwq]; exact HAy.out.then_ (pw_below_drewN (Below.refl _ _) nd2)⟩
                  have HDx : Aside0 (Doc w wq2 w.heap.size gd m L N) := ⟨by rw [hwq]; exact HDy.out.then_ (pw_below_drewN (Below.refl _ _) nd2)⟩
                  clear HAy HDy hwq
                  go_wp2_with fail
                  refine (dlive_calls HDx.out (by have := HOz.out.len; omega)).mono ?_
                  rintro e wq3 ⟨rfl, rfl⟩
                  have hm1 := HM.out
                  go_wp2
                  go_roundw
                  case rel => exact ⟨k + 1, ss, fs, L, N, by omega, by go_num, HOz, HAx, HDx⟩
                  case measure => simp [intOf]; omega
            · have hpn1 : decide (0 ≤ pn) = false := decide_eq_false hpn0
              by_cases hk0 : pk = 0
              · subst hk0
                go_wp2_with fail
                generalize hbx : wr.heap.size = hb at HX ⊢
                generalize wr.alloc (.cells #[.int .i64 pa, .int .i64 pb] 31) = wc at HAc HDc HX ⊢
                clear hbx hl1 hgd HD1 k0' k1' k2 k3
                obtain ⟨a, b, d, ssz, fsz, Lz, hOz, hP, hQ⟩ := put_plays pn HO.out (by have := HM.out; omega) (by omega)
                have HOz := Aside0.mk hOz
                have HQ := Aside0.mk hQ
                refine (hP _ _ _ _ HAc.out).mono ?_
                rintro e w5 ⟨rfl, hA5, hk5⟩
                have HA5 := Aside0.mk (hA5.then_ (below_alloc (Below.refl _ _) (.cells #[.int .i64 a, .int .i64 b] 31)))
                have HD5 := Aside0.mk ((HDc.out.stay hk5 (by decide) (by decide) hA5.below).then_ (below_alloc (Below.refl _ _) (.cells #[.int .i64 a, .int .i64 b] 31)))
                have HX5 := Aside0.mk (blk_new w5 (.cells #[.int .i64 a, .int .i64 b] 31))
                obtain ⟨k0', k1', -, -⟩ := HAC.out _ HA5.out.below
                clear hOz hP hQ hA5 hk5 HAc HDc k0 k1 HX
                go_wp2_with fail
                generalize hb5 : w5.heap.size = b5 at HX5 ⊢
                generalize w5.alloc (.cells #[.int .i64 a, .int .i64 b] 31) = w6 at HA5 HD5 HX5 k0' k1' ⊢
                refine (HQ.out _ _ _ _ HD5.out).mono ?_
                rintro e w7 ⟨rfl, hD7, hk7⟩
                have HD7 := Aside0.mk (hD7.then_ (below_alloc (Below.refl _ _) (.cells #[.int .i64 a, .int .i64 b] 31)))
                have HA7 := Aside0.mk ((HA5.out.stay hk7 (by decide) (by decide) (by decide) hD7.below).then_ (below_alloc (Below.refl _ _) (.cells #[.int .i64 a, .int .i64 b] 31)))
                have HX7 := Aside0.mk (blk_alloc (hk7.blk HX5.out (by decide)) (.cells #[.int .i64 a, .int .i64 b] 31))
                have hx0 := (blk_cell HX7.out 0).trans rfl
                have hx1 := (blk_cell HX7.out 1).trans rfl
                have hne7 := blk_lt (hk7.blk HX5.out (by decide))
                have hdd : (d != d) = false := by cases d <;> rfl
                clear hD7 hk7 HA5 HD5 HX5 k0' k1'
                go_wp2_with fail
                have HAz := HA7
                have HDz := HD7
                clear HX7 hx0 hx1 hne7 hdd HA7 HD7
                generalize w7.alloc (.cells #[.int .i64 a, .int .i64 b] 31) = wz at HAz HDz ⊢
                have hqc := HOz.out.cnt
                have HQC := Aside0.mk hqc
                have hq1 : Lz.countP Pt.lies ≤ 1000 := by have := HOz.out.most; have := HM.out; omega
                clear hqc
                go_wp2_with fail
                refine (live_ar HAz.out HOz.out.most (by have := HM.out; omega) (by have := HQC.out; omega)).mono ?_
                rintro e wq ⟨rfl, nd1, hwq⟩
                have e0 : (ssz.length : Int) - (fsz.length : Int) = ((Lz.countP Pt.lies : Nat) : Int) := by have := HQC.out; omega
                rw [e0]
                clear e0
                have HAy : Aside0 (Arena 57 60 w wq w.heap.size g m ssz fsz) := ⟨by rw [hwq]; exact HAz.out.then_ (pw_below_drewN (Below.refl _ _) nd1)⟩
                have HDy : Aside0 (Doc w wq w.heap.size gd m Lz N) := ⟨by rw [hwq]; exact HDz.out.then_ (pw_below_drewN (Below.refl _ _) nd1)⟩
                clear HAz HDz hwq
                go_wp2_with fail
                refine (dlive_calls HDy.out (by have := HOz.out.len; omega)).mono ?_
                rintro e wq0 ⟨rfl, rfl⟩
                go_wp2_with fail
                refine (room_ar HAy.out HOz.out.most (by have := HM.out; omega) (by have := HQC.out; omega)).mono ?_
                rintro e wq2 ⟨rfl, nd2, hwq⟩
                have e1 : m - (ssz.length : Int) + (fsz.length : Int) = m - ((Lz.countP Pt.lies : Nat) : Int) := by have := HQC.out; omega
                rw [e1]
                clear e1
                have HAx : Aside0 (Arena 57 60 w wq2 w.heap.size g m ssz fsz) := ⟨by rw [hwq]; exact HAy.out.then_ (pw_below_drewN (Below.refl _ _) nd2)⟩
                have HDx : Aside0 (Doc w wq2 w.heap.size gd m Lz N) := ⟨by rw [hwq]; exact HDy.out.then_ (pw_below_drewN (Below.refl _ _) nd2)⟩
                clear HAy HDy hwq
                go_wp2_with fail
                refine (dlive_calls HDx.out (by have := HOz.out.len; omega)).mono ?_
                rintro e wq3 ⟨rfl, rfl⟩
                have hm1 := HM.out
                go_wp2
                go_roundw
                case rel => exact ⟨k + 1, ssz, fsz, Lz, N, by omega, by go_num, HOz, HAx, HDx⟩
                case measure => simp [intOf]; omega
              · by_cases hk1 : pk = 1
                · subst hk1
                  have hk1 : ((1 : Int) == 0) = false := rfl
                  have hk2 := hk1
                  go_wp2_with fail
                  generalize hbx : wr.heap.size = hb at HX ⊢
                  generalize wr.alloc (.cells #[.int .i64 pa, .int .i64 pb] 31) = wc at HAc HDc HX ⊢
                  clear hbx hl1 hgd HD1 k0' k1' k2 k3
                  obtain ⟨d, ssz, fsz, Lz, Nz, hOz, hP, hQ⟩ := free_plays pa pb HO.out (by have := HM.out; omega) (by omega)
                  have HOz := Aside0.mk hOz
                  have HP := Aside0.mk hP
                  have HQ := Aside0.mk hQ
                  clear hOz hP hQ k0 k1 hk1 hk2 hk hlt
                  refine start_ (n := 7) (S := fun w' => w'.cell? ⟨hb, 0, none⟩ = some (.int .i64 pa) ∧ w'.cell? ⟨hb, 1, none⟩ = some (.int .i64 pb)) (ds := []) #[false, false, false, false, false, false, false] (by kernel_rfl) rfl rfl ⟨(blk_cell (blk_drew HX.out) 0).trans rfl, (blk_cell (blk_drew HX.out) 1).trans rfl⟩ (fun hHeld => ?_)
                  refine pure_ (i := 0) (N := some 142) (v := ?_) (a' := ?_) #[true, false, false, false, false, false, false] rfl rfl (by kernel_rfl) (fun _ _ _ h => h) (Or.inl ⟨by rfl, ?_⟩) ?_ ?_
                  rotate_left
                  · intro w'
                    go_simp
                    with_reducible rfl
                  rotate_left
                  · simp only [Act.put, List.setIfInBounds_toArray, List.set_cons_zero, List.set_cons_succ, i64_w, i32_w]
                    rfl
                  refine take_ (i := 1) (N := some 143) (v := ?_) (a' := ?_) #[true, true, false, false, false, false, false] rfl rfl (by kernel_rfl) (fun _ _ _ h => h) (Or.inl ⟨by rfl, ?_⟩) hHeld ?_ ?_
                  rotate_left
                  · intro w' hS
                    have s0 := hS.1; have s1 := hS.2; clear hS
                    go_simp
                    with_reducible rfl
                  rotate_left
                  · simp only [Act.put, List.setIfInBounds_toArray, List.set_cons_zero, List.set_cons_succ, i64_w, i32_w]
                    rfl
                  refine pure_ (i := 3) (N := some 145) (v := ?_) (a' := ?_) #[true, true, false, true, false, false, false] rfl rfl (by kernel_rfl) (fun _ _ _ h => h) (Or.inl ⟨by rfl, ?_⟩) ?_ ?_
                  rotate_left
                  · intro w'
                    go_simp
                    with_reducible rfl
                  rotate_left
                  · simp only [Act.put, List.setIfInBounds_toArray, List.set_cons_zero, List.set_cons_succ, i64_w, i32_w]
                    rfl
                  refine take_ (i := 4) (N := some 146) (v := ?_) (a' := ?_) #[true, true, false, true, true, false, false] rfl rfl (by kernel_rfl) (fun _ _ _ h => h) (Or.inl ⟨by rfl, ?_⟩) hHeld ?_ ?_
                  rotate_left
                  · intro w' hS
                    have s0 := hS.1; have s1 := hS.2; clear hS
                    go_simp
                    with_reducible rfl
                  rotate_left
                  · simp only [Act.put, List.setIfInBounds_toArray, List.set_cons_zero, List.set_cons_succ, i64_w, i32_w]
                    rfl
                  refine one_ (i := 2) (N := some 144) #[true, true, true, true, true, false, false] rfl rfl (by kernel_rfl) (by decide) (fun K hK => ?_)
                  refine goes_ Try.func12 (by kernel_rfl) rfl #[.pointer (some ⟨g, 0, none⟩), .agg #[.int .i64 pa, .int .i64 pb]] (by rfl) rfl rfl (by (try simp only [List.map_toArray, List.map_cons, List.map_nil]); first | done | rfl) ?_
                  refine (HP.out _ _ _ _ (HAc.out.then_ (below_drew1 (Below.refl _ _)))).mono ?_
                  rintro e w5 ⟨rfl, hA5, hk5⟩
                  refine ⟨_, rfl, ?_⟩
                  have HA5 := Aside0.mk hA5
                  have HD5 := Aside0.mk ((HDc.out.then_ (below_drew1 (Below.refl _ _))).stay hk5 (by decide) (by decide) hA5.below)
                  have HX5 := Aside0.mk (hk5.blk (blk_drew HX.out) (by decide))
                  clear hA5 hk5 HAc HDc
                  refine hK.out _ _ ⟨(blk_cell HX5.out 0).trans rfl, (blk_cell HX5.out 1).trans rfl⟩ (fun hHeld2 => ?_)
                  clear hK K
                  refine norm_ (a' := ?_) ?_ ?_
                  rotate_left
                  · show Act.put _ (some 144) _ = _
                    simp only [Act.put, List.setIfInBounds_toArray, List.set_cons_zero, List.set_cons_succ, i64_w, i32_w]
                    rfl
                  refine one_ (i := 5) (N := some 147) #[true, true, true, true, true, true, false] rfl rfl (by kernel_rfl) (by decide) (fun K hK => ?_)
                  refine goes_ Try.func13 (by kernel_rfl) rfl #[.pointer (some ⟨gd, 0, none⟩), .agg #[.int .i64 pa, .int .i64 pb]] (by rfl) rfl rfl (by (try simp only [List.map_toArray, List.map_cons, List.map_nil]); first | done | rfl) ?_
                  refine (HQ.out _ _ _ _ HD5.out).mono ?_
                  rintro e wz ⟨rfl, hD7, hk7⟩
                  refine ⟨_, rfl, ?_⟩
                  have HDz := Aside0.mk hD7
                  have HAz := Aside0.mk (HA5.out.stay hk7 (by decide) (by decide) (by decide) hD7.below)
                  have HX7 := Aside0.mk (hk7.blk HX5.out (by decide))
                  clear hD7 hk7 HA5 HD5 HX5
                  refine hK.out _ _ ⟨(blk_cell HX7.out 0).trans rfl, (blk_cell HX7.out 1).trans rfl⟩ (fun hHeld3 => ?_)
                  clear hK K
                  refine norm_ (a' := ?_) ?_ ?_
                  rotate_left
                  · show Act.put _ (some 147) _ = _
                    simp only [Act.put, List.setIfInBounds_toArray, List.set_cons_zero, List.set_cons_succ, i64_w, i32_w]
                    rfl
                  refine pure_ (i := 6) (N := some 148) (v := ?_) (a' := ?_) #[true, true, true, true, true, true, true] rfl rfl (by kernel_rfl) (fun _ _ _ h => h) (Or.inl ⟨by rfl, ?_⟩) ?_ ?_
                  rotate_left
                  · intro w'
                    go_simp
                    with_reducible rfl
                  rotate_left
                  · simp only [Act.put, List.setIfInBounds_toArray, List.set_cons_zero, List.set_cons_succ, i64_w, i32_w]
                    rfl
                  refine done_ (by kernel_rfl) ?_
                  have hdd : (d != d) = false := by cases d <;> rfl
                  have hk := HKL.out.1
                  have hlt := HKL.out.2
                  clear HX7
                  go_wp2_with fail
                  clear hdd
                  have hqc := HOz.out.cnt
                  have HQC := Aside0.mk hqc
                  have hq1 : Lz.countP Pt.lies ≤ 1000 := by have := HOz.out.most; have := HM.out; omega
                  clear hqc
                  go_wp2_with fail
                  refine (live_ar HAz.out HOz.out.most (by have := HM.out; omega) (by have := HQC.out; omega)).mono ?_
                  rintro e wq ⟨rfl, nd1, hwq⟩
                  have e0 : (ssz.length : Int) - (fsz.length : Int) = ((Lz.countP Pt.lies : Nat) : Int) := by have := HQC.out; omega
                  rw [e0]
                  clear e0
                  have HAy : Aside0 (Arena 57 60 w wq w.heap.size g m ssz fsz) := ⟨by rw [hwq]; exact HAz.out.then_ (pw_below_drewN (Below.refl _ _) nd1)⟩
                  have HDy : Aside0 (Doc w wq w.heap.size gd m Lz Nz) := ⟨by rw [hwq]; exact HDz.out.then_ (pw_below_drewN (Below.refl _ _) nd1)⟩
                  clear HAz HDz hwq
                  go_wp2_with fail
                  refine (dlive_calls HDy.out (by have := HOz.out.len; omega)).mono ?_
                  rintro e wq0 ⟨rfl, rfl⟩
                  go_wp2_with fail
                  refine (room_ar HAy.out HOz.out.most (by have := HM.out; omega) (by have := HQC.out; omega)).mono ?_
                  rintro e wq2 ⟨rfl, nd2, hwq⟩
                  have e1 : m - (ssz.length : Int) + (fsz.length : Int) = m - ((Lz.countP Pt.lies : Nat) : Int) := by have := HQC.out; omega
                  rw [e1]
                  clear e1
                  have HAx : Aside0 (Arena 57 60 w wq2 w.heap.size g m ssz fsz) := ⟨by rw [hwq]; exact HAy.out.then_ (pw_below_drewN (Below.refl _ _) nd2)⟩
                  have HDx : Aside0 (Doc w wq2 w.heap.size gd m Lz Nz) := ⟨by rw [hwq]; exact HDy.out.then_ (pw_below_drewN (Below.refl _ _) nd2)⟩
                  clear HAy HDy hwq
                  go_wp2_with fail
                  refine (dlive_calls HDx.out (by have := HOz.out.len; omega)).mono ?_
                  rintro e wq3 ⟨rfl, rfl⟩
                  have hm1 := HM.out
                  go_wp2
                  go_roundw
                  case rel => exact ⟨k + 1, ssz, fsz, Lz, Nz, by omega, by go_num, HOz, HAx, HDx⟩
                  case measure => simp [intOf]; omega
                · have hk2 : (pk == 0) = false := by simpa using hk0
                  have hk3 : (pk == 1) = false := by simpa using hk1
                  clear hk0 hk1
                  go_wp2_with fail
                  generalize hbx : wr.heap.size = hb at HX ⊢
                  generalize wr.alloc (.cells #[.int .i64 pa, .int .i64 pb] 31) = wc at HAc HDc HX ⊢
                  clear hbx hl1 hgd HD1 k0' k1' k2 k3
                  obtain ⟨x, d, hP, hQ⟩ := get_plays pa pb HO.out (by have := HM.out; omega) (by omega)
                  have HQ := Aside0.mk hQ
                  refine (hP _ _ _ _ HAc.out).mono ?_
                  rintro e w5 ⟨rfl, hb5⟩
                  have HA5 := Aside0.mk (HAc.out.then_ hb5)
                  have HD5 := Aside0.mk (HDc.out.then_ hb5)
                  have HX5 := Aside0.mk (blk_below' HX.out hb5)
                  clear hP hQ hb5 HAc HDc HX
                  have hx0 := (blk_cell HX5.out 0).trans rfl
                  have hx1 := (blk_cell HX5.out 1).trans rfl
                  go_wp2_with fail
                  refine (HQ.out _ _ _ _ HD5.out).mono ?_
                  rintro e wz ⟨rfl, hb7⟩
                  have HAz := Aside0.mk (HA5.out.then_ hb7)
                  have HDz := Aside0.mk (HD5.out.then_ hb7)
                  have HOz := Aside0.mk (HO.out.more)
                  have hdd : (d != d) = false := by cases d <;> rfl
                  clear hx0 hx1 HX5 HA5 HD5 hb7 k0 k1
                  go_wp2_with fail
                  clear hdd
                  have hqc := HOz.out.cnt
                  have HQC := Aside0.mk hqc
                  have hq1 : L.countP Pt.lies ≤ 1000 := by have := HOz.out.most; have := HM.out; omega
                  clear hqc
                  go_wp2_with fail
                  refine (live_ar HAz.out HOz.out.most (by have := HM.out; omega) (by have := HQC.out; omega)).mono ?_
                  rintro e wq ⟨rfl, nd1, hwq⟩
                  have e0 : (ss.length : Int) - (fs.length : Int) = ((L.countP Pt.lies : Nat) : Int) := by have := HQC.out; omega
                  rw [e0]
                  clear e0
                  have HAy : Aside0 (Arena 57 60 w wq w.heap.size g m ss fs) := ⟨by rw [hwq]; exact HAz.out.then_ (pw_below_drewN (Below.refl _ _) nd1)⟩
                  have HDy : Aside0 (Doc w wq w.heap.size gd m L N) := ⟨by rw [hwq]; exact HDz.out.then_ (pw_below_drewN (Below.refl _ _) nd1)⟩
                  clear HAz HDz hwq
                  go_wp2_with fail
                  refine (dlive_calls HDy.out (by have := HOz.out.len; omega)).mono ?_
                  rintro e wq0 ⟨rfl, rfl⟩
                  go_wp2_with fail
                  refine (room_ar HAy.out HOz.out.most (by have := HM.out; omega) (by have := HQC.out; omega)).mono ?_
                  rintro e wq2 ⟨rfl, nd2, hwq⟩
                  have e1 : m - (ss.length : Int) + (fs.length : Int) = m - ((L.countP Pt.lies : Nat) : Int) := by have := HQC.out; omega
                  rw [e1]
                  clear e1
                  have HAx : Aside0 (Arena 57 60 w wq2 w.heap.size g m ss fs) := ⟨by rw [hwq]; exact HAy.out.then_ (pw_below_drewN (Below.refl _ _) nd2)⟩
                  have HDx : Aside0 (Doc w wq2 w.heap.size gd m L N) := ⟨by rw [hwq]; exact HDy.out.then_ (pw_below_drewN (Below.refl _ _) nd2)⟩
                  clear HAy HDy hwq
                  go_wp2_with fail
                  refine (dlive_calls HDx.out (by have := HOz.out.len; omega)).mono ?_
                  rintro e wq3 ⟨rfl, rfl⟩
                  have hm1 := HM.out
                  go_wp2
                  go_roundw
                  case rel => exact ⟨k + 1, ss, fs, L, N, by omega, by go_num, HOz, HAx, HDx⟩
                  case measure => simp [intOf]; omega
      · obtain rfl : k = l.length := by omega
        have HQC := Aside0.mk HO.out.cnt
        go_wp2_with fail
        refine (room_ar HA1.out HO.out.most (by have := HM.out; omega) (by have := HQC.out; omega)).mono ?_
        rintro e wq ⟨rfl, nd1, hwq⟩
        have HAy : Aside0 (Arena 57 60 w wq w.heap.size g m ss fs) := ⟨by rw [hwq]; exact HA1.out.then_ (pw_below_drewN (Below.refl _ _) nd1)⟩
        clear hwq
        have hmo := HO.out.most
        have hm1 := HM.out
        clear HA1 HD1
        go_wp2_with fail
        refine (live_ar HAy.out HO.out.most (by have := HM.out; omega) (by have := HQC.out; omega)).mono ?_
        rintro e wq2 ⟨rfl, nd2, rfl⟩
        have hcc := HQC.out
        have e1 : m - (ss.length : Int) + (fs.length : Int) = m - ((L.countP Pt.lies : Nat) : Int) := by omega
        have e2 : (ss.length : Int) - (fs.length : Int) = ((L.countP Pt.lies : Nat) : Int) := by omega
        rw [e1, e2]
        have hcl : L.countP Pt.lies ≤ 1000 := by omega
        clear e1 e2 hcc
        go_wp2
        go_ret
        exact ⟨rfl, pw_below_drewN HAy.out.below nd2⟩
end Go.Proofs.Ytcdfkjcnjdbmgaa.Plays
