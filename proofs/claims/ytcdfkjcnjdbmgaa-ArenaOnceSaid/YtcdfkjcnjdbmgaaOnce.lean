/- Layer 09: the walk of ArenaOnce: it answers true for all sizes and rows. -/
import Derived.Test.YtcdfkjcnjdbmgaaOnceModel
namespace Go.Proofs.Ytcdfkjcnjdbmgaa.Once
open Go.RowKit Go.Proofs.YtcdfkjcnjdbmgaaW.PrintWords Go.Proofs.YtcdfkjcnjdbmgaaW.PrintLast Go.Proofs.YtcdfkjcnjdbmgaaW.PrintMore Go.Proofs.Ytcdfkjcnjdbmgaa.Core Go.Proofs.Ytcdfkjcnjdbmgaa.Put Go.Proofs.Ytcdfkjcnjdbmgaa.Find Go.Proofs.Ytcdfkjcnjdbmgaa.Awake Go.Proofs.Ytcdfkjcnjdbmgaa.Hands Go.Proofs.Ytcdfkjcnjdbmgaa.OnceModel
open Go.Proofs.Ytcdfkjcnjdbmgaa.PArenaOnce (S31 k31 z31 rd_T31 at_T31 k31_mkM k31_mk)
set_option linter.unusedVariables false
set_option linter.unusedSimpArgs false
/-- Two rows lie apart. -/
def Apart (u v : Value) : Prop := ∀ b, u.ownBlock = some b → v.ownBlock ≠ some b
theorem HRow.lt {w : World} {base : Nat} {v : Value} {hs : List S31} (h : HRow w base v hs) {k : Nat} (hk : v.ownBlock = some k) : k < w.heap.size := Kd.R_lt h k hk
theorem HRow.other {w w1 : World} {base : Nat} {v u : Value} {hs : List S31} (h : HRow w base v hs) (hg : w.grownBy w1 u.ownBlock) (ha : Apart u v) : HRow w1 base v hs := by
  obtain ⟨inner, ho⟩ := Kd.R_own h
  have h' : Kd.R k31 31 w base (fun k => v.ownBlock = some k) v hs := ⟨fun _ hk => hk, h.2.imp_ (fun p c hp => by
    have e := Go.Proofs.Ytcdfkjcnjdbmgaa.PArenaOnce.k31_openM hp
    subst e
    exact k31_mkM _ _ _ _)⟩
  exact Kd.R_mono (Kd.R_step h' (fun k hk hlt => hg.block k hlt (fun e => ha k e.symm hk))) (fun _ _ => trivial)
theorem Apart.grow {w : World} {base : Nat} {u u' v : Value} {hs : List S31} (h : Apart u v) (hv : HRow w base v hs) (hat : u'.ownBlock = u.ownBlock ∨ ∃ b, u'.ownBlock = some b ∧ w.heap.size ≤ b) : Apart u' v := by
  intro b hb hb'
  rcases hat with hat | ⟨b', hb2, hle⟩
  · exact h b (hat ▸ hb) hb'
  · rw [hb2] at hb
    injection hb with hb
    have := HRow.lt hv hb'
    omega
theorem Apart.symm {u v : Value} (h : Apart u v) : Apart v u := fun b hb hb' => h b hb' hb
theorem keptOwn {w w1 w2 : World} {v : Value} (hk : KeptT w w1 []) (hv : ∃ b, v.ownBlock = some b ∧ w.heap.size ≤ b) (hg : w1.grownBy w2 v.ownBlock) : KeptT w w2 [] :=
  ⟨Nat.le_trans hk.1 hg.size, fun k cs t hb ht => (hg.block k (Nat.lt_of_lt_of_le (blk_lt hb) hk.1) (fun e => by
    obtain ⟨b, e', hle⟩ := hv
    rw [e'] at e
    injection e with e
    have := blk_lt hb
    omega)).trans (hk.2 k cs t hb ht)⟩
theorem new_at {v v' : Value} {n : Nat} {w1 : World} (hv : ∃ b, v.ownBlock = some b ∧ n ≤ b) (hn : n ≤ w1.heap.size) (hat : v'.ownBlock = v.ownBlock ∨ ∃ b, v'.ownBlock = some b ∧ w1.heap.size ≤ b) : ∃ b, v'.ownBlock = some b ∧ n ≤ b := by
  rcases hat with e | ⟨b, e, hb⟩
  · rw [e]; exact hv
  · exact ⟨b, e, by omega⟩
theorem put_once {w0 w : World} {base g : Nat} {m : Int} {ss : List Sl} {fs : List Int} {all gone : List S31} (k : Nat) (x : Int) (hI : Arena 57 60 w0 w base g m ss fs) (hO : Ok m ss fs all gone k) (hm : m ≤ 1000) (hk : k ≤ 1000) :
    Calls Try.prog 10 #[.pointer (some ⟨g, 0, none⟩), .int .i64 x] w fun e w' =>
      (e = .returned (.tuple #[.agg #[.int .i64 0, .int .i64 0], .bool false]) ∧ Arena 57 60 w0 w' base g m ss fs ∧ KeptT w w' [57, 60, 3]) ∨
      (∃ (ss' : List Sl) (fs' : List Int) (a b : Int), e = .returned (.tuple #[.agg #[.int .i64 a, .int .i64 b], .bool true]) ∧ (∀ z ∈ all, ¬ (z.f0 = a ∧ z.f1 = b)) ∧ (∀ z ∈ gone, ¬ (z.f0 = a ∧ z.f1 = b)) ∧ 1 ≤ a ∧ 1 ≤ b ∧
        Ok m ss' fs' (all ++ [⟨a, b⟩]) gone (k + 1) ∧ Arena 57 60 w0 w' base g m ss' fs' ∧ KeptT w w' [57, 60, 3]) := by
  have hc := hO.count
  have hmost := hO.most
  by_cases hr : m - (ss.length : Int) + (fs.length : Int) = 0
  · refine (put_no x hI (by rw [w64 (m - (ss.length : Int)) ⟨by omega, by omega⟩, w64 _ ⟨by omega, by omega⟩]; exact hr)).mono ?_
    rintro e w' ⟨rfl, hA, hk'⟩
    exact .inl ⟨rfl, hA, hk'⟩
  · rcases List.eq_nil_or_concat fs with rfl | ⟨fs', y, rfl⟩
    · have hlt : (ss.length : Int) < m := by simp at hr; omega
      refine (put_new x hI hlt (by omega)).mono ?_
      rintro e w' ⟨rfl, hA, hk'⟩
      obtain ⟨h1, h2, h3⟩ := hO.new hlt x
      exact .inr ⟨_, _, _, _, rfl, h1, h2, by omega, by omega, h3, hA, hk'⟩
    · rw [List.concat_eq_append] at *
      obtain ⟨i, s, hs, rfl, hu⟩ := hO.free y (by simp)
      have hi := lt_of hs
      have hg := hO.gens ss[i] (List.getElem_mem hi)
      rw [List.length_append, List.length_singleton] at hc
      refine (put_pop fs' i x hI hi hmost (by omega) (by omega) hg.1 (by omega)).mono ?_
      rintro e w' ⟨rfl, hA, hk'⟩
      obtain ⟨h1, h2, h3⟩ := hO.pop hi x
      exact .inr ⟨_, _, _, _, rfl, h1, h2, by omega, by omega, h3, hA, hk'⟩
theorem free_once {w0 w : World} {base g : Nat} {m : Int} {ss : List Sl} {fs : List Int} {all gone : List S31} (k q : Nat) (hI : Arena 57 60 w0 w base g m ss fs) (hO : Ok m ss fs all gone k) (hm : m ≤ 1000) (hq : q < all.length) :
    Calls Try.prog 12 #[.pointer (some ⟨g, 0, none⟩), .agg #[.int .i64 all[q].f0, .int .i64 all[q].f1]] w fun e w' => e = .returned (.bool true) ∧ ∃ (ss' : List Sl) (fs' : List Int), Ok m ss' fs' (all.take q ++ all.drop (q + 1)) (gone ++ [all[q]]) (k + 1) ∧ Arena 57 60 w0 w' base g m ss' fs' ∧ KeptT w w' [57, 60, 3] := by
  have hc := hO.count
  have hmost := hO.most
  obtain ⟨i, hi, e, hu, hO'⟩ := hO.freed hq
  have h := free_yes i hI (by omega) (by omega) hi hu
  have e0 : all[q].f0 = (i : Int) + 1 := by rw [e]
  have e1 : all[q].f1 = ss[i].gen := by rw [e]
  rw [e0, e1]
  refine h.mono ?_
  rintro e' w' ⟨rfl, hA, hk'⟩
  exact ⟨rfl, _, _, hO', hA, hk'⟩
set_option maxHeartbeats 6400000 in
set_option maxRecDepth 100000 in
theorem once_calls (size : Int) (A1 : Option Addr) (c1 : Nat) (fr : List Int) (w : World) (h0 : (Lit.int .u8 size).wf = true) (h1 : Kd.C (Kd.int .u8) w A1 fr.length fr) (hc1 : fr.length ≤ c1) (hw : ∀ x ∈ fr, (Lit.int .u8 x).wf = true) :
    Calls Try.prog 5 #[.int .u8 size, .slice A1 fr.length c1] w fun e w' => e = .returned (.bool true) ∧ Below w.heap.size w w' := by
  have HR1 := Aside0.mk h1
  have HWF := Aside0.mk hw
  obtain ⟨s0, s1⟩ := wf8 h0
  clear h0 h1 hw
  by_cases hf : 40 < fr.length
  · have hd2 : decide ((40 : Int) < (fr.length : Int)) = true := decide_eq_true (by omega)
    go_enter Try.func5, Try.ntmps5
    go_wp2_with (go_at_call 8; refine (awake_calls _).mono ?_; rintro e w1 ⟨rfl, hb1⟩; have HB1 := Aside0.mk hb1; clear hb1)
    go_ret
    exact ⟨rfl, HB1.out⟩
  · have hd2 : decide ((40 : Int) < (fr.length : Int)) = false := decide_eq_false (by omega)
    go_enter Try.func5, Try.ntmps5
    go_wp2_with (go_at_call 8; refine (awake_calls _).mono ?_; rintro e w1 ⟨rfl, hb1⟩; have HB1 := Aside0.mk hb1; clear hb1)
    have hm : 1 ≤ 1 + size % 8 ∧ 1 + size % 8 ≤ 8 := by omega
    generalize 1 + size % 8 = m at hm ⊢
    refine (Arena.new_yes w1 m (by omega) (by omega)).mono ?_
    rintro e w2 ⟨rfl, rfl⟩
    have HA : Aside0 (Arena 57 60 w _ w.heap.size w1.heap.size m [] []) := ⟨arena_new (tA := 57) (tS := 60) m HB1.out HB1.out.size⟩
    generalize w1.alloc (.cells #[.int .i64 m, .slice none 0 0, .slice none 0 0] 57) = w2 at HA ⊢
    generalize w1.heap.size = g at HA ⊢
    have HM := Aside0.mk hm
    clear s0 s1 HB1 hm
    go_wp2_with fail
    go_loopw [7, 8, 9] (fun va vg i wr => ∃ (k : Nat) (ss : List Sl) (fs : List Int) (all gone : List S31), k ≤ fr.length ∧ i = .int .i64 (k : Int) ∧ Aside0 (Ok m ss fs all gone k) ∧ Aside0 (all.length ≤ k ∧ gone.length ≤ k) ∧ Aside0 (Arena 57 60 w wr w.heap.size g m ss fs) ∧ Aside0 (HRow wr w.heap.size va all) ∧ Aside0 (HRow wr w.heap.size vg gone) ∧ Aside0 (Apart va vg)) (fun _ _ i _ => fr.length - (intOf i).toNat)
    case atStart => exact ⟨0, [], [], [], [], Nat.zero_le _, rfl, ⟨Ok.start m (by have := HM.out; omega)⟩, ⟨by simp, by simp⟩, HA, ⟨Kd.R_nil _ _ _ _ _⟩, ⟨Kd.R_nil _ _ _ _ _⟩, ⟨fun b hb => by simp [Value.ownBlock] at hb⟩⟩
    case round =>
      obtain ⟨k, ss, fs, all, gone, hk, rfl, HO, HL, HA1, HH1, HG1, HP1⟩ := hrel
      clear HA
      obtain ⟨Aa, ca, rfl⟩ := Kd.R_slice HH1.out
      obtain ⟨Ag, cg, rfl⟩ := Kd.R_slice HG1.out
      by_cases hlt : k < fr.length
      · obtain ⟨ad, ea, hx⟩ := Kd.at_int (Kd.C_below HR1.out HA1.out.below) (k : Int) (by omega) (by omega)
        subst ea
        rw [rd_nat fr k hlt, Int.toNat_natCast] at hx
        obtain ⟨hx0, hx1⟩ := wf8 (HWF.out _ (List.getElem_mem hlt))
        generalize fr[k] = x at hx hx0 hx1
        by_cases hput : 0 < x % 3
        · have hd3 : decide (0 < x % 3) = true := decide_eq_true hput
          go_wp2_with fail
          refine (put_once k (k : Int) HA1.out HO.out (by have := HM.out; omega) (by omega)).mono ?_
          rintro e w3 (⟨rfl, hA3, hk3⟩ | ⟨ss', fs', a, b, rfl, hna, hng, ha, hb, hO3, hA3, hk3⟩)
          · have HA3 := Aside0.mk (hA3.then_ (below_alloc (Below.refl _ _) (.cells #[.int .i64 0, .int .i64 0] 31)))
            have HH3 := Aside0.mk ((HH1.out.kept hk3 (by decide)).below (below_alloc (Below.refl _ _) (.cells #[.int .i64 0, .int .i64 0] 31)))
            have HG3 := Aside0.mk ((HG1.out.kept hk3 (by decide)).below (below_alloc (Below.refl _ _) (.cells #[.int .i64 0, .int .i64 0] 31)))
            clear hA3 hk3 HA1 HH1 HG1
            go_wp2
            go_roundw
            case rel => exact ⟨k + 1, ss, fs, all, gone, by omega, by go_num, ⟨HO.out.more⟩, ⟨by have := HL.out; omega⟩, HA3, HH3, HG3, HP1⟩
            case measure => simp [intOf]; omega
          · have HA3 := Aside0.mk (hA3.then_ (below_alloc (Below.refl _ _) (.cells #[.int .i64 a, .int .i64 b] 31)))
            have HH3 := Aside0.mk ((HH1.out.kept hk3 (by decide)).below (below_alloc (Below.refl _ _) (.cells #[.int .i64 a, .int .i64 b] 31)))
            have HG3 := Aside0.mk ((HG1.out.kept hk3 (by decide)).below (below_alloc (Below.refl _ _) (.cells #[.int .i64 a, .int .i64 b] 31)))
            have HX3 := Aside0.mk (blk_new w3 (.cells #[.int .i64 a, .int .i64 b] 31))
            have HO3 := Aside0.mk hO3
            have HN := Aside0.mk (And.intro hna hng)
            have hda : decide (a < 1) = false := decide_eq_false (by omega)
            have hdb : decide (b < 1) = false := decide_eq_false (by omega)
            have hx30 := (blk_cell HX3.out 0).trans rfl
            have hx31 := (blk_cell HX3.out 1).trans rfl
            clear hA3 hk3 HA1 HH1 HG1 hna hng hO3 ha hb
            go_wp2_with fail
            generalize hb3 : w3.heap.size = b3 at HX3 hx30 hx31 ⊢
            generalize w3.alloc (.cells #[.int .i64 a, .int .i64 b] 31) = w4 at HA3 HH3 HG3 HX3 hx30 hx31 ⊢
            clear hx30 hx31
            refine (PArenaOnce.holtref09_In.calls (all.length + 1) Aa ca all a b false _ (Kd.R_reads' HH3.out).2.2 (Kd.R_reads' HH3.out).2.1 (in_no all a b HN.out.1 (by have := HL.out; omega))).mono ?_
            rintro e w5 ⟨rfl, hb5⟩
            have HA5 := Aside0.mk (HA3.out.then_ hb5)
            have HH5 := Aside0.mk (HH3.out.below hb5)
            have HG5 := Aside0.mk (HG3.out.below hb5)
            have HX5 := Aside0.mk (blk_below' HX3.out hb5)
            have hx30 := (blk_cell HX5.out 0).trans rfl
            have hx31 := (blk_cell HX5.out 1).trans rfl
            clear HA3 HH3 HG3 HX3 hb5
            go_wp2_with fail
            clear hx30 hx31
            refine (PArenaOnce.holtref09_In.calls (gone.length + 1) Ag cg gone a b false _ (Kd.R_reads' HG5.out).2.2 (Kd.R_reads' HG5.out).2.1 (in_no gone a b HN.out.2 (by have := HL.out; omega))).mono ?_
            rintro e w6 ⟨rfl, hb6⟩
            have HA6 := Aside0.mk (HA5.out.then_ hb6)
            have HH6 := Aside0.mk (HH5.out.below hb6)
            have HG6 := Aside0.mk (HG5.out.below hb6)
            have HX6 := Aside0.mk (blk_below' HX5.out hb6)
            have hx30 := (blk_cell HX6.out 0).trans rfl
            have hx31 := (blk_cell HX6.out 1).trans rfl
            have hll : (all.length + 1) * 16 ≤ 140737488355328 := by have := HL.out; omega
            clear HA5 HH5 HG5 HX5 hb6
            go_wp2_with ((with_reducible refine gate_builtin (b := .append) (xs := #[.tmp 78, .tmp 80]) rfl ?_); at_builtin; go_must (refine Kd.R_append k31 (w0 := w) w.heap.size rfl (.tmp 78) (.tmp 80) 48 31 (.agg #[.int .i64 0, .int .i64 0]) 16 rfl Try.underlying48 info31 rfl (by decide) (by decide) (.slice Aa all.length ca) all ⟨a, b⟩ [.int .i64 a, .int .i64 b] (fun _ => True) (fun _ => False) rfl rfl (k31_mkM _ _ _ _) (fun _ hk => hk.elim) (fun _ _ => trivial) HH6.out HA6.out.below HA6.out.room hll ?_); intro v7 w7 hR7 hB7 hg7 hat7; have HH7 : Aside0 (HRow w7 w.heap.size v7 (all ++ [(⟨a, b⟩ : S31)])) := ⟨hR7⟩; have HA7 := Aside0.mk (HA6.out.stay (KeptT.grownRow HH6.out hg7) (by decide) (by decide) (by decide) hB7); have HG7 := Aside0.mk (HRow.other HG6.out hg7 HP1.out); have HP7 := Aside0.mk (Apart.grow HP1.out HG6.out hat7); clear hR7 hB7 hg7 hat7)
            go_roundw
            case rel => exact ⟨k + 1, ss', fs', all ++ [⟨a, b⟩], gone, by omega, by go_num, HO3, ⟨by have := HL.out; rw [List.length_append, List.length_singleton]; omega⟩, HA7, HH7, HG7, HP7⟩
            case measure => simp [intOf]; omega
        · have hd3 : decide (0 < x % 3) = false := decide_eq_false hput
          by_cases hal : all.length = 0
          · obtain rfl : all = [] := List.length_eq_zero_iff.1 hal
            go_wp2_with fail
            refine (put_once k (k : Int) HA1.out HO.out (by have := HM.out; omega) (by omega)).mono ?_
            rintro e w3 (⟨rfl, hA3, hk3⟩ | ⟨ss', fs', a, b, rfl, hna, hng, ha, hb, hO3, hA3, hk3⟩)
            · have HA3 := Aside0.mk (hA3.then_ (below_alloc (Below.refl _ _) (.cells #[.int .i64 0, .int .i64 0] 31)))
              have HH3 := Aside0.mk ((HH1.out.kept hk3 (by decide)).below (below_alloc (Below.refl _ _) (.cells #[.int .i64 0, .int .i64 0] 31)))
              have HG3 := Aside0.mk ((HG1.out.kept hk3 (by decide)).below (below_alloc (Below.refl _ _) (.cells #[.int .i64 0, .int .i64 0] 31)))
              clear hA3 hk3 HA1 HH1 HG1
              go_wp2
              go_roundw
              case rel => exact ⟨k + 1, ss, fs, ([] : List S31), gone, by omega, by go_num, ⟨HO.out.more⟩, ⟨by have := HL.out; omega⟩, HA3, HH3, HG3, HP1⟩
              case measure => simp [intOf]; omega
            · have HA3 := Aside0.mk (hA3.then_ (below_alloc (Below.refl _ _) (.cells #[.int .i64 a, .int .i64 b] 31)))
              have HH3 := Aside0.mk ((HH1.out.kept hk3 (by decide)).below (below_alloc (Below.refl _ _) (.cells #[.int .i64 a, .int .i64 b] 31)))
              have HG3 := Aside0.mk ((HG1.out.kept hk3 (by decide)).below (below_alloc (Below.refl _ _) (.cells #[.int .i64 a, .int .i64 b] 31)))
              have HX3 := Aside0.mk (blk_new w3 (.cells #[.int .i64 a, .int .i64 b] 31))
              have HO3 := Aside0.mk hO3
              have HN := Aside0.mk (And.intro hna hng)
              have hda : decide (a < 1) = false := decide_eq_false (by omega)
              have hdb : decide (b < 1) = false := decide_eq_false (by omega)
              have hx30 := (blk_cell HX3.out 0).trans rfl
              have hx31 := (blk_cell HX3.out 1).trans rfl
              clear hA3 hk3 HA1 HH1 HG1 hna hng hO3 ha hb
              go_wp2_with fail
              generalize hb3 : w3.heap.size = b3 at HX3 hx30 hx31 ⊢
              generalize w3.alloc (.cells #[.int .i64 a, .int .i64 b] 31) = w4 at HA3 HH3 HG3 HX3 hx30 hx31 ⊢
              clear hx30 hx31
              refine (PArenaOnce.holtref09_In.calls (([] : List S31).length + 1) Aa ca ([] : List S31) a b false _ (Kd.R_reads' HH3.out).2.2 (Kd.R_reads' HH3.out).2.1 (in_no ([] : List S31) a b HN.out.1 (by have := HL.out; omega))).mono ?_
              rintro e w5 ⟨rfl, hb5⟩
              have HA5 := Aside0.mk (HA3.out.then_ hb5)
              have HH5 := Aside0.mk (HH3.out.below hb5)
              have HG5 := Aside0.mk (HG3.out.below hb5)
              have HX5 := Aside0.mk (blk_below' HX3.out hb5)
              have hx30 := (blk_cell HX5.out 0).trans rfl
              have hx31 := (blk_cell HX5.out 1).trans rfl
              clear HA3 HH3 HG3 HX3 hb5
              go_wp2_with fail
              clear hx30 hx31
              refine (PArenaOnce.holtref09_In.calls (gone.length + 1) Ag cg gone a b false _ (Kd.R_reads' HG5.out).2.2 (Kd.R_reads' HG5.out).2.1 (in_no gone a b HN.out.2 (by have := HL.out; omega))).mono ?_
              rintro e w6 ⟨rfl, hb6⟩
              have HA6 := Aside0.mk (HA5.out.then_ hb6)
              have HH6 := Aside0.mk (HH5.out.below hb6)
              have HG6 := Aside0.mk (HG5.out.below hb6)
              have HX6 := Aside0.mk (blk_below' HX5.out hb6)
              have hx30 := (blk_cell HX6.out 0).trans rfl
              have hx31 := (blk_cell HX6.out 1).trans rfl
              have hll : (([] : List S31).length + 1) * 16 ≤ 140737488355328 := by have := HL.out; omega
              clear HA5 HH5 HG5 HX5 hb6
              go_wp2_with ((with_reducible refine gate_builtin (b := .append) (xs := #[.tmp 78, .tmp 80]) rfl ?_); at_builtin; go_must (refine Kd.R_append k31 (w0 := w) w.heap.size rfl (.tmp 78) (.tmp 80) 48 31 (.agg #[.int .i64 0, .int .i64 0]) 16 rfl Try.underlying48 info31 rfl (by decide) (by decide) (.slice Aa ([] : List S31).length ca) ([] : List S31) ⟨a, b⟩ [.int .i64 a, .int .i64 b] (fun _ => True) (fun _ => False) rfl rfl (k31_mkM _ _ _ _) (fun _ hk => hk.elim) (fun _ _ => trivial) HH6.out HA6.out.below HA6.out.room hll ?_); intro v7 w7 hR7 hB7 hg7 hat7; have HH7 : Aside0 (HRow w7 w.heap.size v7 (([] : List S31) ++ [(⟨a, b⟩ : S31)])) := ⟨hR7⟩; have HA7 := Aside0.mk (HA6.out.stay (KeptT.grownRow HH6.out hg7) (by decide) (by decide) (by decide) hB7); have HG7 := Aside0.mk (HRow.other HG6.out hg7 HP1.out); have HP7 := Aside0.mk (Apart.grow HP1.out HG6.out hat7); clear hR7 hB7 hg7 hat7)
              go_roundw
              case rel => exact ⟨k + 1, ss', fs', ([] : List S31) ++ [⟨a, b⟩], gone, by omega, by go_num, HO3, ⟨by have := HL.out; rw [List.length_append, List.length_singleton]; omega⟩, HA7, HH7, HG7, HP7⟩
              case measure => simp [intOf]; omega
          · have hd4 : ((all.length : Int) == 0) = false := by simpa using hal
            obtain ⟨j, hj⟩ : ∃ j : Nat, x / 3 % (all.length : Int) = (j : Int) := ⟨_, (Int.toNat_of_nonneg (Int.emod_nonneg (x / 3) (show (all.length : Int) ≠ 0 by omega))).symm⟩
            have hjl : j < all.length := by have h := Int.emod_lt_of_pos (x / 3) (show (0 : Int) < (all.length : Int) by omega); rw [hj] at h; omega
            obtain ⟨gh, ca', eh, hch, hh0, hh1⟩ := HH1.out.cells j hjl
            injection eh with eh1 eh2 eh3
            subst eh1
            subst eh3
            clear eh2
            go_wp2_with fail
            clear hh0 hh1
            refine (free_once k j HA1.out HO.out (by have := HM.out; omega) hjl).mono ?_
            rintro e w3 ⟨rfl, ss', fs', hO3, hA3, hk3⟩
            have HA3 := Aside0.mk hA3
            have HH3 := Aside0.mk (HH1.out.kept hk3 (by decide))
            have HG3 := Aside0.mk (HG1.out.kept hk3 (by decide))
            have HO3 := Aside0.mk hO3
            obtain ⟨gh', ca', eh, hch', hh0, hh1⟩ := HH3.out.cells j hjl
            injection eh with eh1 eh2 eh3
            injection eh1 with eh1
            injection eh1 with eh1
            subst eh1
            have hll : (gone.length + 1) * 16 ≤ 140737488355328 := by have := HL.out; omega
            clear eh2 eh3 hA3 hk3 HA1 HH1 HG1 hO3 hch'
            go_wp2_with ((with_reducible refine gate_builtin (b := .append) (xs := #[.tmp 99, .tmp 104]) rfl ?_); at_builtin; go_must (refine Kd.R_append k31 (w0 := w) w.heap.size rfl (.tmp 99) (.tmp 104) 48 31 (.agg #[.int .i64 0, .int .i64 0]) 16 rfl Try.underlying48 info31 rfl (by decide) (by decide) (.slice Ag gone.length cg) gone all[j] [.int .i64 all[j].f0, .int .i64 all[j].f1] (fun _ => True) (fun _ => False) rfl rfl (k31_mkM _ _ _ _) (fun _ hk => hk.elim) (fun _ _ => trivial) HG3.out HA3.out.below HA3.out.room hll ?_); intro v5 w5 hR5 hB5 hg5 hat5; have HG5 : Aside0 (HRow w5 w.heap.size v5 (gone ++ [all[j]])) := ⟨hR5⟩; have HA5 := Aside0.mk (HA3.out.stay (KeptT.grownRow HG3.out hg5) (by decide) (by decide) (by decide) hB5); have HH5 := Aside0.mk (HRow.other HH3.out hg5 HP1.out.symm); have HP5 := Aside0.mk (Apart.grow HP1.out.symm HH3.out hat5); clear hR5 hB5 hg5 hat5)
            have hC1 : ∀ W, KeptT w5 W [] → Kd.C k31 W (some ⟨gh, 0, none⟩) j (all.take j) := fun W hk => by
              have h := Kd.C_take (m := j) (Kd.R_reads' (HH5.out.kept hk (by simp))).2.2 (by omega)
              rwa [List.length_take, Nat.min_eq_left (by omega)] at h
            have HC1 := Aside0.mk hC1
            have HJ := Aside0.mk hjl
            clear hC1 hd2 hd3 hd4 hj hal hput hx hx0 hx1 hh0 hh1 hll
            by_cases hcap : ca = j + 1
            · have hC2 : ∀ W, KeptT w5 W [] → Kd.C k31 W (some ⟨gh, 0, none⟩) (0) (all.drop (j + 1)) := fun W hk => by
                have h := Kd.C_drop (m := j + 1) (c := ca) (Kd.R_reads' (HH5.out.kept hk (by simp))).2.2 (by omega) hch
                rw [if_pos hcap, List.length_drop] at h
                rwa [show all.length - (j + 1) = 0 by omega] at h
              have HC2 := Aside0.mk hC2
              clear hC2
              subst hcap
              have hf1 : (j : Int) ≤ (j : Int) + 1 := by omega
              have hf2 : wrap64 ((j : Int) + 1) = (j : Int) + 1 := w64 _ ⟨by omega, by have := HL.out; omega⟩
              have hf3 : (j : Int) + 1 ≤ (all.length : Int) := by omega
              have hf4 : (0 : Int) ≤ (j : Int) + 1 := by omega
              refine start_ (n := 11) (S := fun _ => True) (ds := []) #[false, false, false, false, false, false, false, false, false, false, false] (by kernel_rfl) rfl rfl trivial (fun hHeld => ?_)
              refine pure_ (i := 1) (N := some 107) (v := ?_) (a' := ?_) #[false, true, false, false, false, false, false, false, false, false, false] rfl rfl (by kernel_rfl) (fun _ _ _ h => h) (Or.inl ⟨by rfl, ?_⟩) ?_ ?_
              rotate_left
              · intro w'
                go_simp
                with_reducible rfl
              rotate_left
              · simp only [Act.put, List.setIfInBounds_toArray, List.set_cons_zero, List.set_cons_succ, i64_w, i32_w]
                rfl
              refine pure_ (i := 2) (N := some 108) (v := ?_) (a' := ?_) #[false, true, true, false, false, false, false, false, false, false, false] rfl rfl (by kernel_rfl) (fun _ _ _ h => h) (Or.inl ⟨by rfl, ?_⟩) ?_ ?_
              rotate_left
              · intro w'
                go_simp
                with_reducible rfl
              rotate_left
              · simp only [Act.put, List.setIfInBounds_toArray, List.set_cons_zero, List.set_cons_succ, i64_w, i32_w]
                rfl
              refine pure_ (i := 3) (N := some 109) (v := ?_) (a' := ?_) #[false, true, true, true, false, false, false, false, false, false, false] rfl rfl (by kernel_rfl) (fun _ _ _ h => h) (Or.inl ⟨by rfl, ?_⟩) ?_ ?_
              rotate_left
              · intro w'
                go_simp
                with_reducible rfl
              rotate_left
              · simp only [Act.put, List.setIfInBounds_toArray, List.set_cons_zero, List.set_cons_succ, i64_w, i32_w]
                rfl
              refine pure_ (i := 5) (N := some 111) (v := ?_) (a' := ?_) #[false, true, true, true, false, true, false, false, false, false, false] rfl rfl (by kernel_rfl) (fun _ _ _ h => h) (Or.inl ⟨by rfl, ?_⟩) ?_ ?_
              rotate_left
              · intro w'
                go_simp
                with_reducible rfl
              rotate_left
              · simp only [Act.put, List.setIfInBounds_toArray, List.set_cons_zero, List.set_cons_succ, i64_w, i32_w]
                rfl
              refine pure_ (i := 6) (N := some 112) (v := ?_) (a' := ?_) #[false, true, true, true, false, true, true, false, false, false, false] rfl rfl (by kernel_rfl) (fun _ _ _ h => h) (Or.inl ⟨by rfl, ?_⟩) ?_ ?_
              rotate_left
              · intro w'
                go_simp
                with_reducible rfl
              rotate_left
              · simp only [Act.put, List.setIfInBounds_toArray, List.set_cons_zero, List.set_cons_succ, i64_w, i32_w]
                rfl
              refine pure_ (i := 7) (N := some 113) (v := ?_) (a' := ?_) #[false, true, true, true, false, true, true, true, false, false, false] rfl rfl (by kernel_rfl) (fun _ _ _ h => h) (Or.inl ⟨by rfl, ?_⟩) ?_ ?_
              rotate_left
              · intro w'
                go_simp
                with_reducible rfl
              rotate_left
              · simp only [Act.put, List.setIfInBounds_toArray, List.set_cons_zero, List.set_cons_succ, i64_w, i32_w]
                rfl
              refine pure_ (i := 8) (N := some 114) (v := ?_) (a' := ?_) #[false, true, true, true, false, true, true, true, true, false, false] rfl rfl (by kernel_rfl) (fun _ _ _ h => h) (Or.inl ⟨by rfl, ?_⟩) ?_ ?_
              rotate_left
              · intro w'
                go_simp
                with_reducible rfl
              rotate_left
              · simp only [Act.put, List.setIfInBounds_toArray, List.set_cons_zero, List.set_cons_succ, i64_w, i32_w]
                rfl
              refine one_ (i := 0) (N := some 106) #[true, true, true, true, false, true, true, true, true, false, false] rfl rfl (by kernel_rfl) (by decide) (fun K hK => ?_)
              refine Kd.R_lit_step k31 (w0 := w) w.heap.size 31 (by rfl) (N := 106) rfl (xs := ([] : List S31)) (inner := []) (ok := fun _ => True) (okp := fun _ => True) ?hr (Reps.none _ _) (fun _ hk => hk) trivial (below_drew1 HA5.out.below) HA5.out.room (by simp) ?_
              case hr => first | (go_simp; done) | (go_simp; rfl)
              intro v6 w6 hR6 hB6 hg6 hat6
              have HN6 := Aside0.mk hR6
              have HW6 := Aside0.mk hB6
              have HK6 : Aside0 (KeptT w5 w6 []) := ⟨(KeptT.drew w5 []).trans (.grown hg6 (fun k hk => by cases hk))⟩
              have HS6 := Aside0.mk HK6.out.1
              have HT6 : Aside0 (∃ b, v6.ownBlock = some b ∧ w5.heap.size ≤ b) := ⟨hat6⟩
              clear hR6 hB6 hg6 hat6
              refine hK.out _ _ trivial (fun hHeld => ?_)
              clear hK K
              refine norm_ (a' := ?_) ?_ ?_
              rotate_left
              · show Act.put _ (some 106) _ = _
                simp only [Act.put, List.setIfInBounds_toArray, List.set_cons_zero, List.set_cons_succ, i64_w, i32_w]
                rfl
              refine one_ (i := 4) (N := some 110) #[true, true, true, true, true, true, true, true, true, false, false] rfl rfl (by kernel_rfl) (by decide) (fun K hK => ?_)
              refine Kd.R_append_rows_step k31 (Rr := k31.K w6) (w0 := w) (W := w6) w.heap.size (by rfl) (.tmp 106) (.tmp 109) 48 31 (.agg #[.int .i64 0, .int .i64 0]) 16 rfl Try.underlying48 info31 rfl (by decide) (by decide) v6 ([]) (all.take j) _ _ _ (fun _ => True) (fun _ => False) rfl rfl HN6.out (HC1.out _ HK6.out) (fun x cs hx => by rw [Go.Proofs.Ytcdfkjcnjdbmgaa.PArenaOnce.k31_open hx]; exact k31_mkM _ _ _ _) (fun _ h => h.elim) (fun _ _ => trivial) HW6.out (Nat.le_trans HA5.out.room HS6.out) (by have := HL.out; simp; omega) ?_
              intro v7 w7 hR7 hB7 hg7 hat7
              have HN7 := Aside0.mk hR7
              have HW7 := Aside0.mk hB7
              have HK7 := Aside0.mk (keptOwn HK6.out HT6.out hg7)
              have HS7 := Aside0.mk HK7.out.1
              have HT7 := Aside0.mk (new_at HT6.out HS6.out hat7)
              clear hR7 hB7 hg7 hat7
              refine hK.out _ _ trivial (fun hHeld => ?_)
              clear hK K
              refine norm_ (a' := ?_) ?_ ?_
              rotate_left
              · show Act.put _ (some 110) _ = _
                simp only [Act.put, List.setIfInBounds_toArray, List.set_cons_zero, List.set_cons_succ, i64_w, i32_w]
                rfl
              refine one_ (i := 9) (N := some 115) #[true, true, true, true, true, true, true, true, true, true, false] rfl rfl (by kernel_rfl) (by decide) (fun K hK => ?_)
              refine Kd.R_append_rows_step k31 (Rr := k31.K w7) (w0 := w) (W := w7) w.heap.size (by rfl) (.tmp 110) (.tmp 114) 48 31 (.agg #[.int .i64 0, .int .i64 0]) 16 rfl Try.underlying48 info31 rfl (by decide) (by decide) v7 ([] ++ all.take j) (all.drop (j + 1)) _ _ _ (fun _ => True) (fun _ => False) rfl rfl HN7.out (HC2.out _ HK7.out) (fun x cs hx => by rw [Go.Proofs.Ytcdfkjcnjdbmgaa.PArenaOnce.k31_open hx]; exact k31_mkM _ _ _ _) (fun _ h => h.elim) (fun _ _ => trivial) HW7.out (Nat.le_trans HA5.out.room HS7.out) (by have := HL.out; simp; omega) ?_
              intro v8 w8 hR8 hB8 hg8 hat8
              have HN8 := Aside0.mk hR8
              have HW8 := Aside0.mk hB8
              have HK8 := Aside0.mk (keptOwn HK7.out HT7.out hg8)
              have HT8 := Aside0.mk (new_at HT7.out HS7.out hat8)
              clear hR8 hB8 hg8 hat8
              refine hK.out _ _ trivial (fun hHeld => ?_)
              clear hK K
              refine norm_ (a' := ?_) ?_ ?_
              rotate_left
              · show Act.put _ (some 115) _ = _
                simp only [Act.put, List.setIfInBounds_toArray, List.set_cons_zero, List.set_cons_succ, i64_w, i32_w]
                rfl
              refine pure_ (i := 10) (N := some 7) (v := ?_) (a' := ?_) #[true, true, true, true, true, true, true, true, true, true, true] rfl rfl (by kernel_rfl) (fun _ _ _ h => h) (Or.inl ⟨by rfl, ?_⟩) ?_ ?_
              rotate_left
              · intro w'
                go_simp
                with_reducible rfl
              rotate_left
              · simp only [Act.put, List.setIfInBounds_toArray, List.set_cons_zero, List.set_cons_succ, i64_w, i32_w]
                rfl
              refine done_ (by kernel_rfl) ?_
              clear hf1 hf2 hf3 hf4
              try go_wp2
              go_roundw
              case rel => exact ⟨k + 1, ss', fs', all.take j ++ all.drop (j + 1), gone ++ [all[j]], by omega, by go_num, HO3, ⟨by have := HL.out; simp; omega⟩, ⟨HA5.out.stay HK8.out (by simp) (by simp) (by simp) HW8.out⟩, ⟨by have h := HN8.out; rw [List.nil_append] at h; exact h⟩, ⟨HG5.out.kept HK8.out (by simp)⟩, ⟨fun b hb hb' => by
                obtain ⟨b2, e2, hle⟩ := HT8.out
                rw [e2] at hb
                injection hb with hb
                have := HRow.lt HG5.out hb'
                omega⟩⟩
              case measure => simp [intOf]; omega
            · have hC2 : ∀ W, KeptT w5 W [] → Kd.C k31 W (some ⟨gh, (j + 1) * 2, none⟩) (all.length - (j + 1)) (all.drop (j + 1)) := fun W hk => by
                have h := Kd.C_drop (m := j + 1) (c := ca) (Kd.R_reads' (HH5.out.kept hk (by simp))).2.2 (by omega) hch
                rw [if_neg hcap, List.length_drop] at h
                have e : (some (⟨gh, 0, none⟩ : Addr)).map (·.add ((j + 1) * k31.sz)) = some ⟨gh, (j + 1) * 2, none⟩ := by
                  show some (Addr.add _ _) = _
                  rw [add_plain]
                  rfl
                rw [e] at h
                exact h
              have HC2 := Aside0.mk hC2
              clear hC2
              have hf1 : (j : Int) ≤ (ca : Int) := by omega
              have hf2 : wrap64 ((j : Int) + 1) = (j : Int) + 1 := w64 _ ⟨by omega, by have := HL.out; omega⟩
              have hf3 : (j : Int) + 1 ≤ (all.length : Int) := by omega
              have hf4 : (0 : Int) ≤ (j : Int) + 1 := by omega
              refine start_ (n := 11) (S := fun _ => True) (ds := []) #[false, false, false, false, false, false, false, false, false, false, false] (by kernel_rfl) rfl rfl trivial (fun hHeld => ?_)
              refine pure_ (i := 1) (N := some 107) (v := ?_) (a' := ?_) #[false, true, false, false, false, false, false, false, false, false, false] rfl rfl (by kernel_rfl) (fun _ _ _ h => h) (Or.inl ⟨by rfl, ?_⟩) ?_ ?_
              rotate_left
              · intro w'
                go_simp
                with_reducible rfl
              rotate_left
              · simp only [Act.put, List.setIfInBounds_toArray, List.set_cons_zero, List.set_cons_succ, i64_w, i32_w]
                rfl
              refine pure_ (i := 2) (N := some 108) (v := ?_) (a' := ?_) #[false, true, true, false, false, false, false, false, false, false, false] rfl rfl (by kernel_rfl) (fun _ _ _ h => h) (Or.inl ⟨by rfl, ?_⟩) ?_ ?_
              rotate_left
              · intro w'
                go_simp
                with_reducible rfl
              rotate_left
              · simp only [Act.put, List.setIfInBounds_toArray, List.set_cons_zero, List.set_cons_succ, i64_w, i32_w]
                rfl
              refine pure_ (i := 3) (N := some 109) (v := ?_) (a' := ?_) #[false, true, true, true, false, false, false, false, false, false, false] rfl rfl (by kernel_rfl) (fun _ _ _ h => h) (Or.inl ⟨by rfl, ?_⟩) ?_ ?_
              rotate_left
              · intro w'
                go_simp
                with_reducible rfl
              rotate_left
              · simp only [Act.put, List.setIfInBounds_toArray, List.set_cons_zero, List.set_cons_succ, i64_w, i32_w]
                rfl
              refine pure_ (i := 5) (N := some 111) (v := ?_) (a' := ?_) #[false, true, true, true, false, true, false, false, false, false, false] rfl rfl (by kernel_rfl) (fun _ _ _ h => h) (Or.inl ⟨by rfl, ?_⟩) ?_ ?_
              rotate_left
              · intro w'
                go_simp
                with_reducible rfl
              rotate_left
              · simp only [Act.put, List.setIfInBounds_toArray, List.set_cons_zero, List.set_cons_succ, i64_w, i32_w]
                rfl
              refine pure_ (i := 6) (N := some 112) (v := ?_) (a' := ?_) #[false, true, true, true, false, true, true, false, false, false, false] rfl rfl (by kernel_rfl) (fun _ _ _ h => h) (Or.inl ⟨by rfl, ?_⟩) ?_ ?_
              rotate_left
              · intro w'
                go_simp
                with_reducible rfl
              rotate_left
              · simp only [Act.put, List.setIfInBounds_toArray, List.set_cons_zero, List.set_cons_succ, i64_w, i32_w]
                rfl
              refine pure_ (i := 7) (N := some 113) (v := ?_) (a' := ?_) #[false, true, true, true, false, true, true, true, false, false, false] rfl rfl (by kernel_rfl) (fun _ _ _ h => h) (Or.inl ⟨by rfl, ?_⟩) ?_ ?_
              rotate_left
              · intro w'
                go_simp
                with_reducible rfl
              rotate_left
              · simp only [Act.put, List.setIfInBounds_toArray, List.set_cons_zero, List.set_cons_succ, i64_w, i32_w]
                rfl
              refine pure_ (i := 8) (N := some 114) (v := ?_) (a' := ?_) #[false, true, true, true, false, true, true, true, true, false, false] rfl rfl (by kernel_rfl) (fun _ _ _ h => h) (Or.inl ⟨by rfl, ?_⟩) ?_ ?_
              rotate_left
              · intro w'
                go_simp
                with_reducible rfl
              rotate_left
              · simp only [Act.put, List.setIfInBounds_toArray, List.set_cons_zero, List.set_cons_succ, i64_w, i32_w]
                rfl
              refine one_ (i := 0) (N := some 106) #[true, true, true, true, false, true, true, true, true, false, false] rfl rfl (by kernel_rfl) (by decide) (fun K hK => ?_)
              refine Kd.R_lit_step k31 (w0 := w) w.heap.size 31 (by rfl) (N := 106) rfl (xs := ([] : List S31)) (inner := []) (ok := fun _ => True) (okp := fun _ => True) ?hr (Reps.none _ _) (fun _ hk => hk) trivial (below_drew1 HA5.out.below) HA5.out.room (by simp) ?_
              case hr => first | (go_simp; done) | (go_simp; rfl)
              intro v6 w6 hR6 hB6 hg6 hat6
              have HN6 := Aside0.mk hR6
              have HW6 := Aside0.mk hB6
              have HK6 : Aside0 (KeptT w5 w6 []) := ⟨(KeptT.drew w5 []).trans (.grown hg6 (fun k hk => by cases hk))⟩
              have HS6 := Aside0.mk HK6.out.1
              have HT6 : Aside0 (∃ b, v6.ownBlock = some b ∧ w5.heap.size ≤ b) := ⟨hat6⟩
              clear hR6 hB6 hg6 hat6
              refine hK.out _ _ trivial (fun hHeld => ?_)
              clear hK K
              refine norm_ (a' := ?_) ?_ ?_
              rotate_left
              · show Act.put _ (some 106) _ = _
                simp only [Act.put, List.setIfInBounds_toArray, List.set_cons_zero, List.set_cons_succ, i64_w, i32_w]
                rfl
              refine one_ (i := 4) (N := some 110) #[true, true, true, true, true, true, true, true, true, false, false] rfl rfl (by kernel_rfl) (by decide) (fun K hK => ?_)
              refine Kd.R_append_rows_step k31 (Rr := k31.K w6) (w0 := w) (W := w6) w.heap.size (by rfl) (.tmp 106) (.tmp 109) 48 31 (.agg #[.int .i64 0, .int .i64 0]) 16 rfl Try.underlying48 info31 rfl (by decide) (by decide) v6 ([]) (all.take j) _ _ _ (fun _ => True) (fun _ => False) rfl rfl HN6.out (HC1.out _ HK6.out) (fun x cs hx => by rw [Go.Proofs.Ytcdfkjcnjdbmgaa.PArenaOnce.k31_open hx]; exact k31_mkM _ _ _ _) (fun _ h => h.elim) (fun _ _ => trivial) HW6.out (Nat.le_trans HA5.out.room HS6.out) (by have := HL.out; simp; omega) ?_
              intro v7 w7 hR7 hB7 hg7 hat7
              have HN7 := Aside0.mk hR7
              have HW7 := Aside0.mk hB7
              have HK7 := Aside0.mk (keptOwn HK6.out HT6.out hg7)
              have HS7 := Aside0.mk HK7.out.1
              have HT7 := Aside0.mk (new_at HT6.out HS6.out hat7)
              clear hR7 hB7 hg7 hat7
              refine hK.out _ _ trivial (fun hHeld => ?_)
              clear hK K
              refine norm_ (a' := ?_) ?_ ?_
              rotate_left
              · show Act.put _ (some 110) _ = _
                simp only [Act.put, List.setIfInBounds_toArray, List.set_cons_zero, List.set_cons_succ, i64_w, i32_w]
                rfl
              refine one_ (i := 9) (N := some 115) #[true, true, true, true, true, true, true, true, true, true, false] rfl rfl (by kernel_rfl) (by decide) (fun K hK => ?_)
              refine Kd.R_append_rows_step k31 (Rr := k31.K w7) (w0 := w) (W := w7) w.heap.size (by rfl) (.tmp 110) (.tmp 114) 48 31 (.agg #[.int .i64 0, .int .i64 0]) 16 rfl Try.underlying48 info31 rfl (by decide) (by decide) v7 ([] ++ all.take j) (all.drop (j + 1)) _ _ _ (fun _ => True) (fun _ => False) rfl rfl HN7.out (HC2.out _ HK7.out) (fun x cs hx => by rw [Go.Proofs.Ytcdfkjcnjdbmgaa.PArenaOnce.k31_open hx]; exact k31_mkM _ _ _ _) (fun _ h => h.elim) (fun _ _ => trivial) HW7.out (Nat.le_trans HA5.out.room HS7.out) (by have := HL.out; simp; omega) ?_
              intro v8 w8 hR8 hB8 hg8 hat8
              have HN8 := Aside0.mk hR8
              have HW8 := Aside0.mk hB8
              have HK8 := Aside0.mk (keptOwn HK7.out HT7.out hg8)
              have HT8 := Aside0.mk (new_at HT7.out HS7.out hat8)
              clear hR8 hB8 hg8 hat8
              refine hK.out _ _ trivial (fun hHeld => ?_)
              clear hK K
              refine norm_ (a' := ?_) ?_ ?_
              rotate_left
              · show Act.put _ (some 115) _ = _
                simp only [Act.put, List.setIfInBounds_toArray, List.set_cons_zero, List.set_cons_succ, i64_w, i32_w]
                rfl
              refine pure_ (i := 10) (N := some 7) (v := ?_) (a' := ?_) #[true, true, true, true, true, true, true, true, true, true, true] rfl rfl (by kernel_rfl) (fun _ _ _ h => h) (Or.inl ⟨by rfl, ?_⟩) ?_ ?_
              rotate_left
              · intro w'
                go_simp
                with_reducible rfl
              rotate_left
              · simp only [Act.put, List.setIfInBounds_toArray, List.set_cons_zero, List.set_cons_succ, i64_w, i32_w]
                rfl
              refine done_ (by kernel_rfl) ?_
              clear hf1 hf2 hf3 hf4
              try go_wp2
              go_roundw
              case rel => exact ⟨k + 1, ss', fs', all.take j ++ all.drop (j + 1), gone ++ [all[j]], by omega, by go_num, HO3, ⟨by have := HL.out; simp; omega⟩, ⟨HA5.out.stay HK8.out (by simp) (by simp) (by simp) HW8.out⟩, ⟨by have h := HN8.out; rw [List.nil_append] at h; exact h⟩, ⟨HG5.out.kept HK8.out (by simp)⟩, ⟨fun b hb hb' => by
                obtain ⟨b2, e2, hle⟩ := HT8.out
                rw [e2] at hb
                injection hb with hb
                have := HRow.lt HG5.out hb'
                omega⟩⟩
              case measure => simp [intOf]; omega
      · obtain rfl : k = fr.length := by omega
        have hcnt := HO.out.count
        have hmost := HO.out.most
        have HCN := Aside0.mk (And.intro hcnt hmost)
        have hgl : gone.length ≤ 1000 := by have := HL.out; omega
        have hal : all.length ≤ 1000 := by have := HL.out; omega
        clear hcnt hmost hlt hk
        go_wp2_with fail
        go_loopw [15] (fun i wq => ∃ q : Nat, q ≤ gone.length ∧ i = .int .i64 (q : Int) ∧ Aside0 (Arena 57 60 w wq w.heap.size g m ss fs) ∧ Aside0 (HRow wq w.heap.size (.slice Aa all.length ca) all) ∧ Aside0 (HRow wq w.heap.size (.slice Ag gone.length cg) gone)) (fun i _ => gone.length - (intOf i).toNat)
        case atStart => exact ⟨0, Nat.zero_le _, rfl, HA1, HH1, HG1⟩
        case round =>
          obtain ⟨q, hq, rfl, HA2, HH2, HG2⟩ := hrel
          clear HA1 HH1 HG1
          by_cases hlt : q < gone.length
          · obtain ⟨gh, cg', eh, hch, hh0, hh1⟩ := HG2.out.cells q hlt
            injection eh with eh1 eh2 eh3
            subst eh1
            subst eh3
            clear eh2
            have HLK := Aside0.mk (HO.out.look_gone (List.getElem_mem hlt))
            go_wp2_with fail
            refine (get_no _ _ HA2.out (by have := HCN.out; have := HM.out; omega) HLK.out).mono ?_
            rintro e w5 ⟨rfl, hb5⟩
            have HA5 := Aside0.mk (HA2.out.then_ hb5)
            have HH5 := Aside0.mk (HH2.out.below hb5)
            have HG5 := Aside0.mk (HG2.out.below hb5)
            have hh50 := Below.cell_ hb5 hh0
            have hh51 := Below.cell_ hb5 hh1
            clear hb5 HA2 HH2 HG2 hh0 hh1
            go_wp2_with fail
            refine (free_no _ _ HA5.out (by have := HCN.out; have := HM.out; omega) HLK.out).mono ?_
            rintro e w6 ⟨rfl, hb6⟩
            have HA6 := Aside0.mk (HA5.out.then_ hb6)
            have HH6 := Aside0.mk (HH5.out.below hb6)
            have HG6 := Aside0.mk (HG5.out.below hb6)
            clear hb6 HA5 HH5 HG5 hh50 hh51
            go_wp2
            go_roundw
            case rel => exact ⟨q + 1, by omega, by go_num, HA6, HH6, HG6⟩
            case measure => simp [intOf]; omega
          · obtain rfl : q = gone.length := by omega
            clear hlt hq
            go_wp2_with fail
            go_loopw [19] (fun i wq => ∃ q : Nat, q ≤ all.length ∧ i = .int .i64 (q : Int) ∧ Aside0 (Arena 57 60 w wq w.heap.size g m ss fs) ∧ Aside0 (HRow wq w.heap.size (.slice Aa all.length ca) all)) (fun i _ => all.length - (intOf i).toNat)
            case atStart => exact ⟨0, Nat.zero_le _, rfl, HA2, HH2⟩
            case round =>
              obtain ⟨q, hq, rfl, HA3, HH3⟩ := hrel
              clear HA2 HH2 HG2
              by_cases hlt : q < all.length
              · obtain ⟨gh, ca', eh, hch, hh0, hh1⟩ := HH3.out.cells q hlt
                injection eh with eh1 eh2 eh3
                subst eh1
                subst eh3
                clear eh2
                obtain ⟨i, hi, x, hz, hu, hx⟩ := HO.out.at_all (List.getElem_mem hlt)
                rw [hz] at hh0 hh1
                have HZ := Aside0.mk (And.intro hu hx)
                clear hz hu hx
                go_wp2_with fail
                refine (get_yes i x HA3.out (by have := HCN.out; have := HM.out; omega) hi HZ.out.1 HZ.out.2).mono ?_
                rintro e w5 ⟨rfl, hb5⟩
                have HA5 := Aside0.mk (HA3.out.then_ hb5)
                have HH5 := Aside0.mk (HH3.out.below hb5)
                clear hb5 HA3 HH3 hh0 hh1
                go_wp2
                go_roundw
                case rel => exact ⟨q + 1, by omega, by go_num, HA5, HH5⟩
                case measure => simp [intOf]; omega
              · obtain rfl : q = all.length := by omega
                clear hlt hq
                go_wp2_with fail
                refine (live_ar HA3.out HCN.out.2 (by have := HM.out; omega) (by have := HCN.out.1; omega)).mono ?_
                rintro e w8 ⟨rfl, nd9, rfl⟩
                have e0 : (ss.length : Int) - (fs.length : Int) = (all.length : Int) := by have := HCN.out.1; omega
                rw [e0]
                clear e0
                go_wp2
                go_ret
                exact ⟨rfl, pw_below_drewN HA3.out.below nd9⟩
end Go.Proofs.Ytcdfkjcnjdbmgaa.Once
