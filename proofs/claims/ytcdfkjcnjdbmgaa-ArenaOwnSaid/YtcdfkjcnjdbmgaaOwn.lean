/- Layer 09: the walk of ArenaOwn: it answers true for all rows. -/
import Derived.Test.YtcdfkjcnjdbmgaaHands
namespace Go.Proofs.Ytcdfkjcnjdbmgaa.Own
open Go.RowKit Go.Proofs.YtcdfkjcnjdbmgaaW.PrintWords Go.Proofs.YtcdfkjcnjdbmgaaW.PrintLast Go.Proofs.YtcdfkjcnjdbmgaaW.PrintMore Go.Proofs.Ytcdfkjcnjdbmgaa.Core Go.Proofs.Ytcdfkjcnjdbmgaa.Put Go.Proofs.Ytcdfkjcnjdbmgaa.Find Go.Proofs.Ytcdfkjcnjdbmgaa.Awake Go.Proofs.Ytcdfkjcnjdbmgaa.Hands
open Go.Proofs.Ytcdfkjcnjdbmgaa.PArenaOnce (S31 k31 z31 rd_T31 at_T31 k31_mkM k31_mk)
set_option linter.unusedVariables false
set_option linter.unusedSimpArgs false
def sl (x : Int) (d : Bool) : Sl := ⟨1, !d, .int .i64 (if d then 0 else x)⟩
/-- What lies there when k numbers have been put. -/
def puts (l : List Int) (k : Nat) : List Sl := (l.take k).map fun x => ⟨1, true, .int .i64 x⟩
/-- The handles of the first k. -/
def hands (k : Nat) : List S31 := (List.range k).map fun (i : Nat) => ⟨(i : Int) + 1, 1⟩
theorem hands_length (k : Nat) : (hands k).length = k := by simp [hands]
theorem hands_get (k i : Nat) (h : i < (hands k).length) : (hands k)[i] = ⟨(i : Int) + 1, 1⟩ := by simp [hands]
theorem hands_succ (k : Nat) : hands (k + 1) = hands k ++ [⟨(k : Int) + 1, 1⟩] := by simp [hands, List.range_succ]
theorem puts_length (l : List Int) (k : Nat) (h : k ≤ l.length) : (puts l k).length = k := by simp [puts, h]
theorem puts_succ (l : List Int) (k : Nat) (h : k < l.length) : puts l (k + 1) = puts l k ++ [⟨1, true, .int .i64 l[k]⟩] := by
  unfold puts
  rw [List.take_succ_eq_append_getElem h, List.map_append]
  rfl
/-- What lies there when some are gone. -/
def left (l : List Int) (gn : List Bool) : List Sl := List.zipWith sl l gn
theorem left_length (l : List Int) (gn : List Bool) (h : gn.length = l.length) : (left l gn).length = l.length := by simp [left, h]
theorem left_get (l : List Int) (gn : List Bool) (k : Nat) (h1 : k < l.length) (h2 : k < gn.length) (h : k < (left l gn).length) : (left l gn)[k] = sl l[k] gn[k] := by simp [left]
theorem left_start (l : List Int) : left l (List.replicate l.length false) = puts l l.length := by
  refine List.ext_getElem (by simp [left, puts]) (fun i h1 h2 => ?_)
  simp [left, puts, sl]
theorem left_set (l : List Int) (gn : List Bool) (k : Nat) (h1 : k < l.length) (h2 : gn.length = l.length) : left l (gn.set k true) = (left l gn).set k ⟨1, false, .int .i64 0⟩ := by
  refine List.ext_getElem (by simp [left]) (fun i h3 h4 => ?_)
  simp only [left, List.getElem_zipWith, List.getElem_set]
  by_cases e : k = i
  · subst e; simp [sl]
  · simp [e]
theorem put_own {w0 w : World} {base g : Nat} {l : List Int} (k : Nat) (hI : Arena 57 60 w0 w base g 40 (puts l k) []) (hk : k < l.length) (hl : l.length ≤ 40) :
    Calls Try.prog 10 #[.pointer (some ⟨g, 0, none⟩), .int .i64 l[k]] w fun e w' => e = .returned (.tuple #[.agg #[.int .i64 ((k : Int) + 1), .int .i64 1], .bool true]) ∧ Arena 57 60 w0 w' base g 40 (puts l (k + 1)) [] ∧ KeptT w w' [57, 60, 3] := by
  have hlen := puts_length l k (by omega)
  have h := put_new l[k] hI (by rw [hlen]; omega) (by decide)
  rw [hlen, ← puts_succ l k hk] at h
  exact h
theorem look_dead {ss : List Sl} {k : Nat} (h : Int) (hk : k < ss.length) (hu : ss[k].used = false) : Find.look ss ((k : Int) + 1) h = none := by
  cases hl : Find.look ss ((k : Int) + 1) h with
  | none => rfl
  | some j =>
    obtain ⟨hj, e, hu', _⟩ := look_some hl
    have : k = j := by omega
    subst this
    rw [hu] at hu'
    cases hu'
theorem free_own {w0 w : World} {base g : Nat} {l : List Int} {gn : List Bool} {fs : List Int} (k : Nat) (hI : Arena 57 60 w0 w base g 40 (left l gn) fs) (hk : k < l.length) (hn : gn.length = l.length) (hl : l.length ≤ 40) (hf : fs.length ≤ 1000) :
    Calls Try.prog 12 #[.pointer (some ⟨g, 0, none⟩), .agg #[.int .i64 ((k : Int) + 1), .int .i64 1]] w fun e w' => e = .returned (.bool (!gn[k])) ∧ ∃ fs', fs'.length ≤ fs.length + 1 ∧ Arena 57 60 w0 w' base g 40 (left l (gn.set k true)) fs' ∧ KeptT w w' [57, 60, 3] := by
  have hlen := left_length l gn hn
  have hg := left_get l gn k hk (by omega) (by omega)
  cases hd : gn[k] with
  | true =>
    rw [hd] at hg
    refine (free_no ((k : Int) + 1) 1 hI (by omega) (look_dead _ (by omega) (by rw [hg]; rfl))).mono ?_
    rintro e w' ⟨rfl, hb⟩
    have es : gn.set k true = gn := by
      have h := List.set_getElem_self (i := k) (by omega : k < gn.length)
      rwa [hd] at h
    rw [es]
    exact ⟨rfl, fs, by omega, hI.then_ hb, .below hb _⟩
  | false =>
    rw [hd] at hg
    have h := free_yes k hI (by omega) (by omega) (by omega) (by rw [hg]; rfl)
    rw [hg] at h
    refine h.mono ?_
    rintro e w' ⟨rfl, hA, hk'⟩
    refine ⟨rfl, fs ++ [(k : Int) + 1], by simp, ?_, hk'⟩
    rw [left_set l gn k hk hn]
    exact hA
theorem get_own {w0 w : World} {base g : Nat} {l : List Int} {gn : List Bool} {fs : List Int} (k : Nat) (d : Bool) (hI : Arena 57 60 w0 w base g 40 (left l gn) fs) (hk : k < l.length) (hn : gn.length = l.length) (hl : l.length ≤ 40) (hd : gn[k] = d) :
    Calls Try.prog 14 #[.pointer (some ⟨g, 0, none⟩), .agg #[.int .i64 ((k : Int) + 1), .int .i64 1]] w fun e w' => e = .returned (.tuple #[.int .i64 (if d then 0 else l[k]), .bool (!d)]) ∧ Below w.heap.size w w' := by
  have hlen := left_length l gn hn
  have hg := left_get l gn k hk (by omega) (by omega)
  rw [hd] at hg
  cases d with
  | true => exact get_no ((k : Int) + 1) 1 hI (by omega) (look_dead _ (by omega) (by rw [hg]; rfl))
  | false =>
    have h := get_yes k l[k] hI (by omega) (by omega) (by rw [hg]; rfl) (by rw [hg]; rfl)
    rw [hg] at h
    exact h
set_option maxHeartbeats 3200000 in
set_option maxRecDepth 100000 in
theorem own_calls (A0 : Option Addr) (c0 : Nat) (l : List Int) (A1 : Option Addr) (c1 : Nat) (fr : List Int) (w : World) (h0 : Kd.C (Kd.int .i64) w A0 l.length l) (hc0 : l.length ≤ c0) (h1 : Kd.C (Kd.int .u8) w A1 fr.length fr) (hc1 : fr.length ≤ c1) (hw : ∀ x ∈ fr, (Lit.int .u8 x).wf = true) :
    Calls Try.prog 6 #[.slice A0 l.length c0, .slice A1 fr.length c1] w fun e w' => e = .returned (.bool true) ∧ Below w.heap.size w w' := by
  have HR0 := Aside0.mk h0
  have HR1 := Aside0.mk h1
  have HWF := Aside0.mk hw
  clear h0 h1 hw
  by_cases hl : 40 < l.length
  · have hd : decide ((40 : Int) < (l.length : Int)) = true := decide_eq_true (by omega)
    go_enter Try.func6, Try.ntmps6
    go_wp2_with (go_at_call 8; refine (awake_calls _).mono ?_; rintro e w1 ⟨rfl, hb1⟩; have HB1 := Aside0.mk hb1; clear hb1)
    go_ret
    exact ⟨rfl, HB1.out⟩
  · have hd : decide ((40 : Int) < (l.length : Int)) = false := decide_eq_false (by omega)
    by_cases hf : 40 < fr.length
    · have hd2 : decide ((40 : Int) < (fr.length : Int)) = true := decide_eq_true (by omega)
      go_enter Try.func6, Try.ntmps6
      go_wp2_with (go_at_call 8; refine (awake_calls _).mono ?_; rintro e w1 ⟨rfl, hb1⟩; have HB1 := Aside0.mk hb1; clear hb1)
      go_ret
      exact ⟨rfl, HB1.out⟩
    · have hd2 : decide ((40 : Int) < (fr.length : Int)) = false := decide_eq_false (by omega)
      go_enter Try.func6, Try.ntmps6
      go_wp2_with (go_at_call 8; refine (awake_calls _).mono ?_; rintro e w1 ⟨rfl, hb1⟩; have HB1 := Aside0.mk hb1; clear hb1)
      refine (Arena.new_yes w1 40 (by decide) (by decide)).mono ?_
      rintro e w2 ⟨rfl, rfl⟩
      have HA : Aside0 (Arena 57 60 w _ w.heap.size w1.heap.size 40 (puts l 0) []) := ⟨arena_new (tA := 57) (tS := 60) 40 HB1.out HB1.out.size⟩
      generalize w1.alloc (.cells #[.int .i64 40, .slice none 0 0, .slice none 0 0] 57) = w2 at HA ⊢
      generalize w1.heap.size = g at HA ⊢
      clear HB1
      go_wp2_with fail
      go_loopw [7, 8] (fun vh i wr => ∃ k : Nat, k ≤ l.length ∧ i = .int .i64 (k : Int) ∧ Aside0 (Arena 57 60 w wr w.heap.size g 40 (puts l k) []) ∧ Aside0 (HRow wr w.heap.size vh (hands k))) (fun _ i _ => l.length - (intOf i).toNat)
      case atStart => exact ⟨0, Nat.zero_le _, rfl, HA, ⟨Kd.R_nil _ _ _ _ _⟩⟩
      case round =>
        obtain ⟨k, hk, rfl, HA1, HH1⟩ := hrel
        clear HA
        obtain ⟨Ah, ch, rfl⟩ := Kd.R_slice HH1.out
        by_cases hlt : k < l.length
        · obtain ⟨ad, ea, hx⟩ := Kd.at_int (Kd.C_below HR0.out HA1.out.below) (k : Int) (by omega) (by omega)
          subst ea
          rw [rd_nat l k hlt, Int.toNat_natCast] at hx
          go_wp2_with fail
          refine (put_own k HA1.out hlt (by omega)).mono ?_
          rintro e w3 ⟨rfl, hA3, hk3⟩
          have HA3 := Aside0.mk (hA3.then_ (below_alloc (Below.refl _ _) (.cells #[.int .i64 ((k : Int) + 1), .int .i64 1] 31)))
          have HH3 := Aside0.mk ((HH1.out.kept hk3 (by decide)).below (below_alloc (Below.refl _ _) (.cells #[.int .i64 ((k : Int) + 1), .int .i64 1] 31)))
          clear hA3 hk3 HA1 HH1 hx
          have hll : ((hands k).length + 1) * 16 ≤ 140737488355328 := by rw [hands_length]; omega
          go_wp2_with ((with_reducible refine gate_builtin (b := .append) (xs := #[.tmp 47, .tmp 49]) rfl ?_); at_builtin; go_must (refine Kd.R_append k31 (w0 := w) w.heap.size rfl (.tmp 47) (.tmp 49) 48 31 (.agg #[.int .i64 0, .int .i64 0]) 16 rfl Try.underlying48 info31 rfl (by decide) (by decide) (.slice Ah (hands k).length ch) (hands k) ⟨(k : Int) + 1, 1⟩ [.int .i64 ((k : Int) + 1), .int .i64 1] (fun _ => True) (fun _ => False) rfl (by rw [World.size_alloc]; rfl) (k31_mkM _ _ _ _) (fun _ hk => hk.elim) (fun _ _ => trivial) HH3.out HA3.out.below HA3.out.room hll ?_); intro v4 w4 hR4 hB4 hg4 hat4; have HH4 := Aside0.mk hR4; have HA4 := Aside0.mk (HA3.out.stay (KeptT.grownRow HH3.out hg4) (by decide) (by decide) (by decide) hB4); clear hR4 hB4 hg4 hat4)
          go_roundw
          case rel => exact ⟨k + 1, by omega, by go_num, HA4, ⟨by rw [hands_succ]; exact HH4.out⟩⟩
          case measure => simp [intOf]; omega
        · obtain rfl : k = l.length := by omega
          go_wp2_with ((with_reducible refine gate_dst (N := 53) rfl ?_); go_must (refine Kd.R_make Kd.bool (w0 := w) w.heap.size 4 rfl (N := 53) rfl 52 (.tmp 52) (.tmp 52) rfl (l.length : Int) rfl rfl Try.underlying52 (.bool false) 1 info4 rfl (by decide) (by decide) false (ok := fun _ => True) (okp := fun _ => False) rfl (fun _ _ => trivial) trivial (by omega) (by simp; omega) HA1.out.below HA1.out.room ?_); intro v4 w4 hR4 hB4 hg4 hat4; rw [Int.toNat_natCast] at hR4; obtain ⟨Ab, cb, rfl⟩ := Kd.R_slice hR4; have HB4 := Aside0.mk hR4; have HK4 : Aside0 (KeptT wr w4 []) := ⟨KeptT.grown hg4 (fun k hk => by cases hk)⟩; have HW4 := Aside0.mk hB4; clear hR4 hB4 hg4 hat4)
          have HA4 : Aside0 (Arena 57 60 w w4 w.heap.size g 40 (left l (List.replicate l.length false)) []) := ⟨by rw [left_start]; exact HA1.out.stay HK4.out (by simp) (by simp) (by simp) HW4.out⟩
          have HH4 := Aside0.mk (HH1.out.kept HK4.out (by simp))
          clear HA1 HH1
          rw [List.length_replicate] at HB4
          go_loopw [12] (fun i wq => ∃ (k : Nat) (gn : List Bool) (fs : List Int), k ≤ fr.length ∧ i = .int .i64 (k : Int) ∧ gn.length = l.length ∧ fs.length ≤ k ∧ Aside0 (Arena 57 60 w wq w.heap.size g 40 (left l gn) fs) ∧ Aside0 (HRow wq w.heap.size (.slice Ah (hands l.length).length ch) (hands l.length)) ∧ Aside0 (BRow wq w.heap.size (.slice Ab l.length cb) gn)) (fun i _ => fr.length - (intOf i).toNat)
          case atStart => exact ⟨0, _, [], Nat.zero_le _, rfl, List.length_replicate, Nat.zero_le _, HA4, HH4, HB4⟩
          case round =>
            obtain ⟨k, gn, fs, hk2, rfl, hgn, hfs, HA5, HH5, HB5⟩ := hrel
            clear HA4 HH4 HB4 HK4 HW4
            by_cases hgo : k < fr.length ∧ 0 < l.length
            · obtain ⟨hgo1, hgo2⟩ := hgo
              obtain ⟨ad, ea, hx⟩ := Kd.at_int (Kd.C_below HR1.out HA5.out.below) (k : Int) (by omega) (by omega)
              subst ea
              rw [rd_nat fr k hgo1, Int.toNat_natCast] at hx
              obtain ⟨hx0, hx1⟩ := wf8 (HWF.out _ (List.getElem_mem hgo1))
              go_wp2_with fail
              obtain ⟨j, hj⟩ : ∃ j : Nat, fr[k] % (l.length : Int) = (j : Int) := ⟨_, (Int.toNat_of_nonneg (Int.emod_nonneg fr[k] (show (l.length : Int) ≠ 0 by omega))).symm⟩
              have hjl : j < l.length := by have h := Int.emod_lt_of_pos fr[k] (show (0 : Int) < (l.length : Int) by omega); rw [hj] at h; omega
              rw [hj]
              obtain ⟨gh, ch', eh, hch, hh0, hh1⟩ := HH5.out.cells j (by rw [hands_length]; exact hjl)
              injection eh with eh1 eh2 eh3
              subst eh1
              subst eh3
              obtain ⟨gb, cb', eb, hcb, hb0, hbz⟩ := HB5.out.cells j (by omega)
              injection eb with eb1 eb2 eb3
              subst eb1
              subst eb3
              have hjh : j < (hands l.length).length := by rw [hands_length]; exact hjl
              have hcellsW : ∀ W, HRow W w.heap.size (.slice (some ⟨gh, 0, none⟩) (hands l.length).length ch) (hands l.length) → BRow W w.heap.size (.slice (some ⟨gb, 0, none⟩) l.length cb) gn →
                  W.cell? ⟨gh, j * 2, none⟩ = some (.int .i64 ((j : Int) + 1)) ∧ W.cell? ⟨gh, j * 2 + 1, none⟩ = some (.int .i64 1) ∧ W.cell? ⟨gb, j, none⟩ = some (.bool gn[j]) := by
                intro W h1 h2
                obtain ⟨gh', c1', e1, _, a1, a2⟩ := h1.cells j hjh
                injection e1 with e1
                injection e1 with e1
                injection e1 with e1
                subst e1
                obtain ⟨gb', c2', e2, _, a3, _⟩ := h2.cells j (by omega)
                injection e2 with e2
                injection e2 with e2
                injection e2 with e2
                subst e2
                rw [hands_get] at a1 a2
                exact ⟨a1, a2, a3⟩
              have HC := Aside0.mk hcellsW
              have HJ := Aside0.mk hjl
              clear hh0 hh1 hb0 hx hx0 hx1 hcellsW hj eh2 eb2 hk hlt hd hd2
              refine start_ (n := 11) (S := fun w' => w'.cell? ⟨gh, j * 2, none⟩ = some (.int .i64 ((j : Int) + 1)) ∧ w'.cell? ⟨gh, j * 2 + 1, none⟩ = some (.int .i64 1) ∧ w'.cell? ⟨gb, j, none⟩ = some (.bool gn[j])) (ds := []) #[false, false, false, false, false, false, false, false, false, false, false] (by kernel_rfl) rfl rfl (HC.out _ (HH5.out.below (below_drew1 (Below.refl _ _))) (HB5.out.below (below_drew1 (Below.refl _ _)))) (fun hHeld => ?_)
              refine pure_ (i := 0) (N := some 73) (v := ?_) (a' := ?_) #[true, false, false, false, false, false, false, false, false, false, false] rfl rfl (by kernel_rfl) (fun _ _ _ h => h) (Or.inl ⟨by rfl, ?_⟩) ?_ ?_
              rotate_left
              · intro w'
                go_simp
                with_reducible rfl
              rotate_left
              · simp (maxSteps := 2000000) only [Act.put, List.setIfInBounds_toArray, List.set_cons_zero, List.set_cons_succ, i64_w, i32_w]
                rfl
              refine pure_ (i := 1) (N := some 74) (v := ?_) (a' := ?_) #[true, true, false, false, false, false, false, false, false, false, false] rfl rfl (by kernel_rfl) (fun _ _ _ h => h) (Or.inl ⟨by rfl, ?_⟩) ?_ ?_
              rotate_left
              · intro w'
                go_simp
                with_reducible rfl
              rotate_left
              · simp (maxSteps := 2000000) only [Act.put, List.setIfInBounds_toArray, List.set_cons_zero, List.set_cons_succ, i64_w, i32_w]
                rfl
              refine pure_ (i := 2) (N := some 75) (v := ?_) (a' := ?_) #[true, true, true, false, false, false, false, false, false, false, false] rfl rfl (by kernel_rfl) (fun _ _ _ h => h) (Or.inl ⟨by rfl, ?_⟩) ?_ ?_
              rotate_left
              · intro w'
                go_simp
                with_reducible rfl
              rotate_left
              · simp (maxSteps := 2000000) only [Act.put, List.setIfInBounds_toArray, List.set_cons_zero, List.set_cons_succ, i64_w, i32_w]
                rfl
              refine pure_ (i := 3) (N := some 76) (v := ?_) (a' := ?_) #[true, true, true, true, false, false, false, false, false, false, false] rfl rfl (by kernel_rfl) (fun _ _ _ h => h) (Or.inl ⟨by rfl, ?_⟩) ?_ ?_
              rotate_left
              · intro w'
                go_simp
                with_reducible rfl
              rotate_left
              · simp (maxSteps := 2000000) only [Act.put, List.setIfInBounds_toArray, List.set_cons_zero, List.set_cons_succ, i64_w, i32_w]
                rfl
              refine take_ (i := 4) (N := some 77) (v := ?_) (a' := ?_) #[true, true, true, true, true, false, false, false, false, false, false] rfl rfl (by kernel_rfl) (fun _ _ _ h => h) (Or.inl ⟨by rfl, ?_⟩) hHeld ?_ ?_
              rotate_left
              · intro w' hS
                have s0 := hS.1; have s1 := hS.2.1; have s2 := hS.2.2; clear hS
                go_simp
                with_reducible rfl
              rotate_left
              · simp (maxSteps := 2000000) only [Act.put, List.setIfInBounds_toArray, List.set_cons_zero, List.set_cons_succ, i64_w, i32_w]
                rfl
              refine pure_ (i := 6) (N := some 79) (v := ?_) (a' := ?_) #[true, true, true, true, true, false, true, false, false, false, false] rfl rfl (by kernel_rfl) (fun _ _ _ h => h) (Or.inl ⟨by rfl, ?_⟩) ?_ ?_
              rotate_left
              · intro w'
                go_simp
                with_reducible rfl
              rotate_left
              · simp (maxSteps := 2000000) only [Act.put, List.setIfInBounds_toArray, List.set_cons_zero, List.set_cons_succ, i64_w, i32_w]
                rfl
              refine pure_ (i := 7) (N := some 80) (v := ?_) (a' := ?_) #[true, true, true, true, true, false, true, true, false, false, false] rfl rfl (by kernel_rfl) (fun _ _ _ h => h) (Or.inl ⟨by rfl, ?_⟩) ?_ ?_
              rotate_left
              · intro w'
                go_simp
                with_reducible rfl
              rotate_left
              · simp (maxSteps := 2000000) only [Act.put, List.setIfInBounds_toArray, List.set_cons_zero, List.set_cons_succ, i64_w, i32_w]
                rfl
              refine pure_ (i := 8) (N := some 81) (v := ?_) (a' := ?_) #[true, true, true, true, true, false, true, true, true, false, false] rfl rfl (by kernel_rfl) (fun _ _ _ h => h) (Or.inl ⟨by rfl, ?_⟩) ?_ ?_
              rotate_left
              · intro w'
                go_simp
                with_reducible rfl
              rotate_left
              · simp (maxSteps := 2000000) only [Act.put, List.setIfInBounds_toArray, List.set_cons_zero, List.set_cons_succ, i64_w, i32_w]
                rfl
              refine take_ (i := 9) (N := some 82) (v := ?_) (a' := ?_) #[true, true, true, true, true, false, true, true, true, true, false] rfl rfl (by kernel_rfl) (fun _ _ _ h => h) (Or.inl ⟨by rfl, ?_⟩) hHeld ?_ ?_
              rotate_left
              · intro w' hS
                have s0 := hS.1; have s1 := hS.2.1; have s2 := hS.2.2; clear hS
                go_simp
                with_reducible rfl
              rotate_left
              · simp (maxSteps := 2000000) only [Act.put, List.setIfInBounds_toArray, List.set_cons_zero, List.set_cons_succ, i64_w, i32_w]
                rfl
              refine one_ (i := 5) (N := some 78) #[true, true, true, true, true, true, true, true, true, true, false] rfl rfl (by kernel_rfl) (by decide) (fun K hK => ?_)
              refine goes_ Try.func12 (by kernel_rfl) rfl #[.pointer (some ⟨g, 0, none⟩), .agg #[.int .i64 ((j : Int) + 1), .int .i64 1]] (by rfl) rfl rfl (by (try simp only [List.map_toArray, List.map_cons, List.map_nil]); first | done | rfl) ?_
              refine (free_own j (HA5.out.then_ (below_drew1 (Below.refl _ _))) hjl hgn (by omega) (by omega)).mono ?_
              rintro e w6 ⟨rfl, fs', hfs', hA6, hk6⟩
              refine ⟨_, rfl, ?_⟩
              have HH6 := Aside0.mk ((HH5.out.below (below_drew1 (Below.refl _ _))).kept hk6 (by decide))
              have HB6 := Aside0.mk ((HB5.out.below (below_drew1 (Below.refl _ _))).kept hk6 (by decide))
              have HA6 := Aside0.mk hA6
              clear hA6 hk6
              refine hK.out _ _ (HC.out _ HH6.out HB6.out) (fun hHeld => ?_)
              clear hK K
              refine norm_ (a' := ?_) ?_ ?_
              rotate_left
              · show Act.put _ (some 78) _ = _
                simp (maxSteps := 2000000) only [Act.put, List.setIfInBounds_toArray, List.set_cons_zero, List.set_cons_succ, i64_w, i32_w]
                rfl
              refine pure_ (i := 10) (N := some 83) (v := ?_) (a' := ?_) #[true, true, true, true, true, true, true, true, true, true, true] rfl rfl (by kernel_rfl) (fun _ _ _ h => h) (Or.inl ⟨by rfl, ?_⟩) ?_ ?_
              rotate_left
              · intro w'
                go_simp
                with_reducible rfl
              rotate_left
              · simp (maxSteps := 2000000) only [Act.put, List.setIfInBounds_toArray, List.set_cons_zero, List.set_cons_succ, i64_w, i32_w]
                rfl
              refine done_ (by kernel_rfl) ?_
              have hne : ((!gn[j]) == gn[j]) = false := by cases gn[j] <;> rfl
              have hblk : ∃ cs, w6.heap[gb]? = some (.cells cs 4 (0, 0)) := by
                obtain ⟨inner, ho⟩ := Kd.R_own HB6.out
                exact own_typed ho gb rfl
              have hbz6 : w6.frozen? ⟨gb, j, none⟩ = false := by
                obtain ⟨cs, hc⟩ := hblk
                exact blk_frozen hc j
              have hcell : w6.cell? ⟨gb, j, none⟩ = some (.bool gn[j]) := (HC.out _ HH6.out HB6.out).2.2
              have HBK := Aside0.mk hblk
              have HE := Aside0.mk hfs'
              clear hblk hHeld hbz hfs'
              go_wp2_with fail
              go_roundw
              case rel =>
                have hk7 : KeptT w6 (w6.setCell ⟨gb, j, none⟩ (.bool true)) [4] := by
                  obtain ⟨cs, hc⟩ := HBK.out
                  exact .set (p := ⟨gb, j, none⟩) hc (by simp) _
                have hgb : w.heap.size ≤ gb := by
                  obtain ⟨inner, ho⟩ := Kd.R_own HB6.out
                  exact own_base ho gb rfl
                have hb7 := Kd.R_putn HB6.out (j : Int) true
                rw [Int.toNat_natCast] at hb7
                exact ⟨k + 1, gn.set j true, fs', by omega, by go_num, by rw [List.length_set]; exact hgn, by have := HE.out; omega, ⟨HA6.out.stay hk7 (by decide) (by decide) (by decide) (HA6.out.below.setCell (p := ⟨gb, j, none⟩) hgb _)⟩, ⟨HH6.out.kept hk7 (by decide)⟩, ⟨hb7⟩⟩
              case measure => simp [intOf]; omega
            · have hex : (k = fr.length) ∨ (k < fr.length ∧ l.length = 0) := by omega
              have HF0 : Aside0 (fs.length ≤ 1000) := ⟨by omega⟩
              rcases hex with hex | ⟨hex, hex2⟩
              · subst hex
                clear hgo
                go_wp2_with fail
                go_loopw [14] (fun i wq => ∃ (q : Nat), q ≤ l.length ∧ i = .int .i64 (q : Int) ∧ Aside0 (Arena 57 60 w wq w.heap.size g 40 (left l gn) fs) ∧ Aside0 (HRow wq w.heap.size (.slice Ah (hands l.length).length ch) (hands l.length)) ∧ Aside0 (BRow wq w.heap.size (.slice Ab l.length cb) gn)) (fun i _ => l.length - (intOf i).toNat)
                case atStart => exact ⟨0, Nat.zero_le _, rfl, HA5, HH5, HB5⟩
                case round =>
                  obtain ⟨q, hq, rfl, HA6, HH6, HB6⟩ := hrel
                  clear HA5 HH5 HB5
                  by_cases hlt3 : q < l.length
                  · obtain ⟨gh, ch', eh, hch, hh0, hh1⟩ := HH6.out.cells q (by rw [hands_length]; exact hlt3)
                    injection eh with eh1 eh2 eh3
                    subst eh1
                    subst eh3
                    rw [hands_get] at hh0 hh1
                    obtain ⟨gb, cb', eb, hcb, hb0, hbz⟩ := HB6.out.cells q (by omega)
                    injection eb with eb1 eb2 eb3
                    subst eb1
                    subst eb3
                    obtain ⟨ad, ea, hx⟩ := Kd.at_int (Kd.C_below HR0.out HA6.out.below) (q : Int) (by omega) (by omega)
                    subst ea
                    clear hx
                    have hjh : q < (hands l.length).length := by rw [hands_length]; exact hlt3
                    clear hk hlt hd hd2 eh2 eb2
                    obtain ⟨d, hd9⟩ : ∃ d, gn[q] = d := ⟨_, rfl⟩
                    rw [hd9] at hb0
                    go_wp2_with fail
                    cases d
                    · refine (get_own q false HA6.out hlt3 hgn (by omega) hd9).mono ?_
                      rintro e w7 ⟨rfl, hb7⟩
                      have HA7 := Aside0.mk (HA6.out.then_ hb7)
                      have HH7 := Aside0.mk (HH6.out.below hb7)
                      have HB7 := Aside0.mk (HB6.out.below hb7)
                      have hb0' := Below.cell_ hb7 hb0
                      obtain ⟨ad', ea', hx⟩ := Kd.at_int (Kd.C_below HR0.out HA7.out.below) (q : Int) (by omega) (by omega)
                      injection ea' with ea'
                      subst ea'
                      rw [rd_nat l q hlt3, Int.toNat_natCast] at hx
                      clear hb7 HA6 HH6 HB6 hb0 hd9
                      go_wp2
                      go_roundw
                      case rel => exact ⟨q + 1, by omega, by go_num, HA7, HH7, HB7⟩
                      case measure => simp [intOf]; omega
                    · refine (get_own q true HA6.out hlt3 hgn (by omega) hd9).mono ?_
                      rintro e w7 ⟨rfl, hb7⟩
                      have HA7 := Aside0.mk (HA6.out.then_ hb7)
                      have HH7 := Aside0.mk (HH6.out.below hb7)
                      have HB7 := Aside0.mk (HB6.out.below hb7)
                      have hb0' := Below.cell_ hb7 hb0
                      obtain ⟨ad', ea', hx⟩ := Kd.at_int (Kd.C_below HR0.out HA7.out.below) (q : Int) (by omega) (by omega)
                      injection ea' with ea'
                      subst ea'
                      rw [rd_nat l q hlt3, Int.toNat_natCast] at hx
                      clear hb7 HA6 HH6 HB6 hb0 hd9
                      go_wp2
                      go_roundw
                      case rel => exact ⟨q + 1, by omega, by go_num, HA7, HH7, HB7⟩
                      case measure => simp [intOf]; omega
                  · obtain rfl : q = l.length := by omega
                    go_wp2
                    go_ret
                    exact ⟨rfl, HA6.out.below⟩
              · obtain rfl : l = [] := List.length_eq_zero_iff.1 hex2
                clear hgo hex2
                have HB9 := Aside0.mk HA5.out.below
                go_wp2_with fail
                go_loopw [14] (fun i wq => i = .int .i64 0 ∧ Aside0 (Below w.heap.size w wq)) (fun _ _ => 0)
                case atStart => exact ⟨rfl, HB9⟩
                case round =>
                  obtain ⟨rfl, HB10⟩ := hrel
                  go_wp2
                  go_ret
                  exact ⟨rfl, HB10.out⟩
end Go.Proofs.Ytcdfkjcnjdbmgaa.Own
