/- Layer 09: the contracts of the document's next, find, Get. -/
import Derived.Test.YtcdfkjcnjdbmgaaDoc
namespace Go.Proofs.Ytcdfkjcnjdbmgaa.DocNext
open Go.RowKit Go.Proofs.YtcdfkjcnjdbmgaaW.PrintWords Go.Proofs.YtcdfkjcnjdbmgaaW.PrintLast Go.Proofs.YtcdfkjcnjdbmgaaW.PrintMore Go.Proofs.Ytcdfkjcnjdbmgaa.Core Go.Proofs.Ytcdfkjcnjdbmgaa.Put Go.Proofs.Ytcdfkjcnjdbmgaa.Find Go.Proofs.Ytcdfkjcnjdbmgaa.Doc
set_option linter.unusedVariables false
set_option linter.unusedSimpArgs false
def bstep (L : List Pt) (z : Int × Int) (p : Pt) : Int × Int := if (uses L p.s).2 = false ∧ z.2 < p.fr then (p.s, p.fr) else z
def best (L : List Pt) : Int × Int := L.foldl (bstep L) (0, 0)
theorem best_next (L : List Pt) (k : Nat) (h : k < L.length) : (L.take (k + 1)).foldl (bstep L) (0, 0) = bstep L ((L.take k).foldl (bstep L) (0, 0)) L[k] := by
  rw [List.take_succ_eq_append_getElem h, List.foldl_append]
  rfl
/-- The slot that is used next. -/
def Next (L : List Pt) (s : Int) : Prop := (0 < (best L).1 ∧ s = (best L).1) ∨ ((best L).1 ≤ 0 ∧ ∃ t : Nat, s = (t : Int) + 1 ∧ (uses L s).1 = 0 ∧ ∀ u : Nat, u < t → (uses L ((u : Int) + 1)).1 ≠ 0)
set_option maxHeartbeats 3200000 in
set_option maxRecDepth 100000 in
theorem dnext_calls {w0 w : World} {base g : Nat} {m n : Int} {L : List Pt} (s : Int) (hI : Doc w0 w base g m L n) (hl : L.length ≤ 1000) (hs : Next L s) (hsb : s ≤ 1000) :
    Calls Try.prog 25 #[.pointer (some ⟨g, 0, none⟩)] w fun e w' => e = .returned (.int .i64 s) ∧ w' = w := by
  have HD := Aside0.mk hI
  obtain ⟨v, hI⟩ := hI
  obtain ⟨A, c, rfl⟩ := own_slice hI.row
  have h1 : w.cell? ⟨g, 1, none⟩ = some (.slice A L.length c) := (blk_cell hI.blk 1).trans rfl
  have HI := Aside0.mk hI
  have HS := Aside0.mk hs
  clear hI hs
  go_enter Try.func25, Try.ntmps25
  go_wp2_with fail
  go_loopw [3, 4, 5] (fun vb vw vi wr => ∃ (k : Nat) (b wn : Int), k ≤ L.length ∧ vi = .int .i64 (k : Int) ∧ vb = .int .i64 b ∧ vw = .int .i64 wn ∧ Aside0 ((L.take k).foldl (bstep L) (0, 0) = (b, wn)) ∧ wr = w) (fun _ _ i _ => L.length - (intOf i).toNat)
  case atStart => exact ⟨0, 0, 0, Nat.zero_le _, rfl, rfl, rfl, ⟨rfl⟩, rfl⟩
  case round =>
    obtain ⟨k, b, wn, hk, rfl, rfl, rfl, HB, rfl⟩ := hrel
    by_cases hlt : k < L.length
    · obtain ⟨gs, c', e, hc, h2, -, -, -, h5⟩ := HI.out.cells k hlt
      injection e with e1 e2 e3
      subst e1
      subst e3
      clear e2
      have HN := Aside0.mk (best_next L k hlt)
      go_wp2_with fail
      refine (duses_calls L[k].s HD.out hl).mono ?_
      rintro e w2 ⟨rfl, rfl⟩
      obtain ⟨d, hd⟩ : ∃ d, (uses L L[k].s).2 = d := ⟨_, rfl⟩
      rw [hd]
      have HDD := Aside0.mk hd
      clear hd
      cases d with
      | true =>
        go_wp2
        go_roundw
        case rel => exact ⟨k + 1, b, wn, by omega, by go_num, rfl, rfl, ⟨by rw [HN.out, HB.out]; unfold bstep; rw [if_neg (fun h => by rw [HDD.out] at h; exact absurd h.1 (by decide))]⟩, by trivial⟩
        case measure => simp [intOf]; omega
      | false =>
        by_cases hw : wn < L[k].fr
        · have hw2 : decide (wn < L[k].fr) = true := decide_eq_true hw
          have HW := Aside0.mk hw
          clear hw
          go_wp2
          go_roundw
          case rel => exact ⟨k + 1, L[k].s, L[k].fr, by omega, by go_num, rfl, rfl, ⟨by rw [HN.out, HB.out]; unfold bstep; rw [if_pos ⟨HDD.out, HW.out⟩]⟩, by trivial⟩
          case measure => simp [intOf]; omega
        · have hw2 : decide (wn < L[k].fr) = false := decide_eq_false hw
          have HW := Aside0.mk hw
          clear hw
          go_wp2
          go_roundw
          case rel => exact ⟨k + 1, b, wn, by omega, by go_num, rfl, rfl, ⟨by rw [HN.out, HB.out]; unfold bstep; rw [if_neg (fun h => by have h1 := HW.out; have h2 : wn < L[k].fr := h.2; omega)]⟩, by trivial⟩
          case measure => simp [intOf]; omega
    · obtain rfl : k = L.length := by omega
      have HB2 := HB.out
      rw [List.take_length] at HB2
      have HB3 : Aside0 (best L = (b, wn)) := ⟨HB2⟩
      clear HB2 HB hlt hk
      rcases HS.out with ⟨ha, hb⟩ | ⟨ha, t, ht, hu, hall⟩
      · rw [HB3.out] at ha hb
        simp only at ha hb
        subst hb
        have hp : decide (0 < s) = true := decide_eq_true ha
        go_wp2
        go_ret
        exact ⟨rfl, rfl⟩
      · rw [HB3.out] at ha
        simp only at ha
        have hp : decide (0 < b) = false := decide_eq_false (by omega)
        have HT := Aside0.mk (And.intro ht (And.intro hu hall))
        clear ht hu hall
        go_wp2_with fail
        go_loopw [8] (fun vs wr2 => ∃ u : Nat, u ≤ t ∧ vs = .int .i64 ((u : Int) + 1) ∧ wr2 = wr) (fun i _ => t + 2 - (intOf i).toNat)
        case atStart => exact ⟨0, Nat.zero_le _, rfl, rfl⟩
        case round =>
          obtain ⟨u, hu, rfl, rfl⟩ := hrel
          go_wp2_with fail
          refine (duses_calls ((u : Int) + 1) HD.out hl).mono ?_
          rintro e w2 ⟨rfl, rfl⟩
          by_cases hlt : u < t
          · have hne : (((uses L ((u : Int) + 1)).1 : Int) == 0) = false := by have := HT.out.2.2 u hlt; simpa using this
            have hub : u + 1 ≤ 1000 := by have := HT.out.1; omega
            go_wp2
            go_roundw
            case rel => exact ⟨u + 1, by omega, by go_num, by trivial⟩
            case measure => simp [intOf]; omega
          · obtain rfl : u = t := by omega
            have h0 : (uses L ((u : Int) + 1)).1 = 0 := by have := HT.out.2.1; rwa [HT.out.1] at this
            rw [h0]
            clear h0
            have he := HT.out.1
            subst he
            go_wp2
            go_ret
            exact ⟨rfl, rfl⟩
def hit (s h : Int) (p : Pt) : Bool := p.s == s && p.g == h && p.lies
set_option maxHeartbeats 3200000 in
set_option maxRecDepth 100000 in
theorem dfind_no {w0 w : World} {base g : Nat} {m n : Int} {L : List Pt} (s h : Int) (hno : ∀ p ∈ L, hit s h p = false) (hI : Doc w0 w base g m L n) (hl : L.length ≤ 1000) :
    Calls Try.prog 28 #[.pointer (some ⟨g, 0, none⟩), .agg #[.int .i64 s, .int .i64 h]] w fun e w' => e = .returned (.int .i64 (-1)) ∧ Below w.heap.size w w' := by
  obtain ⟨v, hI⟩ := hI
  obtain ⟨A, c, rfl⟩ := own_slice hI.row
  have HB0 := Aside0.mk (below_alloc (Below.refl w.heap.size w) (.cells #[.int .i64 s, .int .i64 h] 31))
  have HX0 := Aside0.mk (blk_new w (.cells #[.int .i64 s, .int .i64 h] 31))
  have HI := Aside0.mk hI
  have HALL := Aside0.mk hno
  clear hno
  clear hI
  go_enter Try.func28, Try.ntmps28
  go_wp2_with fail
  go_loopw [5] (fun vi wr => ∃ k : Nat, k ≤ L.length ∧ vi = .int .i64 (k : Int) ∧ Aside0 (∀ k' (h' : k' < k), hit s h (L.getD k' ⟨0, 0, 0, false, 0⟩) = false) ∧ Aside0 (Below (w.alloc (.cells #[.int .i64 s, .int .i64 h] 31)).heap.size (w.alloc (.cells #[.int .i64 s, .int .i64 h] 31)) wr)) (fun i _ => L.length - (intOf i).toNat)
  case atStart => exact ⟨0, Nat.zero_le _, rfl, ⟨fun k' h' => absurd h' (Nat.not_lt_zero _)⟩, ⟨Below.refl _ _⟩⟩
  case round =>
    obtain ⟨k, hk, rfl, HNO, HBW⟩ := hrel
    have HX := Aside0.mk (blk_below' HX0.out HBW.out)
    have hx0 := (blk_cell HX.out 0).trans rfl
    have hx1 := (blk_cell HX.out 1).trans rfl
    have HBW2 : Aside0 (Below w.heap.size w wr) := ⟨below_step HB0.out HBW.out⟩
    have HI2 := Aside0.mk (HI.out.stay (KeptT.below (below_step HB0.out HBW.out) []) (by simp) (by simp) (below_step' HI.out.below HI.out.room (below_step HB0.out HBW.out)))
    have h1 : wr.cell? ⟨g, 1, none⟩ = some (.slice A L.length c) := (blk_cell HI2.out.blk 1).trans rfl
    by_cases hlt : k < L.length
    · obtain ⟨gs, c', e, hc, h2, h3, -, h4, -⟩ := HI2.out.cells k hlt
      injection e with e1 e2 e3
      subst e1
      subst e3
      clear e2
      have HGD : Aside0 (L.getD k ⟨0, 0, 0, false, 0⟩ = L[k]) := ⟨by simp [hlt]⟩
      by_cases hs : L[k].s = s
      · have es : (L[k].s == s) = true := by simpa using hs
        by_cases hh : L[k].g = h
        · have eh : (L[k].g == h) = true := by simpa using hh
          cases hd : L[k].lies with
          | false =>
            have HMISS : Aside0 (hit s h (L.getD k ⟨0, 0, 0, false, 0⟩) = false) := ⟨by rw [HGD.out]; unfold hit; rw [hd]; simp⟩
            rw [hd] at h4
            clear hd hs hh
            go_wp2_with fail
            repeat (go_quiet (fail); try go_wp2)
            go_roundw
            case rel => exact ⟨k + 1, by omega, by go_num, ⟨fun k' hk' => by
              rcases Nat.lt_or_ge k' k with h | h
              · exact HNO.out k' h
              · have : k' = k := by omega
                subst this
                exact HMISS.out⟩, ⟨by repeat (first | (with_reducible first | exact HBW.out | apply below_alloc | apply pw_below_drewN | apply below_drew1) | exact HBW.out)⟩⟩
            case measure => simp [intOf]; omega
          | true =>
            have HH : Aside0 (hit s h (L.getD k ⟨0, 0, 0, false, 0⟩) = true) := ⟨by rw [HGD.out]; unfold hit; rw [hd, es, eh]; rfl⟩
            rw [hd] at h4
            clear hd hs hh
            exact absurd HH.out (by rw [HGD.out, HALL.out _ (List.getElem_mem hlt)]; decide)
        · have eh : (L[k].g == h) = false := by simpa using hh
          have HMISS : Aside0 (hit s h (L.getD k ⟨0, 0, 0, false, 0⟩) = false) := ⟨by rw [HGD.out]; unfold hit; rw [eh]; simp⟩
          clear hs hh
          go_wp2_with fail
          repeat (go_quiet (fail); try go_wp2)
          go_roundw
          case rel => exact ⟨k + 1, by omega, by go_num, ⟨fun k' hk' => by
            rcases Nat.lt_or_ge k' k with h | h
            · exact HNO.out k' h
            · have : k' = k := by omega
              subst this
              exact HMISS.out⟩, ⟨by repeat (first | (with_reducible first | exact HBW.out | apply below_alloc | apply pw_below_drewN | apply below_drew1) | exact HBW.out)⟩⟩
          case measure => simp [intOf]; omega
      · have es : (L[k].s == s) = false := by simpa using hs
        have HMISS : Aside0 (hit s h (L.getD k ⟨0, 0, 0, false, 0⟩) = false) := ⟨by rw [HGD.out]; unfold hit; rw [es]; simp⟩
        clear hs
        go_wp2_with fail
        repeat (go_quiet (fail); try go_wp2)
        go_roundw
        case rel => exact ⟨k + 1, by omega, by go_num, ⟨fun k' hk' => by
          rcases Nat.lt_or_ge k' k with h | h
          · exact HNO.out k' h
          · have : k' = k := by omega
            subst this
            exact HMISS.out⟩, ⟨by repeat (first | (with_reducible first | exact HBW.out | apply below_alloc | apply pw_below_drewN | apply below_drew1) | exact HBW.out)⟩⟩
        case measure => simp [intOf]; omega
    · obtain rfl : k = L.length := by omega
      go_wp2
      go_ret
      exact ⟨rfl, HBW2.out⟩

set_option maxHeartbeats 3200000 in
set_option maxRecDepth 100000 in
theorem dfind_yes {w0 w : World} {base g : Nat} {m n : Int} {L : List Pt} (s h : Int) (j : Nat) (hj : j < L.length) (hy : hit s h L[j] = true) (hno : ∀ k' (h' : k' < j), hit s h (L.getD k' ⟨0, 0, 0, false, 0⟩) = false) (hI : Doc w0 w base g m L n) (hl : L.length ≤ 1000) :
    Calls Try.prog 28 #[.pointer (some ⟨g, 0, none⟩), .agg #[.int .i64 s, .int .i64 h]] w fun e w' => e = .returned (.int .i64 (j : Int)) ∧ Below w.heap.size w w' := by
  obtain ⟨v, hI⟩ := hI
  obtain ⟨A, c, rfl⟩ := own_slice hI.row
  have HB0 := Aside0.mk (below_alloc (Below.refl w.heap.size w) (.cells #[.int .i64 s, .int .i64 h] 31))
  have HX0 := Aside0.mk (blk_new w (.cells #[.int .i64 s, .int .i64 h] 31))
  have HI := Aside0.mk hI
  have HALL := Aside0.mk (And.intro hy hno)
  clear hno hy
  clear hI
  go_enter Try.func28, Try.ntmps28
  go_wp2_with fail
  go_loopw [5] (fun vi wr => ∃ k : Nat, k ≤ j ∧ vi = .int .i64 (k : Int) ∧ Aside0 (∀ k' (h' : k' < k), hit s h (L.getD k' ⟨0, 0, 0, false, 0⟩) = false) ∧ Aside0 (Below (w.alloc (.cells #[.int .i64 s, .int .i64 h] 31)).heap.size (w.alloc (.cells #[.int .i64 s, .int .i64 h] 31)) wr)) (fun i _ => L.length - (intOf i).toNat)
  case atStart => exact ⟨0, Nat.zero_le _, rfl, ⟨fun k' h' => absurd h' (Nat.not_lt_zero _)⟩, ⟨Below.refl _ _⟩⟩
  case round =>
    obtain ⟨k, hk, rfl, HNO, HBW⟩ := hrel
    have HX := Aside0.mk (blk_below' HX0.out HBW.out)
    have hx0 := (blk_cell HX.out 0).trans rfl
    have hx1 := (blk_cell HX.out 1).trans rfl
    have HBW2 : Aside0 (Below w.heap.size w wr) := ⟨below_step HB0.out HBW.out⟩
    have HI2 := Aside0.mk (HI.out.stay (KeptT.below (below_step HB0.out HBW.out) []) (by simp) (by simp) (below_step' HI.out.below HI.out.room (below_step HB0.out HBW.out)))
    have h1 : wr.cell? ⟨g, 1, none⟩ = some (.slice A L.length c) := (blk_cell HI2.out.blk 1).trans rfl
    by_cases hlt : k < L.length
    · obtain ⟨gs, c', e, hc, h2, h3, -, h4, -⟩ := HI2.out.cells k hlt
      injection e with e1 e2 e3
      subst e1
      subst e3
      clear e2
      have HGD : Aside0 (L.getD k ⟨0, 0, 0, false, 0⟩ = L[k]) := ⟨by simp [hlt]⟩
      by_cases hs : L[k].s = s
      · have es : (L[k].s == s) = true := by simpa using hs
        by_cases hh : L[k].g = h
        · have eh : (L[k].g == h) = true := by simpa using hh
          cases hd : L[k].lies with
          | false =>
            have HMISS : Aside0 (hit s h (L.getD k ⟨0, 0, 0, false, 0⟩) = false) := ⟨by rw [HGD.out]; unfold hit; rw [hd]; simp⟩
            rw [hd] at h4
            clear hd hs hh
            have hkj : k + 1 ≤ j := by
              rcases Nat.lt_or_ge k j with hl' | hl'
              · exact hl'
              · have : k = j := by omega
                subst this
                have h2 := HMISS.out
                rw [HGD.out, HALL.out.1] at h2
                cases h2
            go_wp2_with fail
            repeat (go_quiet (fail); try go_wp2)
            go_roundw
            case rel => exact ⟨k + 1, by omega, by go_num, ⟨fun k' hk' => by
              rcases Nat.lt_or_ge k' k with h | h
              · exact HNO.out k' h
              · have : k' = k := by omega
                subst this
                exact HMISS.out⟩, ⟨by repeat (first | (with_reducible first | exact HBW.out | apply below_alloc | apply pw_below_drewN | apply below_drew1) | exact HBW.out)⟩⟩
            case measure => simp [intOf]; omega
          | true =>
            have HH : Aside0 (hit s h (L.getD k ⟨0, 0, 0, false, 0⟩) = true) := ⟨by rw [HGD.out]; unfold hit; rw [hd, es, eh]; rfl⟩
            rw [hd] at h4
            clear hd hs hh
            have hkj : k = j := by
              rcases Nat.lt_or_ge k j with hl' | hl'
              · exact absurd HH.out (by rw [HALL.out.2 k hl']; decide)
              · omega
            subst hkj
            clear HH
            go_wp2_with fail
            repeat (go_quiet (fail); try go_wp2)
            go_ret
            exact ⟨rfl, by repeat (first | (with_reducible first | exact HBW2.out | apply below_alloc | apply pw_below_drewN | apply below_drew1) | exact HBW2.out)⟩
        · have eh : (L[k].g == h) = false := by simpa using hh
          have HMISS : Aside0 (hit s h (L.getD k ⟨0, 0, 0, false, 0⟩) = false) := ⟨by rw [HGD.out]; unfold hit; rw [eh]; simp⟩
          clear hs hh
          have hkj : k + 1 ≤ j := by
            rcases Nat.lt_or_ge k j with hl' | hl'
            · exact hl'
            · have : k = j := by omega
              subst this
              have h2 := HMISS.out
              rw [HGD.out, HALL.out.1] at h2
              cases h2
          go_wp2_with fail
          repeat (go_quiet (fail); try go_wp2)
          go_roundw
          case rel => exact ⟨k + 1, by omega, by go_num, ⟨fun k' hk' => by
            rcases Nat.lt_or_ge k' k with h | h
            · exact HNO.out k' h
            · have : k' = k := by omega
              subst this
              exact HMISS.out⟩, ⟨by repeat (first | (with_reducible first | exact HBW.out | apply below_alloc | apply pw_below_drewN | apply below_drew1) | exact HBW.out)⟩⟩
          case measure => simp [intOf]; omega
      · have es : (L[k].s == s) = false := by simpa using hs
        have HMISS : Aside0 (hit s h (L.getD k ⟨0, 0, 0, false, 0⟩) = false) := ⟨by rw [HGD.out]; unfold hit; rw [es]; simp⟩
        clear hs
        have hkj : k + 1 ≤ j := by
          rcases Nat.lt_or_ge k j with hl' | hl'
          · exact hl'
          · have : k = j := by omega
            subst this
            have h2 := HMISS.out
            rw [HGD.out, HALL.out.1] at h2
            cases h2
        go_wp2_with fail
        repeat (go_quiet (fail); try go_wp2)
        go_roundw
        case rel => exact ⟨k + 1, by omega, by go_num, ⟨fun k' hk' => by
          rcases Nat.lt_or_ge k' k with h | h
          · exact HNO.out k' h
          · have : k' = k := by omega
            subst this
            exact HMISS.out⟩, ⟨by repeat (first | (with_reducible first | exact HBW.out | apply below_alloc | apply pw_below_drewN | apply below_drew1) | exact HBW.out)⟩⟩
        case measure => simp [intOf]; omega
    · omega

set_option maxHeartbeats 1600000 in
theorem dget_no {w0 w : World} {base g : Nat} {m n : Int} {L : List Pt} (s h : Int) (hno : ∀ p ∈ L, hit s h p = false) (hI : Doc w0 w base g m L n) (hl : L.length ≤ 1000) :
    Calls Try.prog 15 #[.pointer (some ⟨g, 0, none⟩), .agg #[.int .i64 s, .int .i64 h]] w fun e w' => e = .returned (.tuple #[.int .i64 0, .bool false]) ∧ Below w.heap.size w w' := by
  have HI := Aside0.mk hI
  have HNO := Aside0.mk hno
  clear hI hno
  go_enter Try.func15, Try.ntmps15
  go_wp2_with (go_at_call 28; refine (dfind_no s h HNO.out (HI.out.then_ (below_alloc (Below.refl _ _) _)) hl).mono ?_; rintro e w2 ⟨rfl, hb2⟩; have HB := Aside0.mk (below_step (below_alloc (Below.refl w.heap.size w) _) hb2); clear hb2)
  go_ret2
  exact ⟨rfl, HB.out⟩
set_option maxHeartbeats 1600000 in
theorem dget_yes {w0 w : World} {base g : Nat} {m n : Int} {L : List Pt} (s h : Int) (j : Nat) (hj : j < L.length) (hy : hit s h L[j] = true) (hno : ∀ k' (h' : k' < j), hit s h (L.getD k' ⟨0, 0, 0, false, 0⟩) = false) (hI : Doc w0 w base g m L n) (hl : L.length ≤ 1000) :
    Calls Try.prog 15 #[.pointer (some ⟨g, 0, none⟩), .agg #[.int .i64 s, .int .i64 h]] w fun e w' => e = .returned (.tuple #[.int .i64 L[j].x, .bool true]) ∧ Below w.heap.size w w' := by
  have HI := Aside0.mk hI
  have HNO := Aside0.mk (And.intro hy hno)
  clear hI hno hy
  go_enter Try.func15, Try.ntmps15
  go_wp2_with (go_at_call 28; refine (dfind_yes s h j hj HNO.out.1 HNO.out.2 (HI.out.then_ (below_alloc (Below.refl _ _) _)) hl).mono ?_; rintro e w2 ⟨rfl, hb2⟩; have HB := Aside0.mk (below_step (below_alloc (Below.refl w.heap.size w) _) hb2); clear hb2; obtain ⟨v2, hI2⟩ := HI.out.then_ HB.out; obtain ⟨gs, c2, rfl, hc, -, -, hx, -, -⟩ := hI2.cells j hj; have h1 := (blk_cell hI2.blk 1).trans rfl; clear hI2)
  go_ret2
  exact ⟨rfl, HB.out⟩
end Go.Proofs.Ytcdfkjcnjdbmgaa.DocNext
