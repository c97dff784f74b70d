/- The contract of Run: pick by pick, over toys. No condition but that what it reads is not what it writes, and a bound on lengths. -/
import Derived.Test.YtbojnjomhjajaaaToy
namespace Go.Proofs.Ytbojnjomhjajaaa.Run
open Go.RowKit Go.Proofs.YtbojnjomhjajaaaW.PrintWords Go.Proofs.YtbojnjomhjajaaaW.PrintLast Go.Proofs.YtbojnjomhjajaaaW.PrintMore Go.Proofs.Ytbojnjomhjajaaa.Toy
set_option linter.unusedVariables false
set_option linter.unusedSimpArgs false

/-- A worker's value: none, or the toy that lies in a block. -/
def encW : Option Nat → Value
  | none => .nilIface
  | some g => .iface 36 (.pointer (some ⟨g, 0, none⟩))
theorem encW_one (x : Option Nat) : (encW x).oneCell' = true := by cases x <;> rfl
def kw : Kd (Option Nat) := Kd.scalar encW encW_one
theorem m_ready (a : Addr) (w : World) : (method 161 36 (.pointer (some a)) "Ready").run Try.prog w = .ok (33, .pointer (some a)) w := by kernel_rfl
theorem m_step (a : Addr) (w : World) : (method 161 36 (.pointer (some a)) "Step").run Try.prog w = .ok (34, .pointer (some a)) w := by kernel_rfl

/-- A row of numbers of the calls' own. -/
def Row (w : World) (base : Nat) (v : Value) (xs : List Int) : Prop := Kd.R (Kd.int .i64) 3 w base (fun _ => True) v xs
section
variable {w w' : World} {base : Nat} {v : Value} {xs : List Int} {ok : Nat → Prop}
theorem Row.of (h : Kd.R (Kd.int .i64) 3 w base ok v xs) : Row w base v xs := Kd.R_mono h (fun _ _ => trivial)
theorem Row.to (h : Row w base v xs) (hok : ∀ k, v.ownBlock = some k → ok k) : Kd.R (Kd.int .i64) 3 w base ok v xs := ⟨hok, h.2.imp_ (fun _ _ hp => hp)⟩
theorem Row.lt (h : Row w base v xs) {k : Nat} (hk : v.ownBlock = some k) : k < w.heap.size := Kd.R_lt h k hk
theorem Row.keep (h : Row w base v xs) (hm : ∀ k, v.ownBlock = some k → w'.heap[k]? = w.heap[k]?) : Row w' base v xs :=
  Row.of (Kd.R_move (Row.to (ok := fun k => v.ownBlock = some k) h (fun _ hk => hk)) hm)
theorem Row.ne (h : Row w base v xs) {g t : Nat} {cs : Array Value} (hb : w.heap[g]? = some (.cells cs t (0, 0))) (ht : 3 ≠ t) : v.ownBlock ≠ some g := fun e => Kd.R_ne h hb ht e.symm
theorem Row.kept {S : Nat → Prop} (h : Row w base v xs) (hk : Kept w w' S) (hn : ∀ k, v.ownBlock = some k → ¬ S k) : Row w' base v xs :=
  h.keep (fun k e => hk.2 k (h.lt e) (hn k e))
end

/-- What lies there: the toys, their blocks being gs; the list of all steps. -/
structure Inv (w0 w : World) (base lb : Nat) (gs : List Nat) (sts : List St) (v : Value) (xs : List Int) : Prop where
  len : gs.length = sts.length
  toys : ∀ i (h : i < gs.length) (h' : i < sts.length), w.heap[gs[i]]? = some (.cells (cells lb sts[i]) 38 (0, 0))
  nodup : ∀ i j (h : i < gs.length) (h' : j < gs.length), i ≠ j → gs[i] ≠ gs[j]
  old : ∀ g ∈ gs, base ≤ g
  log : w.heap[lb]? = some (.cells #[v] 22 (0, 0))
  lold : base ≤ lb
  row : Row w base v xs
  below : Below base w0 w

section
variable {w0 w w' : World} {base lb : Nat} {gs : List Nat} {sts : List St} {v : Value} {xs : List Int}
theorem Inv.toy_ne (h : Inv w0 w base lb gs sts v xs) {i : Nat} (hi : i < gs.length) : gs[i] ≠ lb := blk_ne (h.toys i hi (h.len ▸ hi)) h.log (by decide)
theorem Inv.room (h : Inv w0 w base lb gs sts v xs) : base ≤ w.heap.size := Nat.le_of_lt (Nat.lt_of_le_of_lt h.lold (blk_lt h.log))
/-- One toy's cells are others, all else stays. -/
theorem Inv.turn (h : Inv w0 w base lb gs sts v xs) {j : Nat} (hj : j < gs.length) (t : St) (hb : w'.heap[gs[j]]? = some (.cells (cells lb t) 38 (0, 0))) (hk : Kept w w' (fun k => k = gs[j])) (hbel : Below base w0 w') :
    Inv w0 w' base lb gs (sts.set j t) v xs where
  len := by rw [List.length_set]; exact h.len
  toys := fun i hi hi' => by
    rw [List.length_set] at hi'
    rw [List.getElem_set]
    by_cases e : j = i
    · subst e; rw [if_pos rfl]; exact hb
    · rw [if_neg e]; exact blk_kept (h.toys i hi hi') hk (fun e' => h.nodup i j hi hj (fun x => e x.symm) e')
  nodup := h.nodup
  old := h.old
  log := blk_kept h.log hk (fun e => h.toy_ne hj e.symm)
  lold := h.lold
  row := h.row.kept hk (fun k e e' => h.row.ne (h.toys j hj (h.len ▸ hj)) (by decide) (e' ▸ e))
  below := hbel
/-- Nothing of it is touched. -/
theorem Inv.stay (h : Inv w0 w base lb gs sts v xs) {S : Nat → Prop} (hk : Kept w w' S) (hbel : Below base w0 w') (hg : ∀ g ∈ gs, ¬ S g) (hl : ¬ S lb) (hv : ∀ k, v.ownBlock = some k → ¬ S k) : Inv w0 w' base lb gs sts v xs :=
  { h with toys := fun i hi hi' => blk_kept (h.toys i hi hi') hk (hg _ (List.getElem_mem hi)), log := blk_kept h.log hk hl, row := h.row.kept hk hv, below := hbel }

/-- Two rows of one kind, apart. -/
def Apart (u v : Value) : Prop := ∀ k, u.ownBlock = some k → v.ownBlock ≠ some k
theorem apart_step {u u' vo : Value} {os : List Int} (h : Apart u vo) (hO : Row w base vo os) (hat : u'.ownBlock = u.ownBlock ∨ ∃ b, u'.ownBlock = some b ∧ w.heap.size ≤ b) : Apart u' vo := by
  intro k e e'
  rcases hat with hat | ⟨b, hb, hle⟩
  · exact h k (hat ▸ e) e'
  · have h1 := hO.lt e'
    rw [hb] at e
    injection e with e
    omega
theorem apart_step' {u vo vo' : Value} {ys : List Int} (h : Apart u vo) (hO : Row w base u ys) (hat : vo'.ownBlock = vo.ownBlock ∨ ∃ b, vo'.ownBlock = some b ∧ w.heap.size ≤ b) : Apart u vo' := by
  intro k e e'
  rcases hat with hat | ⟨b, hb, hle⟩
  · exact h k e (hat ▸ e')
  · have h1 := hO.lt e
    rw [hb] at e'
    injection e' with e'
    omega
theorem where_step {S : Nat → Prop} {u u' : Value} {n : Nat} (h : ∀ k, u.ownBlock = some k → S k ∨ n ≤ k) (hn : n ≤ w.heap.size) (hat : u'.ownBlock = u.ownBlock ∨ ∃ b, u'.ownBlock = some b ∧ w.heap.size ≤ b) : ∀ k, u'.ownBlock = some k → S k ∨ n ≤ k := by
  intro k e
  rcases hat with hat | ⟨b, hb, hle⟩
  · exact h k (hat ▸ e)
  · rw [hb] at e
    injection e with e
    right; omega
theorem new_step {u u' : Value} {n : Nat} (h : ∀ k, u.ownBlock = some k → n ≤ k) (hn : n ≤ w.heap.size) (hat : u'.ownBlock = u.ownBlock ∨ ∃ b, u'.ownBlock = some b ∧ w.heap.size ≤ b) : ∀ k, u'.ownBlock = some k → n ≤ k := by
  intro k e
  rcases hat with hat | ⟨b, hb, hle⟩
  · exact h k (hat ▸ e)
  · rw [hb] at e
    injection e with e
    omega
/-- Another row grew. -/
theorem Inv.stay_row (h : Inv w0 w base lb gs sts v xs) {vo : Value} {os : List Int} (hg : w.grownBy w' vo.ownBlock) (hbel : Below base w0 w') (hO : Row w base vo os) (ha : Apart v vo) : Inv w0 w' base lb gs sts v xs :=
  h.stay (S := fun k => vo.ownBlock = some k) (Kept.of_grown hg (Kept.refl w _) (fun k e => .inl e)) hbel
    (fun g hg' e => by obtain ⟨i, hi, rfl⟩ := List.mem_iff_getElem.1 hg'; exact hO.ne (h.toys i hi (h.len ▸ hi)) (by decide) e) (fun e => hO.ne h.log (by decide) e) ha

theorem ready_inv (h : Inv w0 w base lb gs sts v xs) (j : Nat) (hj : j < gs.length) (hj' : j < sts.length) :
    Calls Try.prog 33 #[.pointer (some ⟨gs[j], 0, none⟩)] w fun e w' => e = .returned (.bool (decide (0 < sts[j].left))) ∧ Inv w0 w' base lb gs (sts.set j { sts[j] with asked := wrap64 (sts[j].asked + 1) }) v xs ∧ Kept w w' (fun k => k = gs[j]) := by
  refine (ready_calls w gs[j] lb sts[j] (h.toys j hj hj')).mono ?_
  rintro e w' ⟨rfl, rfl⟩
  have hk : Kept w (w.setCell ⟨gs[j], 2, none⟩ (.int .i64 (wrap64 (sts[j].asked + 1)))) (fun k => k = gs[j]) := (Kept.refl w (fun k => k = gs[j])).setCell (p := ⟨gs[j], 2, none⟩) (.inl rfl) _
  exact ⟨rfl, h.turn hj _ (blk_put (h.toys j hj hj') 2 _ (cells_asked _ _ _)) hk (h.below.setCell (h.old _ (List.getElem_mem hj)) _), hk⟩

theorem step_inv (h : Inv w0 w base lb gs sts v xs) (j : Nat) (hj : j < gs.length) (hj' : j < sts.length) (hlen : xs.length ≤ 1000000) :
    Calls Try.prog 34 #[.pointer (some ⟨gs[j], 0, none⟩)] w fun e w' => e = .returned (.tuple #[]) ∧ ∃ v', Inv w0 w' base lb gs (sts.set j { sts[j] with left := wrap64 (sts[j].left - 1) }) v' (xs ++ [sts[j].n]) ∧
      Kept w w' (fun k => k = gs[j] ∨ k = lb ∨ v.ownBlock = some k) ∧ (v'.ownBlock = v.ownBlock ∨ ∃ b, v'.ownBlock = some b ∧ w.heap.size ≤ b) := by
  refine (step_calls w gs[j] lb base sts[j] v xs (fun _ => True) (h.toys j hj hj') h.log h.row w0 h.below (h.old _ (List.getElem_mem hj)) h.lold (fun _ _ => trivial) hlen).mono ?_
  rintro e w' ⟨rfl, v', hb, hl, hR, hbel, hk, hat⟩
  refine ⟨rfl, v', ⟨by rw [List.length_set]; exact h.len, fun i hi hi' => ?_, h.nodup, h.old, hl, h.lold, hR, hbel⟩, hk, hat⟩
  rw [List.length_set] at hi'
  rw [List.getElem_set]
  by_cases e : j = i
  · subst e; rw [if_pos rfl]; exact hb
  · rw [if_neg e]
    refine blk_kept (h.toys i hi hi') hk ?_
    rintro (e' | e' | e')
    · exact h.nodup i j hi hj (fun x => e x.symm) e'
    · exact h.toy_ne hi e'
    · exact h.row.ne (h.toys i hi hi') (by decide) e'
end

/-- One pick. -/
def pick (z : List St × List Int × List Int) (p : Int) : List St × List Int × List Int :=
  match z.1[p.toNat]? with
  | none => z
  | some t => if p < 0 then z else
    if 0 < t.left then (z.1.set p.toNat { t with left := wrap64 (t.left - 1), asked := wrap64 (t.asked + 1) }, z.2.1 ++ [t.n], z.2.2 ++ [p])
    else (z.1.set p.toNat { t with asked := wrap64 (t.asked + 1) }, z.2.1, z.2.2)
theorem pick_out (z : List St × List Int × List Int) (p : Int) (h : p < 0 ∨ z.1.length ≤ p.toNat) : pick z p = z := by
  unfold pick
  rcases h with h | h
  · cases z.1[p.toNat]? <;> simp [h]
  · rw [List.getElem?_eq_none h]
theorem pick_no (T : List St) (ys os : List Int) (j : Nat) (hj : j < T.length) (h : ¬ 0 < T[j].left) : pick (T, ys, os) (j : Int) = (T.set j { T[j] with asked := wrap64 (T[j].asked + 1) }, ys, os) := by
  unfold pick
  simp only [Int.toNat_natCast, List.getElem?_eq_getElem hj]
  rw [if_neg (by omega), if_neg h]
theorem pick_yes (T : List St) (ys os : List Int) (j : Nat) (hj : j < T.length) (h : 0 < T[j].left) :
    pick (T, ys, os) (j : Int) = (T.set j { T[j] with left := wrap64 (T[j].left - 1), asked := wrap64 (T[j].asked + 1) }, ys ++ [T[j].n], os ++ [(j : Int)]) := by
  unfold pick
  simp only [Int.toNat_natCast, List.getElem?_eq_getElem hj]
  rw [if_neg (by omega), if_pos h]
theorem fold_next (z : List St × List Int × List Int) (ps : List Int) (k : Nat) (h : k < ps.length) (r : List St × List Int × List Int) (hr : (ps.take k).foldl pick z = r) : (ps.take (k + 1)).foldl pick z = pick r (rd ps (k : Int)) := by
  rw [List.take_succ_eq_append_getElem h, List.foldl_append, hr]
  simp only [List.foldl_cons, List.foldl_nil]
  congr 1
  simp [rd, h]

set_option maxHeartbeats 3200000 in
set_option maxRecDepth 100000 in
theorem run_calls (w0 w : World) (base lb : Nat) (gs : List Nat) (m : Nat) (sts : List St) (v : Value) (xs : List Int) (S : Nat → Prop) (A0 : Option Addr) (c0 : Nat) (A1 : Option Addr) (c1 : Nat) (ps : List Int)
    (hI : Inv w0 w base lb gs sts v xs) (hS : ∀ k, (k ∈ gs ∨ k = lb ∨ v.ownBlock = some k) → S k)
    (hws : ∀ W, Kept w W S → Kd.C kw W A0 (gs.length + m) (gs.map some ++ List.replicate m none)) (hwc : gs.length + m ≤ c0)
    (hps : ∀ W, Kept w W S → Kd.C (Kd.int .i64) W A1 ps.length ps) (hpc : ps.length ≤ c1) (hxs : xs.length + ps.length ≤ 1000000) :
    Calls Try.prog 10 #[.slice A0 (gs.length + m) c0, .slice A1 ps.length c1] w fun e w' => ∃ vo T ys os u, e = .returned vo ∧ ps.foldl pick (sts, xs, []) = (T, ys, os) ∧ Inv w0 w' base lb gs T u ys ∧ Row w' base vo os ∧ (∀ k, vo.ownBlock = some k → w.heap.size ≤ k) ∧ Apart u vo ∧ Kept w w' S ∧
      (∀ k, u.ownBlock = some k → S k ∨ w.heap.size ≤ k) := by
  have HI := Aside0.mk hI
  have HWS := Aside0.mk hws
  have HPS := Aside0.mk hps
  have hn : gs.length + m ≤ 9223372036854775807 := Kd.C_max (hws w (Kept.refl _ _))
  have hsz := hI.below.size
  have HV0 : Aside0 (∀ k, v.ownBlock = some k → S k ∨ w.heap.size ≤ k) := ⟨fun k hk => .inl (hS k (.inr (.inr hk)))⟩
  have mr := m_ready
  have ms := m_step
  clear hI hws hps
  go_enter Try.func10, Try.ntmps10
  go_wp2
  go_loopw [5, 10] (fun vo i wr => ∃ (k : Nat) (T : List St) (ys os : List Int) (u : Value), k ≤ ps.length ∧ i = .int .i64 k ∧ Aside0 ((ps.take k).foldl pick (sts, xs, []) = (T, ys, os)) ∧
      Aside0 (Inv w0 wr base lb gs T u ys) ∧ Aside0 (Row wr base vo os) ∧ Aside0 (∀ k, vo.ownBlock = some k → w.heap.size ≤ k) ∧ Aside0 (Apart u vo) ∧ Aside0 (Kept w wr S) ∧ Aside0 (∀ k, u.ownBlock = some k → S k ∨ w.heap.size ≤ k) ∧
      Aside0 (os.length ≤ k ∧ ys.length ≤ xs.length + k)) (fun _ i _ => ps.length - (intOf i).toNat)
  case atStart => exact ⟨0, sts, xs, [], v, Nat.zero_le _, rfl, ⟨rfl⟩, HI, ⟨Kd.R_nil _ _ _ _ _⟩, ⟨fun k h => by simp [Value.ownBlock] at h⟩, ⟨fun k _ h => by simp [Value.ownBlock] at h⟩, ⟨Kept.refl _ _⟩, HV0, ⟨by simp, by simp⟩⟩
  case round =>
    obtain ⟨k, T, ys, os, u, hk, rfl, HF, HI2, HO, HV, HAp, HK, HU, HL⟩ := hrel
    by_cases hlt : k < ps.length
    · obtain ⟨ad, ea, hx⟩ := Kd.at_int (HPS.out _ HK.out) k (by omega) (by omega)
      subst ea
      simp only [Int.toNat_natCast] at hx
      have HN := Aside0.mk (fold_next (sts, xs, []) ps k hlt _ HF.out)
      generalize rd ps (k : Int) = p at hx HN
      have hlen := HI2.out.len
      by_cases h0 : p < 0
      · have HP := Aside0.mk (pick_out (T, ys, os) p (.inl h0))
        clear hlen
        go_wp2
        go_roundw
        case rel => exact ⟨k + 1, T, ys, os, u, by omega, by go_num, ⟨HN.out.trans HP.out⟩, HI2, HO, HV, HAp, HK, HU, ⟨by have := HL.out.1; omega, by have := HL.out.2; omega⟩⟩
        case measure => simp [intOf]; omega
      · obtain ⟨j, rfl⟩ : ∃ j : Nat, p = (j : Int) := ⟨p.toNat, by omega⟩
        by_cases h1 : j < gs.length + m
        · have hwr := HWS.out _ HK.out
          obtain ⟨a0, e0, hcw⟩ := ReadsOf.at_ (Kd.reads_of_C (enc := encW) (d := none) (h1 := encW_one) hwr) (j : Int) (by omega) (by omega)
          subst e0
          have HCW : Aside0 (∀ W, Kept w W S → W.cell? (a0.add j) = some (encW (rdOf none (gs.map some ++ List.replicate m none) (j : Int)))) := ⟨fun W hk => by
            obtain ⟨a1, e1, h⟩ := ReadsOf.at_ (Kd.reads_of_C (enc := encW) (d := none) (h1 := encW_one) (HWS.out W hk)) (j : Int) (by omega) (by omega)
            injection e1 with e1; subst e1
            rw [Int.toNat_natCast] at h; exact h⟩
          clear hwr
          simp only [Int.toNat_natCast] at hcw
          have hd : decide (((gs.length : Int) + (m : Int)) ≤ (j : Int)) = false := decide_eq_false (by omega)
          by_cases h2 : j < gs.length
          · have henc : encW (rdOf none (gs.map some ++ List.replicate m none) (j : Int)) = .iface 36 (.pointer (some ⟨gs[j], 0, none⟩)) := by
              simp only [rdOf, Int.toNat_natCast, List.getD_eq_getElem?_getD]
              rw [List.getElem?_append_left (by rw [List.length_map]; exact h2), List.getElem?_map, List.getElem?_eq_getElem h2]
              rfl
            rw [henc] at hcw HCW
            clear henc
            have hj' : j < T.length := by omega
            have htoy := HI2.out.toys j h2 hj'
            have hSg : S gs[j] := hS _ (.inl (List.getElem_mem h2))
            have hSl : S lb := hS _ (.inr (.inl rfl))
            have HT := Aside0.mk htoy
            clear htoy hlen
            by_cases hl : 0 < T[j].left
            · have HP := Aside0.mk (pick_yes T ys os j hj' hl)
              have hd2 : decide (0 < T[j].left) = true := decide_eq_true hl
              have HY : Aside0 (ys.length ≤ 1000000 ∧ (os.length + 1) * 8 ≤ 140737488355328) := ⟨by have := HL.out; omega⟩
              clear hl
              go_wp2_with (first
                | (go_at_call 33; refine (ready_inv HI2.out j h2 hj').mono ?_; rintro e w1 ⟨rfl, hI3, hk3⟩; have HI3 := Aside0.mk hI3; have HK3 := Aside0.mk (HK.out.then_ hk3 (fun k e => .inl (e ▸ hSg))); have HO3 := Aside0.mk (HO.out.kept hk3 (fun k e e' => HO.out.ne HT.out (by decide) (e' ▸ e))); have hcw1 := HCW.out w1 HK3.out; clear hI3 hk3)
                | (go_at_call 34; refine (step_inv HI3.out j h2 (by rw [List.length_set]; exact hj') HY.out.1).mono ?_; rintro e w2 ⟨rfl, u2, hI4, hk4, hat4⟩; have HI4 := Aside0.mk hI4; have HK4 := Aside0.mk hk4; have HO4 := Aside0.mk (HO3.out.kept hk4 (fun k e e' => e'.elim (fun x => HO3.out.ne (HI3.out.toys j h2 (by rw [List.length_set]; exact hj')) (by decide) (x ▸ e)) (fun x => x.elim (fun y => HO3.out.ne HI3.out.log (by decide) (y ▸ e)) (fun y => HAp.out k y e)))); have HA4 := Aside0.mk (apart_step HAp.out HO3.out hat4); have HK5 := Aside0.mk (HK3.out.then_ hk4 (fun k e => e.elim (fun x => .inl (x ▸ hSg)) (fun x => x.elim (fun y => .inl (y ▸ hSl)) (fun y => HU.out k y)))); have HU4 := Aside0.mk (where_step HU.out HK3.out.1 hat4); clear hI4 hk4 hat4)
                | ((with_reducible refine gate_builtin (b := .append) (xs := #[.tmp 42, .tmp 44]) rfl ?_); at_builtin; refine Kd.R_append (Kd.int .i64) (w0 := w0) base rfl (.tmp 42) (.tmp 44) 22 3 (.int .i64 0) 8 rfl Try.underlying22 info3 rfl (by decide) (by decide) u5 os (j : Int) [.int .i64 j] (fun _ => True) (fun _ => False) rfl rfl rfl (fun _ hk => hk.elim) (fun _ _ => trivial) HO4.out HI4.out.below HI4.out.room HY.out.2 ?_; intro v3 w3 hR3 hB3 hg3 hat3; have HO5 := Aside0.mk (Row.of hR3); have HI5 := Aside0.mk (HI4.out.stay_row hg3 hB3 HO4.out HA4.out); have HK6 := Aside0.mk (Kept.of_grown hg3 HK5.out (fun k e => .inr (HV.out k e))); have HV5 := Aside0.mk (new_step HV.out HK5.out.1 hat3); have HA5 := Aside0.mk (apart_step' HA4.out HI4.out.row hat3); clear hR3 hB3 hg3 hat3))
              go_roundw
              case rel =>
                refine ⟨k + 1, _, ys ++ [T[j].n], os ++ [(j : Int)], u2, by omega, by go_num, ⟨HN.out.trans HP.out⟩, ?_, HO5, HV5, HA5, HK6, HU4, ⟨by rw [List.length_append]; have := HL.out.1; simp; omega, by rw [List.length_append]; have := HL.out.2; simp; omega⟩⟩
                have h5 := HI5.out
                simp only [List.getElem_set_self, List.set_set] at h5
                exact ⟨h5⟩
              case measure => simp [intOf]; omega
            · have HP := Aside0.mk (pick_no T ys os j hj' hl)
              have hd2 : decide (0 < T[j].left) = false := decide_eq_false hl
              clear hl
              go_wp2_with (go_at_call 33; refine (ready_inv HI2.out j h2 hj').mono ?_; rintro e w1 ⟨rfl, hI3, hk3⟩; have HI3 := Aside0.mk hI3; have HK3 := Aside0.mk hk3; clear hI3 hk3)
              go_roundw
              case rel => exact ⟨k + 1, _, ys, os, u, by omega, by go_num, ⟨HN.out.trans HP.out⟩, HI3, ⟨HO.out.kept HK3.out (fun k e e' => HO.out.ne HT.out (by decide) (e' ▸ e))⟩, HV, HAp, ⟨HK.out.then_ HK3.out (fun k e => .inl (e ▸ hSg))⟩, HU, ⟨by have := HL.out.1; omega, by have := HL.out.2; omega⟩⟩
              case measure => simp [intOf]; omega
          · replace hcw : wr.cell? (a0.add j) = some .nilIface := by
              rw [hcw]
              simp only [rdOf, Int.toNat_natCast, List.getD_eq_getElem?_getD]
              rw [List.getElem?_append_right (by rw [List.length_map]; omega), List.length_map]
              simp [List.getElem?_replicate, show j - gs.length < m by omega, encW]
            have HP := Aside0.mk (pick_out (T, ys, os) (j : Int) (.inr (by show T.length ≤ _; rw [Int.toNat_natCast]; omega)))
            clear hlen
            go_wp2
            go_roundw
            case rel => exact ⟨k + 1, T, ys, os, u, by omega, by go_num, ⟨HN.out.trans HP.out⟩, HI2, HO, HV, HAp, HK, HU, ⟨by have := HL.out.1; omega, by have := HL.out.2; omega⟩⟩
            case measure => simp [intOf]; omega
        · have HP := Aside0.mk (pick_out (T, ys, os) (j : Int) (.inr (by show T.length ≤ _; rw [Int.toNat_natCast]; omega)))
          clear hlen
          go_wp2
          go_roundw
          case rel => exact ⟨k + 1, T, ys, os, u, by omega, by go_num, ⟨HN.out.trans HP.out⟩, HI2, HO, HV, HAp, HK, HU, ⟨by have := HL.out.1; omega, by have := HL.out.2; omega⟩⟩
          case measure => simp [intOf]; omega
    · obtain rfl : k = ps.length := by omega
      have HF' := Aside0.mk HF.out
      go_wp2
      go_ret
      exact ⟨_, T, ys, os, u, rfl, by have := HF.out; rw [List.take_length] at this; exact this, HI2.out, HO.out, HV.out, HAp.out, HK.out, HU.out⟩
end Go.Proofs.Ytbojnjomhjajaaa.Run
