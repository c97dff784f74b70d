/- SchedAsks: the walk. -/
import Derived.Test.YtbojnjomhjajaaaTwo
import Derived.Deep.DeepMust
namespace Go.Proofs.Ytbojnjomhjajaaa.Asks
open Go.RowKit Go.Proofs.YtbojnjomhjajaaaW.PrintWords Go.Proofs.YtbojnjomhjajaaaW.PrintLast Go.Proofs.YtbojnjomhjajaaaW.PrintMore Go.Proofs.Ytbojnjomhjajaaa.Toy Go.Proofs.Ytbojnjomhjajaaa.Run Go.Proofs.Ytbojnjomhjajaaa.Toys Go.Proofs.Ytbojnjomhjajaaa.Hand Go.Proofs.Ytbojnjomhjajaaa.Model Go.Proofs.Ytbojnjomhjajaaa.BSchedRuns Go.Proofs.Ytbojnjomhjajaaa.Runs Go.Proofs.Ytbojnjomhjajaaa.Two
set_option linter.unusedVariables false
set_option linter.unusedSimpArgs false
/-- A pointer to the toy that lies in a block. -/
def kp : Kd Nat := Kd.scalar (fun g => .pointer (some ⟨g, 0, none⟩)) (fun _ => rfl)
theorem info36 : (Try.prog.info? 36).map (fun i => (i.zero, i.size, i.bytes)) = some (some (.pointer none), 1, 8) := by kernel_rfl
section
variable {α β : Type} {d : Kd α} {d' : Kd β} {e e' b b' : Nat} {w w' : World} {v u : Value} {xs : List α} {ys : List β} {S : Nat → Prop}
theorem R_typed (h : d.R e w b (fun _ => True) v xs) : ∀ k, v.ownBlock = some k → ∃ cs, w.heap[k]? = some (.cells cs e (0, 0)) := fun k hk => by
  obtain ⟨inner, ho⟩ := Kd.R_own h
  exact own_typed ho k hk
end
section
variable {w0 w w' : World} {base lb b : Nat} {gs : List Nat} {sts : List St} {u v : Value} {xs : List Int} {os : List (Option Nat)} {ps : List Nat}
theorem kp_move (h : Kd.R kp 36 w b (fun _ => True) v ps) (hm : ∀ k, v.ownBlock = some k → w'.heap[k]? = w.heap[k]?) : Kd.R kp 36 w' b (fun _ => True) v ps :=
  Kd.R_mono (Kd.R_move (show Kd.R kp 36 w b (fun k => v.ownBlock = some k) v ps from ⟨fun _ hk => hk, h.2.imp_ (fun _ _ hp => hp)⟩) hm) (fun _ _ => trivial)
/-- The row of pointers, or of workers, has grown: the other one stays. -/
theorem kp_grown (h : Kd.R kp 36 w b (fun _ => True) v ps) (hg : w.grownBy w' u.ownBlock) (hu : Kd.R kw 41 w b (fun _ => True) u os) : Kd.R kp 36 w' b (fun _ => True) v ps :=
  kp_move h (fun k hk => hg.block k (Kd.R_lt h k hk) (fun e => by
    obtain ⟨cs, hc⟩ := R_typed h k hk
    exact Kd.R_ne hu hc (by decide) e))
theorem kw_grown2 (h : Kd.R kw 41 w b (fun _ => True) v os) (hg : w.grownBy w' u.ownBlock) (hu : Kd.R kp 36 w b (fun _ => True) u ps) : Kd.R kw 41 w' b (fun _ => True) v os :=
  kw_move h (fun k hk => hg.block k (Kd.R_lt h k hk) (fun e => by
    obtain ⟨cs, hc⟩ := kw_typed h k hk
    exact Kd.R_ne hu hc (by decide) e))
theorem made_next {w w1 wr : World} {lb k : Nat} {gs : List Nat} {left : List Int} {p : Int} (h : Made wr w.heap.size lb gs left) (hg : gs.length = k) (hp : rd left (k : Int) = p) (hk : k < left.length) (hB : Below w.heap.size w wr)
    (hS : ∀ (g : Nat) (cs : Array Value), (wr.alloc (.cells (cells lb ⟨(k : Int), p, 0⟩) 38)).heap[g]? = some (.cells cs 38 (0, 0)) → w1.heap[g]? = some (.cells cs 38 (0, 0))) : Made w1 w.heap.size lb (gs ++ [wr.heap.size]) left := by
  have hpk : left[k] = p := by rw [← hp]; simp [rd, hk]
  have hlt : ∀ g ∈ gs, g < wr.heap.size := fun g hg' => by
    obtain ⟨i, hi, rfl⟩ := List.mem_iff_getElem.1 hg'
    exact blk_lt (h.toys i hi (by omega))
  refine ⟨by rw [List.length_append, hg]; exact hk, fun i hi hi' => ?_, fun i j hi hj hij => ?_, fun g hg' => ?_⟩
  · rw [List.length_append, hg] at hi
    by_cases e : i < k
    · rw [List.getElem_append_left (by omega)]
      exact hS _ _ (blk_alloc (h.toys i (by omega) hi') _)
    · obtain rfl : i = k := by have : [wr.heap.size].length = 1 := rfl; omega
      rw [List.getElem_append_right (by omega), hpk]
      simp only [hg, Nat.sub_self, List.getElem_cons_zero]
      exact hS _ _ (blk_new wr (.cells (cells lb ⟨(i : Int), p, 0⟩) 38))
  · rw [List.length_append, hg] at hi hj
    have h1 : [wr.heap.size].length = 1 := rfl
    by_cases ei : i < k <;> by_cases ej : j < k
    · rw [List.getElem_append_left (by omega), List.getElem_append_left (by omega)]
      exact h.nodup i j (by omega) (by omega) hij
    · rw [List.getElem_append_left (by omega), List.getElem_append_right (by omega)]
      have := hlt _ (List.getElem_mem (show i < gs.length by omega))
      simp only [show j - gs.length = 0 by omega, List.getElem_cons_zero]; omega
    · rw [List.getElem_append_right (by omega), List.getElem_append_left (by omega)]
      have := hlt _ (List.getElem_mem (show j < gs.length by omega))
      simp only [show i - gs.length = 0 by omega, List.getElem_cons_zero]; omega
    · omega
  · rcases List.mem_append.1 hg' with h' | h'
    · exact h.old g h'
    · rw [List.mem_singleton.1 h']; exact hB.size
end
theorem wf8 {x : Int} (h : (Lit.int .u8 x).wf = true) : 0 ≤ x ∧ x ≤ 255 := by
  unfold Lit.wf at h
  rw [Bool.and_eq_true] at h
  exact ⟨of_decide_eq_true h.1, of_decide_eq_true h.2⟩
theorem rd_nat (l : List Int) (k : Nat) (h : k < l.length) : rd l (k : Int) = l[k] := by simp [rd, h]
theorem blk_past {α : Type} {d : Kd α} {e b g t : Nat} {w w' : World} {v : Value} {xs : List α} {cs : Array Value} (h : d.R e w b (fun _ => True) v xs) (hb : w.heap[g]? = some (.cells cs t (0, 0))) (hne : e ≠ t) (hg : w.grownBy w' v.ownBlock) : w'.heap[g]? = some (.cells cs t (0, 0)) :=
  blk_grown hb hg (fun e' => Kd.R_ne h hb hne e')
theorem count_next (l : List Int) (n : Nat) (h : n < l.length) (x : Int) : (l.take (n + 1)).count x = (l.take n).count x + (if l[n] = x then 1 else 0) := by
  rw [List.take_add_one, List.getElem?_eq_getElem h, Option.toList_some, List.count_append, List.count_singleton]
  simp [beq_iff_eq]
theorem w64 {x : Int} (h0 : -1000 ≤ x) (h1 : x ≤ 2000) : wrap64 x = x := by unfold wrap64; omega
theorem counts_fold (k : Nat) (ps : List Int) : ∀ (T : List St) (ys os : List Int) (t : St), T[k]? = some t → 0 ≤ t.left → t.left ≤ 255 → 0 ≤ t.asked → t.asked + ps.length ≤ 1000 →
    ∃ T' ys' os' t', ps.foldl pick (T, ys, os) = (T', ys', os') ∧ T'[k]? = some t' ∧ t'.asked = t.asked + ((ps.count (k : Int) : Nat) : Int) ∧
      ((os'.count (k : Int) : Nat) : Int) = ((os.count (k : Int) : Nat) : Int) + min ((ps.count (k : Int) : Nat) : Int) t.left ∧ t'.left = t.left - min ((ps.count (k : Int) : Nat) : Int) t.left := by
  induction ps with
  | nil =>
    intro T ys os t ht h0 h1 h2 h3
    refine ⟨T, ys, os, t, rfl, ht, ?_, ?_, ?_⟩ <;> simp only [List.count_nil] <;> omega
  | cons p ps ih =>
    intro T ys os t ht h0 h1 h2 h3
    have hk : k < T.length := (List.getElem?_eq_some_iff.1 ht).1
    have hT : T[k] = t := (List.getElem?_eq_some_iff.1 ht).2
    rw [List.length_cons] at h3
    by_cases hj : 0 ≤ p ∧ p.toNat < T.length
    · obtain ⟨j, rfl⟩ : ∃ j : Nat, p = (j : Int) := ⟨p.toNat, by omega⟩
      have hj' : j < T.length := by have := hj.2; omega
      by_cases e : j = k
      · subst e
        have hc : List.count (j : Int) ((j : Int) :: ps) = List.count (j : Int) ps + 1 := List.count_cons_self
        rw [List.foldl_cons, hc]
        by_cases hp : 0 < T[j].left
        · rw [pick_yes T ys os j hj' hp]
          rw [hT] at hp ⊢
          obtain ⟨T', ys', os', t', a1, a2, a3, a4, a5⟩ := ih (T.set j { t with left := wrap64 (t.left - 1), asked := wrap64 (t.asked + 1) }) (ys ++ [t.n]) (os ++ [(j : Int)]) _ (List.getElem?_set_self hj')
            (by show 0 ≤ wrap64 (t.left - 1); rw [w64 (by omega) (by omega)]; omega) (by show wrap64 (t.left - 1) ≤ 255; rw [w64 (by omega) (by omega)]; omega) (by show 0 ≤ wrap64 (t.asked + 1); rw [w64 (by omega) (by omega)]; omega) (by show wrap64 (t.asked + 1) + _ ≤ _; rw [w64 (by omega) (by omega)]; omega)
          have b1 : wrap64 (t.left - 1) = t.left - 1 := w64 (by omega) (by omega)
          have b2 : wrap64 (t.asked + 1) = t.asked + 1 := w64 (by omega) (by omega)
          simp only [b1, b2, List.count_append, List.count_singleton, beq_self_eq_true, if_true] at a3 a4 a5
          exact ⟨T', ys', os', t', a1, a2, by omega, by omega, by omega⟩
        · rw [pick_no T ys os j hj' hp]
          rw [hT] at hp ⊢
          obtain ⟨T', ys', os', t', a1, a2, a3, a4, a5⟩ := ih (T.set j { t with asked := wrap64 (t.asked + 1) }) ys os _ (List.getElem?_set_self hj') h0 h1 (by show 0 ≤ wrap64 (t.asked + 1); rw [w64 (by omega) (by omega)]; omega) (by show wrap64 (t.asked + 1) + _ ≤ _; rw [w64 (by omega) (by omega)]; omega)
          have b2 : wrap64 (t.asked + 1) = t.asked + 1 := w64 (by omega) (by omega)
          simp only [b2] at a3 a4 a5
          exact ⟨T', ys', os', t', a1, a2, by omega, by omega, by omega⟩
      · have hc : List.count (k : Int) ((j : Int) :: ps) = List.count (k : Int) ps := List.count_cons_of_ne (by omega)
        rw [List.foldl_cons, hc]
        by_cases hp : 0 < T[j].left
        · rw [pick_yes T ys os j hj' hp]
          obtain ⟨T', ys', os', t', a1, a2, a3, a4, a5⟩ := ih _ (ys ++ [T[j].n]) (os ++ [(j : Int)]) t ((List.getElem?_set_ne e).trans ht) h0 h1 h2 (by omega)
          have hs : List.count (k : Int) [(j : Int)] = 0 := List.count_eq_zero.2 (by simp; omega)
          rw [List.count_append, hs] at a4
          exact ⟨T', ys', os', t', a1, a2, a3, by omega, a5⟩
        · rw [pick_no T ys os j hj' hp]
          obtain ⟨T', ys', os', t', a1, a2, a3, a4, a5⟩ := ih _ ys os t ((List.getElem?_set_ne e).trans ht) h0 h1 h2 (by omega)
          exact ⟨T', ys', os', t', a1, a2, a3, a4, a5⟩
    · have hc : List.count (k : Int) (p :: ps) = List.count (k : Int) ps := List.count_cons_of_ne (by intro e; subst e; exact hj ⟨by omega, by omega⟩)
      rw [List.foldl_cons, hc, pick_out _ p (by by_cases h : p < 0; exact .inl h; exact .inr (by show T.length ≤ _; omega))]
      obtain ⟨T', ys', os', t', a1, a2, a3, a4, a5⟩ := ih T ys os t ht h0 h1 h2 (by omega)
      exact ⟨T', ys', os', t', a1, a2, a3, a4, a5⟩
theorem counts {left ps d : List Int} {T : List St} (hwf : ∀ x ∈ left, (Lit.int .u8 x).wf = true) (hp : ps.length ≤ 60) (hf : ∀ ys os, ps.foldl pick (Hand.start left, ys, os) = (T, ys ++ d, os ++ d)) (k : Nat) (h : k < left.length) (h' : k < T.length) :
    T[k].asked = ((ps.count (k : Int) : Nat) : Int) ∧ ((d.count (k : Int) : Nat) : Int) = min ((ps.count (k : Int) : Nat) : Int) left[k] ∧ T[k].left = left[k] - ((d.count (k : Int) : Nat) : Int) := by
  have hb := wf8 (hwf _ (List.getElem_mem h))
  have hs : k < (Hand.start left).length := by rw [start_length]; exact h
  obtain ⟨T', ys', os', t', a1, a2, a3, a4, a5⟩ := counts_fold k ps (Hand.start left) [] [] ⟨(k : Int), left[k], 0⟩ ((List.getElem?_eq_getElem hs).trans (by rw [start_get left k h])) hb.1 hb.2 (by show (0 : Int) ≤ 0; omega) (by show (0 : Int) + _ ≤ _; omega)
  rw [hf, List.nil_append, Prod.mk.injEq, Prod.mk.injEq] at a1
  obtain ⟨rfl, -, rfl⟩ := a1
  have e : T[k] = t' := (List.getElem?_eq_some_iff.1 a2).2
  rw [e]
  simp only [List.count_nil] at a3 a4 a5
  exact ⟨by omega, by omega, by omega⟩
set_option maxHeartbeats 3200000 in
set_option maxRecDepth 100000 in
theorem asks_calls (A0 : Option Addr) (c0 : Nat) (left : List Int) (A1 : Option Addr) (c1 : Nat) (ps : List Int) (w : World) (hr0 : Kd.C (Kd.int .u8) w A0 left.length left) (hc0 : left.length ≤ c0) (hwf : ∀ x ∈ left, (Lit.int .u8 x).wf = true) (hr1 : Kd.C (Kd.int .i64) w A1 ps.length ps) (hc1 : ps.length ≤ c1) :
    Calls Try.prog 6 #[.slice A0 left.length c0, .slice A1 ps.length c1] w fun e w' => e = .returned (.bool true) ∧ Below w.heap.size w w' := by
  have HR0 := Aside0.mk hr0
  have HR1 := Aside0.mk hr1
  have HWF := Aside0.mk hwf
  have hm0 := Kd.C_max hr0
  have hm1 := Kd.C_max hr1
  clear hr0 hr1 hwf
  by_cases h1 : 10 < left.length
  · go_enter Try.func6, Try.ntmps6
    go_wp2_with (go_at_call 8; refine (awake_calls _).mono ?_; rintro e w1 ⟨rfl, hb⟩; have HB := Aside0.mk hb; clear hb)
    go_ret
    exact ⟨rfl, HB.out⟩
  · by_cases h2 : 60 < ps.length
    · go_enter Try.func6, Try.ntmps6
      go_wp2_with (go_at_call 8; refine (awake_calls _).mono ?_; rintro e w1 ⟨rfl, hb⟩; have HB := Aside0.mk hb; clear hb)
      go_ret
      exact ⟨rfl, HB.out⟩
    · go_enter Try.func6, Try.ntmps6
      go_wp2_with (go_at_call 8; refine (awake_calls _).mono ?_; rintro e w1 ⟨rfl, hb⟩; have HB := Aside0.mk hb; clear hb)
      have HLG := Aside0.mk (blk_new w1 (.cells #[.slice none 0 0] 22))
      have HB1 := Aside0.mk (below_alloc HB.out (.cells #[.slice none 0 0] 22))
      obtain ⟨lb, hlb⟩ : ∃ lb, w1.heap.size = lb := ⟨_, rfl⟩
      rw [hlb] at HLG ⊢
      generalize w1.alloc (.cells #[.slice none 0 0] 22) = w2 at HLG HB1 ⊢
      have HLB := Aside0.mk (show w.heap.size ≤ lb from hlb ▸ HB.out.size)
      clear hlb HB
      go_loopw [7, 8, 9] (fun vo va i wr => ∃ (k : Nat) (gs : List Nat), k ≤ left.length ∧ i = .int .i64 k ∧ Aside0 (gs.length = k) ∧ Aside0 (Kd.R kw 41 wr w.heap.size (fun _ => True) vo (gs.map some)) ∧ Aside0 (Kd.R kp 36 wr w.heap.size (fun _ => True) va gs) ∧ Aside0 (Made wr w.heap.size lb gs left) ∧ Aside0 (wr.heap[lb]? = some (.cells #[.slice none 0 0] 22 (0, 0))) ∧ Aside0 (Below w.heap.size w wr)) (fun _ _ i _ => left.length - (intOf i).toNat)
      case atStart => exact ⟨0, [], Nat.zero_le _, rfl, ⟨rfl⟩, ⟨Kd.R_nil _ _ _ _ _⟩, ⟨Kd.R_nil _ _ _ _ _⟩, ⟨⟨Nat.zero_le _, fun i h => absurd h (Nat.not_lt_zero _), fun i j h => absurd h (Nat.not_lt_zero _), fun g hg => by simp at hg⟩⟩, HLG, HB1⟩
      case round =>
        obtain ⟨k, gs, hk, rfl, HG, HO, HA, HM, HL, HB⟩ := hrel
        by_cases hlt : k < left.length
        · obtain ⟨ad, ea, hx⟩ := Kd.at_int (Kd.C_below HR0.out HB.out) k (by omega) (by omega)
          subst ea
          simp only [Int.toNat_natCast] at hx
          generalize hp : rd left (k : Int) = p at hx
          have hpb : 0 ≤ p ∧ p ≤ 255 := wf8 (HWF.out p (by rw [← hp, rd_nat left k hlt]; exact List.getElem_mem _))
          have HP := Aside0.mk hp
          clear hp
          have HLL : Aside0 ((gs.length + 1) * 8 ≤ 140737488355328 ∧ ((gs.map some).length + 1) * 16 ≤ 140737488355328) := ⟨by rw [List.length_map, HG.out]; omega⟩
          have HAa := Aside0.mk (Kd.R_alloc HA.out (.cells (cells lb ⟨(k : Int), p, 0⟩) 38))
          have HOa := Aside0.mk (Kd.R_alloc HO.out (.cells (cells lb ⟨(k : Int), p, 0⟩) 38))
          have HLa := Aside0.mk (blk_alloc HL.out (.cells (cells lb ⟨(k : Int), p, 0⟩) 38))
          have HBa := Aside0.mk (below_alloc HB.out (.cells (cells lb ⟨(k : Int), p, 0⟩) 38))
          have n1 : 36 ≠ 22 := by decide
          have n2 : 36 ≠ 38 := by decide
          have n3 : 41 ≠ 22 := by decide
          have n4 : 41 ≠ 38 := by decide
          go_wp2_with (first
            | ((with_reducible refine gate_builtin (b := .append) (xs := #[.tmp 41, .tmp 43]) rfl ?_); at_builtin; go_must (refine Kd.R_append kp (w0 := w) (W := wr.alloc (.cells (cells lb ⟨(k : Int), p, 0⟩) 38)) w.heap.size rfl (.tmp 41) (.tmp 43) 35 36 (.pointer none) 8 rfl Try.underlying35 info36 rfl (by decide) (by decide) u8 gs wr.heap.size [.pointer (some ⟨wr.heap.size, 0, none⟩)] (fun _ => True) (fun _ => False) rfl ?hx rfl (fun _ hk => hk.elim) (fun _ _ => trivial) HAa.out HBa.out HBa.out.size HLL.out.1 ?_); go_must ((case hx => rw [World.size_alloc]; rfl); intro v1 w5 ho hb hg hat; have HA1 := Aside0.mk ho; have HB1 := Aside0.mk hb; have HO1 := Aside0.mk (kw_grown2 HOa.out hg HAa.out); have HL1 := Aside0.mk (blk_past HAa.out HLa.out n1 hg); have HT1 := Aside0.mk (fun (g : Nat) (cs : Array Value) (h : (wr.alloc (.cells (cells lb ⟨(k : Int), p, 0⟩) 38)).heap[g]? = some (.cells cs 38 (0, 0))) => blk_past HAa.out h n2 hg); clear ho hb hg hat))
            | ((with_reducible refine gate_builtin (b := .append) (xs := #[.tmp 45, .tmp 48]) rfl ?_); at_builtin; go_must (refine Kd.R_append kw (w0 := w) (W := w5) w.heap.size rfl (.tmp 45) (.tmp 48) 24 41 .nilIface 16 rfl Try.underlying24 info41 rfl (by decide) (by decide) u7 (gs.map some) (some wr.heap.size) [.iface 36 (.pointer (some ⟨wr.heap.size, 0, none⟩))] (fun _ => True) (fun _ => False) rfl rfl rfl (fun _ hk => hk.elim) (fun _ _ => trivial) HO1.out HB1.out HB1.out.size HLL.out.2 ?_); go_must (intro v2 w6 ho hb hg hat; have HO2 := Aside0.mk ho; have HB2 := Aside0.mk hb; have HA2 := Aside0.mk (kp_grown HA1.out hg HO1.out); have HL2 := Aside0.mk (blk_past HO1.out HL1.out n3 hg); have HM2 := Aside0.mk (made_next HM.out HG.out HP.out hlt HB.out (w1 := w6) (fun g cs h => blk_past HO1.out (HT1.out g cs h) n4 hg)); clear ho hb hg hat)))
          go_roundw
          case rel => exact ⟨k + 1, gs ++ [wr.heap.size], by omega, by go_num, ⟨by rw [List.length_append, HG.out]; rfl⟩, ⟨by rw [List.map_append]; exact HO2.out⟩, HA2, HM2, HL2, HB2⟩
          case measure => simp [intOf]; omega
        · obtain rfl : k = left.length := by omega
          obtain ⟨A7, c7, rfl⟩ := Kd.R_slice HO.out
          obtain ⟨A8, c8, rfl⟩ := Kd.R_slice HA.out
          have HI := Aside0.mk (inv_of_made HM.out HG.out (Nat.le_refl _) HL.out HLB.out HB.out)
          clear HM HL
          go_wp2_with fail
          refine (run_rel (m := 0) ps HI.out (rel_start left) (by simpa using HO.out) (by simp) (Kd.C_kept_came (Kd.heap_int _) HR1.out HI.out.below (may_old HI.out)) hc1 (by simp; omega)).mono ?_
          rintro e w7 ⟨vo, T, l', d, u, rfl, HP⟩
          obtain ⟨Ao, co, rfl⟩ := Kd.R_slice HP.out.2.2.2.2.1
          have HA7 := Aside0.mk (kp_move HA.out (fun k hk => HP.out.2.2.2.2.2.2.1.2 k (Kd.R_lt HA.out k hk) (by
            obtain ⟨cs, hc⟩ := R_typed HA.out k hk
            exact may_not HI.out hc (by decide) (by decide) (by simp [Value.ownBlock]))))
          have HI7 := Aside0.mk HP.out.2.2.2.1
          have HO7 := Aside0.mk HP.out.2.2.2.2.1
          have HF7 := Aside0.mk HP.out.1
          have HDL := Aside0.mk (show d.length ≤ ps.length from (by
            have := fold_length ps left []
            rw [HP.out.2.1] at this
            simpa using this))
          clear HP HA HO HI HB
          go_wp2_with fail
          have HTL : Aside0 (T.length = left.length) := ⟨by rw [← HI7.out.len, HG.out]⟩
          have HPL : Aside0 (ps.length ≤ 60) := ⟨by omega⟩
          have HCN := Aside0.mk (fun (k : Nat) (h : k < left.length) => counts HWF.out HPL.out HF7.out k h (HTL.out.symm ▸ h))
          go_loopw [12] (fun i wi => ∃ k nd : Nat, k ≤ left.length ∧ i = .int .i64 k ∧ wi = w7.drewN nd) (fun i _ => left.length - (intOf i).toNat)
          case atStart => exact ⟨0, 0, Nat.zero_le _, rfl, rfl⟩
          case round =>
            obtain ⟨k, nd, hk, rfl, rfl⟩ := hrel
            have HI7 := Aside0.mk (inv_below HI7.out (pw_below_drewN (Below.refl _ _) nd))
            have HA7 := Aside0.mk (Kd.R_drewN HA7.out nd)
            have HO7 := Aside0.mk (Kd.R_drewN HO7.out nd)
            obtain ⟨wr, hwr⟩ : ∃ wr, w7.drewN nd = wr := ⟨_, rfl⟩
            have HWR := Aside0.mk hwr
            rw [hwr] at HI7 HA7 HO7 ⊢
            clear hwr
            by_cases hlt : k < left.length
            · obtain ⟨q, hq⟩ : ∃ q, ps.count (k : Int) = q := ⟨_, rfl⟩
              obtain ⟨s, hs⟩ : ∃ s, d.count (k : Int) = s := ⟨_, rfl⟩
              have hql : q ≤ 60 := by rw [← hq]; exact Nat.le_trans List.count_le_length (by omega)
              have hc := HCN.out k hlt
              rw [hq, hs] at hc
              have HQ := Aside0.mk hq
              have HS := Aside0.mk hs
              clear hq hs
              have hgl : k < gs.length := by rw [HG.out]; exact hlt
              have ht := HI7.out.toys k hgl (by rw [HTL.out]; exact hlt)
              have HT2 := Aside0.mk ((blk_cell ht 2).trans rfl : wr.cell? ⟨gs[k], 2, none⟩ = some (.int .i64 (T[k]'(by rw [HTL.out]; exact hlt)).asked))
              have HT1 := Aside0.mk ((blk_cell ht 1).trans rfl : wr.cell? ⟨gs[k], 1, none⟩ = some (.int .i64 (T[k]'(by rw [HTL.out]; exact hlt)).left))
              obtain ⟨a8, e8, h8⟩ := ReadsOf.at_ (Kd.reads_of_C (enc := fun g => Value.pointer (some ⟨g, 0, none⟩)) (d := 0) (h1 := fun _ => rfl) (Kd.R_reads' HA7.out).2.2) (k : Int) (by omega) (by omega)
              have hr8 : rdOf 0 gs (k : Int) = gs[k] := by simp [rdOf, hgl]
              rw [hr8, Int.toNat_natCast] at h8
              subst e8
              obtain ⟨p, hp⟩ : ∃ p, left[k] = p := ⟨_, rfl⟩
              obtain ⟨a0, e0, h0⟩ := Kd.at_int (Kd.C_below HR0.out HI7.out.below) k (by omega) (by omega)
              subst e0
              rw [rd_nat left k hlt, Int.toNat_natCast, hp] at h0
              have hpb : 0 ≤ p ∧ p ≤ 255 := hp ▸ wf8 (HWF.out _ (List.getElem_mem hlt))
              rw [hp] at hc
              have hT1 := HT1.out
              have hT2 := HT2.out
              rw [hc.1] at hT2
              rw [hc.2.2] at hT1
              have HSM := Aside0.mk hc.2.1
              generalize gs[k] = g at h8 hT1 hT2
              have H8 := Aside0.mk h8
              have H0 := Aside0.mk h0
              have HG1 := Aside0.mk hT1
              have HG2 := Aside0.mk hT2
              clear h8 h0 hT1 hT2 hc hp HT1 HT2 ht hr8
              go_wp2_with fail
              go_loopw [13, 14] (fun c j wi => ∃ n m : Nat, n ≤ ps.length ∧ j = .int .i64 n ∧ c = .int .i64 m ∧ m ≤ n ∧ Aside0 ((ps.take n).count (k : Int) = m) ∧ wi = wr) (fun _ j _ => ps.length - (intOf j).toNat)
              case atStart => exact ⟨0, 0, Nat.zero_le _, rfl, rfl, Nat.le_refl _, ⟨by simp⟩, rfl⟩
              case round =>
                obtain ⟨n, mq, hn, rfl, rfl, hmn, HCm, rfl⟩ := hrel
                by_cases hnl : n < ps.length
                · obtain ⟨ax, ex, hx1⟩ := Kd.at_int (Kd.C_below HR1.out HI7.out.below) (n : Int) (by omega) (by omega)
                  subst ex
                  rw [rd_nat ps n hnl, Int.toNat_natCast] at hx1
                  obtain ⟨y, hy⟩ : ∃ y, ps[n] = y := ⟨_, rfl⟩
                  rw [hy] at hx1
                  have HY := Aside0.mk hy
                  clear hy
                  by_cases hyk : y = (k : Int)
                  · go_wp2
                    go_roundw
                    case rel => exact ⟨n + 1, mq + 1, by omega, by go_num, by go_num, by omega, ⟨by rw [count_next ps n hnl, HY.out, if_pos hyk, HCm.out]⟩, by trivial⟩
                    case measure => simp [intOf]; omega
                  · go_wp2
                    go_roundw
                    case rel => exact ⟨n + 1, mq, by omega, by go_num, rfl, by omega, ⟨by rw [count_next ps n hnl, HY.out, if_neg hyk, HCm.out]; rfl⟩, by trivial⟩
                    case measure => simp [intOf]; omega
                · obtain rfl : n = ps.length := by omega
                  obtain rfl : mq = q := by
                    have h := HCm.out
                    rw [List.take_length, HQ.out] at h
                    exact h.symm
                  have hdl : d.length ≤ 60 := by have := HDL.out; omega
                  go_wp2_with fail
                  go_loopw [15, 16] (fun c j wi => ∃ n m : Nat, n ≤ d.length ∧ j = .int .i64 n ∧ c = .int .i64 m ∧ m ≤ n ∧ Aside0 ((d.take n).count (k : Int) = m) ∧ wi = wr) (fun _ j _ => d.length - (intOf j).toNat)
                  case atStart => exact ⟨0, 0, Nat.zero_le _, rfl, rfl, Nat.le_refl _, ⟨by simp⟩, rfl⟩
                  case round =>
                    obtain ⟨n, m, hn, rfl, rfl, hmn, HCm, rfl⟩ := hrel
                    by_cases hnl : n < d.length
                    · obtain ⟨ax, ex, hx1⟩ := Kd.at_int (Kd.R_reads' HO7.out).2.2 (n : Int) (by omega) (by omega)
                      subst ex
                      rw [rd_nat d n hnl, Int.toNat_natCast] at hx1
                      obtain ⟨y, hy⟩ : ∃ y, d[n] = y := ⟨_, rfl⟩
                      rw [hy] at hx1
                      have HY := Aside0.mk hy
                      clear hy
                      by_cases hyk : y = (k : Int)
                      · go_wp2
                        go_roundw
                        case rel => exact ⟨n + 1, m + 1, by omega, by go_num, by go_num, by omega, ⟨by rw [count_next d n hnl, HY.out, if_pos hyk, HCm.out]⟩, by trivial⟩
                        case measure => simp [intOf]; omega
                      · go_wp2
                        go_roundw
                        case rel => exact ⟨n + 1, m, by omega, by go_num, rfl, by omega, ⟨by rw [count_next d n hnl, HY.out, if_neg hyk, HCm.out]; rfl⟩, by trivial⟩
                        case measure => simp [intOf]; omega
                    · obtain rfl : n = d.length := by omega
                      obtain rfl : m = s := by
                        have h := HCm.out
                        rw [List.take_length, HS.out] at h
                        exact h.symm
                      have hsm := HSM.out.symm
                      have hsm2 : (if p < (mq : Int) then p else (mq : Int)) = (m : Int) := by rw [← hsm]; split <;> omega
                      have hml : (m : Int) ≤ 60 := by omega
                      have e1 : wrap64 p = p := by unfold wrap64; omega
                      have e2 : wrap64 (p - (m : Int)) = p - (m : Int) := by unfold wrap64; omega
                      have e3 : IntKind.i64.wrap p = p := (i64_w p).trans e1
                      have e4 : IntKind.i64.wrap (p - (m : Int)) = p - (m : Int) := (i64_w _).trans e2
                      clear hml
                      have h8 := H8.out
                      have h0 := H0.out
                      have hg1 := HG1.out
                      have hg2 := HG2.out
                      clear HSM H8 H0 HG1 HG2
                      go_wp2
                      have hne : ((m : Int) != (m : Int)) = false := by simp
                      have hne2 : ((p - (m : Int)) != (p - (m : Int))) = false := by simp
                      go_quiet (fail)
                      clear hne hne2 e1 e2 e3 e4 hsm hsm2
                      go_wp2
                      go_roundw
                      case rel => exact ⟨k + 1, nd + nq, by omega, by go_num, by rw [← HWR.out]; first | rfl | exact World.drewN_drewN _ _ _ | simp [World.drewN, Nat.add_assoc, Nat.add_comm]⟩
                      case measure => simp [intOf]; omega
            · obtain rfl : k = left.length := by omega
              go_wp2
              go_ret
              exact ⟨rfl, HI7.out.below⟩
end Go.Proofs.Ytbojnjomhjajaaa.Asks
