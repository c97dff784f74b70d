/- The pure side of SchedFair: whether picks are fair is as the document's answer says, and so are rounds: up to sixty picks, any numbers. -/
import Derived.Test.YtbojnjomhjajaaaGSchedFairx2
import Derived.OpenShut
namespace Go.Proofs.Ytbojnjomhjajaaa.Pure
open Go.RowKit Go.Proofs.Ytbojnjomhjajaaa.GSchedFair Go.Proofs.YtbojnjomhjajaaaW.PrintWords Go.Proofs.YtbojnjomhjajaaaW.PrintLast Go.Proofs.YtbojnjomhjajaaaW.PrintMore

theorem w64 {x : Int} (h0 : -9223372036854775808 ≤ x) (h1 : x ≤ 9223372036854775807) : wrap64 x = x := by unfold wrap64; omega
theorem rd_nat (l : List Int) (i : Nat) (h : i < l.length) : rd l (i : Int) = l[i] := by simp [rd, h]

/-! ### Is a number in a list? -/
theorem index_ev (l : List Int) (x : Int) (hl : l.length ≤ 1000000) (d : Nat) : ∀ i : Nat, i + d = l.length → ∃ r : Int, Ev (fun k => slices_Index_int_int.l0 k l x (l.length : Int) (i : Int)) r ∧ (0 ≤ r ↔ x ∈ l.drop i) := by
  induction d with
  | zero =>
    intro i hi
    refine ⟨-1, Ev.step (fun k => ?_) (Ev.now (-1)), ?_⟩
    · simp only [slices_Index_int_int.l0]; rw [if_neg (by omega)]
    · rw [List.drop_of_length_le (by omega)]; simp
  | succ d ih =>
    intro i hi
    have hlt : i < l.length := by omega
    by_cases h : x = l[i]
    · refine ⟨(i : Int), Ev.step (fun k => ?_) (Ev.now (i : Int)), ?_⟩
      · simp only [slices_Index_int_int.l0]; rw [if_pos (by omega), if_pos (by omega), if_pos (by omega), rd_nat l i hlt, if_pos h]
      · rw [List.drop_eq_getElem_cons hlt, List.mem_cons]; exact ⟨fun _ => Or.inl h, fun _ => by omega⟩
    · obtain ⟨r, hr, hm⟩ := ih (i + 1) (by omega)
      refine ⟨r, Ev.step (fun k => ?_) hr, ?_⟩
      · simp only [slices_Index_int_int.l0]; rw [if_pos (by omega), if_pos (by omega), if_pos (by omega), rd_nat l i hlt, if_neg h, w64 (by omega) (by omega)]; rfl
      · rw [hm, List.drop_eq_getElem_cons hlt, List.mem_cons]; exact ⟨Or.inr, fun h' => h'.elim (fun e => absurd e h) id⟩
theorem contains_ev (l : List Int) (x : Int) (hl : l.length ≤ 1000000) : Ev (fun k => slices_Contains_int_int.f k l x) (decide (x ∈ l)) := by
  obtain ⟨r, hr, hm⟩ := index_ev l x hl l.length 0 (by omega)
  rw [List.drop_zero] at hm
  have e : decide (x ∈ l) = decide (r ≥ 0) := decide_eq_decide.2 hm.symm
  rw [e]
  exact Ev.bind (f := fun _ t => some (decide (t ≥ 0))) hr (Ev.now _)

/-! ### The program's way -/
/-- The picks of a window. -/
def win (l : List Int) (K a : Nat) : List Int := (l.take (a + K)).drop a
theorem win_length (l : List Int) (K a : Nat) (h : a + K ≤ l.length) : (win l K a).length = K := by unfold win; rw [List.length_drop, List.length_take]; omega
theorem mem_win (l : List Int) (K a : Nat) (h : a + K ≤ l.length) (x : Int) : x ∈ win l K a ↔ ∃ j, ∃ hj : j < l.length, a ≤ j ∧ j < a + K ∧ l[j] = x := by
  unfold win
  rw [List.mem_iff_getElem]
  constructor
  · rintro ⟨i, hi, e⟩
    rw [List.length_drop, List.length_take] at hi
    refine ⟨a + i, by omega, by omega, by omega, ?_⟩
    rw [← e, List.getElem_drop, List.getElem_take]
  · rintro ⟨j, hj, h1, h2, e⟩
    refine ⟨j - a, by rw [List.length_drop, List.length_take]; omega, ?_⟩
    rw [List.getElem_drop, List.getElem_take, ← e]
    congr 1; omega
theorem inner_ev (l : List Int) (n kk at_ : Int) (part : List Int) (hp : part.length ≤ 1000000) (V : Bool) (hV : Ev (fun k => sched_Fair.l0 k l n kk (wrap64 (at_ + 1))) V) (N : Nat) (hN : N ≤ 1000000) (d : Nat) :
    ∀ i : Nat, i + d = N → ∃ b, Ev (fun k => sched_Fair.l1 k l n kk at_ part (N : Int) (i : Int)) b ∧ (b = true ↔ (∀ w : Nat, i ≤ w → w < N → (w : Int) ∈ part) ∧ V = true) := by
  induction d with
  | zero =>
    intro i hi
    refine ⟨V, Ev.step (fun k => ?_) hV, ?_⟩
    · simp only [sched_Fair.l1]; rw [if_neg (by omega)]
    · constructor
      · intro h; exact ⟨fun w h1 h2 => by omega, h⟩
      · exact fun h => h.2
  | succ d ih =>
    intro i hi
    have hc := contains_ev part (i : Int) hp
    by_cases h : (i : Int) ∈ part
    · rw [decide_eq_true h] at hc
      obtain ⟨b, hb, hm⟩ := ih (i + 1) (by omega)
      refine ⟨b, Ev.step (f := fun k => (slices_Contains_int_int.f k part (i : Int)).bind fun t => if t = true then sched_Fair.l1 k l n kk at_ part (N : Int) ((i + 1 : Nat) : Int) else some false) (fun k => ?_) (Ev.bind hc (by simpa using hb)), ?_⟩
      · simp only [sched_Fair.l1]; rw [if_pos (by omega), w64 (by omega) (by omega)]; rfl
      · rw [hm]
        constructor
        · rintro ⟨h1, h2⟩
          refine ⟨fun w hw hw' => ?_, h2⟩
          by_cases e : w = i
          · subst e; exact h
          · exact h1 w (by omega) hw'
        · rintro ⟨h1, h2⟩; exact ⟨fun w hw hw' => h1 w (by omega) hw', h2⟩
    · rw [decide_eq_false h] at hc
      refine ⟨false, Ev.step (f := fun k => (slices_Contains_int_int.f k part (i : Int)).bind fun t => if t = true then sched_Fair.l1 k l n kk at_ part (N : Int) (wrap64 ((i : Int) + 1)) else some false) (fun k => ?_) (Ev.bind hc (by simpa using Ev.now false)), ?_⟩
      · simp only [sched_Fair.l1]; rw [if_pos (by omega)]
      · constructor
        · intro e; cases e
        · rintro ⟨h1, _⟩; exact absurd (h1 i (Nat.le_refl _) (by omega)) h
/-- What the program's way comes to. -/
def FairP (l : List Int) (n : Int) (K at_ : Nat) : Prop := ∀ a : Nat, at_ ≤ a → a + K ≤ l.length → n ≤ (K : Int) ∧ ∀ w : Nat, (w : Int) < n → (w : Int) ∈ win l K a
theorem outer_ev (l : List Int) (hl : l.length ≤ 100000) (n : Int) (hn : n ≤ 100) (K : Nat) (hK : 1 ≤ K) (hK2 : (K : Int) ≤ 9223372036854775807) (d : Nat) :
    ∀ at_ : Nat, at_ + d = l.length + 1 → ∃ b, Ev (fun k => sched_Fair.l0 k l n (K : Int) (at_ : Int)) b ∧ (b = true ↔ FairP l n K at_) := by
  induction d with
  | zero =>
    intro at_ ha
    refine ⟨true, Ev.step (fun k => ?_) (Ev.now true), ?_⟩
    · simp only [sched_Fair.l0]; rw [w64 (x := (l.length : Int) - (K : Int)) (by omega) (by omega), if_neg (by omega)]
    · exact ⟨fun _ a h1 h2 => by omega, fun _ => rfl⟩
  | succ d ih =>
    intro at_ ha
    by_cases h : at_ + K ≤ l.length
    · by_cases h2 : n > (K : Int)
      · refine ⟨false, Ev.step (fun k => ?_) (Ev.now false), ?_⟩
        · simp only [sched_Fair.l0]; rw [w64 (x := (l.length : Int) - (K : Int)) (by omega) (by omega), w64 (x := (at_ : Int) + (K : Int)) (by omega) (by omega), if_pos (by omega), if_pos (by omega), if_pos (by omega), if_pos (by omega), if_pos h2]
        · constructor
          · intro e; cases e
          · intro e; have := (e at_ (Nat.le_refl _) h).1; omega
      · obtain ⟨V, hV, hVm⟩ := ih (at_ + 1) (by omega)
        have hV' : Ev (fun k => sched_Fair.l0 k l n (K : Int) (wrap64 ((at_ : Int) + 1))) V := by rw [w64 (by omega) (by omega)]; exact hV
        obtain ⟨N, hN⟩ : ∃ N : Nat, mx n 0 = (N : Int) := ⟨(mx n 0).toNat, by unfold mx; split <;> omega⟩
        have hN' : ∀ w : Nat, (w : Int) < n ↔ w < N := by
          intro w
          unfold mx at hN
          split at hN <;> omega
        obtain ⟨b, hb, hm⟩ := inner_ev l n (K : Int) (at_ : Int) (win l K at_) (by rw [win_length l K at_ h]; omega) V hV' N (by unfold mx at hN; split at hN <;> omega) N 0 (by omega)
        refine ⟨b, Ev.step (fun k => ?_) hb, ?_⟩
        · simp only [sched_Fair.l0]
          rw [w64 (x := (l.length : Int) - (K : Int)) (by omega) (by omega), w64 (x := (at_ : Int) + (K : Int)) (by omega) (by omega), if_pos (by omega), if_pos (by omega), if_pos (by omega), if_pos (by omega), if_neg h2, hN]
          rw [show ((at_ : Int) + (K : Int)).toNat = at_ + K by omega, Int.toNat_natCast]; rfl
        · rw [hm, hVm]
          constructor
          · rintro ⟨h3, h4⟩ a ha1 ha2
            by_cases e : a = at_
            · subst e; exact ⟨by omega, fun w hw => h3 w (Nat.zero_le _) ((hN' w).1 hw)⟩
            · exact h4 a (by omega) ha2
          · intro h3
            exact ⟨fun w _ hw => (h3 at_ (Nat.le_refl _) h).2 w ((hN' w).2 hw), fun a ha1 ha2 => h3 a (by omega) ha2⟩
    · refine ⟨true, Ev.step (fun k => ?_) (Ev.now true), ?_⟩
      · simp only [sched_Fair.l0]; rw [w64 (x := (l.length : Int) - (K : Int)) (by omega) (by omega), if_neg (by omega)]
      · exact ⟨fun _ a h1 h2 => by omega, fun _ => rfl⟩
theorem fair_ev (l : List Int) (hl : l.length ≤ 100000) (n : Int) (hn : n ≤ 100) (K : Nat) (hK : 1 ≤ K) (hK2 : (K : Int) ≤ 9223372036854775807) : ∃ b, Ev (fun k => sched_Fair.f k l n (K : Int)) b ∧ (b = true ↔ FairP l n K 0) := by
  obtain ⟨b, hb, hm⟩ := outer_ev l hl n hn K hK hK2 (l.length + 1) 0 (by omega)
  refine ⟨b, Ev.congr (fun k => ?_) hb, hm⟩
  unfold sched_Fair.f; rw [if_neg (by omega)]; rfl

/-! ### The document's way -/
/-- Each window from p on has w. -/
def Has (l : List Int) (K : Nat) (w : Int) (p : Nat) : Prop := ∀ a : Nat, p ≤ a → a + K ≤ l.length → w ∈ win l K a
theorem ref_inner (l : List Int) (hl : l.length ≤ 100000) (n : Int) (K : Nat) (hK : 1 ≤ K) (hK2 : (K : Int) ≤ 9223372036854775807) (w : Int) (V : Bool) (hV : Ev (fun k => holtref16_Fair.l0 k l n (K : Int) (wrap64 (w + 1))) V) (d : Nat) :
    ∀ i p : Nat, i + d = l.length + 1 → p ≤ i → (i = l.length + 1 → p = i) → (∀ j (hj : j < l.length), p ≤ j → j < i → l[j] ≠ w) →
      ∃ b, Ev (fun k => holtref16_Fair.l1 k l n (K : Int) w ((p : Int) - 1) (i : Int)) b ∧ (b = true ↔ Has l K w p ∧ V = true) := by
  induction d with
  | zero =>
    intro i p hi hp hend _
    refine ⟨V, Ev.step (fun k => ?_) hV, ?_⟩
    · simp only [holtref16_Fair.l1]; rw [if_neg (by omega)]
    · exact ⟨fun h => ⟨fun a h1 h2 => by have := hend (by omega); omega, h⟩, fun h => h.2⟩
  | succ d ih =>
    intro i p hi hp hend hfree
    have hit : (i = l.length ∨ ∃ h : i < l.length, l[i] = w) → (∀ k, holtref16_Fair.l1 (k + 1) l n (K : Int) w ((p : Int) - 1) (i : Int) = holtref16_Fair.j2 k l n (K : Int) w ((p : Int) - 1) (i : Int) true) →
        ∃ b, Ev (fun k => holtref16_Fair.l1 k l n (K : Int) w ((p : Int) - 1) (i : Int)) b ∧ (b = true ↔ Has l K w p ∧ V = true) := by
      intro hw hrun
      by_cases hgap : p + K ≤ i
      · refine ⟨false, Ev.step hrun (Ev.step (fun k => ?_) (Ev.now false)), ?_⟩
        · simp only [holtref16_Fair.j2]; rw [if_pos trivial, w64 (by omega) (by omega), if_pos (by omega)]
        · constructor
          · intro e; cases e
          · rintro ⟨h1, _⟩
            obtain ⟨j, hj, j1, j2, e⟩ := (mem_win l K p (by omega) w).1 (h1 p (Nat.le_refl _) (by omega))
            exact absurd e (hfree j hj j1 (by omega))
      · obtain ⟨b, hb, hm⟩ := ih (i + 1) (i + 1) (by omega) (Nat.le_refl _) (fun _ => rfl) (fun j hj h1 h2 => by omega)
        refine ⟨b, Ev.step hrun (Ev.step (fun k => ?_) hb), ?_⟩
        · simp only [holtref16_Fair.j2]; rw [if_pos trivial, w64 (by omega) (by omega), if_neg (by omega), w64 (by omega) (by omega), show ((i + 1 : Nat) : Int) - 1 = (i : Int) by omega, show ((i + 1 : Nat) : Int) = (i : Int) + 1 by omega]
        · rw [hm]
          constructor
          · rintro ⟨h1, h2⟩
            refine ⟨fun a ha1 ha2 => ?_, h2⟩
            by_cases e : i + 1 ≤ a
            · exact h1 a e ha2
            · rcases hw with hw | ⟨hw, ew⟩
              · omega
              · exact (mem_win l K a ha2 w).2 ⟨i, hw, by omega, by omega, ew⟩
          · rintro ⟨h1, h2⟩; exact ⟨fun a ha1 ha2 => h1 a (by omega) ha2, h2⟩
    by_cases he : i = l.length
    · refine hit (Or.inl he) (fun k => ?_)
      simp only [holtref16_Fair.l1]; rw [if_pos (by omega), if_pos (by omega)]
    · have hlt : i < l.length := by omega
      by_cases hw : l[i] = w
      · refine hit (Or.inr ⟨hlt, hw⟩) (fun k => ?_)
        simp only [holtref16_Fair.l1]; rw [if_pos (by omega), if_neg (by omega), if_pos (by omega), if_pos (by omega), rd_nat l i hlt, hw, beq_self_eq_true]
      · obtain ⟨b, hb, hm⟩ := ih (i + 1) p (by omega) (by omega) (fun h => by omega) (fun j hj h1 h2 => by
          by_cases e : j = i
          · subst e; exact hw
          · exact hfree j hj h1 (by omega))
        refine ⟨b, Ev.step (f := fun k => holtref16_Fair.j2 k l n (K : Int) w ((p : Int) - 1) (i : Int) false) (fun k => ?_) (Ev.step (fun k => ?_) hb), hm⟩
        · simp only [holtref16_Fair.l1]; rw [if_pos (by omega), if_neg (by omega), if_pos (by omega), if_pos (by omega), rd_nat l i hlt, beq_eq_false_iff_ne.2 hw]
        · simp only [holtref16_Fair.j2]; rw [if_neg (by decide), w64 (by omega) (by omega)]; rfl
theorem ref_outer (l : List Int) (hl : l.length ≤ 100000) (n : Int) (hn : n ≤ 100) (K : Nat) (hK : 1 ≤ K) (hK2 : (K : Int) ≤ 9223372036854775807) (N : Nat) (hN : ∀ w : Nat, (w : Int) < n ↔ w < N) (d : Nat) :
    ∀ w : Nat, w + d = N → ∃ b, Ev (fun k => holtref16_Fair.l0 k l n (K : Int) (w : Int)) b ∧ (b = true ↔ ∀ v : Nat, w ≤ v → v < N → Has l K (v : Int) 0) := by
  induction d with
  | zero =>
    intro w hw
    refine ⟨true, Ev.step (fun k => ?_) (Ev.now true), ⟨fun _ v h1 h2 => by omega, fun _ => rfl⟩⟩
    simp only [holtref16_Fair.l0]; rw [if_neg (fun h => by have := (hN w).1 h; omega)]
  | succ d ih =>
    intro w hw
    have hlt := (hN w).2 (by omega)
    obtain ⟨V, hV, hVm⟩ := ih (w + 1) (by omega)
    have hV' : Ev (fun k => holtref16_Fair.l0 k l n (K : Int) (wrap64 ((w : Int) + 1))) V := by rw [w64 (by omega) (by omega)]; exact hV
    obtain ⟨b, hb, hm⟩ := ref_inner l hl n K hK hK2 (w : Int) V hV' (l.length + 1) 0 0 (by omega) (Nat.le_refl _) (fun h => by omega) (fun j hj h1 h2 => by omega)
    refine ⟨b, Ev.step (fun k => ?_) hb, ?_⟩
    · simp only [holtref16_Fair.l0]; rw [if_pos hlt]; rfl
    · rw [hm, hVm]
      constructor
      · rintro ⟨h1, h2⟩ v hv hv'
        by_cases e : v = w
        · subst e; exact h1
        · exact h2 v (by omega) hv'
      · intro h; exact ⟨h w (Nat.le_refl _) (by omega), fun v hv hv' => h v (by omega) hv'⟩
/-- So many numbers want so many places. -/
theorem pigeon (n : Nat) : ∀ l : List Int, (∀ w : Nat, w < n → (w : Int) ∈ l) → n ≤ l.length := by
  induction n with
  | zero => intro l _; exact Nat.zero_le _
  | succ n ih =>
    intro l h
    have hm := h n (Nat.lt_succ_self n)
    have h1 := ih (l.erase (n : Int)) (fun w hw => (List.mem_erase_of_ne (by omega)).2 (h w (by omega)))
    rw [List.length_erase_of_mem hm] at h1
    have := List.length_pos_of_mem hm
    omega
theorem both (l : List Int) (hl : l.length ≤ 100000) (n : Int) (hn : n ≤ 100) (k0 : Int) (hk : (Lit.int .i64 k0).wf = true) : ∃ b, Ev (fun k => sched_Fair.f k l n k0) b ∧ Ev (fun k => holtref16_Fair.f k l n k0) b := by
  have hb64 := bounds_i64 hk
  by_cases h1 : k0 < 1
  · refine ⟨false, Ev.congr (fun k => ?_) (Ev.now false), Ev.congr (fun k => ?_) (Ev.now false)⟩
    · unfold sched_Fair.f; rw [if_pos h1]
    · unfold holtref16_Fair.f; rw [if_pos h1]
  · obtain ⟨K, rfl⟩ : ∃ K : Nat, k0 = (K : Int) := ⟨k0.toNat, by omega⟩
    obtain ⟨b, hb, hm⟩ := fair_ev l hl n hn K (by omega) (by omega)
    refine ⟨b, hb, ?_⟩
    by_cases h2 : l.length < K
    · have : b = true := hm.2 (fun a h3 h4 => by omega)
      subst this
      refine Ev.congr (fun k => ?_) (Ev.now true)
      unfold holtref16_Fair.f; rw [if_neg (by omega), if_pos (by omega)]
    · obtain ⟨N, hN⟩ : ∃ N : Nat, ∀ w : Nat, (w : Int) < n ↔ w < N := ⟨n.toNat, fun w => by omega⟩
      obtain ⟨c, hc, hcm⟩ := ref_outer l hl n hn K (by omega) (by omega) N hN N 0 (by omega)
      have e : b = c := by
        rw [Bool.eq_iff_iff, hm, hcm]
        constructor
        · intro h v _ hv a _ ha; exact (h a (Nat.zero_le _) ha).2 v ((hN v).2 hv)
        · intro h a _ ha
          refine ⟨?_, fun w hw => h w (Nat.zero_le _) ((hN w).1 hw) a (Nat.zero_le _) ha⟩
          have hp := pigeon N (win l K a) (fun w hw => h w (Nat.zero_le _) hw a (Nat.zero_le _) ha)
          rw [win_length l K a ha] at hp
          have := hN K
          omega
      subst e
      refine Ev.congr (fun k => ?_) hc
      unfold holtref16_Fair.f; rw [if_neg (by omega), if_neg (by omega)]; rfl

/-! ### Rounds -/
/-- Numbers in turn. -/
def rr (n m : Nat) : List Int := (List.range m).map fun i => ((i % n : Nat) : Int)
theorem rr_length (n m : Nat) : (rr n m).length = m := by simp [rr]
theorem rr_get (n m i : Nat) (h : i < (rr n m).length) : (rr n m)[i] = ((i % n : Nat) : Int) := by simp [rr]
theorem rr_succ (n m : Nat) : rr n (m + 1) = rr n m ++ [((m % n : Nat) : Int)] := by simp [rr, List.range_succ]
theorem round_inner (n t : Nat) (hn : 1 ≤ n) (hn2 : n ≤ 100) (ht : t ≤ 100) (j : Nat) (hj : j < t) (R : List Int) (hR : Ev (fun k => sched_Round.l0 k (n : Int) (rr n (n * (j + 1))) (t : Int) ((j + 1 : Nat) : Int)) R) (d : Nat) :
    ∀ i : Nat, i + d = n → Ev (fun k => sched_Round.l1 k (n : Int) (rr n (n * j + i)) (t : Int) (j : Int) (n : Int) (i : Int)) R := by
  induction d with
  | zero =>
    intro i hi
    obtain rfl : i = n := by omega
    refine Ev.step (fun k => ?_) (by rw [Nat.mul_succ] at hR; exact hR)
    simp only [sched_Round.l1]; rw [if_neg (by omega), w64 (by omega) (by omega)]; rfl
  | succ d ih =>
    intro i hi
    have h := ih (i + 1) (by omega)
    have hb : n * j ≤ 100 * 100 := Nat.mul_le_mul hn2 (by omega)
    refine Ev.step (fun k => ?_) h
    simp only [sched_Round.l1]
    rw [if_pos (by omega), if_pos (by rw [rr_length]; omega), w64 (by omega) (by omega)]
    rw [show n * j + (i + 1) = (n * j + i) + 1 by omega, rr_succ, Nat.mul_add_mod, Nat.mod_eq_of_lt (show i < n by omega)]; rfl
theorem round_outer (n t : Nat) (hn : 1 ≤ n) (hn2 : n ≤ 100) (ht : t ≤ 100) (d : Nat) : ∀ j : Nat, j + d = t → Ev (fun k => sched_Round.l0 k (n : Int) (rr n (n * j)) (t : Int) (j : Int)) (rr n (n * t)) := by
  induction d with
  | zero =>
    intro j hj
    obtain rfl : j = t := by omega
    refine Ev.step (fun k => ?_) (Ev.now _)
    simp only [sched_Round.l0]; rw [if_neg (by omega)]
  | succ d ih =>
    intro j hj
    have h := round_inner n t hn hn2 ht j (by omega) _ (ih (j + 1) (by omega)) n 0 (by omega)
    refine Ev.step (fun k => ?_) h
    simp only [sched_Round.l0]; rw [if_pos (by omega)]; rfl
theorem round_ev (n t : Nat) (hn : 1 ≤ n) (hn2 : n ≤ 100) (ht : 1 ≤ t) (ht2 : t ≤ 100) : Ev (fun k => sched_Round.f k (n : Int) (t : Int)) (rr n (n * t)) := by
  have h := round_outer n t hn hn2 ht2 t 0 (by omega)
  have hd : ¬ ((n : Int) > wrap64 ((1048576 : Int) / (t : Int))) := by
    have h1 : (100 : Int) ≤ (1048576 : Int) / (t : Int) := (Int.le_ediv_iff_mul_le (by omega)).2 (by omega)
    have h2 : (1048576 : Int) / (t : Int) ≤ 1048576 := Int.ediv_le_self _ (by omega)
    rw [w64 (by omega) (by omega)]; omega
  refine Ev.congr (f := fun k => sched_Round.j0 k (n : Int) (t : Int) false) (fun k => ?_) (Ev.step (fun k => ?_) h)
  · unfold sched_Round.f; rw [if_neg (by omega), if_neg (by omega), if_neg (by omega), decide_eq_false hd]
  · simp only [sched_Round.j0]; rw [if_neg (by decide)]; rfl
theorem round_none (n t : Int) (h : n < 1 ∨ t < 1) : Ev (fun k => sched_Round.f k n t) [] := by
  refine Ev.congr (f := fun k => sched_Round.j0 k n t true) (fun k => ?_) (Ev.step (fun k => ?_) (Ev.now []))
  · unfold sched_Round.f
    rcases h with h | h
    · rw [if_pos h]
    · by_cases h1 : n < 1
      · rw [if_pos h1]
      · rw [if_neg h1, if_pos h]
  · simp only [sched_Round.j0]; rw [if_pos trivial]
theorem round_fair (n t : Nat) (hn : 1 ≤ n) : FairP (rr n (n * t)) (n : Int) n 0 := by
  intro a _ ha
  rw [rr_length] at ha
  refine ⟨by omega, fun w hw => (mem_win _ _ _ (by rw [rr_length]; exact ha) _).2 ?_⟩
  have hq : a % n < n := Nat.mod_lt _ (by omega)
  have hdiv := Nat.div_add_mod a n
  by_cases hwq : a % n ≤ w
  · refine ⟨a + (w - a % n), by rw [rr_length]; omega, by omega, by omega, ?_⟩
    rw [rr_get]
    have e : a + (w - a % n) = n * (a / n) + w := by omega
    rw [e, Nat.mul_add_mod, Nat.mod_eq_of_lt (by omega)]
  · refine ⟨a + (n + w - a % n), by rw [rr_length]; omega, by omega, by omega, ?_⟩
    rw [rr_get]
    have e : a + (n + w - a % n) = n * (a / n + 1) + w := by rw [Nat.mul_succ]; omega
    rw [e, Nat.mul_add_mod, Nat.mod_eq_of_lt (by omega)]

/-! ### The law -/
theorem both_true (l : List Int) (hl : l.length ≤ 100000) (n : Int) (hn : n ≤ 100) (k0 : Int) (hk : (Lit.int .i64 k0).wf = true) :
    Ev (fun k => (sched_Fair.f k l n k0).bind fun s => (holtref16_Fair.f k l n k0).bind fun t => some (s == t)) true := by
  obtain ⟨b, h1, h2⟩ := both l hl n hn k0 hk
  refine Ev.bind h1 (Ev.bind h2 ?_)
  rw [beq_self_eq_true]; exact Ev.now true
theorem law_loop (l : List Int) (hl : l.length ≤ 60) (n t : Nat) (hn : 1 ≤ n) (hn2 : n ≤ 100) (ht2 : t ≤ 100) (k0 : Int) (hk : (Lit.int .i64 k0).wf = true) (d : Nat) :
    ∀ i : Nat, i + d = n * t → Ev (fun k => holtlaw16_SchedFair.l0 k l (n : Int) k0 true (rr n (n * t)) (i : Int)) true := by
  have hm : n * t ≤ 100 * 100 := Nat.mul_le_mul hn2 ht2
  induction d with
  | zero =>
    intro i hi
    obtain ⟨b, hb, hbm⟩ := fair_ev (rr n (n * t)) (by rw [rr_length]; omega) (n : Int) (by omega) n hn (by omega)
    have := hbm.2 (round_fair n t hn)
    subst this
    refine Ev.step (f := fun k => (sched_Fair.f k (rr n (n * t)) (n : Int) (n : Int)).bind fun s => if s = true then ((sched_Fair.f k l (n : Int) k0).bind fun s => (holtref16_Fair.f k l (n : Int) k0).bind fun t => some (s == t)) else some false) (fun k => ?_)
      (Ev.bind hb (by simpa using both_true l (by omega) (n : Int) (by omega) k0 hk))
    simp only [holtlaw16_SchedFair.l0]; rw [rr_length, if_neg (by omega), if_pos trivial]
  | succ d ih =>
    intro i hi
    refine Ev.step (fun k => ?_) (ih (i + 1) (by omega))
    simp only [holtlaw16_SchedFair.l0]
    rw [rr_length, if_pos (by omega), if_pos (by omega), if_neg (by omega), rd_nat _ i (by rw [rr_length]; omega), rr_get, if_pos (by rw [Int.tmod_eq_emod_of_nonneg (by omega)]; norm_cast), w64 (by omega) (by omega)]; rfl

theorem SchedFair : holtlaw16_SchedFair.Pure := by
  intro l n k0 t _ _ _ _ hk _
  refine Ev.rounds ?_
  by_cases hl : (l.length : Int) > 60
  · refine Ev.congr (fun k => ?_) (Ev.now true)
    unfold holtlaw16_SchedFair.f
    rw [show holtlaw16_awake.f = some true from rfl, Option.bind_some, if_pos hl]
  · have big : Ev (fun k => holtlaw16_SchedFair.j0 k l n k0 t true true) true := by
      refine Ev.step (fun k => ?_) (both_true l (by omega) (mn n 100) (by unfold mn; split <;> omega) k0 hk)
      simp only [holtlaw16_SchedFair.j0]; rw [if_pos trivial, if_pos trivial]
    have small (hn : n ≤ 100) (ht : t ≤ 100) : Ev (fun k => holtlaw16_SchedFair.j0 k l n k0 t true false) true := by
      by_cases h : n < 1 ∨ t < 1
      · refine Ev.step (f := fun k => (sched_Round.f k n t).bind fun r => holtlaw16_SchedFair.j1 k l n k0 t true r true) (fun k => ?_) (Ev.bind (round_none n t h) (Ev.step (fun k => ?_) (both_true l (by omega) n hn k0 hk)))
        · simp only [holtlaw16_SchedFair.j0]; rw [if_neg (by decide)]
          congr 1; funext r
          rcases h with h | h
          · rw [if_pos h]
          · by_cases h1 : n < 1
            · rw [if_pos h1]
            · rw [if_neg h1, decide_eq_true h]
        · simp only [holtlaw16_SchedFair.j1]; rw [if_pos trivial, if_pos trivial, if_pos (by rfl)]
      · obtain ⟨n', rfl⟩ : ∃ m : Nat, n = (m : Int) := ⟨n.toNat, by omega⟩
        obtain ⟨t', rfl⟩ : ∃ m : Nat, t = (m : Int) := ⟨t.toNat, by omega⟩
        have hm : n' * t' ≤ 100 * 100 := Nat.mul_le_mul (by omega) (by omega)
        refine Ev.step (f := fun k => (sched_Round.f k (n' : Int) (t' : Int)).bind fun r => holtlaw16_SchedFair.j1 k l (n' : Int) k0 (t' : Int) true r false) (fun k => ?_)
          (Ev.bind (round_ev n' t' (by omega) (by omega) (by omega) (by omega)) (Ev.step (fun k => ?_) (law_loop l (by omega) n' t' (by omega) (by omega) (by omega) k0 hk (n' * t') 0 (by omega))))
        · simp only [holtlaw16_SchedFair.j0]; rw [if_neg (by decide)]
          congr 1; funext r
          rw [if_neg (by omega), decide_eq_false (by omega)]
        · simp only [holtlaw16_SchedFair.j1]; rw [if_neg (by decide), rr_length, if_pos ?_]
          · rfl
          · have e : ((n' : Int) * (t' : Int)) = ((n' * t' : Nat) : Int) := by push_cast; rfl
            rw [e, w64 (by omega) (by omega)]
    by_cases hn : n > 100
    · refine Ev.congr (fun k => ?_) big
      unfold holtlaw16_SchedFair.f
      rw [show holtlaw16_awake.f = some true from rfl, Option.bind_some, if_neg hl, if_pos hn]
    · by_cases ht : t > 100
      · refine Ev.congr (fun k => ?_) big
        unfold holtlaw16_SchedFair.f
        rw [show holtlaw16_awake.f = some true from rfl, Option.bind_some, if_neg hl, if_neg hn, decide_eq_true ht]
      · refine Ev.congr (fun k => ?_) (small (by omega) (by omega))
        unfold holtlaw16_SchedFair.f
        rw [show holtlaw16_awake.f = some true from rfl, Option.bind_some, if_neg hl, if_neg hn, decide_eq_false ht]
end Go.Proofs.Ytbojnjomhjajaaa.Pure
