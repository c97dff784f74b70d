/- The pure side of SumPlaced: another byte in the place of one is seen; so are two neighbours that change places, if they are unlike: two to three hundred bytes. -/
import Derived.Test.YtciknbffmaengaaGSumPlacedx2
import Derived.Test.YtciknbffmaengaaPlain
namespace Go.Proofs.Ytciknbffmaengaa.Pure
open Go.RowKit Go.Proofs.YtciknbffmaengaaW.PrintWords Go.Proofs.YtciknbffmaengaaW.PrintLast Go.Proofs.YtciknbffmaengaaW.PrintMore Go.Proofs.Ytciknbffmaengaa.Plain Go.Proofs.Ytciknbffmaengaa.Crc Go.Proofs.Ytciknbffmaengaa.GSumPlaced

theorem one_placed (b : List Nat) (hb : ∀ c ∈ b, c < 256) (K v : Nat) (hK : K < b.length) (hv : v < 256) : (ofN (b.set K v) = ofN b) ↔ v = b.getD K 0 := by
  constructor
  · intro h
    have e := burst_of (b.set K v) b (List.length_set ..) (set_bytes b K v hb hv) hb (8 * K) (fun j hj => by
      unfold bitAt
      rw [getD_set b K v _ hK, if_neg (by omega)]) h
    have := congrArg (fun l => l.getD K 0) e
    simp only [getD_set b K v K hK, if_true] at this
    exact this
  · intro h
    have e : b.set K v = b := by
      apply List.ext_getElem (List.length_set ..)
      intro j h1 h2
      rw [List.getElem_set]
      by_cases hj : K = j
      · subst hj; rw [if_pos rfl, h]; simp [hK]
      · rw [if_neg hj]
    rw [e]
theorem two_placed (b : List Nat) (hb : ∀ c ∈ b, c < 256) (K : Nat) (hK : K + 1 < b.length) : (ofN ((b.set K (b.getD (K + 1) 0)).set (K + 1) (b.getD K 0)) = ofN b) ↔ b.getD K 0 = b.getD (K + 1) 0 := by
  have h0 := getD_byte b hb K
  have h1 := getD_byte b hb (K + 1)
  have hl1 : K + 1 < (b.set K (b.getD (K + 1) 0)).length := by rw [List.length_set]; exact hK
  constructor
  · intro h
    have e := burst_of _ b (by rw [List.length_set, List.length_set]) (set_bytes _ (K + 1) _ (set_bytes b K _ hb h1) h0) hb (8 * K) (fun j hj => by
      unfold bitAt
      rw [getD_set _ (K + 1) _ _ hl1, if_neg (by omega), getD_set b K _ _ (by omega), if_neg (by omega)]) h
    have := congrArg (fun l => l.getD (K + 1) 0) e
    simp only [getD_set _ (K + 1) _ (K + 1) hl1, if_true] at this
    exact this
  · intro h
    have e : (b.set K (b.getD (K + 1) 0)).set (K + 1) (b.getD K 0) = b := by
      apply List.ext_getElem (by rw [List.length_set, List.length_set])
      intro j g1 g2
      rw [List.getElem_set, List.getElem_set]
      by_cases hj : K + 1 = j
      · subst hj; rw [if_pos rfl, h]; simp [hK]
      · rw [if_neg hj]
        by_cases hj' : K = j
        · subst hj'; rw [if_pos rfl, ← h]; simp [show K < b.length by omega]
        · rw [if_neg hj']
    rw [e]

theorem stops (x0 : List Int) (x1 x2 : Int) : holtlaw02_SumPlaced.j0 1 x0 x1 x2 true true = some true := by
  rw [holtlaw02_SumPlaced.j0, if_pos rfl]
theorem goes (b : List Nat) (hb : ∀ c ∈ b, c < 256) (at_ v n K : Nat) (hn2 : b.length = n + 2) (hn : n + 2 ≤ 300) (hv : v < 256) (hm : K < n + 1) (e0 : wrap64 (at_ : Int) = (at_ : Int)) (e1 : wrap64 ((b.length : Int) - 1) = ((n + 1 : Nat) : Int))
    (e2 : Int.tmod (at_ : Int) ((n + 1 : Nat) : Int) = (K : Int)) (e3 : wrap64 ((K : Int) + 1) = ((K + 1 : Nat) : Int)) : holtlaw02_SumPlaced.j0 1 (ints b) (at_ : Int) (v : Int) true false = some true := by
  rw [holtlaw02_SumPlaced.j0, if_neg (show ¬ (false = true) by decide)]
  simp only [Option.bind_some, List.nil_append, List.length_nil, ints_length, e0, e1, e2, e3]
  clear e0 e1 e2 e3
  have g1 : (((n + 1 : Nat) : Int) = 0) = False := eq_false (by omega)
  have g2 : (0 + b.length < 140737488355328) = True := eq_true (by omega)
  have g3 : (0 ≤ (K : Int)) = True := eq_true (by omega)
  have g4 : ((K : Int) < (b.length : Int)) = True := eq_true (by omega)
  have g5 : (0 ≤ ((K + 1 : Nat) : Int)) = True := eq_true (by omega)
  have g6 : (((K + 1 : Nat) : Int) < (b.length : Int)) = True := eq_true (by omega)
  simp only [g1, g2, g3, g4, g5, g6, if_true, if_false]
  simp only [ints_rd, Int.toNat_natCast, ints_set, sum_Of.f, sum_Then.f, Option.bind_some]
  rw [of_nat _ (set_bytes b K v hb hv), of_nat b hb, of_nat _ (set_bytes _ (K + 1) _ (set_bytes b K _ hb (getD_byte b hb (K + 1))) (getD_byte b hb K))]
  have hone := one_placed b hb K v (by omega) hv
  have htwo := two_placed b hb K (by omega)
  have f1 : ((((ofN (b.set K v) : Nat) : Int) == ((ofN b : Nat) : Int)) == ((v : Int) == ((b.getD K 0 : Nat) : Int))) = true := by
    rw [beq_iff_eq, Bool.eq_iff_iff, beq_iff_eq, beq_iff_eq, Int.ofNat_inj, Int.ofNat_inj]
    exact hone
  have f2 : ((((ofN ((b.set K (b.getD (K + 1) 0)).set (K + 1) (b.getD K 0)) : Nat) : Int) == ((ofN b : Nat) : Int)) == (((b.getD K 0 : Nat) : Int) == ((b.getD (K + 1) 0 : Nat) : Int))) = true := by
    rw [beq_iff_eq, Bool.eq_iff_iff, beq_iff_eq, beq_iff_eq, Int.ofNat_inj, Int.ofNat_inj]
    exact htwo
  rw [if_pos f1, f2]

theorem SumPlaced : holtlaw02_SumPlaced.Pure := by
  intro l0 a1 a2 _ _ h0 h1 h2
  obtain ⟨b, rfl, hb⟩ := as_nats l0 h0
  have hr := bounds_u16 h1
  have hv := bounds_u8 h2
  obtain ⟨at_, rfl⟩ : ∃ n : Nat, a1 = (n : Int) := ⟨a1.toNat, by omega⟩
  obtain ⟨v, rfl⟩ : ∃ n : Nat, a2 = (n : Int) := ⟨a2.toNat, by omega⟩
  refine ⟨1, ?_⟩
  unfold holtlaw02_SumPlaced.f
  rw [show holtlaw02_awake.f = some true from rfl, Option.bind_some, ints_length]
  by_cases hn : (b.length : Int) > 300
  · rw [if_pos hn]; exact stops _ _ _
  · rw [if_neg hn]
    by_cases hz : (b.length : Int) < 2
    · rw [decide_eq_true hz]; exact stops _ _ _
    · rw [decide_eq_false hz]
      obtain ⟨n, hn2⟩ : ∃ n, b.length = n + 2 := ⟨b.length - 2, by omega⟩
      have hm : at_ % (n + 1) < n + 1 := Nat.mod_lt _ (by omega)
      exact goes b hb at_ v n (at_ % (n + 1)) hn2 (by omega) (by omega) hm (w64_small (by omega) (by omega)) (by rw [w64_small (by omega) (by omega)]; omega)
        (by rw [Int.tmod_eq_emod_of_nonneg (by omega)]; norm_cast) (by rw [w64_small (by omega) (by omega)]; omega)
end Go.Proofs.Ytciknbffmaengaa.Pure
