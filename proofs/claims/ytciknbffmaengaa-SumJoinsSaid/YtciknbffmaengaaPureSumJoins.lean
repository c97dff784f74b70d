/- The pure side of SumJoins: the sum of bytes behind bytes is that of the first ones, gone on with: up to three hundred bytes each, any number. -/
import Derived.Test.YtciknbffmaengaaGSumJoinsx1
import Derived.Test.YtciknbffmaengaaPlain
namespace Go.Proofs.Ytciknbffmaengaa.Pure
open Go.RowKit Go.Proofs.YtciknbffmaengaaW.PrintWords Go.Proofs.YtciknbffmaengaaW.PrintLast Go.Proofs.YtciknbffmaengaaW.PrintMore Go.Proofs.Ytciknbffmaengaa.Plain Go.Proofs.Ytciknbffmaengaa.Crc Go.Proofs.Ytciknbffmaengaa.GSumJoins

/-- Then behind Then. -/
theorem then_then (s : Nat) (l m : List Nat) (hs : s < 4294967296) (hl : ∀ c ∈ l, c < 256) (hm : ∀ c ∈ m, c < 256) :
    Then.thenI (s : Int) (ints l ++ ints m) = Then.thenI (Then.thenI (s : Int) (ints l)) (ints m) := by
  have hlm : ∀ c ∈ l ++ m, c < 256 := fun c hc => (List.mem_append.1 hc).elim (hl c) (hm c)
  have h1 := then_nat (l ++ m) hs hlm
  have h2 := then_nat l hs hl
  have hr := run_lt l (xor_max hs) hl
  have h3 := then_nat m (xor_max hr) hm
  rw [cpl_cpl, ← run_append] at h3
  rw [← ints_append]
  refine h1.trans (h3.symm.trans ?_)
  exact congrArg (fun z => Then.thenI z (ints m)) h2.symm

theorem SumJoins : holtlaw02_SumJoins.Pure := by
  intro l0 l1 a2 _ _ h0 _ _ h1 h2
  obtain ⟨l, rfl, hl⟩ := as_nats l0 h0
  obtain ⟨m, rfl, hm⟩ := as_nats l1 h1
  obtain ⟨s, rfl, hs⟩ := as_nat a2 h2
  refine ⟨1, ?_⟩
  have hstop : holtlaw02_SumJoins.j0 1 (ints l) (ints m) (s : Int) true true = some true := by simp only [holtlaw02_SumJoins.j0]; rfl
  unfold holtlaw02_SumJoins.f
  rw [show holtlaw02_awake.f = some true from rfl, Option.bind_some]
  rw [ints_length, ints_length]
  by_cases hn : (l.length : Int) > 300
  · rw [if_pos hn]; exact hstop
  · rw [if_neg hn]
    by_cases hn2 : (m.length : Int) > 300
    · rw [decide_eq_true hn2]; exact hstop
    · rw [decide_eq_false hn2]
      have hz := then_then 0 l m (by omega) hl hm
      have hy := then_then s l m hs hl hm
      have hz : Then.thenI 0 (ints l ++ ints m) = Then.thenI (Then.thenI 0 (ints l)) (ints m) := hz
      simp only [holtlaw02_SumJoins.j0, Bool.false_eq_true, if_false, if_true, Option.bind_some, sum_Of.f, sum_Then.f, List.nil_append, List.length_nil, List.length_append, ints_length]
      rw [if_pos (by omega), if_pos (by omega), hz, if_pos rfl, hy]
      simp
end Go.Proofs.Ytciknbffmaengaa.Pure
