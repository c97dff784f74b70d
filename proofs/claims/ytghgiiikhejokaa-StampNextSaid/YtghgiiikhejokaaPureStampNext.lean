/- The pure side of StampNext: the next stamp of the program, and of the document's answer, are the same at all numbers. No condition. -/
import Derived.Test.YtghgiiikhejokaaPStampNextx3
namespace Go.Proofs.Ytghgiiikhejokaa.Pure
open Go.RowKit Go.Proofs.Ytghgiiikhejokaa.PStampNext Go.Proofs.YtghgiiikhejokaaW.PrintWords Go.Proofs.YtghgiiikhejokaaW.PrintLast

theorem awake_ten : holtlaw04_awake.f 10 = some true := by decide +kernel

theorem StampNext : holtlaw04_StampNext.Pure := by
  intro a b c _ _ _
  refine ⟨10, ?_⟩
  unfold holtlaw04_StampNext.f
  rw [awake_ten]
  have h : stamp_Next.f 10 a b c = holtref04_Next.f 10 a b c := by
    unfold stamp_Next.f holtref04_Next.f
    have e : ∀ t, stamp_Next.j0 10 a b c t = holtref04_Next.j0 10 a b c t := fun t => rfl
    simp only [e]
    have e1 : (a > 16777215) = (a ≥ 16777216) := propext ⟨by omega, by omega⟩
    have e2 : (c > 16777215) = (c ≥ 16777216) := propext ⟨by omega, by omega⟩
    have e3 : decide (b ≥ 256) = decide (b > 255) := decide_eq_decide.2 ⟨by omega, by omega⟩
    simp only [e1, e2, e3]
  rw [h]
  obtain ⟨r, hr⟩ : ∃ r, holtref04_Next.f 10 a b c = some r := by
    have e : ∀ t, holtref04_Next.j0 10 a b c t = if t = true then some (0, 0, 1) else (if a ≥ c then (some (0, 0, 5)) else (some (wrap64 (a + 1), b, 0))) := fun t => rfl
    unfold holtref04_Next.f
    simp only [e]
    repeat' first | exact ⟨_, rfl⟩ | split
  rw [hr]
  simp

end Go.Proofs.Ytghgiiikhejokaa.Pure
