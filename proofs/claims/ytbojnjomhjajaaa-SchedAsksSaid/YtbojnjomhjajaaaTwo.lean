/- Two runs in one law: what the first one left stays while the second goes. -/
import Derived.Test.YtbojnjomhjajaaaRuns
namespace Go.Proofs.Ytbojnjomhjajaaa.Two
open Go.RowKit Go.Proofs.YtbojnjomhjajaaaW.PrintWords Go.Proofs.YtbojnjomhjajaaaW.PrintLast Go.Proofs.YtbojnjomhjajaaaW.PrintMore Go.Proofs.Ytbojnjomhjajaaa.Toy Go.Proofs.Ytbojnjomhjajaaa.Run Go.Proofs.Ytbojnjomhjajaaa.Toys Go.Proofs.Ytbojnjomhjajaaa.Hand Go.Proofs.Ytbojnjomhjajaaa.Model Go.Proofs.Ytbojnjomhjajaaa.BSchedRuns Go.Proofs.Ytbojnjomhjajaaa.Runs
set_option linter.unusedVariables false
set_option linter.unusedSimpArgs false

section
variable {w0 w w' : World} {base lb lb2 b : Nat} {gs : List Nat} {sts : List St} {u v vo : Value} {xs d : List Int} {S : Nat → Prop}
theorem row_base (h : Row w b vo d) : ∀ k, vo.ownBlock = some k → b ≤ k := fun k hk => ((Kd.R_bound h).1 k hk).2.1
theorem may_old (h : Inv w0 w base lb gs sts v xs) : ∀ k, May gs lb v k → base ≤ k := by
  rintro k (e | e | e)
  · exact h.old k e
  · exact e ▸ h.lold
  · exact row_base h.row k e
/-- What a run that is over has left: its list of steps, as logged and as answered. -/
structure Done (w : World) (base lb : Nat) (u vo : Value) (d : List Int) : Prop where
  log : w.heap[lb]? = some (.cells #[u] 22 (0, 0))
  row : Row w base u d
  out : Row w base vo d
theorem Done.below (h : Done w base lb u vo d) (hb : Below w.heap.size w w') : Done w' base lb u vo d := ⟨(hb.block lb (blk_lt h.log)).trans h.log, Kd.R_below h.row hb, Kd.R_below h.out hb⟩
theorem Done.kept (h : Done w base lb u vo d) (hk : Kept w w' S) (h1 : ¬ S lb) (h2 : ∀ k, u.ownBlock = some k → ¬ S k) (h3 : ∀ k, vo.ownBlock = some k → ¬ S k) : Done w' base lb u vo d :=
  ⟨blk_kept h.log hk h1, h.row.kept hk h2, h.out.kept hk h3⟩
theorem Done.run (h : Done w base lb u vo d) (hI : Inv w0 w b lb2 gs sts v xs) (hk : Kept w w' (May gs lb2 v)) (hl : lb ≠ lb2) (h2 : Apart u v) (h3 : Apart vo v) : Done w' base lb u vo d :=
  h.kept hk
    (by
      rintro (e | e | e)
      · obtain ⟨i, hi, rfl⟩ := List.mem_iff_getElem.1 e
        exact blk_ne (hI.toys i hi (hI.len ▸ hi)) h.log (by decide) rfl
      · exact hl e
      · exact hI.row.ne h.log (by decide) e)
    (fun k hk => by
      obtain ⟨cs, hc⟩ := row_typed h.row k hk
      exact may_not hI hc (by decide) (by decide) (h2 k hk))
    (fun k hk => by
      obtain ⟨cs, hc⟩ := row_typed h.out k hk
      exact may_not hI hc (by decide) (by decide) (h3 k hk))
theorem inv_kept (h : Inv w0 w base lb gs sts v xs) (hk : Kept w w' S) (hbel : Below base w0 w') (h1 : ∀ g ∈ gs, ¬ S g) (h2 : ¬ S lb) (h3 : ∀ k, v.ownBlock = some k → ¬ S k) : Inv w0 w' base lb gs sts v xs := h.stay hk hbel h1 h2 h3
/-- Run, over a row of workers of the law's own, beside plain numbers. -/
theorem run_rel {m : Nat} {l : List Int} {A0 : Option Addr} {c0 b0 n : Nat} {A1 : Option Addr} {c1 : Nat} (ps : List Int)
    (hI : Inv w0 w base lb gs sts v xs) (hr : Rel sts l) (hws : Kd.R kw 41 w b0 (fun _ => True) (.slice A0 n c0) (gs.map some ++ List.replicate m none)) (hn : n = gs.length + m)
    (hps : ∀ W, Kept w W (May gs lb v) → Kd.C (Kd.int .i64) W A1 ps.length ps) (hpc : ps.length ≤ c1) (hxs : xs.length + ps.length ≤ 1000000) :
    Calls Try.prog 10 #[.slice A0 n c0, .slice A1 ps.length c1] w fun e w' => ∃ vo T l' d u, e = .returned vo ∧ Aside0 ((∀ ys os, ps.foldl pick (sts, ys, os) = (T, ys ++ d, os ++ d)) ∧ (∀ out, ps.foldl rpick (l, out) = (l', out ++ d)) ∧ Rel T l' ∧ Inv w0 w' base lb gs T u (xs ++ d) ∧ Row w' base vo d ∧ Apart u vo ∧
      Kept w w' (May gs lb v) ∧ (∀ k, u.ownBlock = some k → v.ownBlock = some k ∨ w.heap.size ≤ k) ∧ (∀ k, vo.ownBlock = some k → w.heap.size ≤ k)) := by
  refine (run_own (m := m) ps hI hws hn hps hpc hxs).mono ?_
  rintro e w1 ⟨vo, T, ys, os, u, rfl, hf, hI1, hO, hV, hA, hK, hU⟩
  obtain ⟨T', l', d, h1, h2, h3⟩ := fold_sim ps hr
  rw [h1, List.nil_append] at hf
  simp only [Prod.mk.injEq] at hf
  obtain ⟨rfl, rfl, rfl⟩ := hf
  refine ⟨vo, T', l', d, u, rfl, ⟨h1, h2, h3, hI1, hO, hA, hK, fun k hk => ?_, hV⟩⟩
  rcases hU k hk with (e | e | e) | e
  · obtain ⟨i, hi, rfl⟩ := List.mem_iff_getElem.1 e
    exact absurd hk (hI1.row.ne (hI1.toys i hi (hI1.len ▸ hi)) (by decide))
  · exact absurd (e ▸ hk) (hI1.row.ne hI1.log (by decide))
  · exact .inl e
  · exact .inr e
theorem apart_nil (u : Value) : Apart u (.slice none 0 0) := fun k _ => by simp [Value.ownBlock]
/-- Ints over two rows of the same numbers. -/
theorem ints_two {A B : Option Addr} {cA cB bA bB : Nat} {eA eB : Nat} {okA okB : Nat → Prop} {nA nB : Nat} (hA : Kd.R (Kd.int .i64) eA w bA okA (.slice A nA cA) d) (hB : Kd.R (Kd.int .i64) eB w bB okB (.slice B nB cB) d) (hd : d.length ≤ 1000000) :
    Calls Try.prog 11 #[.slice A nA cA, .slice B nB cB] w fun e w' => e = .returned (.bool true) ∧ ∃ nd, w' = w.drewN nd := by
  have h1 := Kd.R_reads' hA
  have h2 := Kd.R_reads' hB
  obtain rfl := h1.1
  obtain rfl := h2.1
  exact (holtref01_Ints.calls (d.length + 1) _ _ d _ _ d true _ h1.2.2 h1.2.1 h2.2.2 h2.2.1 (ints_same d hd)).mono fun e w' h => ⟨h.1, by obtain ⟨nd, hnd⟩ := h.2; exact ⟨nd, hnd⟩⟩
/-- The other list of steps is not written. -/
theorem may_log (hI : Inv w0 w base lb gs sts (.slice none 0 0) xs) {l2 : Nat} {cs : Array Value} (h : w.heap[l2]? = some (.cells cs 22 (0, 0))) (hl : l2 ≠ lb) : ¬ May gs lb (.slice none 0 0) l2 := by
  rintro (e | e | e)
  · obtain ⟨i, hi, rfl⟩ := List.mem_iff_getElem.1 e
    exact blk_ne (hI.toys i hi (hI.len ▸ hi)) h (by decide) rfl
  · exact hl e
  · simp [Value.ownBlock] at e
end
end Go.Proofs.Ytbojnjomhjajaaa.Two
