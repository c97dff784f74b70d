/- Layer 09: a parameter that is a slice of acts, opened to its cells. -/
import Derived.Test.YtcdfkjcnjdbmgaaPlays
import Derived.Deep.Slices
import Derived.ChangeArms
import Derived.DataReads
import Derived.ChangeShapes
namespace Go.Proofs.Ytcdfkjcnjdbmgaa.Acts
open Go.ChangeShapes Go.WideShapes Go.Deep Go.Proofs.Ytcdfkjcnjdbmgaa.Plays
set_option linter.unusedVariables false
set_option linter.unusedSimpArgs false
theorem cells3 : Try.prog.cellsOf 3 = 1 := by kernel_rfl
theorem cells31 : Try.prog.cellsOf 31 = 2 := by kernel_rfl
theorem cells33 : Try.prog.cellsOf 33 = 4 := by kernel_rfl
section
variable {H : Type} {enc : TypeId × Value → H} {w : World} {base : Nat} {spare : Nat → Bool} {held : Bool}
theorem int_at {fuel : Nat} {cs : List Value} {y : Option (DataW H × List MemPlace)} {j : Nat} (hy : ∃ z, y = some z) (h : DataW.trod enc Try.prog w base spare held fuel 3 ((cs.drop j).take 1) = y) : ∃ n, cs[j]? = some (.int .i64 n) := by
  obtain ⟨z, rfl⟩ := hy
  obtain ⟨n, hn, _⟩ := DataW.trod_int Try.underlying3 h
  refine ⟨n, ?_⟩
  have h0 : ((cs.drop j).take 1)[0]? = some (.int .i64 n) := by rw [hn]; rfl
  rw [List.getElem?_take] at h0
  simpa using h0
theorem act_at {fuel : Nat} {cs : List Value} {x : DataW H × List MemPlace} (h : DataW.trod enc Try.prog w base spare held fuel 33 cs = some x) : ∃ c : Ac, cs[0]? = some (.int .i64 c.kind) ∧ cs[1]? = some (.int .i64 c.n) ∧ cs[2]? = some (.int .i64 c.s) ∧ cs[3]? = some (.int .i64 c.g) := by
  obtain ⟨xs, n, _, _, _, hlen, hf⟩ := DataW.trod_struct Try.underlying33 h
  have hlen3 : xs.length = 3 := hlen
  have h0 : DataW.trod enc Try.prog w base spare held n 3 ((cs.drop 0).take (Try.prog.cellsOf 3)) = xs[0]? := hf 0 _ rfl
  have h1 : DataW.trod enc Try.prog w base spare held n 3 ((cs.drop 1).take (Try.prog.cellsOf 3)) = xs[1]? := hf 1 _ rfl
  have h2 : DataW.trod enc Try.prog w base spare held n 31 ((cs.drop 2).take (Try.prog.cellsOf 31)) = xs[2]? := hf 2 _ rfl
  rw [cells3] at h0 h1
  rw [cells31] at h2
  have e0 : ∃ z, xs[0]? = some z := ⟨_, List.getElem?_eq_getElem (by omega)⟩
  have e1 : ∃ z, xs[1]? = some z := ⟨_, List.getElem?_eq_getElem (by omega)⟩
  have e2 : xs[2]? = some (xs[2]'(by omega)) := List.getElem?_eq_getElem (by omega)
  obtain ⟨a, ha⟩ := int_at e0 h0
  obtain ⟨b, hb⟩ := int_at e1 h1
  rw [e2] at h2
  obtain ⟨ys, n', _, _, _, hlen', hf'⟩ := DataW.trod_struct Try.underlying31 h2
  have hlen2 : ys.length = 2 := hlen'
  have g0 : DataW.trod enc Try.prog w base spare held n' 3 ((((cs.drop 2).take 2).drop 0).take (Try.prog.cellsOf 3)) = ys[0]? := hf' 0 _ rfl
  have g1 : DataW.trod enc Try.prog w base spare held n' 3 ((((cs.drop 2).take 2).drop 1).take (Try.prog.cellsOf 3)) = ys[1]? := hf' 1 _ rfl
  rw [cells3] at g0 g1
  have f0 : ∃ z, ys[0]? = some z := ⟨_, List.getElem?_eq_getElem (by omega)⟩
  have f1 : ∃ z, ys[1]? = some z := ⟨_, List.getElem?_eq_getElem (by omega)⟩
  obtain ⟨c, hc⟩ := int_at f0 g0
  obtain ⟨d, hd⟩ := int_at f1 g1
  refine ⟨⟨a, b, c, d⟩, ha, hb, ?_, ?_⟩
  · rw [List.getElem?_take, if_pos (by omega), List.getElem?_drop] at hc
    exact hc
  · rw [List.getElem?_take, if_pos (by omega), List.getElem?_drop] at hd
    exact hd
theorem acts_open {a : Option Addr} {len cap : Nat} {d : DataW H} {ps : List MemPlace} (h : DataW.Trod enc Try.prog w base (fun _ => true) held 22 (.slice a len cap) d ps) : ∃ l : List Ac, l.length = len ∧ ActRow w a l ∧ len ≤ cap := by
  obtain ⟨fuel, hf⟩ := h
  rcases open_slice Try.underlying22 hf with ⟨hcs, _⟩ | ⟨x, ln, cp, m, n, D, Pl, hcs, hb, hl, hm, hmm, _, hi⟩
  · simp [Value.cells] at hcs
    obtain ⟨rfl, rfl, rfl⟩ := hcs
    exact ⟨[], rfl, fun k hk => absurd hk (Nat.not_lt_zero _), Nat.le_refl _⟩
  · simp [Value.cells] at hcs
    obtain ⟨rfl, rfl, rfl⟩ := hcs
    rw [if_pos rfl] at hmm
    subst hmm
    have hex : ∀ i, i < len → ∃ c : Ac, w.cell? (x.add (i * 4)) = some (.int .i64 c.kind) ∧ w.cell? (x.add (i * 4 + 1)) = some (.int .i64 c.n) ∧ w.cell? (x.add (i * 4 + 2)) = some (.int .i64 c.s) ∧ w.cell? (x.add (i * 4 + 3)) = some (.int .i64 c.g) := by
      intro i hil
      obtain ⟨cs', hc, ht⟩ := hi i (by omega)
      rw [cells33] at hc
      obtain ⟨_, hlen, hcell⟩ := World.cells?_some hc
      obtain ⟨c, h0, h1, h2, h3⟩ := act_at ht
      have key : ∀ j, j < 4 → w.cell? (x.add (i * 4 + j)) = cs'[j]? := fun j hj => by
        rw [← Go.Deep.add_add]
        exact hcell j hj
      exact ⟨c, (key 0 (by omega)).trans h0, (key 1 (by omega)).trans h1, (key 2 (by omega)).trans h2, (key 3 (by omega)).trans h3⟩
    let f : Nat → Ac := fun i => if hil : i < len then Classical.choose (hex i hil) else ⟨0, 0, 0, 0⟩
    refine ⟨(List.range len).map f, by simp, fun k hk => ⟨x, rfl, ?_⟩, hl⟩
    have hkl : k < len := by simpa using hk
    have e : ((List.range len).map f)[k] = Classical.choose (hex k hkl) := by simp [f, hkl]
    rw [e]
    exact Classical.choose_spec (hex k hkl)
end
end Go.Proofs.Ytcdfkjcnjdbmgaa.Acts
