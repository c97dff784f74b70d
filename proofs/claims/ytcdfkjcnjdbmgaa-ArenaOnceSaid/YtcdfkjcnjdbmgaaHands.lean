/- Layer 09: rows of handles and of whether they are gone, as the laws hold them. -/
import Derived.Test.YtcdfkjcnjdbmgaaAwake
import Derived.Test.YtcdfkjcnjdbmgaaPArenaOncex2
namespace Go.Proofs.Ytcdfkjcnjdbmgaa.Hands
open Go.RowKit Go.Proofs.YtcdfkjcnjdbmgaaW.PrintWords Go.Proofs.YtcdfkjcnjdbmgaaW.PrintLast Go.Proofs.YtcdfkjcnjdbmgaaW.PrintMore Go.Proofs.Ytcdfkjcnjdbmgaa.Core Go.Proofs.Ytcdfkjcnjdbmgaa.Put Go.Proofs.Ytcdfkjcnjdbmgaa.Find Go.Proofs.Ytcdfkjcnjdbmgaa.Awake
open Go.Proofs.Ytcdfkjcnjdbmgaa.PArenaOnce (S31 k31 z31 rd_T31 at_T31 k31_mkM k31_mk)
set_option linter.unusedVariables false
set_option linter.unusedSimpArgs false
theorem wf8 {x : Int} (h : (Lit.int .u8 x).wf = true) : 0 ≤ x ∧ x ≤ 255 := by
  unfold Lit.wf at h
  rw [Bool.and_eq_true] at h
  exact ⟨of_decide_eq_true h.1, of_decide_eq_true h.2⟩
theorem rd_nat (l : List Int) (k : Nat) (h : k < l.length) : rd l (k : Int) = l[k] := by simp [rd, h]
theorem info31 : (Try.prog.info? 31).map (fun i => (i.zero, i.size, i.bytes)) = some (some (.agg #[.int .i64 0, .int .i64 0]), 2, 16) := by kernel_rfl
theorem info4 : (Try.prog.info? 4).map (fun i => (i.zero, i.size, i.bytes)) = some (some (.bool false), 1, 1) := by kernel_rfl
/-- A row of handles of the law's own. -/
def HRow (w : World) (base : Nat) (v : Value) (hs : List S31) : Prop := Kd.R k31 31 w base (fun _ => True) v hs
/-- A row of bools of the law's own. -/
def BRow (w : World) (base : Nat) (v : Value) (bs : List Bool) : Prop := Kd.R Kd.bool 4 w base (fun _ => True) v bs
section
variable {w w1 : World} {base : Nat} {v : Value} {hs : List S31} {bs : List Bool} {ts : List Nat}
theorem HRow.kept (h : HRow w base v hs) (hk : KeptT w w1 ts) (ht : 31 ∉ ts) : HRow w1 base v hs := hk.row h (by intro q hq; simp [k31, Kd.iso, Kd.pair, Kd.int, Kd.scalar] at hq; subst hq; exact ht)
theorem BRow.kept (h : BRow w base v bs) (hk : KeptT w w1 ts) (ht : 4 ∉ ts) : BRow w1 base v bs := hk.row h (by intro q hq; simp [Kd.bool, Kd.scalar] at hq; subst hq; exact ht)
theorem HRow.below (h : HRow w base v hs) (hb : Below w.heap.size w w1) : HRow w1 base v hs := Kd.R_below h hb
theorem BRow.below (h : BRow w base v bs) (hb : Below w.heap.size w w1) : BRow w1 base v bs := Kd.R_below h hb
theorem KeptT.grownRow {α : Type} {d : Kd α} {e : Nat} {ok : Nat → Prop} {xs : List α} (h : d.R e w base ok v xs) (hg : w.grownBy w1 v.ownBlock) : KeptT w w1 [e] := .grown hg (fun k hk => by
  obtain ⟨inner, ho⟩ := Kd.R_own h
  obtain ⟨cs, hc⟩ := own_typed ho k hk
  exact ⟨cs, e, hc, by simp⟩)
theorem HRow.cells (h : HRow w base v hs) (k : Nat) (hk : k < hs.length) : ∃ gh c, v = .slice (some ⟨gh, 0, none⟩) hs.length c ∧ hs.length ≤ c ∧ w.cell? ⟨gh, k * 2, none⟩ = some (.int .i64 hs[k].f0) ∧ w.cell? ⟨gh, k * 2 + 1, none⟩ = some (.int .i64 hs[k].f1) := by
  obtain ⟨inner, ho⟩ := Kd.R_own h
  obtain ⟨gh, c, rfl⟩ := own_some ho (by omega)
  have hr := Kd.R_reads' h
  obtain ⟨ad, e, h1, h2⟩ := at_T31 hr.2.2 (k : Int) (by omega) (by omega)
  injection e with e
  subst e
  rw [Int.toNat_natCast, add_plain] at h1 h2
  have e1 : rd_T31 hs (k : Int) = hs[k] := by simp [rd_T31, hk]
  rw [e1] at h1 h2
  exact ⟨gh, c, rfl, hr.2.1, h1, h2⟩
theorem BRow.cells (h : BRow w base v bs) (k : Nat) (hk : k < bs.length) : ∃ gb c, v = .slice (some ⟨gb, 0, none⟩) bs.length c ∧ bs.length ≤ c ∧ w.cell? ⟨gb, k, none⟩ = some (.bool bs[k]) ∧ w.frozen? ⟨gb, k, none⟩ = false := by
  obtain ⟨inner, ho⟩ := Kd.R_own h
  obtain ⟨gb, c, rfl⟩ := own_some ho (by omega)
  have hr := Kd.R_reads' h
  have hc := Kd.R_cell false h (k : Int) (by omega) (by omega)
  rw [Int.toNat_natCast] at hc
  have e1 : rdOf false bs (k : Int) = bs[k] := by simp [rdOf, hk]
  rw [e1] at hc
  exact ⟨gb, c, rfl, hr.2.1, hc.1, hc.2⟩
end
end Go.Proofs.Ytcdfkjcnjdbmgaa.Hands
