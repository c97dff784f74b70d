/- Layer 09: the document's arena as it lies in the heap, and the contracts of its Live, uses, next, find, Get. -/
import Derived.Test.YtcdfkjcnjdbmgaaFind
namespace Go.Proofs.Ytcdfkjcnjdbmgaa.Doc
open Go.RowKit Go.Proofs.YtcdfkjcnjdbmgaaW.PrintWords Go.Proofs.YtcdfkjcnjdbmgaaW.PrintLast Go.Proofs.YtcdfkjcnjdbmgaaW.PrintMore Go.Proofs.Ytcdfkjcnjdbmgaa.Core Go.Proofs.Ytcdfkjcnjdbmgaa.Put Go.Proofs.Ytcdfkjcnjdbmgaa.Find
set_option linter.unusedVariables false
set_option linter.unusedSimpArgs false
/-- Something that was put. -/
structure Pt where
  s : Int
  g : Int
  x : Int
  lies : Bool
  fr : Int
def Pt.cells (p : Pt) : List Value := [.int .i64 p.s, .int .i64 p.g, .int .i64 p.x, .bool p.lies, .int .i64 p.fr]
def flatP (L : List Pt) : List Value := L.flatMap Pt.cells
theorem flatP_cons (p : Pt) (L : List Pt) : flatP (p :: L) = p.cells ++ flatP L := rfl
theorem flatP_append (L M : List Pt) : flatP (L ++ M) = flatP L ++ flatP M := by simp [flatP, List.flatMap_append]
theorem flatP_get (L : List Pt) (i : Nat) (h : i < L.length) : (flatP L)[i * 5]? = some (.int .i64 L[i].s) ∧ (flatP L)[i * 5 + 1]? = some (.int .i64 L[i].g) ∧ (flatP L)[i * 5 + 2]? = some (.int .i64 L[i].x) ∧ (flatP L)[i * 5 + 3]? = some (.bool L[i].lies) ∧ (flatP L)[i * 5 + 4]? = some (.int .i64 L[i].fr) := by
  induction L generalizing i with
  | nil => simp at h
  | cons p L ih =>
    cases i with
    | zero => simp [flatP_cons, Pt.cells]
    | succ i =>
      have h' : i < L.length := by simpa using h
      have e : ∀ j, (flatP (p :: L))[(i + 1) * 5 + j]? = (flatP L)[i * 5 + j]? := fun j => by
        rw [flatP_cons, List.getElem?_append_right (by simp [Pt.cells]; omega)]
        congr 1
        simp [Pt.cells]
        omega
      have e0 := e 0
      simp only [Nat.add_zero] at e0
      rw [e0, e 1, e 2, e 3, e 4, List.getElem_cons_succ]
      exact ih i h'
theorem flatP_set (L : List Pt) (i : Nat) (h : i < L.length) (b : Bool) (n : Int) :
    (flatP L).set (i * 5 + 3) (.bool b) = flatP (L.set i { L[i] with lies := b }) ∧ (flatP L).set (i * 5 + 4) (.int .i64 n) = flatP (L.set i { L[i] with fr := n }) := by
  induction L generalizing i with
  | nil => simp at h
  | cons p L ih =>
    cases i with
    | zero => simp [flatP_cons, Pt.cells]
    | succ i =>
      have h' : i < L.length := by simpa using h
      obtain ⟨a, b'⟩ := ih i h'
      have e1 : (i + 1) * 5 + 3 = (i * 5 + 3) + 1 + 1 + 1 + 1 + 1 := by omega
      have e2 : (i + 1) * 5 + 4 = (i * 5 + 4) + 1 + 1 + 1 + 1 + 1 := by omega
      rw [e1, e2]
      simp only [List.set_cons_succ, flatP_cons, List.getElem_cons_succ, Pt.cells, List.cons_append, List.nil_append]
      rw [a, b']
      exact ⟨rfl, rfl⟩
structure Dc (w0 w : World) (base g : Nat) (m : Int) (v : Value) (L : List Pt) (n : Int) : Prop where
  blk : w.heap[g]? = some (.cells #[.int .i64 m, v, .int .i64 n] 29 (0, 0))
  old : base ≤ g
  row : w.ownsRow base 35 5 v L.length (flatP L)
  below : Below base w0 w
def Doc (w0 w : World) (base g : Nat) (m : Int) (L : List Pt) (n : Int) : Prop := ∃ v, Dc w0 w base g m v L n
section
variable {w0 w w1 : World} {base g : Nat} {m n : Int} {v : Value} {L : List Pt}
theorem Dc.room (h : Dc w0 w base g m v L n) : base ≤ w.heap.size := Nat.le_of_lt (Nat.lt_of_le_of_lt h.old (blk_lt h.blk))
theorem Dc.stay {ts : List Nat} (h : Dc w0 w base g m v L n) (hk : KeptT w w1 ts) (h1 : 29 ∉ ts) (h2 : 35 ∉ ts) (hb : Below base w0 w1) : Dc w0 w1 base g m v L n :=
  ⟨hk.blk h.blk h1, h.old, hk.own h.row h2, hb⟩
theorem Doc.stay {ts : List Nat} (h : Doc w0 w base g m L n) (hk : KeptT w w1 ts) (h1 : 29 ∉ ts) (h2 : 35 ∉ ts) (hb : Below base w0 w1) : Doc w0 w1 base g m L n := by
  obtain ⟨v, h⟩ := h
  exact ⟨v, h.stay hk h1 h2 hb⟩
theorem Doc.below (h : Doc w0 w base g m L n) : Below base w0 w := by
  obtain ⟨v, h⟩ := h
  exact h.below
theorem Doc.room (h : Doc w0 w base g m L n) : base ≤ w.heap.size := by
  obtain ⟨v, h⟩ := h
  exact h.room
theorem Doc.then_ (h : Doc w0 w base g m L n) (hb : Below w.heap.size w w1) : Doc w0 w1 base g m L n :=
  h.stay (ts := []) (.below hb []) (by simp) (by simp) (h.below.trans (hb.mono h.room))
/-- The cells of what was put as the k-th. -/
theorem Dc.cells (h : Dc w0 w base g m v L n) (k : Nat) (hk : k < L.length) : ∃ gs c, v = .slice (some ⟨gs, 0, none⟩) L.length c ∧ L.length ≤ c ∧ w.cell? ⟨gs, k * 5, none⟩ = some (.int .i64 L[k].s) ∧ w.cell? ⟨gs, k * 5 + 1, none⟩ = some (.int .i64 L[k].g) ∧ w.cell? ⟨gs, k * 5 + 2, none⟩ = some (.int .i64 L[k].x) ∧
    w.cell? ⟨gs, k * 5 + 3, none⟩ = some (.bool L[k].lies) ∧ w.cell? ⟨gs, k * 5 + 4, none⟩ = some (.int .i64 L[k].fr) := by
  obtain ⟨gs, c, rfl⟩ := own_some h.row (by omega)
  obtain ⟨a, b, c', d, e⟩ := flatP_get L k hk
  exact ⟨gs, c, rfl, own_cap h.row, own_cellat h.row _ _ a, own_cellat h.row _ _ b, own_cellat h.row _ _ c', own_cellat h.row _ _ d, own_cellat h.row _ _ e⟩
end
/-! ### Live -/
theorem count_next (L : List Pt) (k : Nat) (h : k < L.length) : (L.take (k + 1)).countP Pt.lies = (L.take k).countP Pt.lies + (if L[k].lies then 1 else 0) := by
  rw [List.take_succ_eq_append_getElem h, List.countP_append]
  simp [List.countP_cons]
set_option maxHeartbeats 1600000 in
theorem dlive_calls {w0 w : World} {base g : Nat} {m n : Int} {L : List Pt} (hI : Doc w0 w base g m L n) (hl : L.length ≤ 1000) :
    Calls Try.prog 17 #[.pointer (some ⟨g, 0, none⟩)] w fun e w' => e = .returned (.int .i64 ((L.countP Pt.lies : Nat) : Int)) ∧ w' = w := by
  obtain ⟨v, hI⟩ := hI
  obtain ⟨A, c, rfl⟩ := own_slice hI.row
  have h1 : w.cell? ⟨g, 1, none⟩ = some (.slice A L.length c) := (blk_cell hI.blk 1).trans rfl
  have HI := Aside0.mk hI
  clear hI
  go_enter Try.func17, Try.ntmps17
  go_wp2_with fail
  go_loopw [3, 4] (fun vn vi wr => ∃ k : Nat, k ≤ L.length ∧ vi = .int .i64 (k : Int) ∧ vn = .int .i64 (((L.take k).countP Pt.lies : Nat) : Int) ∧ wr = w) (fun _ i _ => L.length - (intOf i).toNat)
  case atStart => exact ⟨0, Nat.zero_le _, rfl, rfl, rfl⟩
  case round =>
    obtain ⟨k, hk, rfl, rfl, rfl⟩ := hrel
    by_cases hlt : k < L.length
    · obtain ⟨gs, c', e, hc, -, -, -, h4, -⟩ := HI.out.cells k hlt
      injection e with e1 e2 e3
      subst e1
      subst e3
      clear e2
      have hcn : (L.take k).countP Pt.lies ≤ k := Nat.le_trans List.countP_le_length (by rw [List.length_take]; omega)
      have HN := Aside0.mk (count_next L k hlt)
      generalize hq : (L.take k).countP Pt.lies = q at HN hcn ⊢
      clear hq
      cases hd : L[k].lies with
      | true =>
        rw [hd] at h4
        have HD := Aside0.mk hd
        clear hd
        go_wp2
        go_roundw
        case rel => exact ⟨k + 1, by omega, by go_num, by rw [HN.out, HD.out]; rfl, by trivial⟩
        case measure => simp [intOf]; omega
      | false =>
        rw [hd] at h4
        have HD := Aside0.mk hd
        clear hd
        go_wp2
        go_roundw
        case rel => exact ⟨k + 1, by omega, by go_num, by rw [HN.out, HD.out]; rfl, by trivial⟩
        case measure => simp [intOf]; omega
    · obtain rfl : k = L.length := by omega
      rw [List.take_length]
      go_wp2
      go_ret
      exact ⟨rfl, rfl⟩
/-! ### uses -/
def step (s : Int) (z : Nat × Bool) (p : Pt) : Nat × Bool := if p.s = s then (z.1 + 1, p.lies) else z
def uses (L : List Pt) (s : Int) : Nat × Bool := L.foldl (step s) (0, false)
theorem uses_next (L : List Pt) (s : Int) (k : Nat) (h : k < L.length) : uses (L.take (k + 1)) s = step s (uses (L.take k) s) L[k] := by
  unfold uses
  rw [List.take_succ_eq_append_getElem h, List.foldl_append]
  rfl
theorem uses_le (L : List Pt) (s : Int) : (uses L s).1 ≤ L.length := by
  have key : ∀ (M : List Pt) (z : Nat × Bool), (M.foldl (step s) z).1 ≤ z.1 + M.length := by
    intro M
    induction M with
    | nil => intro z; simp
    | cons p M ih =>
      intro z
      have := ih (step s z p)
      have h2 : (step s z p).1 ≤ z.1 + 1 := by unfold step; split <;> simp
      rw [List.foldl_cons, List.length_cons]
      omega
  have := key L (0, false)
  unfold uses
  omega
set_option maxHeartbeats 1600000 in
theorem duses_calls {w0 w : World} {base g : Nat} {m n : Int} {L : List Pt} (s : Int) (hI : Doc w0 w base g m L n) (hl : L.length ≤ 1000) :
    Calls Try.prog 26 #[.pointer (some ⟨g, 0, none⟩), .int .i64 s] w fun e w' => e = .returned (.tuple #[.int .i64 ((uses L s).1 : Int), .bool (uses L s).2]) ∧ w' = w := by
  obtain ⟨v, hI⟩ := hI
  obtain ⟨A, c, rfl⟩ := own_slice hI.row
  have h1 : w.cell? ⟨g, 1, none⟩ = some (.slice A L.length c) := (blk_cell hI.blk 1).trans rfl
  have HI := Aside0.mk hI
  clear hI
  go_enter Try.func26, Try.ntmps26
  go_wp2_with fail
  go_loopw [6, 7, 8] (fun vn vl vi wr => ∃ (k q : Nat) (b : Bool), k ≤ L.length ∧ vi = .int .i64 (k : Int) ∧ vn = .int .i64 (q : Int) ∧ vl = .bool b ∧ Aside0 (uses (L.take k) s = (q, b)) ∧ wr = w) (fun _ _ i _ => L.length - (intOf i).toNat)
  case atStart => exact ⟨0, 0, false, Nat.zero_le _, rfl, rfl, rfl, ⟨rfl⟩, rfl⟩
  case round =>
    obtain ⟨k, q, b, hk, rfl, rfl, rfl, HU, rfl⟩ := hrel
    by_cases hlt : k < L.length
    · obtain ⟨gs, c', e, hc, h2, -, -, h4, -⟩ := HI.out.cells k hlt
      injection e with e1 e2 e3
      subst e1
      subst e3
      clear e2
      have hq : q ≤ k := by
        have := uses_le (L.take k) s
        rw [HU.out, List.length_take] at this
        exact Nat.le_trans this (Nat.min_le_left _ _)
      have HN := Aside0.mk (uses_next L s k hlt)
      by_cases hs : L[k].s = s
      · have hs2 : (L[k].s == s) = true := by simpa using hs
        have HS := Aside0.mk hs
        obtain ⟨d, hd⟩ : ∃ d, L[k].lies = d := ⟨_, rfl⟩
        rw [hd] at h4
        have HD := Aside0.mk hd
        clear hd hs
        go_wp2
        go_roundw
        case rel => exact ⟨k + 1, q + 1, _, by omega, by go_num, by go_num, rfl, ⟨by rw [HN.out, HU.out]; unfold step; rw [if_pos HS.out, HD.out]⟩, by trivial⟩
        case measure => simp [intOf]; omega
      · have hs2 : (L[k].s == s) = false := by simpa using hs
        have HS := Aside0.mk hs
        clear hs
        go_wp2
        go_roundw
        case rel => exact ⟨k + 1, q, b, by omega, by go_num, rfl, rfl, ⟨by rw [HN.out, HU.out]; unfold step; rw [if_neg HS.out]⟩, by trivial⟩
        case measure => simp [intOf]; omega
    · obtain rfl : k = L.length := by omega
      have HU2 := HU.out
      rw [List.take_length] at HU2
      have HU3 := Aside0.mk HU2
      clear HU2
      go_wp2
      go_ret2
      exact ⟨by rw [HU3.out]; rfl, rfl⟩
end Go.Proofs.Ytcdfkjcnjdbmgaa.Doc
