/- Layer 09: an arena as it lies in the heap: its block, its row of slots, its row of freed numbers; what a store and a call leave of other blocks. -/
import Derived.Test.YtcdfkjcnjdbmgaaArena
namespace Go.Proofs.Ytcdfkjcnjdbmgaa.Core
open Go.RowKit Go.Proofs.YtcdfkjcnjdbmgaaW.PrintWords Go.Proofs.YtcdfkjcnjdbmgaaW.PrintLast Go.Proofs.YtcdfkjcnjdbmgaaW.PrintMore
set_option linter.unusedVariables false
set_option linter.unusedSimpArgs false
/-- A slot. -/
structure Sl where
  gen : Int
  used : Bool
  x : Value
def Sl.cells (s : Sl) : List Value := [.int .i64 s.gen, .bool s.used, s.x]
def flat (ss : List Sl) : List Value := ss.flatMap Sl.cells
theorem flat_nil : flat [] = [] := rfl
theorem flat_cons (s : Sl) (ss : List Sl) : flat (s :: ss) = s.cells ++ flat ss := rfl
theorem flat_append (ss ts : List Sl) : flat (ss ++ ts) = flat ss ++ flat ts := by simp [flat, List.flatMap_append]
theorem flat_length (ss : List Sl) : (flat ss).length = ss.length * 3 := by
  induction ss with
  | nil => rfl
  | cons s ss ih => rw [flat_cons, List.length_append, ih, List.length_cons]; simp [Sl.cells]; omega
theorem flat_get (ss : List Sl) (i : Nat) (h : i < ss.length) : (flat ss)[i * 3]? = some (.int .i64 ss[i].gen) ∧ (flat ss)[i * 3 + 1]? = some (.bool ss[i].used) ∧ (flat ss)[i * 3 + 2]? = some ss[i].x := by
  induction ss generalizing i with
  | nil => simp at h
  | cons s ss ih =>
    rw [flat_cons]
    cases i with
    | zero => simp [Sl.cells]
    | succ i =>
      have h' : i < ss.length := by simpa using h
      obtain ⟨a, b, c⟩ := ih i h'
      have e0 : (i + 1) * 3 = i * 3 + 1 + 1 + 1 := by omega
      rw [e0]
      refine ⟨?_, ?_, ?_⟩
      · simpa [Sl.cells] using a
      · have : i * 3 + 1 + 1 + 1 + 1 = (i * 3 + 1) + 1 + 1 + 1 := by omega
        rw [this]; simpa [Sl.cells] using b
      · have : i * 3 + 1 + 1 + 1 + 2 = (i * 3 + 2) + 1 + 1 + 1 := by omega
        rw [this]; simpa [Sl.cells] using c
theorem flat_set (ss : List Sl) (i : Nat) (h : i < ss.length) (gen : Int) (used : Bool) (x : Value) :
    (flat ss).set (i * 3) (.int .i64 gen) = flat (ss.set i { ss[i] with gen := gen }) ∧ (flat ss).set (i * 3 + 1) (.bool used) = flat (ss.set i { ss[i] with used := used }) ∧ (flat ss).set (i * 3 + 2) x = flat (ss.set i { ss[i] with x := x }) := by
  induction ss generalizing i with
  | nil => simp at h
  | cons s ss ih =>
    cases i with
    | zero => simp [flat_cons, Sl.cells]
    | succ i =>
      have h' : i < ss.length := by simpa using h
      obtain ⟨a, b, c⟩ := ih i h'
      have e0 : (i + 1) * 3 = i * 3 + 1 + 1 + 1 := by omega
      have e1 : (i + 1) * 3 + 1 = (i * 3 + 1) + 1 + 1 + 1 := by omega
      have e2 : (i + 1) * 3 + 2 = (i * 3 + 2) + 1 + 1 + 1 := by omega
      rw [e1, e2, e0]
      simp only [List.set_cons_succ, flat_cons, List.getElem_cons_succ, Sl.cells, List.cons_append, List.nil_append]
      rw [a, b, c]
      exact ⟨rfl, rfl, rfl⟩
/-! ### blocks that are not of some types stay -/
def KeptT (w w' : World) (ts : List Nat) : Prop := w.heap.size ≤ w'.heap.size ∧ ∀ (k : Nat) (cs : Array Value) (t : Nat), w.heap[k]? = some (Obj.cells cs t (0, 0)) → t ∉ ts → w'.heap[k]? = w.heap[k]?
section
variable {w w1 w2 : World} {ts : List Nat}
theorem KeptT.refl (w : World) (ts : List Nat) : KeptT w w ts := ⟨Nat.le_refl _, fun _ _ _ _ _ => rfl⟩
theorem KeptT.trans (h : KeptT w w1 ts) (k : KeptT w1 w2 ts) : KeptT w w2 ts :=
  ⟨Nat.le_trans h.1 k.1, fun i cs t hb ht => by
    have e := h.2 i cs t hb ht
    exact (k.2 i cs t (e.trans hb) ht).trans e⟩
theorem KeptT.below (h : Below w.heap.size w w1) (ts : List Nat) : KeptT w w1 ts := ⟨h.size, fun k cs t hb _ => h.block k (blk_lt hb)⟩
theorem KeptT.alloc (w : World) (o : Obj) (ts : List Nat) : KeptT w (w.alloc o) ts := .below (below_alloc (Below.refl _ _) o) ts
theorem KeptT.drewN (w : World) (n : Nat) (ts : List Nat) : KeptT w (w.drewN n) ts := .below (pw_below_drewN (Below.refl _ _) n) ts
theorem KeptT.drew (w : World) (ts : List Nat) : KeptT w w.drew ts := .below (below_drew1 (Below.refl _ _)) ts
theorem KeptT.set {p : Addr} {cs : Array Value} {t : Nat} (hb : w.heap[p.block]? = some (.cells cs t (0, 0))) (ht : t ∈ ts) (u : Value) : KeptT w (w.setCell p u) ts :=
  ⟨by simp [World.setCell], fun k cs' t' hk ht' => Below.heap_setCell w p u k (fun e => by
    subst e
    rw [hb] at hk
    injection hk with hk
    injection hk with _ hk
    exact ht' (hk ▸ ht))⟩
theorem KeptT.grown {row : Option Nat} (h : w.grownBy w1 row) (hr : ∀ k, row = some k → ∃ cs t, w.heap[k]? = some (.cells cs t (0, 0)) ∧ t ∈ ts) : KeptT w w1 ts :=
  ⟨h.size, fun k cs t hb ht => h.block k (blk_lt hb) (fun e => by
    obtain ⟨cs', t', hb', ht'⟩ := hr k e.symm
    rw [hb] at hb'
    injection hb' with hb'
    injection hb' with _ hb'
    exact ht (hb' ▸ ht'))⟩
theorem KeptT.mono {us : List Nat} (h : KeptT w w1 ts) (hs : ∀ t, t ∈ ts → t ∈ us) : KeptT w w1 us := ⟨h.1, fun k cs t hb ht => h.2 k cs t hb (fun e => ht (hs t e))⟩
theorem KeptT.blk (h : KeptT w w1 ts) {k t : Nat} {cs : Array Value} (hb : w.heap[k]? = some (.cells cs t (0, 0))) (ht : t ∉ ts) : w1.heap[k]? = some (.cells cs t (0, 0)) := (h.2 k cs t hb ht).trans hb
theorem KeptT.own (h : KeptT w w1 ts) {base e size n : Nat} {v : Value} {xs : List Value} (ho : w.ownsRow base e size v n xs) (ht : e ∉ ts) : w1.ownsRow base e size v n xs :=
  own_move ho (fun k hk => by
    obtain ⟨cs, hc⟩ := own_typed ho k hk
    exact h.2 k cs e hc ht)
theorem KeptT.row (h : KeptT w w1 ts) {α : Type} {d : Kd α} {base e : Nat} {ok : Nat → Prop} {v : Value} {xs : List α} (ho : d.R e w base ok v xs) (ht : ∀ q, q ∈ e :: d.E → q ∉ ts) : d.R e w1 base ok v xs :=
  Kd.R_mono (Kd.R_move (Kd.R_bound ho) (fun k hk => by
    obtain ⟨_, _, _, q, hq, cs, hc⟩ := hk
    exact h.2 k cs q hc (ht q hq))) (fun _ hk => hk.1)
end
/-! ### the arena -/
structure Ar (tA tS : Nat) (w0 w : World) (base g : Nat) (m : Int) (vs vf : Value) (ss : List Sl) (fs : List Int) : Prop where
  blk : w.heap[g]? = some (.cells #[.int .i64 m, vs, vf] tA (0, 0))
  old : base ≤ g
  slots : w.ownsRow base tS 3 vs ss.length (flat ss)
  free : w.ownsRow base 3 1 vf fs.length (nums .i64 fs)
  below : Below base w0 w
def Arena (tA tS : Nat) (w0 w : World) (base g : Nat) (m : Int) (ss : List Sl) (fs : List Int) : Prop := ∃ vs vf, Ar tA tS w0 w base g m vs vf ss fs
section
variable {tA tS : Nat} {w0 w w1 : World} {base g : Nat} {m : Int} {vs vf : Value} {ss : List Sl} {fs : List Int}
theorem Ar.room (h : Ar tA tS w0 w base g m vs vf ss fs) : base ≤ w.heap.size := Nat.le_of_lt (Nat.lt_of_le_of_lt h.old (blk_lt h.blk))
theorem Ar.stay {ts : List Nat} (h : Ar tA tS w0 w base g m vs vf ss fs) (hk : KeptT w w1 ts) (h1 : tA ∉ ts) (h2 : tS ∉ ts) (h3 : 3 ∉ ts) (hb : Below base w0 w1) : Ar tA tS w0 w1 base g m vs vf ss fs :=
  ⟨hk.blk h.blk h1, h.old, hk.own h.slots h2, hk.own h.free h3, hb⟩
theorem Arena.stay {ts : List Nat} (h : Arena tA tS w0 w base g m ss fs) (hk : KeptT w w1 ts) (h1 : tA ∉ ts) (h2 : tS ∉ ts) (h3 : 3 ∉ ts) (hb : Below base w0 w1) : Arena tA tS w0 w1 base g m ss fs := by
  obtain ⟨vs, vf, h⟩ := h
  exact ⟨vs, vf, h.stay hk h1 h2 h3 hb⟩
theorem Arena.below (h : Arena tA tS w0 w base g m ss fs) : Below base w0 w := by
  obtain ⟨vs, vf, h⟩ := h
  exact h.below
theorem Arena.room (h : Arena tA tS w0 w base g m ss fs) : base ≤ w.heap.size := by
  obtain ⟨vs, vf, h⟩ := h
  exact h.room
theorem Arena.then_ (h : Arena tA tS w0 w base g m ss fs) (hb : Below w.heap.size w w1) : Arena tA tS w0 w1 base g m ss fs :=
  h.stay (ts := []) (.below hb []) (by simp) (by simp) (by simp) (h.below.trans (hb.mono h.room))
end
end Go.Proofs.Ytcdfkjcnjdbmgaa.Core
