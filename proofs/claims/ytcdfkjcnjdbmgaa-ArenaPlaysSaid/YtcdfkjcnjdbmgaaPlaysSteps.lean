/- Layer 09: the mathematics of ArenaPlays: what a put and a free leave. -/
import Derived.Test.YtcdfkjcnjdbmgaaPlaysModel
namespace Go.Proofs.Ytcdfkjcnjdbmgaa.PlaysSteps
open Go.RowKit Go.Proofs.YtcdfkjcnjdbmgaaW.PrintWords Go.Proofs.Ytcdfkjcnjdbmgaa.Core Go.Proofs.Ytcdfkjcnjdbmgaa.Put Go.Proofs.Ytcdfkjcnjdbmgaa.Doc Go.Proofs.Ytcdfkjcnjdbmgaa.DocNext Go.Proofs.Ytcdfkjcnjdbmgaa.PlaysModel
set_option linter.unusedVariables false
set_option linter.unusedSimpArgs false
section
variable {m : Int} {ss : List Sl} {fs : List Int} {L : List Pt} {N : Int} {k : Nat}
theorem app_old (L : List Pt) (p : Pt) (j : Nat) (hj : j < L.length) (h : j < (L ++ [p]).length) : (L ++ [p])[j] = L[j] := List.getElem_append_left hj
theorem app_end (L : List Pt) (p : Pt) (h : L.length < (L ++ [p]).length) : (L ++ [p])[L.length] = p := by simp
theorem app_cases (L : List Pt) (p : Pt) (j : Nat) (h : j < (L ++ [p]).length) : j < L.length ∨ j = L.length := by
  rw [List.length_append, List.length_singleton] at h
  omega
theorem sapp_old (ss : List Sl) (t : Sl) (i : Nat) (hi : i < ss.length) (h : i < (ss ++ [t]).length) : (ss ++ [t])[i] = ss[i] := List.getElem_append_left hi
theorem sapp_end (ss : List Sl) (t : Sl) (h : ss.length < (ss ++ [t]).length) : (ss ++ [t])[ss.length] = t := by simp
theorem Rl.put_new (h : Rl m ss [] L N k) (hm : (ss.length : Int) < m) (x : Int) : Rl m (ss ++ [⟨1, true, .int .i64 x⟩]) [] (L ++ [⟨(ss.length : Int) + 1, 1, x, true, 0⟩]) N (k + 1) where
  most := by rw [List.length_append, List.length_singleton]; omega
  cnt := by
    have := h.cnt
    rw [List.length_append, List.length_singleton, List.countP_append]
    simp at this ⊢
    omega
  slot := fun p hp => by
    rw [List.length_append, List.length_singleton]
    rcases List.mem_append.1 hp with hp | hp
    · obtain ⟨i, hi, e⟩ := h.slot p hp
      exact ⟨i, by omega, e⟩
    · rw [List.mem_singleton.1 hp]
      exact ⟨ss.length, by omega, rfl⟩
  last := fun i hi => by
    by_cases hlt : i < ss.length
    · obtain ⟨j, hj, ha, hb, hc, hx, hd, he⟩ := h.last i hlt
      rw [sapp_old ss _ i hlt hi]
      have hj2 : j < (L ++ [(⟨(ss.length : Int) + 1, 1, x, true, 0⟩ : Pt)]).length := by rw [List.length_append]; omega
      refine ⟨j, hj2, ?_⟩
      rw [app_old L _ j hj hj2]
      refine ⟨ha, hb, hc, hx, fun j' h' hlt' => ?_, fun j' h' hlt' hs => ?_⟩
      · rcases app_cases L _ j' h' with hl | hl
        · rw [app_old L _ j' hl h']
          exact hd j' hl hlt'
        · subst hl
          rw [app_end]
          show (ss.length : Int) + 1 ≠ _
          omega
      · have hl : j' < L.length := by omega
        rw [app_old L _ j' hl h'] at hs ⊢
        exact he j' hl hlt' hs
    · have : i = ss.length := by rw [List.length_append, List.length_singleton] at hi; omega
      subst this
      rw [sapp_end]
      have hj2 : L.length < (L ++ [(⟨(ss.length : Int) + 1, 1, x, true, 0⟩ : Pt)]).length := by rw [List.length_append, List.length_singleton]; omega
      refine ⟨L.length, hj2, ?_⟩
      rw [app_end]
      refine ⟨rfl, rfl, rfl, fun _ => rfl, fun j' h' hlt' => ?_, fun j' h' hlt' hs => ?_⟩
      · rw [List.length_append, List.length_singleton] at h'; omega
      · exfalso
        rw [app_old L _ j' hlt' h'] at hs
        obtain ⟨i', hi', e⟩ := h.slot _ (List.getElem_mem hlt')
        omega
  many := fun i hi => by
    rw [List.countP_append, List.countP_singleton]
    by_cases hlt : i < ss.length
    · rw [sapp_old ss _ i hlt hi, ← h.many i hlt]
      have : (((ss.length : Int) + 1) == (i : Int) + 1) = false := by simp; omega
      simp only [this]
      simp
    · have : i = ss.length := by rw [List.length_append, List.length_singleton] at hi; omega
      subst this
      rw [sapp_end]
      have h0 := h.uses_new
      rw [uses_count] at h0
      rw [h0]
      simp
  free := by simp
  back := fun i hi hu => by
    by_cases hlt : i < ss.length
    · rw [sapp_old ss _ i hlt hi] at hu
      exact h.back i hlt hu
    · have : i = ss.length := by rw [List.length_append, List.length_singleton] at hi; omega
      subst this
      rw [sapp_end] at hu
      cases hu
  fapart := by simp
  when_ := fun p hp => by
    rcases List.mem_append.1 hp with hp | hp
    · exact h.when_ p hp
    · rw [List.mem_singleton.1 hp]
      exact ⟨(fun e => by cases e), h.n0⟩
  order := by simp
  len := by rw [List.length_append, List.length_singleton]; have := h.len; omega
  n0 := h.n0
  n1 := by have := h.n1; omega
theorem Rl.put_pop {i : Nat} (h : Rl m ss (fs ++ [(i : Int) + 1]) L N k) (hi : i < ss.length) (hu : ss[i].used = false) (x : Int) :
    Rl m (ss.set i ⟨ss[i].gen + 1, true, .int .i64 x⟩) fs (L ++ [⟨(i : Int) + 1, ss[i].gen + 1, x, true, 0⟩]) N (k + 1) where
  most := by rw [List.length_set]; exact h.most
  cnt := by
    have := h.cnt
    rw [List.length_append, List.length_singleton] at this
    rw [List.length_set, List.countP_append]
    simp
    omega
  slot := fun p hp => by
    rw [List.length_set]
    rcases List.mem_append.1 hp with hp | hp
    · exact h.slot p hp
    · rw [List.mem_singleton.1 hp]
      exact ⟨i, hi, rfl⟩
  last := fun i' hi0 => by
    have hi' : i' < ss.length := by rwa [List.length_set] at hi0
    by_cases hii : i' = i
    · subst hii
      rw [List.getElem_set_self]
      have hj2 : L.length < (L ++ [(⟨(i' : Int) + 1, ss[i'].gen + 1, x, true, 0⟩ : Pt)]).length := by rw [List.length_append, List.length_singleton]; omega
      refine ⟨L.length, hj2, ?_⟩
      rw [app_end]
      refine ⟨rfl, rfl, rfl, fun _ => rfl, fun j' h' hlt' => ?_, fun j' h' hlt' hs => ?_⟩
      · rw [List.length_append, List.length_singleton] at h'; omega
      · rw [app_old L _ j' hlt' h'] at hs ⊢
        obtain ⟨j, hj, ha, hb, hc, _, hd, he⟩ := h.last i' hi'
        rcases Nat.lt_trichotomy j' j with h1 | h1 | h1
        · exact he j' hlt' h1 hs
        · subst h1; rw [hc]; exact hu
        · exact absurd hs (hd j' hlt' h1)
    · obtain ⟨j, hj, ha, hb, hc, hx, hd, he⟩ := h.last i' hi'
      rw [List.getElem_set_ne (fun e => hii e.symm)]
      have hj2 : j < (L ++ [(⟨(i : Int) + 1, ss[i].gen + 1, x, true, 0⟩ : Pt)]).length := by rw [List.length_append]; omega
      refine ⟨j, hj2, ?_⟩
      rw [app_old L _ j hj hj2]
      refine ⟨ha, hb, hc, hx, fun j' h' hlt' => ?_, fun j' h' hlt' hs => ?_⟩
      · rcases app_cases L _ j' h' with hl | hl
        · rw [app_old L _ j' hl h']
          exact hd j' hl hlt'
        · subst hl
          rw [app_end]
          show (i : Int) + 1 ≠ _
          omega
      · have hl : j' < L.length := by omega
        rw [app_old L _ j' hl h'] at hs ⊢
        exact he j' hl hlt' hs
  many := fun i' hi0 => by
    have hi' : i' < ss.length := by rwa [List.length_set] at hi0
    rw [List.countP_append, List.countP_singleton]
    by_cases hii : i' = i
    · subst hii
      rw [List.getElem_set_self]
      have := h.many i' hi'
      simp
      omega
    · rw [List.getElem_set_ne (fun e => hii e.symm), ← h.many i' hi']
      have : (((i : Int) + 1) == (i' : Int) + 1) = false := by simp; omega
      simp only [this]
      simp
  free := fun y hy => by
    obtain ⟨i', hi', e, hu'⟩ := h.free y (by simp [hy])
    have hne : y ≠ (i : Int) + 1 := fun e' => (List.nodup_append.1 h.fapart).2.2 y hy _ (by simp) e'
    exact ⟨i', by rw [List.length_set]; exact hi', e, by rw [List.getElem_set_ne (by omega)]; exact hu'⟩
  back := fun i' hi0 hu' => by
    have hi' : i' < ss.length := by rwa [List.length_set] at hi0
    by_cases hii : i' = i
    · subst hii
      rw [List.getElem_set_self] at hu'
      cases hu'
    · rw [List.getElem_set_ne (fun e => hii e.symm)] at hu'
      have := h.back i' hi' hu'
      rcases List.mem_append.1 this with hm | hm
      · exact hm
      · simp at hm
        omega
  fapart := (List.nodup_append.1 h.fapart).1
  when_ := fun p hp => by
    rcases List.mem_append.1 hp with hp | hp
    · exact h.when_ p hp
    · rw [List.mem_singleton.1 hp]
      exact ⟨(fun e => by cases e), h.n0⟩
  order := by
    have ho := (List.pairwise_append.1 h.order).1
    refine List.Pairwise.imp_of_mem (fun {a b} ha hb hr p hp hs => ?_) ho
    have hne : a ≠ (i : Int) + 1 := fun e' => (List.nodup_append.1 h.fapart).2.2 a ha _ (by simp) e'
    rcases List.mem_append.1 hp with hp | hp
    · obtain ⟨q, hq, h1, h2⟩ := hr p hp hs
      exact ⟨q, List.mem_append_left _ hq, h1, h2⟩
    · rw [List.mem_singleton.1 hp] at hs
      exact absurd hs.symm hne
  len := by rw [List.length_append, List.length_singleton]; have := h.len; omega
  n0 := h.n0
  n1 := by have := h.n1; omega
theorem mem_set' {L : List Pt} {j : Nat} {t p : Pt} (hp : p ∈ L.set j t) : (∃ (j' : Nat) (h : j' < L.length), j' ≠ j ∧ p = L[j']) ∨ p = t := by
  obtain ⟨j', hj', rfl⟩ := List.mem_iff_getElem.1 hp
  have hl : j' < L.length := by rwa [List.length_set] at hj'
  by_cases e : j = j'
  · subst e
    rw [List.getElem_set_self]
    exact .inr rfl
  · rw [List.getElem_set_ne e]
    exact .inl ⟨j', hl, fun x => e x.symm, rfl⟩
theorem count_set (L : List Pt) (j : Nat) (hj : j < L.length) (t : Pt) (f : Pt → Bool) : (L.set j t).countP f + (if f L[j] then 1 else 0) = L.countP f + (if f t then 1 else 0) := by
  have e : L = L.take j ++ L[j] :: L.drop (j + 1) := by rw [List.getElem_cons_drop, List.take_append_drop]
  have e2 : L.set j t = L.take j ++ t :: L.drop (j + 1) := by rw [List.set_eq_take_append_cons_drop, if_pos hj]
  have h1 : L.countP f = (L.take j ++ L[j] :: L.drop (j + 1)).countP f := congrArg (List.countP f) e
  rw [e2, h1, List.countP_append, List.countP_append, List.countP_cons, List.countP_cons]
  omega
theorem Rl.freed {i : Nat} (h : Rl m ss fs L N k) (hi : i < ss.length) (hu : ss[i].used = true) (j : Nat) (hj : j < L.length) (hs : L[j].s = (i : Int) + 1) (hlies : L[j].lies = true) (hlast : ∀ j' (h : j' < L.length), j < j' → L[j'].s ≠ (i : Int) + 1) :
    Rl m (ss.set i ⟨ss[i].gen, false, .int .i64 0⟩) (fs ++ [(i : Int) + 1]) (L.set j (⟨L[j].s, L[j].g, L[j].x, false, N + 1⟩ : Pt)) (N + 1) (k + 1) where
  most := by rw [List.length_set]; exact h.most
  cnt := by
    have h1 := h.cnt
    have h2 := count_set L j hj (⟨L[j].s, L[j].g, L[j].x, false, N + 1⟩ : Pt) Pt.lies
    rw [hlies] at h2
    simp only [if_true, Bool.false_eq_true, if_false] at h2
    rw [List.length_append, List.length_singleton, List.length_set]
    omega
  slot := fun p hp => by
    rw [List.length_set]
    rcases mem_set' hp with ⟨j', h', _, rfl⟩ | rfl
    · exact h.slot _ (List.getElem_mem h')
    · exact ⟨i, hi, hs⟩
  last := fun i' hi0 => by
    have hi' : i' < ss.length := by rwa [List.length_set] at hi0
    obtain ⟨j0, hj0, ha, hb, hc, hx, hd, he⟩ := h.last i' hi'
    have hss : ∀ j' (h' : j' < (L.set j (⟨L[j].s, L[j].g, L[j].x, false, N + 1⟩ : Pt)).length) (h2 : j' < L.length), (L.set j (⟨L[j].s, L[j].g, L[j].x, false, N + 1⟩ : Pt))[j'].s = L[j'].s := fun j' h' h2 => by
      by_cases e : j = j'
      · subst e; rw [List.getElem_set_self]
      · rw [List.getElem_set_ne e]
    by_cases hii : i' = i
    · subst hii
      have hjj : j0 = j := by
        rcases Nat.lt_trichotomy j0 j with h1 | h1 | h1
        · exact absurd hs (hd j hj h1)
        · exact h1
        · exact absurd ha (hlast j0 hj0 h1)
      subst hjj
      refine ⟨j0, by rw [List.length_set]; exact hj, ?_⟩
      rw [List.getElem_set_self, List.getElem_set_self]
      refine ⟨ha, hb, rfl, (fun e => by cases e), fun j' h' hlt' => ?_, fun j' h' hlt' hs' => ?_⟩
      · rw [List.length_set] at h'
        rw [hss j' _ h']
        exact hd j' h' hlt'
      · rw [List.length_set] at h'
        rw [hss j' _ h'] at hs'
        rw [List.getElem_set_ne (by omega)]
        exact he j' h' hlt' hs'
    · have hne : j ≠ j0 := fun e => by
        subst e
        omega
      refine ⟨j0, by rw [List.length_set]; exact hj0, ?_⟩
      rw [List.getElem_set_ne hne, List.getElem_set_ne (fun e => hii e.symm)]
      refine ⟨ha, hb, hc, hx, fun j' h' hlt' => ?_, fun j' h' hlt' hs' => ?_⟩
      · rw [List.length_set] at h'
        rw [hss j' _ h']
        exact hd j' h' hlt'
      · rw [List.length_set] at h'
        rw [hss j' _ h'] at hs'
        by_cases e : j = j'
        · subst e; rw [List.getElem_set_self]
        · rw [List.getElem_set_ne e]
          exact he j' h' hlt' hs'
  many := fun i' hi0 => by
    have hi' : i' < ss.length := by rwa [List.length_set] at hi0
    have h2 := count_set L j hj (⟨L[j].s, L[j].g, L[j].x, false, N + 1⟩ : Pt) (fun p => p.s == (i' : Int) + 1)
    have h3 : (L.set j (⟨L[j].s, L[j].g, L[j].x, false, N + 1⟩ : Pt)).countP (fun p => p.s == (i' : Int) + 1) = L.countP (fun p => p.s == (i' : Int) + 1) := by
      simp only at h2
      omega
    rw [h3, h.many i' hi']
    by_cases hii : i' = i
    · subst hii; rw [List.getElem_set_self]
    · rw [List.getElem_set_ne (fun e => hii e.symm)]
  free := fun y hy => by
    rcases List.mem_append.1 hy with hy | hy
    · obtain ⟨i', hi', e, hu'⟩ := h.free y hy
      have hne : i ≠ i' := fun e' => by subst e'; rw [hu] at hu'; cases hu'
      exact ⟨i', by rw [List.length_set]; exact hi', e, by rw [List.getElem_set_ne hne]; exact hu'⟩
    · rw [List.mem_singleton.1 hy]
      exact ⟨i, by rw [List.length_set]; exact hi, rfl, by rw [List.getElem_set_self]⟩
  back := fun i' hi0 hu' => by
    have hi' : i' < ss.length := by rwa [List.length_set] at hi0
    by_cases hii : i' = i
    · subst hii; simp
    · rw [List.getElem_set_ne (fun e => hii e.symm)] at hu'
      exact List.mem_append_left _ (h.back i' hi' hu')
  fapart := by
    refine List.nodup_append.2 ⟨h.fapart, by simp, ?_⟩
    intro a ha b hb e
    simp at hb
    obtain ⟨i', hi', e', hu'⟩ := h.free a ha
    have : i' = i := by omega
    subst this
    rw [hu] at hu'
    cases hu'
  when_ := fun p hp => by
    rcases mem_set' hp with ⟨j', h', _, rfl⟩ | rfl
    · have := h.when_ _ (List.getElem_mem h')
      exact ⟨this.1, by omega⟩
    · exact ⟨fun _ => by have := h.n0; show 1 ≤ N + 1; omega, Int.le_refl _⟩
  order := by
    have hnot : ∀ a ∈ fs, a ≠ (i : Int) + 1 := fun a ha e => by
      obtain ⟨i', hi', e', hu'⟩ := h.free a ha
      have : i' = i := by omega
      subst this
      rw [hu] at hu'
      cases hu'
    have hold : ∀ p, p ∈ L.set j (⟨L[j].s, L[j].g, L[j].x, false, N + 1⟩ : Pt) → p.s ≠ (i : Int) + 1 → p ∈ L := fun p hp hne => by
      rcases mem_set' hp with ⟨j', h', _, rfl⟩ | rfl
      · exact List.getElem_mem h'
      · exact absurd hs hne
    have hnew : ∀ q, q ∈ L → q.s ≠ (i : Int) + 1 → q ∈ L.set j (⟨L[j].s, L[j].g, L[j].x, false, N + 1⟩ : Pt) := fun q hq hne => by
      obtain ⟨j', h', rfl⟩ := List.mem_iff_getElem.1 hq
      have hjj : j ≠ j' := fun e => by subst e; exact hne hs
      have : (L.set j (⟨L[j].s, L[j].g, L[j].x, false, N + 1⟩ : Pt))[j']'(by rw [List.length_set]; exact h') = L[j'] := List.getElem_set_ne hjj _
      rw [← this]
      exact List.getElem_mem _
    refine List.pairwise_append.2 ⟨List.Pairwise.imp_of_mem (fun {a b} ha hb hr p hp hps => ?_) h.order, by simp, fun a ha b hb p hp hps => ?_⟩
    · obtain ⟨q, hq, h1, h2⟩ := hr p (hold p hp (by rw [hps]; exact hnot a ha)) hps
      exact ⟨q, hnew q hq (by rw [h1]; exact hnot b hb), h1, h2⟩
    · simp at hb
      subst hb
      have hpL := hold p hp (by rw [hps]; exact hnot a ha)
      have := (h.when_ p hpL).2
      refine ⟨(⟨L[j].s, L[j].g, L[j].x, false, N + 1⟩ : Pt), ?_, hs, by show p.fr < N + 1; omega⟩
      exact List.mem_iff_getElem.2 ⟨j, by rw [List.length_set]; exact hj, List.getElem_set_self _⟩
  len := by rw [List.length_set]; have := h.len; omega
  n0 := by have := h.n0; omega
  n1 := by have := h.n1; omega
end
end Go.Proofs.Ytcdfkjcnjdbmgaa.PlaysSteps
