/- EpochWaits: what the acts keep, in plain words. -/
import Derived.Test.YthbooikhegppnaaEpS
set_option linter.unusedVariables false
set_option linter.unusedSimpArgs false
namespace Go.Proofs.Ythbooikhegppnaa.H
open Go.RowKit Go.Hay Go.Proofs.YthbooikhegppnaaW.PrintWords Go.Proofs.YthbooikhegppnaaW.PrintLast Go.Proofs.YthbooikhegppnaaW.PrintMore
/-- what worker v announced last. -/
def annOf (ws : List (Int × List Rt)) (v : Nat) : Int := (ws.getD v (0, [])).1
theorem getD_set_eq {α : Type} {ws : List α} {k : Nat} {x d : α} (h : k < ws.length) : (ws.set k x).getD k d = x := by
  rw [List.getD_eq_getElem?_getD, List.getElem?_set_self h]; rfl
theorem getD_set_ne {α : Type} {ws : List α} {k j : Nat} {x d : α} (h : k ≠ j) : (ws.set k x).getD j d = ws.getD j d := by
  rw [List.getD_eq_getElem?_getD, List.getD_eq_getElem?_getD, List.getElem?_set_ne h]
structure WA (n i : Nat) (now : Int) (ws : List (Int × List Rt)) (last when_ : List Int) : Prop where
  len : ws.length = n
  ll : last.length = 6
  now0 : 0 ≤ now
  nowi : now ≤ i
  bd : ∀ v, v < n → now - 1 ≤ annOf ws v ∧ annOf ws v ≤ now
  small : ∀ k, k < n → (rowP ws k).length ≤ i
  it : ∀ k, k < n → ∀ x ∈ rowP ws k, 0 ≤ x.t ∧ x.t < when_.length ∧ 0 ≤ x.at_ ∧ x.at_ ≤ now ∧ ∀ v, v < n → x.at_ < annOf ws v → rd when_ x.t < last.getD v 0
  wl : when_.length ≤ i
  wb : ∀ y ∈ when_, y ≤ i
theorem annOf_ret {now t : Int} {ws : List (Int × List Rt)} {k v : Nat} (hk : k < ws.length) : annOf (retP now ws k t) v = annOf ws v := by
  unfold annOf retP
  by_cases e : k = v
  · subst e; rw [getD_set_eq hk]
  · rw [getD_set_ne e]
theorem rowP_ret {now t : Int} {ws : List (Int × List Rt)} {k v : Nat} (hk : k < ws.length) : rowP (retP now ws k t) v = if k = v then rowP ws v ++ [⟨t, now⟩] else rowP ws v := by
  unfold rowP retP
  by_cases e : k = v
  · subst e; rw [getD_set_eq hk, if_pos rfl]
  · rw [getD_set_ne e, if_neg e]
theorem annOf_ann {now : Int} {ws : List (Int × List Rt)} {k v : Nat} (hk : k < ws.length) : annOf (annP now ws k) v = if k = v then now else annOf ws v := by
  unfold annOf annP
  by_cases e : k = v
  · subst e; rw [getD_set_eq hk, if_pos rfl]
  · rw [getD_set_ne e, if_neg e]
theorem rowP_ann {now : Int} {ws : List (Int × List Rt)} {k v : Nat} (hk : k < ws.length) : rowP (annP now ws k) v = if k = v then left (nowP now ws k) (rowP ws v) else rowP ws v := by
  unfold rowP annP
  by_cases e : k = v
  · subst e; rw [getD_set_eq hk, if_pos rfl]
  · rw [getD_set_ne e, if_neg e]
/-- the epoch goes on where all have announced it. -/
theorem nowP_cases {now : Int} {ws : List (Int × List Rt)} {k : Nat} (hk : k < ws.length) : nowP now ws k = now ∨ (nowP now ws k = now + 1 ∧ ∀ v, v < ws.length → v = k ∨ annOf ws v = now) := by
  unfold nowP
  split
  · exact .inl rfl
  · rename_i h
    refine .inr ⟨rfl, fun v hv => ?_⟩
    by_cases e : k = v
    · exact .inl e.symm
    · right
      by_cases h2 : annOf ws v = now
      · exact h2
      · exfalso
        apply h
        refine List.any_eq_true.2 ⟨ws[v], ?_, ?_⟩
        · rw [List.mem_iff_getElem]
          exact ⟨v, by rw [List.length_set]; exact hv, by rw [List.getElem_set, if_neg e]⟩
        · have : annOf ws v = ws[v].1 := by unfold annOf; rw [List.getD_eq_getElem?_getD, List.getElem?_eq_getElem hv]; rfl
          rw [this] at h2
          simpa using h2
theorem WA.start (n : Nat) (hn : n ≤ 6) : WA n 0 0 (List.replicate n (-1, [])) [0, 0, 0, 0, 0, 0] [] := by
  have e : ∀ k, k < n → (List.replicate n ((-1 : Int), ([] : List Rt))).getD k (0, []) = (-1, []) := fun k hk => by rw [List.getD_eq_getElem?_getD]; simp [hk]
  refine ⟨by simp, rfl, Int.le_refl _, Int.le_refl _, fun v hv => by unfold annOf; rw [e v hv]; simp, fun k hk => by unfold rowP; rw [e k hk]; simp, fun k hk x hx => ?_, by simp, by simp⟩
  unfold rowP at hx; rw [e k hk] at hx; cases hx
theorem WA.ret {n i k : Nat} {now : Int} {ws : List (Int × List Rt)} {last when_ : List Int} (h : WA n i now ws last when_) (hk : k < n) : WA n (i + 1) now (retP now ws k when_.length) last (when_ ++ [((i + 1 : Nat) : Int)]) := by
  have hkl : k < ws.length := by rw [h.len]; exact hk
  refine ⟨by unfold retP; rw [List.length_set]; exact h.len, h.ll, h.now0, by have := h.nowi; omega, fun v hv => by rw [annOf_ret hkl]; exact h.bd v hv, fun j hj => ?_, fun j hj x hx => ?_, by have := h.wl; simp; omega, fun y hy => ?_⟩
  · rw [rowP_ret hkl]
    have := h.small j hj
    split
    · simp; omega
    · omega
  · have old : x ∈ rowP ws j → 0 ≤ x.t ∧ x.t < ((when_ ++ [((i + 1 : Nat) : Int)]).length : Int) ∧ 0 ≤ x.at_ ∧ x.at_ ≤ now ∧ ∀ v, v < n → x.at_ < annOf (retP now ws k when_.length) v → rd (when_ ++ [((i + 1 : Nat) : Int)]) x.t < last.getD v 0 := by
      intro hx
      obtain ⟨h1, h2, h3, h4, h5⟩ := h.it j hj x hx
      refine ⟨h1, by simp; omega, h3, h4, fun v hv hlt => ?_⟩
      rw [annOf_ret hkl] at hlt
      have := h5 v hv hlt
      have e : rd (when_ ++ [((i + 1 : Nat) : Int)]) x.t = rd when_ x.t := by
        simp only [rd]
        rw [List.getD_eq_getElem?_getD, List.getD_eq_getElem?_getD, List.getElem?_append_left (by omega)]
      rw [e]; exact this
    rw [rowP_ret hkl] at hx
    by_cases e : k = j
    · rw [if_pos e] at hx
      rcases List.mem_append.1 hx with hx | hx
      · exact old hx
      · rw [List.mem_singleton.1 hx]
        refine ⟨by simp, by simp; omega, h.now0, Int.le_refl _, fun v hv hlt => ?_⟩
        rw [annOf_ret hkl] at hlt
        have := (h.bd v hv).2
        simp at hlt
        omega
    · rw [if_neg e] at hx; exact old hx
  · rcases List.mem_append.1 hy with hy | hy
    · have := h.wb y hy; omega
    · rw [List.mem_singleton.1 hy]; exact Int.le_refl _
theorem WA.ann {n i k : Nat} {now : Int} {ws : List (Int × List Rt)} {last when_ : List Int} (h : WA n i now ws last when_) (hk : k < n) (hn : n ≤ 6) :
    WA n (i + 1) (nowP now ws k) (annP now ws k) (last.set k ((i + 1 : Nat) : Int)) when_ ∧ ∀ t ∈ outP now ws k, 0 ≤ t ∧ t < when_.length ∧ ∀ v, v < n → rd when_ t < (last.set k ((i + 1 : Nat) : Int)).getD v 0 := by
  have hkl : k < ws.length := by rw [h.len]; exact hk
  have hll := h.ll
  have hnc := nowP_cases (now := now) hkl
  have hbd : ∀ v, v < n → nowP now ws k - 1 ≤ annOf (annP now ws k) v ∧ annOf (annP now ws k) v ≤ nowP now ws k := by
    intro v hv
    rw [annOf_ann hkl]
    have hb := h.bd v hv
    rcases hnc with e | ⟨e, ha⟩
    · rw [e]; split <;> omega
    · rw [e]
      have := ha v (by rw [h.len]; exact hv)
      split
      · omega
      · rcases this with e2 | e2 <;> omega
  have hit : ∀ j, j < n → ∀ x ∈ rowP ws j, 0 ≤ x.t ∧ x.t < when_.length ∧ 0 ≤ x.at_ ∧ x.at_ ≤ now ∧ ∀ v, v < n → x.at_ < annOf (annP now ws k) v → rd when_ x.t < (last.set k ((i + 1 : Nat) : Int)).getD v 0 := by
    intro j hj x hx
    obtain ⟨h1, h2, h3, h4, h5⟩ := h.it j hj x hx
    refine ⟨h1, h2, h3, h4, fun v hv hlt => ?_⟩
    rw [annOf_ann hkl] at hlt
    by_cases e : k = v
    · subst e
      rw [getD_set_eq (by omega)]
      have hm : rd when_ x.t ∈ when_ := by
        simp only [rd]
        rw [List.getD_eq_getElem?_getD, List.getElem?_eq_getElem (by omega)]
        exact List.getElem_mem _
      have := h.wb _ hm
      omega
    · rw [if_neg e] at hlt
      rw [getD_set_ne e]
      exact h5 v hv hlt
  have hge : now ≤ nowP now ws k ∧ nowP now ws k ≤ now + 1 := by rcases hnc with e | ⟨e, _⟩ <;> omega
  have hni := h.nowi
  have hn0 := h.now0
  refine ⟨⟨by unfold annP; rw [List.length_set]; exact h.len, by rw [List.length_set]; exact hll, by omega, by omega, hbd, fun j hj => ?_, fun j hj x hx => ?_, by have := h.wl; omega, fun y hy => by have := h.wb y hy; omega⟩, fun t ht => ?_⟩
  · rw [rowP_ann hkl]
    have := h.small j hj
    split
    · have h2 : (left (nowP now ws k) (rowP ws j)).length ≤ (rowP ws j).length := List.length_filter_le _ _
      omega
    · omega
  · have hx' : x ∈ rowP ws j := by
      rw [rowP_ann hkl] at hx
      split at hx
      · exact (List.mem_filter.1 hx).1
      · exact hx
    obtain ⟨h1, h2, h3, h4, h5⟩ := hit j hj x hx'
    exact ⟨h1, h2, h3, by omega, h5⟩
  · unfold outP goneT at ht
    obtain ⟨x, hx, rfl⟩ := List.mem_map.1 ht
    obtain ⟨hx1, hx2⟩ := List.mem_filter.1 hx
    obtain ⟨h1, h2, h3, h4, h5⟩ := hit k hk x hx1
    refine ⟨h1, h2, fun v hv => h5 v hv ?_⟩
    have := hbd v hv
    unfold readyB at hx2
    simp at hx2
    omega
end Go.Proofs.Ythbooikhegppnaa.H
