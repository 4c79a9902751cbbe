/- EpochOwn: what the acts keep, in plain words. -/
import Derived.Test.YthbooikhegppnaaEpGoP
set_option linter.unusedVariables false
set_option linter.unusedSimpArgs false
namespace Go.Proofs.Ythbooikhegppnaa.H
open Go.RowKit Go.Hay Go.Proofs.YthbooikhegppnaaW.PrintWords Go.Proofs.YthbooikhegppnaaW.PrintLast Go.Proofs.YthbooikhegppnaaW.PrintMore
/-- worker j has retired m things, at the first epoch. -/
def ownRow (j m : Nat) : List Rt := (List.range m).map fun i : Nat => ⟨100 * (j : Int) + (i : Int), 0⟩
def ownP (n : Nat) (f : Nat → Nat) : List (Int × List Rt) := (List.range n).map fun j => (-1, ownRow j (f j))
theorem ownP_len (n : Nat) (f : Nat → Nat) : (ownP n f).length = n := by simp [ownP]
theorem ownP_row {n : Nat} {f : Nat → Nat} {j : Nat} (h : j < n) : rowP (ownP n f) j = ownRow j (f j) := by
  rw [rowP_get (by rw [ownP_len]; exact h)]; simp [ownP]
theorem ownP_ann {n : Nat} {f : Nat → Nat} {j : Nat} (h : j < n) : annOf (ownP n f) j = -1 := by
  unfold annOf
  rw [List.getD_eq_getElem?_getD, List.getElem?_eq_getElem (by rw [ownP_len]; exact h)]; simp [ownP]
theorem ownP_zero (n : Nat) : ownP n (fun _ => 0) = List.replicate n (-1, []) := by
  unfold ownP
  apply List.ext_getElem (by simp)
  intro j h1 h2
  simp [ownRow]
/-- the workers ahead of k are done, k has retired i. -/
def fAt (m : Nat → Nat) (k i : Nat) (j : Nat) : Nat := if j < k then m j else if j = k then i else 0
theorem fAt_zero (m : Nat → Nat) (n : Nat) : ownP n (fAt m 0 0) = List.replicate n (-1, []) := by
  rw [← ownP_zero]; unfold ownP fAt
  apply List.map_congr_left
  intro j _
  rw [if_neg (by omega)]
  split <;> rfl
theorem fAt_next (m : Nat → Nat) (n k : Nat) : ownP n (fAt m k (m k)) = ownP n (fAt m (k + 1) 0) := by
  unfold ownP
  apply List.map_congr_left
  intro j _
  congr 2
  unfold fAt
  by_cases h : j < k
  · rw [if_pos h, if_pos (by omega)]
  · rw [if_neg h]
    by_cases h2 : j = k
    · subst h2; rw [if_pos rfl, if_pos (by omega)]
    · rw [if_neg h2, if_neg (by omega)]; split <;> rfl
theorem ownP_ret (m : Nat → Nat) {n k i : Nat} (h : k < n) : retP 0 (ownP n (fAt m k i)) k (100 * (k : Int) + (i : Int)) = ownP n (fAt m k (i + 1)) := by
  have e : (ownP n (fAt m k i)).getD k (0, []) = (-1, ownRow k i) := by
    rw [List.getD_eq_getElem?_getD, List.getElem?_eq_getElem (by rw [ownP_len]; exact h)]; simp [ownP, fAt]
  unfold retP
  rw [e]
  apply List.ext_getElem (by rw [List.length_set, ownP_len, ownP_len])
  intro j h1 h2
  rw [List.getElem_set]
  by_cases he : k = j
  · subst he
    rw [if_pos rfl]
    simp only [ownP, List.getElem_map, List.getElem_range, fAt, Nat.lt_irrefl, if_false, if_true, ownRow]
    rw [List.range_succ, List.map_append]
    rfl
  · rw [if_neg he]
    simp only [ownP, List.getElem_map, List.getElem_range]
    congr 2
    unfold fAt
    split
    · rfl
    · rw [if_neg (by omega), if_neg (by omega)]
structure OW (n : Nat) (m : Nat → Nat) (i q r : Nat) (now : Int) (ws : List (Int × List Rt)) (got : List (List Int)) : Prop where
  len : ws.length = n
  gl : got.length = 6
  now0 : 0 ≤ now
  nowi : now ≤ i
  bd : ∀ v, v < n → annOf ws v ≤ now
  at_ : ∀ k, k < n → ∀ x ∈ rowP ws k, x.at_ = 0
  it : ∀ k, k < n → got.getD k [] ++ (rowP ws k).map (·.t) = (ownRow k (m k)).map (·.t)
  gb : GB n 0 q r now ws
theorem OW.start {n : Nat} {m : Nat → Nat} : OW n m 0 0 0 0 (ownP n (fAt m n 0)) [[], [], [], [], [], []] := by
  have e : ∀ k, k < n → fAt m n 0 k = m k := fun k hk => by unfold fAt; rw [if_pos hk]
  refine ⟨ownP_len _ _, rfl, Int.le_refl _, Int.le_refl _, fun v hv => by rw [ownP_ann hv]; decide, fun k hk x hx => ?_, fun k hk => ?_, ⟨by simp, fun v hv => by omega, fun k hk x hx => ?_, fun h => by omega, fun h => by omega⟩⟩
  · rw [ownP_row hk] at hx
    obtain ⟨_, _, rfl⟩ := List.mem_map.1 hx
    rfl
  · rw [ownP_row hk, e k hk]
    have : ([[], [], [], [], [], []] : List (List Int)).getD k [] = [] := by
      rw [List.getD_eq_getElem?_getD]
      rcases k with _ | _ | _ | _ | _ | _ | k <;> simp
    rw [this]; rfl
  · rw [ownP_row hk] at hx
    obtain ⟨_, _, rfl⟩ := List.mem_map.1 hx
    exact Int.le_refl _
theorem ready_all {now : Int} {l : List Rt} (h : ∀ x ∈ l, x.at_ = 0) : goneT now l ++ (left now l).map (·.t) = l.map (·.t) := by
  by_cases h2 : 2 ≤ now
  · have e1 : l.filter (readyB now) = l := List.filter_eq_self.2 (fun x hx => by unfold readyB; rw [h x hx]; simpa using h2)
    have e2 : left now l = [] := by
      unfold left
      rw [List.filter_eq_nil_iff]
      intro x hx
      unfold readyB; rw [h x hx]; simpa using h2
    unfold goneT
    rw [e1, e2]; simp
  · have e1 : l.filter (readyB now) = [] := by
      rw [List.filter_eq_nil_iff]
      intro x hx
      unfold readyB; rw [h x hx]; simpa using h2
    have e2 : left now l = l := List.filter_eq_self.2 (fun x hx => by unfold readyB; rw [h x hx]; simpa using h2)
    unfold goneT
    rw [e1, e2]; simp
theorem OW.fine {n i q r k : Nat} {m : Nat → Nat} {now : Int} {ws : List (Int × List Rt)} {got : List (List Int)} (h : OW n m i q r now ws got) (hk : k < n) : Fine now (rowP ws k) :=
  fun x hx => by rw [h.at_ k hk x hx]; exact ⟨Int.le_refl _, h.now0⟩
theorem OW.small {n i q r k : Nat} {m : Nat → Nat} {now : Int} {ws : List (Int × List Rt)} {got : List (List Int)} (h : OW n m i q r now ws got) (hk : k < n) : (got.getD k []).length + (rowP ws k).length = m k := by
  have := congrArg List.length (h.it k hk)
  simpa [ownRow] using this
theorem OW.ann {n i q r : Nat} {m : Nat → Nat} {now : Int} {ws : List (Int × List Rt)} {got : List (List Int)} (h : OW n m i q r now ws got) (hr : r < n) (hn : n ≤ 6) :
    (r + 1 < n → OW n m (i + 1) q (r + 1) (nowP now ws r) (annP now ws r) (got.set r (got.getD r [] ++ outP now ws r))) ∧ (r + 1 = n → OW n m (i + 1) (q + 1) 0 (nowP now ws r) (annP now ws r) (got.set r (got.getD r [] ++ outP now ws r))) := by
  have hkl : r < ws.length := by rw [h.len]; exact hr
  have hnc := nowP_cases (now := now) hkl
  have hge : now ≤ nowP now ws r ∧ nowP now ws r ≤ now + 1 := by rcases hnc with e | ⟨e, _⟩ <;> omega
  have hni := h.nowi
  have hn0 := h.now0
  have hgl := h.gl
  have hgb := h.gb.step h.len h.bd hr
  have hbd : ∀ v, v < n → annOf (annP now ws r) v ≤ nowP now ws r := by
    intro v hv
    rw [annOf_ann hkl]
    split
    · omega
    · have := h.bd v hv; omega
  have hat : ∀ k, k < n → ∀ x ∈ rowP (annP now ws r) k, x.at_ = 0 := by
    intro k hk x hx
    rw [rowP_ann hkl] at hx
    split at hx
    · exact h.at_ k hk x (List.mem_filter.1 hx).1
    · exact h.at_ k hk x hx
  have hit : ∀ k, k < n → (got.set r (got.getD r [] ++ outP now ws r)).getD k [] ++ (rowP (annP now ws r) k).map (·.t) = (ownRow k (m k)).map (·.t) := by
    intro k hk
    rw [rowP_ann hkl]
    by_cases e : r = k
    · subst e
      rw [getD_set_eq (by omega), if_pos rfl, List.append_assoc]
      have e2 : outP now ws r ++ (left (nowP now ws r) (rowP ws r)).map (·.t) = (rowP ws r).map (·.t) := ready_all (h.at_ r hr)
      rw [e2]; exact h.it r hr
    · rw [getD_set_ne e, if_neg e]; exact h.it k hk
  have hl2 : (annP now ws r).length = n := by unfold annP; rw [List.length_set]; exact h.len
  exact ⟨fun hlt => ⟨hl2, by rw [List.length_set]; exact hgl, by omega, by omega, hbd, hat, hit, hgb.1 hlt⟩, fun heq => ⟨hl2, by rw [List.length_set]; exact hgl, by omega, by omega, hbd, hat, hit, hgb.2 heq⟩⟩
theorem OW.done {n i r k : Nat} {m : Nat → Nat} {now : Int} {ws : List (Int × List Rt)} {got : List (List Int)} (h : OW n m i 3 r now ws got) (hk : k < n) : got.getD k [] = (List.range (m k)).map fun i : Nat => 100 * (k : Int) + (i : Int) := by
  have e := h.it k hk
  rw [h.gb.all (Nat.le_refl _) k hk, List.map_nil, List.append_nil] at e
  rw [e]
  unfold ownRow
  rw [List.map_map]
  rfl
end Go.Proofs.Ythbooikhegppnaa.H
