/- EpochGoes: what the acts keep, in plain words. -/
import Derived.Test.YthbooikhegppnaaEpWaP
set_option linter.unusedVariables false
set_option linter.unusedSimpArgs false
namespace Go.Proofs.Ythbooikhegppnaa.H
open Go.RowKit Go.Hay Go.Proofs.YthbooikhegppnaaW.PrintWords Go.Proofs.YthbooikhegppnaaW.PrintLast Go.Proofs.YthbooikhegppnaaW.PrintMore
theorem sum_set (l : List Nat) (k x : Nat) (h : k < l.length) : (l.set k x).sum + l[k] = l.sum + x := by
  induction l generalizing k with
  | nil => simp at h
  | cons a l ih =>
    cases k with
    | zero => simp; omega
    | succ k =>
      have := ih k (by simpa using h)
      simp only [List.set_cons_succ, List.sum_cons, List.getElem_cons_succ]
      omega
/-- how often a thing stands in some limbo. -/
def inRow (l : List Rt) (t : Int) : Nat := l.countP (fun x => x.t == t)
def inAll (ws : List (Int × List Rt)) (t : Int) : Nat := (ws.map fun p => inRow p.2 t).sum
theorem inAll_set {ws : List (Int × List Rt)} {k : Nat} (hk : k < ws.length) (a : Int) (l : List Rt) (t : Int) : inAll (ws.set k (a, l)) t + inRow (rowP ws k) t = inAll ws t + inRow l t := by
  unfold inAll
  rw [List.map_set]
  have := sum_set (ws.map fun p => inRow p.2 t) k (inRow l t) (by simpa using hk)
  simp only [List.getElem_map] at this
  rw [rowP_get hk]
  exact this
theorem inAll_none {ws : List (Int × List Rt)} {t : Int} (h : ∀ k, k < ws.length → rowP ws k = []) : inAll ws t = 0 := by
  unfold inAll
  have e : (ws.map fun p => inRow p.2 t) = List.replicate ws.length 0 := by
    apply List.ext_getElem (by simp)
    intro j h1 h2
    simp only [List.getElem_map, List.getElem_replicate]
    have := h j (by simpa using h1)
    rw [rowP_get (by simpa using h1)] at this
    rw [this]; rfl
  rw [e]; simp
theorem inRow_part (now : Int) (l : List Rt) (t : Int) : inRow l t = inRow (left now l) t + (goneT now l).count t := by
  unfold inRow left goneT
  induction l with
  | nil => rfl
  | cons x l ih =>
    rw [List.countP_cons]
    by_cases h : readyB now x = true
    · simp only [List.filter_cons, h, if_true, List.map_cons, Bool.not_true, Bool.false_eq_true, if_false]
      rw [List.count_cons, ih]
      omega
    · simp only [Bool.not_eq_true] at h
      simp only [List.filter_cons, h, if_false, Bool.not_false, if_true, Bool.false_eq_true]
      rw [List.countP_cons, ih]
      omega
/-- the things that went are counted. -/
def incP (ts : List Int) : List Int → List Int
  | [] => ts
  | g :: gs => incP (ts.set g.toNat (ts.getD g.toNat 0 + 1)) gs
theorem incP_len (ts gs : List Int) : (incP ts gs).length = ts.length := by
  induction gs generalizing ts with
  | nil => rfl
  | cons g gs ih => rw [incP, ih, List.length_set]
theorem incP_get (ts gs : List Int) (t : Nat) (h : ∀ g ∈ gs, 0 ≤ g ∧ g < ts.length) : (incP ts gs).getD t 0 = ts.getD t 0 + (gs.count (t : Int) : Nat) := by
  induction gs generalizing ts with
  | nil => simp [incP]
  | cons g gs ih =>
    have hg := h g (List.mem_cons_self ..)
    rw [incP, ih _ (by rw [List.length_set]; exact fun x hx => h x (List.mem_cons_of_mem _ hx)), List.count_cons]
    by_cases e : g.toNat = t
    · subst e
      rw [getD_set_eq (by omega), if_pos (by simp; omega)]
      omega
    · rw [getD_set_ne e, if_neg (by simp; omega)]
      omega
theorem incP_take (ts gs : List Int) (k : Nat) (hk : k < gs.length) : incP ts (gs.take (k + 1)) = (incP ts (gs.take k)).set (gs[k]).toNat ((incP ts (gs.take k)).getD (gs[k]).toNat 0 + 1) := by
  induction gs generalizing ts k with
  | nil => simp at hk
  | cons g gs ih =>
    cases k with
    | zero => simp [incP]
    | succ k =>
      simp only [List.take_succ_cons, incP, List.getElem_cons_succ]
      exact ih _ k (by simpa using hk)
structure GA (n i : Nat) (now : Int) (ws : List (Int × List Rt)) (times : List Int) (many : Nat) : Prop where
  len : ws.length = n
  tl : times.length = 200
  now0 : 0 ≤ now
  nowi : now ≤ i
  mi : many ≤ i
  m2 : many ≤ 200
  bd : ∀ v, v < n → now - 1 ≤ annOf ws v ∧ annOf ws v ≤ now
  small : ∀ k, k < n → (rowP ws k).length ≤ many
  it : ∀ k, k < n → ∀ x ∈ rowP ws k, 0 ≤ x.t ∧ x.t < many ∧ 0 ≤ x.at_ ∧ x.at_ ≤ now
  cnt : ∀ t : Nat, t < many → times.getD t 0 + (inAll ws t : Nat) = 1
  nil : ∀ t : Nat, many ≤ t → times.getD t 0 = 0
  pos : ∀ t : Nat, 0 ≤ times.getD t 0
theorem GA.fine {n i : Nat} {now : Int} {ws : List (Int × List Rt)} {times : List Int} {many k : Nat} (h : GA n i now ws times many) (hk : k < n) : Fine now (rowP ws k) :=
  fun x hx => (h.it k hk x hx).2.2
theorem GA.le {n i : Nat} {now : Int} {ws : List (Int × List Rt)} {times : List Int} {many : Nat} (h : GA n i now ws times many) (t : Nat) : times.getD t 0 ≤ 1 := by
  by_cases ht : t < many
  · have := h.cnt t ht; omega
  · have := h.nil t (by omega); omega
theorem inRow_none {l : List Rt} {t : Int} (h : ∀ x ∈ l, x.t ≠ t) : inRow l t = 0 := by
  unfold inRow
  rw [List.countP_eq_zero]
  intro x hx
  simpa using h x hx
theorem inAll_out {n : Nat} {ws : List (Int × List Rt)} {t : Int} (hl : ws.length = n) (h : ∀ k, k < n → ∀ x ∈ rowP ws k, x.t ≠ t) : inAll ws t = 0 := by
  unfold inAll
  have e : (ws.map fun p => inRow p.2 t) = List.replicate ws.length 0 := by
    apply List.ext_getElem (by simp)
    intro j h1 h2
    simp only [List.getElem_map, List.getElem_replicate]
    have hj : j < ws.length := by simpa using h1
    have := h j (by omega)
    rw [rowP_get hj] at this
    exact inRow_none this
  rw [e]; simp
theorem GA.ret {n i k many : Nat} {now : Int} {ws : List (Int × List Rt)} {times : List Int} (h : GA n i now ws times many) (hk : k < n) (hm : many < 200) : GA n (i + 1) now (retP now ws k many) times (many + 1) := by
  have hkl : k < ws.length := by rw [h.len]; exact hk
  refine ⟨by unfold retP; rw [List.length_set]; exact h.len, h.tl, h.now0, by have := h.nowi; omega, by have := h.mi; omega, by omega, fun v hv => by rw [annOf_ret hkl]; exact h.bd v hv, fun j hj => ?_, fun j hj x hx => ?_, fun t ht => ?_, fun t ht => h.nil t (by omega), h.pos⟩
  · rw [rowP_ret hkl]
    have := h.small j hj
    split
    · simp; omega
    · omega
  · rw [rowP_ret hkl] at hx
    have hn0 := h.now0
    split at hx
    · rcases List.mem_append.1 hx with hx | hx
      · obtain ⟨h1, h2, h3, h4⟩ := h.it j hj x hx
        exact ⟨h1, by omega, h3, h4⟩
      · rw [List.mem_singleton.1 hx]
        exact ⟨by simp, by simp; omega, hn0, Int.le_refl _⟩
    · obtain ⟨h1, h2, h3, h4⟩ := h.it j hj x hx
      exact ⟨h1, by omega, h3, h4⟩
  · have e := inAll_set hkl ((ws.getD k (0, [])).1) (rowP ws k ++ [⟨(many : Int), now⟩]) (t : Int)
    have e2 : inRow (rowP ws k ++ [⟨(many : Int), now⟩]) (t : Int) = inRow (rowP ws k) t + (if (many : Int) = t then 1 else 0) := by
      unfold inRow
      rw [List.countP_append, List.countP_singleton]
      simp
    have e3 : inAll (retP now ws k many) t + inRow (rowP ws k) t = inAll ws t + inRow (rowP ws k ++ [⟨(many : Int), now⟩]) t := e
    by_cases hte : many = t
    · subst hte
      have h0 := inAll_out (t := (many : Int)) h.len (fun k hk x hx => by have := (h.it k hk x hx).2.1; omega)
      have h1 := h.nil many (Nat.le_refl _)
      rw [if_pos rfl] at e2
      omega
    · have := h.cnt t (by omega)
      rw [if_neg (by omega)] at e2
      omega
theorem GA.ann {n i k many : Nat} {now : Int} {ws : List (Int × List Rt)} {times : List Int} (h : GA n i now ws times many) (hk : k < n) :
    GA n (i + 1) (nowP now ws k) (annP now ws k) (incP times (outP now ws k)) many ∧ (∀ t ∈ outP now ws k, 0 ≤ t ∧ t < many) ∧ (outP now ws k).length ≤ many := by
  have hkl : k < ws.length := by rw [h.len]; exact hk
  have hnc := nowP_cases (now := now) hkl
  have hge : now ≤ nowP now ws k ∧ nowP now ws k ≤ now + 1 := by rcases hnc with e | ⟨e, _⟩ <;> omega
  have hni := h.nowi
  have hn0 := h.now0
  have hout : ∀ t ∈ outP now ws k, 0 ≤ t ∧ t < many := by
    intro t ht
    unfold outP goneT at ht
    obtain ⟨x, hx, rfl⟩ := List.mem_map.1 ht
    have := h.it k hk x (List.mem_filter.1 hx).1
    exact ⟨this.1, this.2.1⟩
  have hol : (outP now ws k).length ≤ many := Nat.le_trans (gone_len _ _) (h.small k hk)
  have hm2 := h.m2
  have htl := h.tl
  have hgood : ∀ g ∈ outP now ws k, 0 ≤ g ∧ g < times.length := fun g hg => by have := hout g hg; omega
  refine ⟨⟨by unfold annP; rw [List.length_set]; exact h.len, by rw [incP_len]; exact h.tl, by omega, by omega, by have := h.mi; omega, h.m2, fun v hv => ?_, fun j hj => ?_, fun j hj x hx => ?_, fun t ht => ?_, fun t ht => ?_, fun t => ?_⟩, hout, hol⟩
  · rw [annOf_ann hkl]
    have hb := h.bd v hv
    rcases hnc with e | ⟨e, ha⟩
    · rw [e]; split <;> omega
    · rw [e]
      have := ha v (by rw [h.len]; exact hv)
      split
      · omega
      · rcases this with e2 | e2 <;> omega
  · rw [rowP_ann hkl]
    have := h.small j hj
    split
    · have h2 : (left (nowP now ws k) (rowP ws j)).length ≤ (rowP ws j).length := List.length_filter_le _ _
      omega
    · omega
  · have hx' : x ∈ rowP ws j := by
      rw [rowP_ann hkl] at hx
      split at hx
      · exact (List.mem_filter.1 hx).1
      · exact hx
    obtain ⟨h1, h2, h3, h4⟩ := h.it j hj x hx'
    exact ⟨h1, h2, h3, by omega⟩
  · rw [incP_get _ _ _ hgood]
    have h1 := h.cnt t ht
    have e : inAll (annP now ws k) t + inRow (rowP ws k) t = inAll ws t + inRow (left (nowP now ws k) (rowP ws k)) t := inAll_set hkl now (left (nowP now ws k) (rowP ws k)) (t : Int)
    have e2 : inRow (rowP ws k) t = inRow (left (nowP now ws k) (rowP ws k)) t + (outP now ws k).count (t : Int) := inRow_part (nowP now ws k) (rowP ws k) t
    omega
  · rw [incP_get _ _ _ hgood, h.nil t ht]
    have : (outP now ws k).count (t : Int) = 0 := List.count_eq_zero.2 (fun hm => by have := hout _ hm; omega)
    omega
  · rw [incP_get _ _ _ hgood]
    have := h.pos t
    omega
/-- behind the acts: round q, worker r is next. -/
structure GB (n : Nat) (N0 : Int) (q r : Nat) (now : Int) (ws : List (Int × List Rt)) : Prop where
  ge : N0 + q ≤ now
  cur : ∀ v, v < r → N0 + q ≤ annOf ws v
  at_ : ∀ k, k < n → ∀ x ∈ rowP ws k, x.at_ ≤ N0
  emp : 2 ≤ q → ∀ v, v < r → rowP ws v = []
  all : 3 ≤ q → ∀ v, v < n → rowP ws v = []
theorem GA.begin {n i many : Nat} {now : Int} {ws : List (Int × List Rt)} {times : List Int} (h : GA n i now ws times many) : GB n now 0 0 now ws :=
  ⟨by simp, fun v hv => by omega, fun k hk x hx => (h.it k hk x hx).2.2.2, fun hq => by omega, fun hq => by omega⟩
theorem GB.step {n q r : Nat} {now N0 : Int} {ws : List (Int × List Rt)} (hl : ws.length = n) (hbd : ∀ v, v < n → annOf ws v ≤ now) (g : GB n N0 q r now ws) (hr : r < n) :
    (r + 1 < n → GB n N0 q (r + 1) (nowP now ws r) (annP now ws r)) ∧ (r + 1 = n → GB n N0 (q + 1) 0 (nowP now ws r) (annP now ws r)) := by
  have hkl : r < ws.length := by rw [hl]; exact hr
  have hnc := nowP_cases (now := now) hkl
  have hge : now ≤ nowP now ws r ∧ nowP now ws r ≤ now + 1 := by rcases hnc with e | ⟨e, _⟩ <;> omega
  have gge := g.ge
  have hcur : ∀ v, v < r + 1 → N0 + q ≤ annOf (annP now ws r) v := by
    intro v hv
    rw [annOf_ann hkl]
    split
    · omega
    · exact g.cur v (by omega)
  have hat : ∀ k, k < n → ∀ x ∈ rowP (annP now ws r) k, x.at_ ≤ N0 := by
    intro k hk x hx
    rw [rowP_ann hkl] at hx
    split at hx
    · exact g.at_ k hk x (List.mem_filter.1 hx).1
    · exact g.at_ k hk x hx
  have hemp : 2 ≤ q → ∀ v, v < r + 1 → rowP (annP now ws r) v = [] := by
    intro hq v hv
    rw [rowP_ann hkl]
    by_cases e : r = v
    · subst e
      rw [if_pos rfl]
      unfold left
      rw [List.filter_eq_nil_iff]
      intro x hx
      have := g.at_ r hr x hx
      simp only [readyB, Bool.not_eq_true', decide_eq_false_iff_not, Bool.not_eq_eq_eq_not]
      simp
      omega
    · rw [if_neg e]
      exact g.emp hq v (by omega)
  refine ⟨fun hlt => ⟨by omega, hcur, hat, hemp, fun hq v hv => ?_⟩, fun heq => ⟨?_, fun v hv => by omega, hat, fun _ v hv => by omega, fun hq v hv => hemp (by omega) v (by omega)⟩⟩
  · have := g.all hq v hv
    rw [rowP_ann hkl, this]
    split <;> rfl
  · rcases hnc with e | ⟨e, _⟩
    · rw [e]
      by_cases hlt : N0 + q < now
      · omega
      · exfalso
        have e2 : now = N0 + q := by omega
        unfold nowP at e
        split at e
        · rename_i hany
          obtain ⟨x, hx, hne⟩ := List.any_eq_true.1 hany
          obtain ⟨v, hv, rfl⟩ := List.mem_iff_getElem.1 hx
          rw [List.length_set] at hv
          rw [List.getElem_set] at hne
          split at hne
          · simp at hne
          · rename_i hvr
            have h1 := g.cur v (by omega)
            have h2 := hbd v (by omega)
            have h3 : annOf ws v = ws[v].1 := by unfold annOf; rw [List.getD_eq_getElem?_getD, List.getElem?_eq_getElem hv]; rfl
            rw [h3] at h1 h2
            simp only [bne_iff_ne, ne_eq] at hne
            omega
        · omega
    · rw [e]; omega
end Go.Proofs.Ythbooikhegppnaa.H
