/- EpochActs: the document's epochs beside the program's, in plain words. -/
import Derived.Test.YthbooikhegppnaaEpWaP
import Derived.Test.YthbooikhegppnaaH0
set_option linter.unusedVariables false
set_option linter.unusedSimpArgs false
namespace Go.Proofs.Ythbooikhegppnaa.H
open Go.RowKit Go.Hay Go.Proofs.YthbooikhegppnaaW.PrintWords Go.Proofs.YthbooikhegppnaaW.PrintLast Go.Proofs.YthbooikhegppnaaW.PrintMore
def rowOf (L : List S45) (v : Int) : List Rt := (L.filter (fun x => x.f0 == v)).map (fun x => ⟨x.f1, x.f2⟩)
def rNow (now : Int) (ann : List Int) (k : Nat) : Int := if ((ann.set k now).all (fun a => a == now)) = true then now + 1 else now
def rGoes (now : Int) (k : Int) (x : S45) : Bool := (x.f0 == k) && decide (x.f2 + 2 ≤ now)
def rOut (now : Int) (k : Int) (L : List S45) : List Int := (L.filter (rGoes now k)).map (·.f1)
def rLeft (now : Int) (k : Int) (L : List S45) : List S45 := L.filter (fun x => !rGoes now k x)
/-- the two are one. -/
structure RA (n i : Nat) (now : Int) (ws : List (Int × List Rt)) (ann : List Int) (L : List S45) : Prop where
  len : ws.length = n
  al : ann.length = n
  now0 : 0 ≤ now
  nowi : now ≤ i
  Ll : L.length ≤ i
  ann_ : ∀ k, k < n → ann.getD k 0 = annOf ws k
  row : ∀ k : Nat, k < n → rowOf L k = rowP ws k
  own : ∀ x ∈ L, 0 ≤ x.f0 ∧ x.f0 < n
  at_ : ∀ x ∈ L, 0 ≤ x.f2 ∧ x.f2 ≤ now
theorem RA.start (n : Nat) : RA n 0 0 (List.replicate n (-1, [])) (List.replicate n (-1)) [] :=
  ⟨by simp, by simp, Int.le_refl _, Int.le_refl _, by simp, fun k hk => by unfold annOf; rw [List.getD_eq_getElem?_getD, List.getD_eq_getElem?_getD]; simp [hk], fun k hk => by unfold rowP; rw [List.getD_eq_getElem?_getD]; simp [hk, rowOf], by simp, by simp⟩
theorem rowOf_len (L : List S45) (v : Int) : (rowOf L v).length ≤ L.length := by
  unfold rowOf; rw [List.length_map]; exact List.length_filter_le _ _
theorem RA.fine {n i k : Nat} {now : Int} {ws : List (Int × List Rt)} {ann : List Int} {L : List S45} (h : RA n i now ws ann L) (hk : k < n) : Fine now (rowP ws k) := by
  intro x hx
  rw [← h.row k hk] at hx
  obtain ⟨y, hy, rfl⟩ := List.mem_map.1 hx
  exact h.at_ y (List.mem_filter.1 hy).1
theorem RA.small {n i k : Nat} {now : Int} {ws : List (Int × List Rt)} {ann : List Int} {L : List S45} (h : RA n i now ws ann L) (hk : k < n) : (rowP ws k).length ≤ i := by
  rw [← h.row k hk]; exact Nat.le_trans (rowOf_len _ _) h.Ll
theorem RA.ret {n i k : Nat} {now t : Int} {ws : List (Int × List Rt)} {ann : List Int} {L : List S45} (h : RA n i now ws ann L) (hk : k < n) : RA n (i + 1) now (retP now ws k t) ann (L ++ [⟨k, t, now⟩]) := by
  have hkl : k < ws.length := by rw [h.len]; exact hk
  refine ⟨by unfold retP; rw [List.length_set]; exact h.len, h.al, h.now0, by have := h.nowi; omega, by have := h.Ll; simp; omega, fun v hv => by rw [annOf_ret hkl]; exact h.ann_ v hv, fun v hv => ?_, fun x hx => ?_, fun x hx => ?_⟩
  · rw [rowP_ret hkl]
    unfold rowOf
    rw [List.filter_append, List.map_append]
    have e := h.row v hv
    unfold rowOf at e
    rw [e]
    by_cases e2 : k = v
    · subst e2; simp
    · rw [if_neg e2, List.filter_cons, if_neg (by simp; omega)]; simp
  · rcases List.mem_append.1 hx with hx | hx
    · exact h.own x hx
    · rw [List.mem_singleton.1 hx]; simp; omega
  · have h0 := h.now0
    rcases List.mem_append.1 hx with hx | hx
    · exact h.at_ x hx
    · rw [List.mem_singleton.1 hx]; exact ⟨h0, Int.le_refl _⟩
theorem RA.skip {n i : Nat} {now : Int} {ws : List (Int × List Rt)} {ann : List Int} {L : List S45} (h : RA n i now ws ann L) : RA n (i + 1) now ws ann L :=
  ⟨h.len, h.al, h.now0, by have := h.nowi; omega, by have := h.Ll; omega, h.ann_, h.row, h.own, h.at_⟩
theorem RA.now_eq {n i k : Nat} {now : Int} {ws : List (Int × List Rt)} {ann : List Int} {L : List S45} (h : RA n i now ws ann L) (hk : k < n) : rNow now ann k = nowP now ws k := by
  have hkl : k < ws.length := by rw [h.len]; exact hk
  have e : ann.set k now = (ws.set k (now, (ws.getD k (0, [])).2)).map (·.1) := by
    apply List.ext_getElem (by rw [List.length_set, List.length_map, List.length_set, h.al, h.len])
    intro j h1 h2
    rw [List.getElem_map, List.getElem_set, List.getElem_set]
    split
    · rfl
    · have hj : j < n := by rw [List.length_set] at h1; rw [← h.al]; exact h1
      have := h.ann_ j hj
      unfold annOf at this
      rw [List.getD_eq_getElem?_getD, List.getD_eq_getElem?_getD, List.getElem?_eq_getElem (by rw [h.al]; exact hj), List.getElem?_eq_getElem (by rw [h.len]; exact hj)] at this
      exact this
  unfold rNow nowP
  rw [e, List.all_map]
  cases hc : (ws.set k (now, (ws.getD k (0, [])).2)).any (fun x => x.1 != now) with
  | true =>
    rw [if_pos rfl, if_neg]
    intro ha
    obtain ⟨x, hx, hne⟩ := List.any_eq_true.1 hc
    have := List.all_eq_true.1 ha x hx
    simp at this hne
    exact hne this
  | false =>
    rw [if_pos, if_neg (by simp)]
    refine List.all_eq_true.2 (fun x hx => ?_)
    have := List.any_eq_false.1 hc x hx
    simpa using this
theorem goes_row (now : Int) (k v : Int) (L : List S45) : rOut now k L = goneT now (rowOf L k) ∧ rowOf (rLeft now k L) v = if k = v then left now (rowOf L v) else rowOf L v := by
  constructor
  · unfold rOut goneT rowOf
    rw [List.filter_map, List.map_map, List.filter_filter]
    have : (L.filter (rGoes now k)) = L.filter (fun a => ((readyB now ∘ fun x : S45 => (⟨x.f1, x.f2⟩ : Rt)) a) && (a.f0 == k)) := by
      apply List.filter_congr
      intro x _
      simp only [rGoes, Function.comp, readyB]
      rw [Bool.and_comm]
      congr 1
      simp only [decide_eq_decide]
      omega
    rw [this]; rfl
  · unfold rLeft left rowOf
    rw [List.filter_map, List.filter_filter]
    by_cases e : k = v
    · subst e
      rw [if_pos rfl, List.filter_filter]
      congr 1
      apply List.filter_congr
      intro x _
      simp only [rGoes, Function.comp, readyB]
      by_cases h : x.f0 = k
      · simp [h]; omega
      · have h2 : (x.f0 == k) = false := by simp [h]
        simp [h2]
    · rw [if_neg e]
      congr 1
      apply List.filter_congr
      intro x _
      simp only [rGoes]
      by_cases h : x.f0 = v
      · have : (v == k) = false := by simp; omega
        simp [h, this]
      · simp [h]
theorem RA.ann {n i k : Nat} {now : Int} {ws : List (Int × List Rt)} {ann : List Int} {L : List S45} (h : RA n i now ws ann L) (hk : k < n) :
    RA n (i + 1) (nowP now ws k) (annP now ws k) (ann.set k now) (rLeft (nowP now ws k) k L) ∧ rOut (nowP now ws k) k L = outP now ws k := by
  have hkl : k < ws.length := by rw [h.len]; exact hk
  have hnc := nowP_cases (now := now) hkl
  have hge : now ≤ nowP now ws k ∧ nowP now ws k ≤ now + 1 := by rcases hnc with e | ⟨e, _⟩ <;> omega
  have hni := h.nowi
  have hn0 := h.now0
  have hLl := h.Ll
  have hal := h.al
  have hl1 : (rLeft (nowP now ws k) k L).length ≤ L.length := List.length_filter_le _ _
  refine ⟨⟨by unfold annP; rw [List.length_set]; exact h.len, by rw [List.length_set]; exact h.al, by omega, by omega, by omega, fun v hv => ?_, fun v hv => ?_, fun x hx => h.own x (List.mem_filter.1 hx).1, fun x hx => by have := h.at_ x (List.mem_filter.1 hx).1; omega⟩, ?_⟩
  · rw [annOf_ann hkl]
    by_cases e : k = v
    · subst e; rw [getD_set_eq (by omega), if_pos rfl]
    · rw [getD_set_ne e, if_neg e]; exact h.ann_ v hv
  · rw [rowP_ann hkl, (goes_row _ _ _ _).2, h.row v hv]
    simp only [show ((k : Int) = (v : Int)) = (k = v) from propext (by omega)]
  · rw [(goes_row _ _ 0 _).1, h.row k hk]; rfl
theorem rowOf_count (L : List S45) (v : Int) : (rowOf L v).length = L.countP (fun x => x.f0 == v) := by
  unfold rowOf; rw [List.length_map, List.countP_eq_length_filter]
theorem RA.none {n i : Nat} {now : Int} {ws : List (Int × List Rt)} {ann : List Int} {L : List S45} (h : RA n i now ws ann L) (v : Int) (hv : v < 0 ∨ (n : Int) ≤ v) : L.countP (fun x => x.f0 == v) = 0 := by
  rw [List.countP_eq_zero]
  intro x hx
  have := h.own x hx
  simp; omega
theorem RA.count {n i k : Nat} {now : Int} {ws : List (Int × List Rt)} {ann : List Int} {L : List S45} (h : RA n i now ws ann L) (hk : k < n) : L.countP (fun x => x.f0 == (k : Int)) = (rowP ws k).length := by
  rw [← h.row k hk, rowOf_count]
end Go.Proofs.Ythbooikhegppnaa.H
