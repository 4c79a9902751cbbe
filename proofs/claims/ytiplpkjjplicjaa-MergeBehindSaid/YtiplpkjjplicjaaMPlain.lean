/- Nodes of a list as a tree: how large it may be; where the first failure's path leads. Plain words, no program. -/
import Derived.Test.YtiplpkjjplicjaaMBuilt
import Derived.Test.YtiplpkjjplicjaaMCount
set_option linter.unusedVariables false
set_option linter.unusedSimpArgs false
namespace Go.Proofs.Ytiplpkjjplicjaa.H
open Go.RowKit Go.Hay Go.Proofs.YtiplpkjjplicjaaW.PrintWords Go.Proofs.YtiplpkjjplicjaaW.PrintLast Go.Proofs.YtiplpkjjplicjaaW.PrintMore
def treeN (l : List S63) : Nat → Nat → T
  | 0, _ => .nil
  | n + 1, i => .node (l.getD i z63).f0 ((l.getD i z63).f1.map fun k => treeN l n k.toNat) (l.getD i z63).f2 (l.getD i z63).f3
def kidsOf (l : List S63) (i : Nat) : List Nat := (l.getD i z63).f1.map Int.toNat
/-- Each is the kid of one ahead of it, once. -/
structure Forest (l : List S63) (par : Nat → Nat) : Prop where
  one : ∀ i j, (kidsOf l i).count j ≤ if i = par j ∧ i < j ∧ j < l.length then 1 else 0
  pos : ∀ y ∈ l, ∀ k ∈ y.f1, 0 ≤ k
theorem Forest.kid {l : List S63} {par : Nat → Nat} (h : Forest l par) {i j : Nat} (hj : j ∈ kidsOf l i) : i = par j ∧ i < j ∧ j < l.length := by
  have h1 := h.one i j
  have h2 : 0 < (kidsOf l i).count j := List.count_pos_iff.2 hj
  by_cases hc : i = par j ∧ i < j ∧ j < l.length
  · exact hc
  · rw [if_neg hc] at h1; omega
theorem Forest.up {l : List S63} {par : Nat → Nat} (h : Forest l par) (i : Nat) (hi : i < l.length) (k : Int) (hk : k ∈ l[i].f1) : (i : Int) < k ∧ k < (l.length : Int) := by
  have h0 := h.pos _ (List.getElem_mem hi) k hk
  have hm : k.toNat ∈ kidsOf l i := by
    unfold kidsOf
    rw [List.getD_eq_getElem?_getD, List.getElem?_eq_getElem hi]
    exact List.mem_map_of_mem hk
  have := h.kid hm
  omega
/-! ### sums -/
def wt (l : List S63) (c : Nat → Nat) : Nat → Nat → Nat
  | 0, _ => 0
  | n + 1, i => c i + ((kidsOf l i).map fun k => wt l c n k).sum
def cntN (l : List S63) : Nat → Nat → Nat → Nat
  | 0, _, _ => 0
  | n + 1, i, j => (if i = j then 1 else 0) + ((kidsOf l i).map fun k => cntN l n k j).sum
theorem sum_ind (g : Nat → Nat) (j : Nat) : ∀ ks : List Nat, (ks.map fun k => (if k = j then 1 else 0) + g k).sum = ks.count j + (ks.map g).sum
  | [] => by simp
  | k :: r => by
    rw [List.map_cons, List.sum_cons, sum_ind g j r, List.map_cons, List.sum_cons, List.count_cons]
    by_cases h : k = j
    · subst h; simp; omega
    · simp [h]; omega
theorem sum_le {α : Type} (f g : α → Nat) : ∀ ks : List α, (∀ k ∈ ks, f k ≤ g k) → (ks.map f).sum ≤ (ks.map g).sum
  | [], _ => by simp
  | k :: r, h => by
    rw [List.map_cons, List.sum_cons, List.map_cons, List.sum_cons]
    have h1 := h k (List.mem_cons_self ..)
    have h2 := sum_le f g r (fun k hk => h k (List.mem_cons_of_mem _ hk))
    omega
theorem sum_zero {α : Type} (f : α → Nat) : ∀ ks : List α, (∀ k ∈ ks, f k = 0) → (ks.map f).sum = 0
  | [], _ => by simp
  | k :: r, h => by
    rw [List.map_cons, List.sum_cons, h k (List.mem_cons_self ..), sum_zero f r (fun k hk => h k (List.mem_cons_of_mem _ hk))]
theorem sum_add {α : Type} (f g : α → Nat) : ∀ ks : List α, (ks.map fun k => f k + g k).sum = (ks.map f).sum + (ks.map g).sum
  | [] => by simp
  | k :: r => by
    rw [List.map_cons, List.sum_cons, sum_add f g r, List.map_cons, List.sum_cons, List.map_cons, List.sum_cons]; omega
theorem sum_swap {α β : Type} (f : α → β → Nat) (js : List β) : ∀ ks : List α, (ks.map fun k => (js.map fun j => f k j).sum).sum = (js.map fun j => (ks.map fun k => f k j).sum).sum
  | [] => by
    show (0 : Nat) = (js.map fun j => ((([] : List α).map fun k => f k j)).sum).sum
    exact (sum_zero _ js (fun _ _ => rfl)).symm
  | k :: r => by
    rw [List.map_cons, List.sum_cons, sum_swap f js r, ← sum_add]
    congr 1
theorem sum_mul {α : Type} (f : α → Nat) (c : Nat) : ∀ ks : List α, (ks.map fun k => f k * c).sum = (ks.map f).sum * c
  | [] => by simp
  | k :: r => by rw [List.map_cons, List.sum_cons, sum_mul f c r, List.map_cons, List.sum_cons, Nat.add_mul]
theorem sum_one (c : Nat → Nat) (i : Nat) : ∀ n, i < n → ((List.range n).map fun j => (if i = j then 1 else 0) * c j).sum = c i
  | 0, h => absurd h (Nat.not_lt_zero _)
  | n + 1, h => by
    rw [List.range_succ, List.map_append, List.sum_append]
    by_cases e : i = n
    · subst e
      rw [sum_zero _ _ (fun k hk => by rw [if_neg (by have := List.mem_range.1 hk; omega), Nat.zero_mul])]
      simp
    · rw [sum_one c i n (by omega)]
      simp [e]
section
variable {l : List S63} {par : Nat → Nat}
theorem cnt_par (h : Forest l par) : ∀ (n i j : Nat), cntN l n i j ≤ (if i = j then 1 else 0) + (if par j < j then cntN l n i (par j) else 0)
  | 0, i, j => by simp [cntN]
  | n + 1, i, j => by
    rw [cntN]
    have h1 : ((kidsOf l i).map fun k => cntN l n k j).sum ≤ ((kidsOf l i).map fun k => (if k = j then 1 else 0) + (if par j < j then cntN l n k (par j) else 0)).sum :=
      sum_le _ _ _ (fun k _ => cnt_par h n k j)
    rw [sum_ind (fun k => if par j < j then cntN l n k (par j) else 0) j] at h1
    have h2 := h.one i j
    by_cases hp : par j < j
    · simp only [if_pos hp] at h1 ⊢
      rw [cntN]
      by_cases hc : i = par j ∧ i < j ∧ j < l.length
      · rw [if_pos hc] at h2
        rw [if_pos hc.1]; omega
      · rw [if_neg hc] at h2; omega
    · simp only [if_neg hp] at h1 ⊢
      rw [if_neg (by rintro ⟨e, h3, _⟩; omega)] at h2
      rw [sum_zero (fun _ => 0) _ (fun _ _ => rfl)] at h1
      omega
theorem cnt_small (h : Forest l par) : ∀ (n i m : Nat), m < i → cntN l n i m = 0
  | 0, _, _, _ => rfl
  | n + 1, i, m, hm => by
    rw [cntN, if_neg (by omega), sum_zero _ _ (fun k hk => cnt_small h n k m (by have := h.kid hk; omega))]
theorem cnt_one (h : Forest l par) (n i : Nat) : ∀ (j : Nat), cntN l n i j ≤ 1 := by
  intro j
  induction j using Nat.strongRecOn with
  | _ j ih =>
    have h1 := cnt_par h n i j
    by_cases hp : par j < j
    · rw [if_pos hp] at h1
      by_cases e : i = j
      · rw [if_pos e, cnt_small h n i (par j) (by omega)] at h1; omega
      · rw [if_neg e] at h1
        have := ih _ hp; omega
    · rw [if_neg hp] at h1
      split at h1 <;> omega
theorem wt_cnt (h : Forest l par) (c : Nat → Nat) : ∀ (n i : Nat), i < l.length → wt l c n i ≤ ((List.range l.length).map fun j => cntN l n i j * c j).sum
  | 0, i, _ => Nat.zero_le _
  | n + 1, i, hi => by
    have h1 : ((kidsOf l i).map fun k => wt l c n k).sum ≤ ((kidsOf l i).map fun k => ((List.range l.length).map fun j => cntN l n k j * c j).sum).sum :=
      sum_le _ _ _ (fun k hk => wt_cnt h c n k (h.kid hk).2.2)
    rw [sum_swap] at h1
    have h2 : ((List.range l.length).map fun j => cntN l (n + 1) i j * c j).sum = ((List.range l.length).map fun j => (if i = j then 1 else 0) * c j + ((kidsOf l i).map fun k => cntN l n k j * c j).sum).sum := by
      congr 1
      apply List.map_congr_left
      intro j _
      rw [cntN, Nat.add_mul, sum_mul]
    rw [h2, sum_add, sum_one c i _ hi, wt]
    omega
theorem wt_max (h : Forest l par) (c : Nat → Nat) (m : Nat) (hc : ∀ j, j < l.length → c j ≤ m) (n i : Nat) (hi : i < l.length) : wt l c n i ≤ l.length * m := by
  refine Nat.le_trans (wt_cnt h c n i hi) ?_
  have h1 : ((List.range l.length).map fun j => cntN l n i j * c j).sum ≤ ((List.range l.length).map fun _ => 1 * m).sum :=
    sum_le _ _ _ (fun j hj => Nat.mul_le_mul (cnt_one h n i j) (hc j (List.mem_range.1 hj)))
  refine Nat.le_trans h1 ?_
  rw [sum_mul]
  have h3 : ((List.range l.length).map fun _ => 1).sum = l.length := by
    generalize l.length = q
    induction q with
    | zero => rfl
    | succ q ih => rw [List.range_succ, List.map_append, List.sum_append, ih]; rfl
  rw [h3]; exact Nat.le_refl _
theorem nodes_wt : ∀ (n i : Nat), nodesT (treeN l n i) ≤ (wt l (fun _ => 1) n i : Int)
  | 0, _ => by simp [treeN, nodesT, wt]
  | n + 1, i => by
    rw [treeN, nodesT, wt]
    have : ∀ ks : List Int, nodesTs (ks.map fun k => treeN l n k.toNat) ≤ ((((ks.map Int.toNat).map fun k => wt l (fun _ => 1) n k).sum : Nat) : Int) := by
      intro ks
      induction ks with
      | nil => simp [nodesTs]
      | cons k r ih =>
        have h1 := nodes_wt n k.toNat
        simp only [List.map_cons, nodesTs, List.sum_cons]; omega
    have h2 := this (l.getD i z63).f1
    unfold kidsOf; omega
theorem nums_wt : ∀ (n i : Nat), numsT (treeN l n i) ≤ (wt l (fun j => (l.getD j z63).f0.length) n i : Int)
  | 0, _ => by simp [treeN, numsT, wt]
  | n + 1, i => by
    rw [treeN, numsT, wt]
    have : ∀ ks : List Int, numsTs (ks.map fun k => treeN l n k.toNat) ≤ ((((ks.map Int.toNat).map fun k => wt l (fun j => (l.getD j z63).f0.length) n k).sum : Nat) : Int) := by
      intro ks
      induction ks with
      | nil => simp [numsTs]
      | cons k r ih =>
        have h1 := nums_wt n k.toNat
        simp only [List.map_cons, numsTs, List.sum_cons]; omega
    have h2 := this (l.getD i z63).f1
    unfold kidsOf; omega
end
/-! ### what is told is no more than there are numbers -/
theorem walkPs_len (W : List (List Int × Int × Option (List Int))) (c : Nat → Int) (hW : ∀ i, ((W.getD i ([], 0, none)).1.length : Int) ≤ c i) (h0 : ∀ i, 0 ≤ c i) : ∀ (ps : List S64) (m r : Nat), metP m ps = some (r : Int) →
    ((walkPs ps W).1.length : Int) ≤ ((ps.length : Int) - ((r : Int) - (m : Int))) + (((List.range' m (r - m)).map c).sum)
  | [], m, r, h => by
    rw [metP] at h
    have : m = r := by injection h with h; omega
    subst this
    simp [walkPs]
  | p :: ps, m, r, h => by
    have hs : ∀ q : List Nat, 0 ≤ (q.map c).sum := by
      intro q
      induction q with
      | nil => simp
      | cons x q ih => have := h0 x; simp only [List.map_cons, List.sum_cons]; omega
    rw [metP] at h
    rw [walkPs]
    by_cases h1 : p.f0 = true
    · rw [if_pos h1] at h ⊢
      by_cases h2 : p.f1 = (m : Int)
      · rw [if_pos h2] at h
        have hle := metP_le h
        have ih := walkPs_len W c hW h0 ps (m + 1) r (by rw [← h]; simp)
        have hk := hW m
        have hr : List.range' m (r - m) = m :: List.range' (m + 1) (r - (m + 1)) := by
          rw [show r - m = (r - (m + 1)) + 1 by omega, List.range'_succ]
        rw [hr, List.map_cons, List.sum_cons, h2, Int.toNat_natCast, List.length_cons]
        have hlen := metP_len (l := ps) (m := (m : Int) + 1) (r := (r : Int)) h
        have := hs (List.range' (m + 1) (r - (m + 1)))
        split
        · simp only [preT, List.length_append]; push_cast at ih ⊢; omega
        · push_cast; omega
      · rw [if_neg h2] at h; cases h
    · rw [if_neg h1] at h ⊢
      have ih := walkPs_len W c hW h0 ps m r h
      simp only [preT, List.length_append, List.length_cons, List.length_nil]; push_cast; omega
theorem range_sum (c : Nat → Int) : ∀ (ks : List T) (m : Nat), (∀ i (h : i < ks.length), c (m + i) = numsT ks[i]) → (((List.range' m ks.length).map c).sum) = numsTs ks
  | [], m, _ => rfl
  | k :: r, m, h => by
    rw [List.length_cons, List.range'_succ, List.map_cons, List.sum_cons, numsTs, range_sum c r (m + 1) (fun i hi => by have := h (i + 1) (by simpa using hi); rw [show m + 1 + i = m + (i + 1) by omega, this]; rfl)]
    have := h 0 (by simp)
    rw [Nat.add_zero] at this
    rw [this]; rfl
mutual
theorem walk_nums : ∀ (t : T) (path : List Int) (d : Int), rightT t d = true → ((walkT t path).1.length : Int) ≤ numsT t
  | .nil, path, d, h => by rw [rightT] at h; cases h
  | .node ps ks v f, path, d, h => by
    obtain ⟨_, _, h3, h4⟩ := right_inv h
    have hk := walks_nums ks path (d + 1) 0 h4
    have hp := counts_pos ks h4
    have hpos : ∀ i, (h : i < ks.length) → 0 ≤ numsT ks[i] := fun i hi => (count_pos _ (rightTs_mem h4 i hi)).2
    have hl := walkPs_len (walkKs ks path 0) (fun i => if h : i < ks.length then numsT ks[i] else 0) (fun i => by
        rw [List.getD_eq_getElem?_getD]
        by_cases hi : i < ks.length
        · rw [dif_pos hi, walkKs_get ks path 0 i hi]
          simpa using hk i hi
        · rw [dif_neg hi]
          have : (walkKs ks path 0)[i]? = none := by
            rw [List.getElem?_eq_none_iff]
            have : ∀ (ks : List T) (j : Nat), (walkKs ks path j).length = ks.length := by
              intro ks
              induction ks with
              | nil => intro j; rfl
              | cons k r ih => intro j; rw [walkKs, List.length_cons, List.length_cons, ih]
            rw [this]; omega
          rw [this]; simp) (fun i => by
        by_cases hi : i < ks.length
        · rw [dif_pos hi]; exact hpos i hi
        · rw [dif_neg hi]; exact Int.le_refl _) ps 0 ks.length (by simpa using h3)
    rw [Nat.sub_zero, range_sum _ ks 0 (fun i hi => by rw [Nat.zero_add, dif_pos hi])] at hl
    rw [numsT, walkT]
    have e : ((ps.length : Int) - ((ks.length : Int) - ((0 : Nat) : Int))) = (ps.length : Int) - (ks.length : Int) := by omega
    rw [e] at hl
    split <;> exact hl
theorem walks_nums : ∀ (ks : List T) (path : List Int) (d : Int) (j : Nat), rightTs ks d = true → ∀ i (h : i < ks.length), ((walkT ks[i] (path ++ [((j + i : Nat) : Int)])).1.length : Int) ≤ numsT ks[i]
  | [], path, d, j, h, i, hi => absurd hi (Nat.not_lt_zero _)
  | k :: r, path, d, j, h, i, hi => by
    rw [rightTs, Bool.and_eq_true] at h
    cases i with
    | zero => exact walk_nums k _ d h.1
    | succ i =>
      have := walks_nums r path d (j + 1) h.2 i (by simpa using hi)
      rw [show j + 1 + i = j + (i + 1) by omega] at this
      exact this
end
/-! ### where the first failure's path leads -/
inductive Leads : T → List Int → Int → Prop
  | here (ps : List S64) (ks : List T) (v f : Int) (hf : f ≠ 0) : Leads (.node ps ks v f) [] f
  | kid (ps : List S64) (ks : List T) (v f : Int) (i : Nat) (h : i < ks.length) (r : List Int) (x : Int) (hr : Leads ks[i] r x) : Leads (.node ps ks v f) ((i : Int) :: r) x
theorem walkPs_first (W : List (List Int × Int × Option (List Int))) : ∀ (ps : List S64) (q : List Int), (walkPs ps W).2.2 = some q → ∃ (i : Nat) (x : List Int × Int × Option (List Int)), W[i]? = some x ∧ x.2.2 = some q ∧ (walkPs ps W).2.1 = x.2.1
  | [], q, h => by simp [walkPs] at h
  | p :: ps, q, h => by
    rw [walkPs] at h ⊢
    by_cases h1 : p.f0 = true
    · rw [if_pos h1] at h ⊢
      by_cases h2 : (W.getD p.f1.toNat ([], 0, none)).2.1 = 0
      · rw [if_pos h2] at h ⊢; exact walkPs_first W ps q h
      · rw [if_neg h2] at h ⊢
        rw [List.getD_eq_getElem?_getD] at h h2 ⊢
        cases hx : W[p.f1.toNat]? with
        | none => rw [hx] at h2; exact absurd rfl h2
        | some x => rw [hx] at h; exact ⟨_, x, hx, h, rfl⟩
    · rw [if_neg h1] at h ⊢
      exact walkPs_first W ps q h
mutual
theorem walk_leads : ∀ (t : T) (path q : List Int), (walkT t path).2.2 = some q → ∃ r, q = path ++ r ∧ Leads t r (walkT t path).2.1
  | .nil, path, q, h => by simp [walkT] at h
  | .node ps ks v f, path, q, h => by
    rw [walkT] at h ⊢
    by_cases hz : (walkPs ps (walkKs ks path 0)).2.1 = 0
    · rw [if_pos hz] at h ⊢
      by_cases hf : f = 0
      · simp [hf] at h
      · simp only [if_neg hf] at h
        injection h with h
        exact ⟨[], by rw [← h, List.append_nil], .here ps ks v f hf⟩
    · rw [if_neg hz] at h ⊢
      obtain ⟨i, x, h1, h2, h3⟩ := walkPs_first _ ps q h
      rw [h3]
      obtain ⟨hi, r, hq, hl⟩ := walks_leads ks path 0 i x h1 q h2
      rw [Nat.zero_add] at hq
      exact ⟨(i : Int) :: r, by rw [hq, List.append_assoc]; rfl, .kid ps ks v f i hi r _ hl⟩
theorem walks_leads : ∀ (ks : List T) (path : List Int) (j i : Nat) (x : List Int × Int × Option (List Int)), (walkKs ks path j)[i]? = some x → ∀ q, x.2.2 = some q → ∃ h : i < ks.length, ∃ r, q = path ++ [((j + i : Nat) : Int)] ++ r ∧ Leads ks[i] r x.2.1
  | [], path, j, i, x, h, q, hq => by simp [walkKs] at h
  | k :: r, path, j, i, x, h, q, hq => by
    rw [walkKs] at h
    cases i with
    | zero =>
      have h : walkT k (path ++ [(j : Int)]) = x := by simpa using h
      subst h
      obtain ⟨s, h1, h2⟩ := walk_leads k _ q hq
      exact ⟨by simp, s, h1, h2⟩
    | succ i =>
      rw [List.getElem?_cons_succ] at h
      obtain ⟨hi, s, h1, h2⟩ := walks_leads r path (j + 1) i x h q hq
      refine ⟨by simpa using hi, s, ?_, h2⟩
      rw [h1, show j + 1 + i = j + (i + 1) by omega]
end
/-! ### what is built is a forest -/
def parOf (l : List S61) (j : Nat) : Nat := kidAt (l.getD j z61) j
theorem kids_step (ys : List S63) (x : S61) (i : Nat) (hys : ys.length = i) (m : Nat) (c : Nat) : (kidsOf (bStep ys i x) m).count c ≤ (kidsOf ys m).count c + if 0 < i ∧ m = kidAt x i ∧ c = i then 1 else 0 := by
  unfold bStep kidsOf
  have hnew : ∀ m, (((ys ++ [nodeOf x]).getD m z63).f1) = (ys.getD m z63).f1 := by
    intro m
    simp only [List.getD_eq_getElem?_getD]
    by_cases h : m < ys.length
    · rw [List.getElem?_append_left h]
    · rw [List.getElem?_append_right (by omega), List.getElem?_eq_none_iff.2 (show ys.length ≤ m by omega)]
      by_cases e : m - ys.length = 0
      · rw [e]; rfl
      · rw [List.getElem?_eq_none_iff.2 (by simp; omega)]
  by_cases hi : 0 < i
  · rw [if_pos hi]
    have hg : ((ys ++ [nodeOf x]).modify (kidAt x i) (addKid i)).getD m z63 = if m = kidAt x i ∧ m < (ys ++ [nodeOf x]).length then addKid i ((ys ++ [nodeOf x]).getD m z63) else (ys ++ [nodeOf x]).getD m z63 := by
      simp only [List.getD_eq_getElem?_getD, List.getElem?_modify]
      by_cases e : kidAt x i = m
      · subst e
        by_cases hl : kidAt x i < (ys ++ [nodeOf x]).length
        · rw [if_pos ⟨rfl, hl⟩, List.getElem?_eq_getElem hl]; simp
        · rw [if_neg (by rintro ⟨_, h⟩; exact hl h), List.getElem?_eq_none_iff.2 (by omega)]; simp
      · rw [if_neg (by rintro ⟨h, _⟩; exact e h.symm)]
        cases (ys ++ [nodeOf x])[m]? <;> simp [e]
    rw [hg]
    split
    · rename_i h
      unfold addKid
      rw [List.map_append, List.count_append, hnew]
      by_cases hc : c = i
      · rw [if_pos ⟨hi, h.1, hc⟩, hc]; simp
      · rw [if_neg (by rintro ⟨_, _, h3⟩; exact hc h3)]
        simp [List.count_cons, Ne.symm hc]
    · rw [hnew]; omega
  · rw [if_neg hi, hnew]; omega
theorem builtN_forest (l : List S61) : ∀ i, Forest (builtN l i) (parOf l)
  | 0 => ⟨fun i j => by simp [builtN, kidsOf, z63], by simp [builtN]⟩
  | i + 1 => by
    have ih := builtN_forest l i
    have hlen := builtN_length l i
    refine ⟨fun m j => ?_, fun y hy k hk => ?_⟩
    · rw [builtN_length]
      refine Nat.le_trans (kids_step (builtN l i) (l.getD i z61) i hlen m j) ?_
      have h1 := ih.one m j
      rw [hlen] at h1
      by_cases hc : 0 < i ∧ m = kidAt (l.getD i z61) i ∧ j = i
      · obtain ⟨h2, h3, rfl⟩ := hc
        rw [if_neg (by rintro ⟨_, _, h⟩; omega)] at h1
        have : kidAt (l.getD j z61) j < j := Nat.mod_lt _ h2
        rw [if_pos ⟨h2, h3, rfl⟩, if_pos ⟨h3, by omega, by omega⟩]; omega
      · rw [if_neg hc]
        refine Nat.le_trans h1 ?_
        by_cases hd : m = parOf l j ∧ m < j ∧ j < i
        · rw [if_pos hd, if_pos ⟨hd.1, hd.2.1, by omega⟩]; omega
        · rw [if_neg hd]; omega
    · rw [builtN, bStep] at hy
      have h0 : ∀ y ∈ builtN l i ++ [nodeOf (l.getD i z61)], ∀ k ∈ y.f1, 0 ≤ k := by
        intro y hy k hk
        rcases List.mem_append.1 hy with h | h
        · exact ih.pos y h k hk
        · rw [List.mem_singleton.1 h] at hk; simp [nodeOf] at hk
      split at hy
      · obtain ⟨j, hj, rfl⟩ := List.mem_iff_getElem.1 hy
        rw [List.getElem_modify] at hk
        rw [List.length_modify] at hj
        split at hk
        · unfold addKid at hk
          rcases List.mem_append.1 hk with h | h
          · exact h0 _ (List.getElem_mem hj) k h
          · rw [List.mem_singleton.1 h]; omega
        · exact h0 _ (List.getElem_mem hj) k hk
      · exact h0 y hy k hk
theorem built_forest (l : List S61) : Forest (builtP l) (parOf l) := builtN_forest l _
theorem builtP_length (l : List S61) : (builtP l).length = l.length := builtN_length l _
theorem builtN_pieces (l : List S61) (m : Nat) (hm : ∀ x ∈ l, x.f0.length ≤ m) : ∀ i, i ≤ l.length → ∀ y ∈ builtN l i, y.f0.length ≤ m
  | 0, _ => by simp [builtN]
  | i + 1, hi => by
    intro y hy
    have hx : (nodeOf (l.getD i z61)).f0.length ≤ m := by
      rw [List.getD_eq_getElem?_getD, List.getElem?_eq_getElem (by omega)]
      exact hm _ (List.getElem_mem _)
    have h0 : ∀ y ∈ builtN l i ++ [nodeOf (l.getD i z61)], y.f0.length ≤ m := by
      intro y hy
      rcases List.mem_append.1 hy with h | h
      · exact builtN_pieces l m hm i (by omega) y h
      · rw [List.mem_singleton.1 h]; exact hx
    rw [builtN, bStep] at hy
    split at hy
    · obtain ⟨j, hj, rfl⟩ := List.mem_iff_getElem.1 hy
      rw [List.getElem_modify]
      rw [List.length_modify] at hj
      have := h0 _ (List.getElem_mem hj)
      split
      · exact this
      · exact this
    · exact h0 y hy
/-- The tree of what is built: how many there are. -/
theorem built_size (l : List S61) (hl : l.length ≤ 40) (hp : ∀ x ∈ l, x.f0.length ≤ 40) (h0 : 0 < l.length) (n : Nat) : nodesT (treeN (builtP l) n 0) ≤ 40 ∧ numsT (treeN (builtP l) n 0) ≤ 1600 := by
  have hf := built_forest l
  have hn := builtP_length l
  have h1 := wt_max hf (fun _ => 1) 1 (fun _ _ => Nat.le_refl _) n 0 (by omega)
  have h2 := wt_max hf (fun j => ((builtP l).getD j z63).f0.length) 40 (fun j hj => by
    rw [List.getD_eq_getElem?_getD, List.getElem?_eq_getElem hj]
    exact builtN_pieces l 40 hp l.length (Nat.le_refl _) _ (List.getElem_mem hj)) n 0 (by omega)
  have h3 := nodes_wt (l := builtP l) n 0
  have h4 := nums_wt (l := builtP l) n 0
  have h5 : (builtP l).length * 40 ≤ 40 * 40 := Nat.mul_le_mul_right _ (by omega)
  omega
theorem built_told (l : List S61) (hl : l.length ≤ 40) (hp : ∀ x ∈ l, x.f0.length ≤ 40) (h0 : 0 < l.length) (n : Nat) (hr : rightT (treeN (builtP l) n 0) 0 = true) : (walkT (treeN (builtP l) n 0) []).1.length ≤ 1600 := by
  have h1 := walk_nums _ [] 0 hr
  have h2 := (built_size l hl hp h0 n).2
  omega
end Go.Proofs.Ytiplpkjjplicjaa.H
