/- What a greedy plan is, and Graham's bound, in plain words: no program in sight. -/
import Derived.Test.YtenmicgohmamaaaPG1
namespace Go.Proofs.Ytenmicgohmamaaa.H
open Go.RowKit Go.Hay Go.Proofs.YtenmicgohmamaaaW.PrintWords Go.Proofs.YtenmicgohmamaaaW.PrintLast Go.Proofs.YtenmicgohmamaaaW.PrintMore
set_option linter.unusedVariables false
set_option linter.unusedSimpArgs false

/-! ### one round -/
structure RowR (g : List (List Int)) (k t : Int) (n : Nat) (when when' : List Int) (busy' : Int) : Prop where
  low : ∀ j : Nat, j < n → rd when' j = rd when j
  set : ∀ j : Nat, n ≤ j → j < g.length → rd when' j = rd when j ∨ (rd when j = -1 ∧ rd when' j = t ∧ (g.getD j []).any (waitB when' t) = false)
  le : busy' ≤ k
  full : busy' = k ∨ ∀ j : Nat, n ≤ j → j < g.length → rd when' j = -1 → (g.getD j []).any (waitB when' t) = true
theorem any_cong {g : List (List Int)} (hd : dag g) {n : Nat} (hn : n < g.length) {t : Int} {a b : List Int} (h : ∀ j : Nat, j < n → rd a j = rd b j) : (g.getD n []).any (waitB a t) = (g.getD n []).any (waitB b t) := by
  have hg : g.getD n [] = g[n] := by simp [hn]
  rw [hg]
  have key : ∀ x ∈ g[n], waitB a t x = waitB b t x := by
    intro x hx
    have hx2 := hd n hn x hx
    obtain ⟨m, rfl⟩ := Int.eq_ofNat_of_zero_le hx2.1
    have := h m (by omega)
    simp only [waitB, Int.ofNat_eq_natCast, this]
  generalize g[n] = l at key
  induction l with
  | nil => rfl
  | cons y l ih => rw [List.any_cons, List.any_cons, key y (by simp), ih (fun x hx => key x (by simp [hx]))]
theorem rowP_R {g : List (List Int)} (hd : dag g) (k t : Int) (ht : 0 ≤ t) : ∀ (d n : Nat) (when : List Int) (busy : Int), n + d = g.length → when.length = g.length → busy ≤ k → RowR g k t n when (rowP g k t d n when busy).1 (rowP g k t d n when busy).2
  | 0, n, when, busy, h, hl, hb => ⟨fun _ _ => rfl, fun _ _ _ => .inl rfl, hb, .inr fun j h1 h2 => by omega⟩
  | d + 1, n, when, busy, h, hl, hb => by
    simp only [rowP]
    by_cases hk : busy = k
    · rw [if_pos hk]
      exact ⟨fun _ _ => rfl, fun _ _ _ => .inl rfl, hb, .inl hk⟩
    · rw [if_neg hk]
      have hn : n < g.length := by omega
      cases hs : skipB g t when n with
      | true =>
        simp only [if_true]
        have ih := rowP_R hd k t ht d (n + 1) when busy (by omega) hl hb
        refine ⟨fun j hj => ih.low j (by omega), fun j h1 h2 => ?_, ih.le, ?_⟩
        · by_cases e : j = n
          · subst e; exact .inl (ih.low j (by omega))
          · exact ih.set j (by omega) h2
        · rcases ih.full with e | hf
          · exact .inl e
          · refine .inr fun j h1 h2 h3 => ?_
            by_cases e : j = n
            · subst e
              rw [ih.low j (by omega)] at h3
              rw [any_cong hd h2 (fun m hm => ih.low m (by omega))]
              simpa [skipB, h3] using hs
            · exact hf j (by omega) h2 h3
      | false =>
        simp only [Bool.false_eq_true, if_false]
        obtain ⟨s1, s2⟩ := skip_no hs
        have ih := rowP_R hd k t ht d (n + 1) (when.set n t) (busy + 1) (by omega) (by simpa using hl) (by omega)
        have hlow : ∀ j : Nat, j < n → rd (rowP g k t d (n + 1) (when.set n t) (busy + 1)).1 j = rd when j := fun j hj => by
          rw [ih.low j (by omega), rd_set (by omega), if_neg (by omega)]
        refine ⟨hlow, fun j h1 h2 => ?_, ih.le, ?_⟩
        · by_cases e : j = n
          · subst e
            refine .inr ⟨s1, ?_, ?_⟩
            · rw [ih.low j (by omega), rd_set (by omega), if_pos rfl]
            · rw [any_cong hd h2 hlow]; exact s2
          · rcases ih.set j (by omega) h2 with q | ⟨q1, q2⟩
            · left; rw [q, rd_set (by omega), if_neg (by omega)]
            · right; rw [rd_set (by omega), if_neg (by omega)] at q1; exact ⟨q1, q2⟩
        · rcases ih.full with e | hf
          · exact .inl e
          · refine .inr fun j h1 h2 h3 => ?_
            by_cases e : j = n
            · subst e
              rw [ih.low j (by omega), rd_set (by omega), if_pos rfl] at h3
              rw [any_cong hd h2 hlow, s2]
              omega
            · exact hf j (by omega) h2 h3
/-! ### counts -/
def cntP (W : List Int) (s : Int) : Nat := W.count s
theorem count_change : ∀ (a b : List Int) (t : Int), a.length = b.length → (∀ j : Nat, j < a.length → rd b j = rd a j ∨ (rd a j = -1 ∧ rd b j = t)) → t ≠ -1 → (∀ s, s ≠ t → s ≠ -1 → b.count s = a.count s) ∧ b.count t + b.count (-1) = a.count t + a.count (-1)
  | [], [], t, _, _, _ => ⟨fun _ _ _ => rfl, rfl⟩
  | [], _ :: _, _, h, _, _ => by simp at h
  | _ :: _, [], _, h, _, _ => by simp at h
  | x :: a, y :: b, t, h, hj, ht => by
    have ih := count_change a b t (by simpa using h) (fun j hlt => by
      have := hj (j + 1) (by simp; omega)
      have e : ∀ (z : Int) (l : List Int), rd (z :: l) ((j + 1 : Nat) : Int) = rd l (j : Int) := fun z l => by simp [rd]
      rw [e, e] at this
      exact this) ht
    have h0 := hj 0 (by simp)
    have e0 : ∀ (z : Int) (l : List Int), rd (z :: l) ((0 : Nat) : Int) = z := fun z l => by simp [rd]
    rw [e0, e0] at h0
    refine ⟨fun s h1 h2 => ?_, ?_⟩
    · rw [List.count_cons, List.count_cons, ih.1 s h1 h2]
      rcases h0 with rfl | ⟨rfl, rfl⟩
      · rfl
      · have e1 : (y == s) = false := by simpa using fun e => h1 e.symm
        have e2 : (-1 == s) = false := by simpa using fun e => h2 e.symm
        rw [e1, e2]
    · rw [List.count_cons, List.count_cons, List.count_cons, List.count_cons]
      have ih2 := ih.2
      rcases h0 with rfl | ⟨rfl, rfl⟩
      · omega
      · have e1 : (y == y) = true := by simp
        have e2 : (y == (-1 : Int)) = false := by simpa using ht
        have e3 : ((-1 : Int) == y) = false := by simpa using fun e => ht e.symm
        have e4 : ((-1 : Int) == (-1 : Int)) = true := by simp
        rw [e1, e2, e3, e4]
        simp only [if_true, Bool.false_eq_true, if_false]
        omega
theorem count_none {l : List Int} {t : Int} (h : ∀ j : Nat, j < l.length → rd l j ≠ t) : l.count t = 0 := by
  rw [List.count_eq_zero]
  intro hm
  obtain ⟨j, hj, e⟩ := List.getElem_of_mem hm
  exact h j hj (by rw [rd_get hj]; exact e)

/-! ### the schedule -/
structure Part (g : List (List Int)) (k : Int) (t : Nat) (W : List Int) : Prop where
  len : W.length = g.length
  ent : before W t
  dep : ∀ j : Nat, j < g.length → rd W j ≠ -1 → ∀ x ∈ g.getD j [], rd W x ≠ -1 ∧ rd W x < rd W j
  few : ∀ s : Nat, s < t → (W.count (s : Int) : Int) ≤ k
  grd : ∀ s : Nat, s < t → (W.count (s : Int) : Int) = k ∨ ∀ j : Nat, j < g.length → (rd W j = -1 ∨ rd W j > s) → ∃ x ∈ g.getD j [], rd W x = -1 ∨ rd W x ≥ s
theorem dag_at {g : List (List Int)} (hd : dag g) {j : Nat} (hj : j < g.length) {x : Int} (hx : x ∈ g.getD j []) : ∃ m : Nat, x = (m : Int) ∧ m < j := by
  rw [show g.getD j [] = g[j] by simp [hj]] at hx
  have := hd j hj x hx
  obtain ⟨m, rfl⟩ := Int.eq_ofNat_of_zero_le this.1
  exact ⟨m, rfl, by omega⟩
theorem part_next {g : List (List Int)} (hd : dag g) {k : Int} (hk : 1 ≤ k) {t : Nat} {W : List Int} (h : Part g k t W) : Part g k (t + 1) (rndP g k t W).1 := by
  have hR : RowR g k t 0 W (rndP g k t W).1 (rndP g k t W).2 := rowP_R hd k t (by omega) g.length 0 W 0 (by omega) h.len (by omega)
  have hS : RowS W (rndP g k t W).1 t 0 (rndP g k t W).2 := rowP_S g k t (by omega) g.length 0 W 0 (by rw [h.len]; omega)
  have hlen : (rndP g k t W).1.length = g.length := hS.len.trans h.len
  generalize (rndP g k t W).1 = V at hR hS hlen
  generalize (rndP g k t W).2 = b at hR hS
  have hset : ∀ j : Nat, j < g.length → rd V j = rd W j ∨ (rd W j = -1 ∧ rd V j = t ∧ (g.getD j []).any (waitB V t) = false) := fun j hj => hR.set j (Nat.zero_le _) hj
  have hW : ∀ j : Nat, j < g.length → rd W j < t ∧ -1 ≤ rd W j := fun j hj => h.ent j (by rw [h.len]; exact hj)
  have hcc := count_change W V t (h.len.trans hlen.symm) (fun j hj => by
    rcases hset j (by rw [← h.len]; exact hj) with e | ⟨e1, e2, _⟩
    · exact .inl e
    · exact .inr ⟨e1, e2⟩) (by omega)
  have hW0 : W.count (t : Int) = 0 := count_none (fun j hj e => by have := h.ent j hj; omega)
  have hcnt : (V.count (t : Int) : Int) = b := by
    have h1 := hS.cnt
    have h2 := hcc.2
    unfold undone at h1
    omega
  refine ⟨hlen, fun j hj => ?_, fun j hj hne x hx => ?_, fun s hs => ?_, fun s hs => ?_⟩
  · rw [hlen] at hj
    have := hW j hj
    rcases hset j hj with e | ⟨_, e, _⟩ <;> rw [e] <;> omega
  · obtain ⟨m, rfl, hm⟩ := dag_at hd hj hx
    rcases hset j hj with e | ⟨e1, e2, e3⟩
    · rw [e] at hne ⊢
      have h1 := h.dep j hj hne _ hx
      have : rd V (m : Int) = rd W (m : Int) := by
        rcases hset m (by omega) with e | ⟨e4, _⟩
        · exact e
        · exact absurd e4 h1.1
      rw [this]; exact h1
    · have h1 := List.any_eq_false.1 e3 _ hx
      simp only [waitB, Bool.or_eq_true, beq_iff_eq, not_or] at h1
      refine ⟨h1.1, ?_⟩
      rw [e2]
      rcases hset m (by omega) with e | ⟨_, e, _⟩
      · rw [e]; exact (hW m (by omega)).1
      · exact absurd e h1.2
  · by_cases e : s = t
    · subst e; rw [hcnt]; exact hR.le
    · rw [hcc.1 s (by omega) (by omega)]; exact h.few s (by omega)
  · by_cases e : s = t
    · subst e
      rw [hcnt]
      rcases hR.full with q | q
      · exact .inl q
      · refine .inr fun j hj hv => ?_
        have hvj : rd V j = -1 := by
          have := hW j hj
          rcases hset j hj with e | ⟨_, e, _⟩
          · omega
          · omega
        obtain ⟨x, hx, hw⟩ := List.any_eq_true.1 (q j (Nat.zero_le _) hj hvj)
        simp only [waitB, Bool.or_eq_true, beq_iff_eq] at hw
        exact ⟨x, hx, hw.imp id (fun e => by omega)⟩
    · rw [hcc.1 s (by omega) (by omega)]
      rcases h.grd s (by omega) with q | q
      · exact .inl q
      · refine .inr fun j hj hv => ?_
        have hwj : rd W j = -1 ∨ rd W j > s := by
          rcases hset j hj with e | ⟨e, _⟩
          · rw [← e]; exact hv
          · exact .inl e
        obtain ⟨x, hx, hw⟩ := q j hj hwj
        obtain ⟨m, rfl, hm⟩ := dag_at hd hj hx
        refine ⟨_, hx, ?_⟩
        rcases hset m (by omega) with e | ⟨_, e, _⟩
        · rw [e]; exact hw
        · right; rw [e]; omega
theorem part_st {g : List (List Int)} (hd : dag g) {k : Int} (hk : 1 ≤ k) : ∀ t, Part g k t (stP g k t)
  | 0 => by
    refine ⟨(StS.start g).len, (StS.start g).ent, fun j hj hne => ?_, fun s hs => absurd hs (Nat.not_lt_zero _), fun s hs => absurd hs (Nat.not_lt_zero _)⟩
    exfalso
    apply hne
    show rd (List.replicate g.length (-1)) j = -1
    rw [rd_get (by simpa using hj)]; simp
  | t + 1 => part_next hd hk (part_st hd hk t)
/-- A plan that fits. -/
structure Fit (g : List (List Int)) (k : Int) (W : List Int) : Prop where
  len : W.length = g.length
  pos : ∀ j : Nat, j < g.length → 0 ≤ rd W j
  dep : ∀ j : Nat, j < g.length → ∀ x ∈ g.getD j [], rd W x < rd W j
  few : ∀ s : Int, 0 ≤ s → (W.count s : Int) ≤ k
/-- A greedy one. -/
structure Greedy (g : List (List Int)) (k : Int) (W : List Int) : Prop extends Fit g k W where
  grd : ∀ s : Nat, (W.count (s : Int) : Int) = k ∨ ∀ j : Nat, j < g.length → rd W j > s → ∃ x ∈ g.getD j [], rd W x ≥ s
theorem plan_greedy {g : List (List Int)} (hd : dag g) {k : Int} (hk : 1 ≤ k) : Greedy g k (planP g k) := by
  have h := part_st hd hk g.length
  have hu : undone (stP g k g.length) = 0 := by have := st_left hd hk g.length; omega
  have hne : ∀ j : Nat, j < g.length → rd (planP g k) j ≠ -1 := by
    intro j hj e
    have hj' : j < (stP g k g.length).length := by rw [h.len]; exact hj
    have : (stP g k g.length)[j] = -1 := by rw [← rd_get hj']; exact e
    have : 0 < undone (stP g k g.length) := List.count_pos_iff.2 (this ▸ List.getElem_mem hj')
    omega
  have hent : ∀ j : Nat, j < g.length → rd (planP g k) j < g.length ∧ -1 ≤ rd (planP g k) j := fun j hj => h.ent j (by rw [h.len]; exact hj)
  refine ⟨⟨h.len, fun j hj => ?_, fun j hj x hx => (h.dep j hj (hne j hj) x hx).2, fun s hs => ?_⟩, fun s => ?_⟩
  · have := hent j hj; have := hne j hj; omega
  · obtain ⟨s, rfl⟩ := Int.eq_ofNat_of_zero_le hs
    by_cases hlt : s < g.length
    · exact h.few s hlt
    · have : (planP g k).count (s : Int) = 0 := count_none (fun j hj e => by
        have := hent j (by rw [← h.len]; exact hj)
        rw [e] at this
        omega)
      rw [this]; omega
  · by_cases hlt : s < g.length
    · rcases h.grd s hlt with q | q
      · exact .inl q
      · refine .inr fun j hj hv => ?_
        obtain ⟨x, hx, hw⟩ := q j hj (.inr hv)
        obtain ⟨m, rfl, hm⟩ := dag_at hd hj hx
        exact ⟨_, hx, hw.resolve_left (hne m (by omega))⟩
    · exact .inr fun j hj hv => by have := hent j hj; omega
/-! ### depths, and the bounds -/
structure DepS (g : List (List Int)) (dl : List Int) : Prop where
  len : dl.length = g.length
  one : ∀ n : Nat, n < g.length → 1 ≤ rd dl n
  up : ∀ n : Nat, n < g.length → ∀ x ∈ g.getD n [], rd dl x + 1 ≤ rd dl n
  eq : ∀ n : Nat, n < g.length → rd dl n = 1 ∨ ∃ x ∈ g.getD n [], rd dl n = rd dl x + 1
theorem dep_le {g : List (List Int)} (hd : dag g) {k : Int} {W dl : List Int} (hf : Fit g k W) (hs : DepS g dl) : ∀ n : Nat, n < g.length → rd dl n ≤ rd W n + 1 := by
  intro n
  induction n using Nat.strongRecOn with
  | _ n ih =>
    intro hn
    rcases hs.eq n hn with e | ⟨x, hx, e⟩
    · have := hf.pos n hn; omega
    · obtain ⟨m, rfl, hm⟩ := dag_at hd hn hx
      have h1 := ih m hm (by omega)
      have h2 := hf.dep n hn _ hx
      omega
theorem dep_small {g : List (List Int)} (hd : dag g) {dl : List Int} (hs : DepS g dl) : ∀ n : Nat, n < g.length → rd dl n ≤ n + 1 := by
  intro n
  induction n using Nat.strongRecOn with
  | _ n ih =>
    intro hn
    rcases hs.eq n hn with e | ⟨x, hx, e⟩
    · omega
    · obtain ⟨m, rfl, hm⟩ := dag_at hd hn hx
      have h1 := ih m hm (by omega)
      omega
theorem time_le {W : List Int} (j : Nat) (hj : j < W.length) : rd W j + 1 ≤ timeP W := by
  have := (topP_le (l := W) (a := -1)).2 _ (List.getElem_mem hj)
  rw [rd_get hj]; unfold timeP; omega
theorem time_nonneg (W : List Int) : 0 ≤ timeP W := by
  have := (topP_le (l := W) (a := -1)).1
  unfold timeP; omega
theorem time_at (W : List Int) : timeP W = 0 ∨ ∃ j : Nat, j < W.length ∧ rd W j + 1 = timeP W := by
  rcases topP_mem (l := W) (a := -1) with e | e
  · left; unfold timeP; omega
  · obtain ⟨j, hj, he⟩ := List.getElem_of_mem e
    exact .inr ⟨j, hj, by rw [rd_get hj, he]; rfl⟩
def sumC (W : List Int) : Nat → Nat
  | 0 => 0
  | s + 1 => sumC W s + W.count (s : Int)
theorem sumC_eq (W : List Int) (s : Nat) : sumC W s = W.countP (fun x => decide (0 ≤ x ∧ x < (s : Int))) := by
  induction s with
  | zero =>
    symm
    show W.countP _ = 0
    rw [List.countP_eq_zero]
    intro x _
    simp <;> omega
  | succ s ih =>
    rw [sumC, ih]
    clear ih
    induction W with
    | nil => rfl
    | cons x W ihw =>
      rw [List.countP_cons, List.countP_cons, List.count_cons]
      have : (if decide (0 ≤ x ∧ x < (s : Int)) = true then 1 else 0) + (if (x == (s : Int)) = true then 1 else 0) = (if decide (0 ≤ x ∧ x < ((s + 1 : Nat) : Int)) = true then 1 else 0) := by
        by_cases h1 : x = s
        · subst h1
          rw [if_neg (by simp), if_pos (by simp), if_pos (by simp <;> omega)]
        · rw [if_neg (c := (x == (s : Int)) = true) (by simpa using h1)]
          by_cases h2 : 0 ≤ x ∧ x < (s : Int)
          · rw [if_pos (by simpa using h2), if_pos (by simp <;> omega)]
          · rw [if_neg (by simpa using h2), if_neg (by simp <;> omega)]
      omega
theorem sumC_all {W : List Int} {T : Nat} (h : ∀ j : Nat, j < W.length → 0 ≤ rd W j ∧ rd W j < T) : sumC W T = W.length := by
  rw [sumC_eq, List.countP_eq_length]
  intro x hx
  obtain ⟨j, hj, rfl⟩ := List.getElem_of_mem hx
  have := h j hj
  rw [rd_get hj] at this
  simpa using this
theorem fit_in {g : List (List Int)} {k : Int} {W : List Int} (hf : Fit g k W) {T : Nat} (hT : timeP W = T) : sumC W T = g.length := by
  rw [sumC_all (fun j hj => ⟨hf.pos j (by rw [← hf.len]; exact hj), by have := time_le j hj; omega⟩), hf.len]
theorem work_le {g : List (List Int)} {k : Int} {W : List Int} (hf : Fit g k W) : (g.length : Int) ≤ k * timeP W := by
  obtain ⟨T, hT⟩ := Int.eq_ofNat_of_zero_le (time_nonneg W)
  have h1 := fit_in hf hT
  have h2 : ∀ s : Nat, (sumC W s : Int) ≤ k * s := by
    intro s
    induction s with
    | zero => simp [sumC]
    | succ s ih =>
      have := hf.few (s : Int) (by omega)
      rw [sumC]
      have e : k * ((s + 1 : Nat) : Int) = k * s + k := by rw [Int.natCast_add, Int.mul_add]; simp
      rw [e]; omega
  rw [hT]
  have := h2 T
  omega
/-- every moment below the time has its step. -/
theorem busy_at {g : List (List Int)} (hd : dag g) {k : Int} (hk : 1 ≤ k) {W : List Int} (hg : Greedy g k W) {s : Nat} (hs : (s : Int) < timeP W) : 1 ≤ W.count (s : Int) := by
  apply Nat.pos_of_ne_zero
  intro h0
  rcases hg.grd s with e | q
  · rw [h0] at e; omega
  · have key : ∀ j : Nat, j < g.length → ¬ rd W j > s := by
      intro j
      induction j using Nat.strongRecOn with
      | _ j ih =>
        intro hj hv
        obtain ⟨x, hx, hw⟩ := q j hj hv
        obtain ⟨m, rfl, hm⟩ := dag_at hd hj hx
        refine ih m hm (by omega) ?_
        have hne : rd W (m : Int) ≠ s := by
          intro e
          rw [List.count_eq_zero] at h0
          have hm' : m < W.length := by rw [hg.len]; omega
          exact h0 (by rw [← e, rd_get hm']; exact List.getElem_mem _)
        omega
    rcases time_at W with e | ⟨j, hj, e⟩
    · omega
    · have h1 := key j (by rw [← hg.len]; exact hj)
      have h2 : rd W (j : Int) = s := by omega
      rw [List.count_eq_zero] at h0
      exact h0 (by rw [← h2, rd_get hj]; exact List.getElem_mem _)
def nonF (W : List Int) (k : Int) : Nat → Nat
  | 0 => 0
  | s + 1 => nonF W k s + (if (W.count (s : Int) : Int) = k then 0 else 1)
theorem chain {g : List (List Int)} (hd : dag g) {k : Int} {W dl : List Int} (hg : Greedy g k W) (hs : DepS g dl) : ∀ (s : Nat) (j : Nat), j < g.length → (s : Int) ≤ rd W j → (nonF W k s : Int) + 1 ≤ rd dl j
  | 0, j, hj, h => by have := hs.one j hj; simp [nonF]; omega
  | s + 1, j, hj, h => by
    rw [nonF]
    by_cases e : (W.count (s : Int) : Int) = k
    · rw [if_pos e]
      exact chain hd hg hs s j hj (by omega)
    · rw [if_neg e]
      rcases hg.grd s with q | q
      · exact absurd q e
      · obtain ⟨x, hx, hw⟩ := q j hj (by omega)
        obtain ⟨m, rfl, hm⟩ := dag_at hd hj hx
        have h1 := chain hd hg hs s m (by omega) hw
        have h2 := hs.up j hj _ hx
        omega
/-- GRAHAM's BOUND. -/
theorem graham {g : List (List Int)} (hd : dag g) {k : Int} (hk : 1 ≤ k) {W dl : List Int} (hg : Greedy g k W) (hs : DepS g dl) {span : Int} (hsp : ∀ j : Nat, j < g.length → rd dl j ≤ span) (hs0 : 0 ≤ span) : k * timeP W ≤ g.length + (k - 1) * span := by
  obtain ⟨T, hT⟩ := Int.eq_ofNat_of_zero_le (time_nonneg W)
  have h1 := fit_in hg.toFit hT
  have hN : (nonF W k T : Int) ≤ span := by
    cases T with
    | zero => simpa [nonF] using hs0
    | succ T =>
      rcases time_at W with e | ⟨j, hj, e⟩
      · rw [hT] at e; omega
      · have hj' : j < g.length := by rw [← hg.len]; exact hj
        have h2 := chain hd hg hs T j hj' (by rw [hT] at e; omega)
        have h3 := hsp j hj'
        rw [nonF]
        split <;> omega
  have key : ∀ s : Nat, (s : Int) ≤ timeP W → k * s ≤ sumC W s + (k - 1) * nonF W k s := by
    intro s
    induction s with
    | zero => intro _; simp [sumC, nonF]
    | succ s ih =>
      intro hle
      have ih := ih (by omega)
      have hb := busy_at hd hk hg (s := s) (by omega)
      rw [sumC, nonF]
      have e : k * ((s + 1 : Nat) : Int) = k * s + k := by rw [Int.natCast_add, Int.mul_add]; simp
      rw [e]
      by_cases q : (W.count (s : Int) : Int) = k
      · rw [if_pos q]; rw [Int.natCast_add, q]; simp only [Nat.add_zero]; omega
      · rw [if_neg q]
        have e2 : (k - 1) * ((nonF W k s + 1 : Nat) : Int) = (k - 1) * nonF W k s + (k - 1) := by rw [Int.natCast_add, Int.mul_add]; simp
        rw [e2, Int.natCast_add]; omega
  have := key T (by rw [hT]; simp)
  rw [hT]
  have hm : (k - 1) * (nonF W k T : Int) ≤ (k - 1) * span := Int.mul_le_mul_of_nonneg_left hN (by omega)
  rw [h1] at this
  omega
/-- With as many workers as steps each is done at its depth. -/
theorem wide {g : List (List Int)} (hd : dag g) {k : Int} (hk : (g.length : Int) ≤ k) {W dl : List Int} (hg : Greedy g k W) (hs : DepS g dl) : ∀ n : Nat, n < g.length → rd dl n = rd W n + 1 := by
  intro n
  induction n using Nat.strongRecOn with
  | _ n ih =>
    intro hn
    have h1 := dep_le hd hg.toFit hs n hn
    by_cases h0 : rd W n = 0
    · have := hs.one n hn; omega
    · have hp := hg.pos n hn
      obtain ⟨s, hs'⟩ := Int.eq_ofNat_of_zero_le (show 0 ≤ rd W n - 1 by omega)
      rcases hg.grd s with e | q
      · exfalso
        have hn' : n < W.length := by rw [hg.len]; exact hn
        have h2 : W.count (s : Int) < W.length := by
          apply Nat.lt_of_le_of_ne List.count_le_length
          intro he
          rw [List.count_eq_length] at he
          have := he _ (List.getElem_mem hn')
          rw [← rd_get hn'] at this
          omega
        rw [hg.len] at h2
        omega
      · obtain ⟨x, hx, hw⟩ := q n hn (by omega)
        obtain ⟨m, rfl, hm⟩ := dag_at hd hn hx
        have h2 := ih m hm (by omega)
        have h3 := hs.up n hn _ hx
        omega
end Go.Proofs.Ytenmicgohmamaaa.H
