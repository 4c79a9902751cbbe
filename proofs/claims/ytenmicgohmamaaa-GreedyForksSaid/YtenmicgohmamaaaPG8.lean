/- Plain laws: steps that wait for nobody, steps in a row. -/
import Derived.Test.YtenmicgohmamaaaPG7
import Derived.Test.YtenmicgohmamaaaH14
namespace Go.Proofs.Ytenmicgohmamaaa.H
open Go.RowKit Go.Hay Go.Proofs.YtenmicgohmamaaaW.PrintWords Go.Proofs.YtenmicgohmamaaaW.PrintLast Go.Proofs.YtenmicgohmamaaaW.PrintMore
set_option linter.unusedVariables false
set_option linter.unusedSimpArgs false
theorem right_of {l : List (List Int)} : ∀ {d i : Nat}, (∀ n, i ≤ n → n < i + d → risesB n none (l.getD n []) = true) → rightF l d i = true
  | 0, i, h => rfl
  | d + 1, i, h => by
    simp only [rightF, Bool.and_eq_true]
    exact ⟨h i (Nat.le_refl _) (by omega), right_of fun n h1 h2 => h n (by omega) (by omega)⟩
def rowG (i : Nat) : List (List Int) := (List.range i).map fun j : Nat => if j = 0 then [] else [(j : Int) - 1]
theorem rowG_at {i j : Nat} (h : j < i) : (rowG i).getD j [] = if j = 0 then [] else [(j : Int) - 1] := by simp [rowG, h]
theorem rowG_len (i : Nat) : (rowG i).length = i := by simp [rowG]
theorem rowG_next (i : Nat) : rowG (i + 1) = rowG i ++ [if i = 0 then [] else [(i : Int) - 1]] := by simp [rowG, List.range_succ]
theorem few_free {n : Nat} (hn : n ≤ 200) : few (List.replicate n ([] : List Int)) := ⟨by simpa using hn, fun r hr => by rw [(List.mem_replicate.1 hr).2]; simp⟩
theorem few_row {n : Nat} (hn : n ≤ 200) : few (rowG n) := ⟨by rw [rowG_len]; exact hn, fun r hr => by
  obtain ⟨j, hj, rfl⟩ := List.getElem_of_mem hr
  have h := rowG_at (i := n) (j := j) (by rw [rowG_len] at hj; exact hj)
  rw [List.getD_eq_getElem?_getD, List.getElem?_eq_getElem hj] at h
  simp only [Option.getD_some] at h
  rw [h]; split <;> simp⟩
theorem right_free (n : Nat) : rightB (List.replicate n ([] : List Int)) = true := right_of fun m _ _ => by
  have : (List.replicate n ([] : List Int)).getD m [] = [] := by
    rw [List.getD_eq_getElem?_getD, List.getElem?_replicate]; split <;> rfl
  rw [this]; rfl
theorem right_row (n : Nat) : rightB (rowG n) = true := right_of fun m _ h => by
  rw [rowG_len] at h
  rw [rowG_at (by omega)]
  split
  · rfl
  · simp [risesB]; omega
theorem may_true {l : List (List Int)} {k : Int} (h : rightB l = true) (k1 : 1 ≤ k) (k2 : k ≤ 64) : mayB l k = true := by
  simp [mayB, h, k1, k2]
theorem time_free {n : Nat} (hn : n ≤ 200) {k : Int} (k1 : 1 ≤ k) (k2 : k ≤ 64) : timeP (planP (List.replicate n []) k) = ((n : Int) + k - 1) / k := by
  have hr := right_free n
  have hd := dag_of hr
  have hg := plan_greedy hd k1
  obtain ⟨dl, _, hs⟩ := depths_f (List.replicate n ([] : List Int)) (few_free hn).light hr
  have b2 := work_le hg.toFit
  have hsp : topP 0 dl ≤ 1 := span_le hs (by omega) fun j hj => by
    rcases hs.eq j hj with e | ⟨x, hx, _⟩
    · omega
    · have : (List.replicate n ([] : List Int)).getD j [] = [] := by
        rw [List.getD_eq_getElem?_getD, List.getElem?_replicate]; split <;> rfl
      rw [this] at hx; cases hx
  have b3 := graham hd k1 hg hs (span_ge hs).2 (span_ge hs).1
  rw [List.length_replicate] at b2 b3
  have c : (k - 1) * topP 0 dl ≤ (k - 1) * 1 := Int.mul_le_mul_of_nonneg_left hsp (by omega)
  generalize timeP (planP (List.replicate n []) k) = T at b2 b3
  have e1 := Int.mul_ediv_add_emod ((n : Int) + k - 1) k
  have e2 := Int.emod_nonneg ((n : Int) + k - 1) (show k ≠ 0 by omega)
  have e3 := Int.emod_lt_of_pos ((n : Int) + k - 1) (show 0 < k by omega)
  generalize ((n : Int) + k - 1) / k = q at e1
  apply Classical.byContradiction
  intro hne
  rcases Int.lt_or_gt_of_ne hne with h | h
  · have : k * (T + 1) ≤ k * q := Int.mul_le_mul_of_nonneg_left (by omega) (by omega)
    rw [Int.mul_add] at this
    omega
  · have : k * (q + 1) ≤ k * T := Int.mul_le_mul_of_nonneg_left (by omega) (by omega)
    rw [Int.mul_add] at this
    omega
theorem time_row {n : Nat} (hn : n ≤ 200) {k : Int} (k1 : 1 ≤ k) (k2 : k ≤ 64) : timeP (planP (rowG n) k) = n := by
  have hr := right_row n
  have hd := dag_of hr
  have hg := plan_greedy hd k1
  obtain ⟨dl, _, hs⟩ := depths_f (rowG n) (few_row hn).light hr
  have b3 := graham hd k1 hg hs (span_ge hs).2 (span_ge hs).1
  have b4 := dep_span hd hs
  rw [rowG_len] at b3 b4
  have hup : timeP (planP (rowG n) k) ≤ n := by
    have d1 : (k - 1) * topP 0 dl ≤ (k - 1) * n := Int.mul_le_mul_of_nonneg_left b4 (by omega)
    have d2 : (k - 1) * (n : Int) = k * n - n := by rw [Int.sub_mul]; omega
    exact Int.le_of_mul_le_mul_left (a := k) (by omega) (by omega)
  have hlo : ∀ j : Nat, j < n → (j : Int) ≤ rd (planP (rowG n) k) j := by
    intro j
    induction j with
    | zero => intro hj; exact hg.pos 0 (by rw [rowG_len]; exact hj)
    | succ j ih =>
      intro hj
      have h1 := ih (by omega)
      have h2 := hg.dep (j + 1) (by rw [rowG_len]; exact hj) (j : Int) (by rw [rowG_at hj, if_neg (by omega)]; simp)
      omega
  cases n with
  | zero => have := time_nonneg (planP (rowG 0) k); omega
  | succ n =>
    have h1 := hlo n (by omega)
    have h2 := time_le (W := planP (rowG (n + 1)) k) n (by rw [plan_len, rowG_len]; omega)
    omega
theorem forks_loop (n : Nat) (hn : n ≤ 200) (k : Int) (k1 : 1 ≤ k) (k2 : k ≤ 64) : ∀ (d i : Nat), i + d = n → Ev (fun f => haymowlaw15_GreedyForks.l0 f n k (List.replicate n []) (rowG i) i) true
  | 0, i, h => by
    obtain rfl : i = n := by omega
    have hend : ∀ f, haymowlaw15_GreedyForks.l0 (f + 1) i k (List.replicate i []) (rowG i) i = (greedy_Time.f f (planP (List.replicate i []) k)).bind fun t173 => (if t173 = (((i : Int) + k - 1) / k) then ((greedy_Time.f f (planP (rowG i) k)).bind fun t174 => (if t174 = (i : Int) then ((haymowlaw15_awake.f f).bind fun t175 => (some t175)) else (some false))) else (some false)) := fun f => by
      simp only [haymowlaw15_GreedyForks.l0, plan_f (few_free hn), plan_f (few_row hn), may_true (right_free i) k1 k2, may_true (right_row i) k1 k2, if_true, Option.bind_some]
      rw [if_neg (by omega)]
      simp only [if_neg (show ¬ k = 0 by omega)]
      rw [wrap_id (x := (i : Int) + k) (by omega) (by omega), wrap_id (x := (i : Int) + k - 1) (by omega) (by omega), Int.tdiv_eq_ediv_of_nonneg (by omega)]
      have hq : 0 ≤ ((i : Int) + k - 1) / k := Int.ediv_nonneg (by omega) (by omega)
      have hq2 : ((i : Int) + k - 1) / k ≤ (i : Int) + k - 1 := Int.ediv_le_self _ (by omega)
      rw [wrap_id (x := ((i : Int) + k - 1) / k) (by omega) (by omega)]
    refine Ev.step hend ?_
    refine Ev.bind (plan_time_ev (few_free hn) (dag_of (right_free i)) k1) ?_
    simp only [if_pos (time_free hn k1 k2)]
    refine Ev.bind (plan_time_ev (few_row hn) (dag_of (right_row i)) k1) ?_
    simp only [if_pos (time_row hn k1 k2)]
    exact Ev.bind awake_ev (Ev.now _)
  | d + 1, i, h => by
    refine Ev.step (fun f => ?_) (forks_loop n hn k k1 k2 d (i + 1) (by omega))
    simp only [haymowlaw15_GreedyForks.l0, rowG_len, rowG_next]
    rw [if_pos (by omega), if_pos (show i < 5864062014805 by omega), if_pos (show i < 5864062014805 by omega), wrap_id (x := (i : Int) + 1) (by omega) (by omega), wrap_id (x := (i : Int) - 1) (by omega) (by omega)]
    by_cases e : i = 0
    · subst e; rfl
    · rw [if_neg (by omega), if_neg e]; rfl
theorem greedyForks_pure (a b : Int) (ha : (Lit.int .u8 a).wf = true) (hb : (Lit.int .u8 b).wf = true) : ∃ f, haymowlaw15_GreedyForks.f f a b = some true := by
  refine Ev.rounds (r := true) ?_
  obtain ⟨k, hk, k1, k2⟩ := k_of hb
  have e1 : IntKind.u8.min = 0 := by decide
  have e2 : IntKind.u8.max = 255 := by decide
  simp [Lit.wf, go_sem, e1, e2] at ha
  have h0 : 0 ≤ Int.tmod a 200 := Int.tmod_nonneg _ (by omega)
  have h1 : Int.tmod a 200 < 200 := Int.tmod_lt_of_pos _ (by omega)
  obtain ⟨n, hn⟩ := Int.eq_ofNat_of_zero_le h0
  have hn2 : Int.tmod (wrap64 a) 200 = (n : Int) := by rw [wrap_id (x := a) (by omega) (by omega)]; exact hn
  unfold haymowlaw15_GreedyForks.f
  rw [hk, hn2]
  refine Ev.congr (fun f => ?_) (forks_loop n (by omega) k k1 k2 n 0 (by omega))
  rw [if_pos (by omega), Int.toNat_natCast, if_pos (by omega)]
  rfl
end Go.Proofs.Ytenmicgohmamaaa.H
