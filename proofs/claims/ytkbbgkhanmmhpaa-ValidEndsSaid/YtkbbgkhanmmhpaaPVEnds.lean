/- Plain law ValidEnds. No conditions of a machine. -/
import Derived.Test.YtkbbgkhanmmhpaaPVA
import Derived.Test.YtkbbgkhanmmhpaaH16
namespace Go.Proofs.Ytkbbgkhanmmhpaa.H
open Go.RowKit Go.Proofs.YtkbbgkhanmmhpaaW.PrintWords Go.Proofs.YtkbbgkhanmmhpaaW.PrintLast Go.Proofs.YtkbbgkhanmmhpaaW.PrintMore
set_option linter.unusedVariables false
set_option linter.unusedSimpArgs false
/-! ### ends -/
def syncI : S33 := ⟨12, 0, 0, 0, 0⟩
def endI (k : Int) : S33 := ⟨k, 0, 0, 0, if k = 16 then 16 else 0⟩
theorem sync_instr (l : List S36) (lc : Nat) : instrE lc l syncI = none := by
  rw [instrE_eq (x := syncI) (show shapeP 12 = (0, 0, 0, 0, true) from rfl)]; rfl
theorem end_shape {k : Int} (h1 : 1 ≤ k) (h2 : k ≤ 17) : (shapeP k).1 ≠ 6 ∧ (shapeP k).2.1 ≠ 6 ∧ (shapeP k).2.2.1 ≠ 6 ∧ ((shapeP k).2.2.2.1 = 6 ↔ k = 16) ∧ ((shapeP k).2.2.2.1 = 0 → k ≠ 16) := by
  have : k = 1 ∨ k = 2 ∨ k = 3 ∨ k = 4 ∨ k = 5 ∨ k = 6 ∨ k = 7 ∨ k = 8 ∨ k = 9 ∨ k = 10 ∨ k = 11 ∨ k = 12 ∨ k = 13 ∨ k = 14 ∨ k = 15 ∨ k = 16 ∨ k = 17 := by omega
  rcases this with rfl | rfl | rfl | rfl | rfl | rfl | rfl | rfl | rfl | rfl | rfl | rfl | rfl | rfl | rfl | rfl | rfl <;> decide
theorem field_nil {lc : Nat} (hlc : 0 < lc) {p : Int} (h : p ≠ 6) : fieldE 1 lc 0 p = none := by
  have e1 : inB 0 8 0 = true := rfl
  have e2 : inB 0 4 0 = true := rfl
  have e3 : inB 0 ((1 : Nat) : Int) 0 = true := rfl
  have e4 : inB (-2147483648) 2147483648 0 = true := rfl
  have e5 : inB 0 lc 0 = true := by simp only [inB, Bool.and_eq_true, decide_eq_true_eq]; omega
  unfold fieldE
  rw [e1, e2, e3, e4, e5]
  repeat' split
  all_goals first | rfl | (exact absurd (by assumption) h) | (exfalso; simp at *)
theorem end_instr (c : List S33) (lc : Nat) (hlc : 0 < lc) (k : Int) (h1 : 1 ≤ k) (h2 : k ≤ 17) : instrE lc [⟨0, c⟩] (endI k) = none := by
  obtain ⟨u, _, _, _, _, _, _, his, _⟩ := uses_some h1 h2
  obtain ⟨g1, g2, g3, g4, g5⟩ := end_shape h1 h2
  obtain ⟨⟨a, b, d, p, is⟩, hsh⟩ : ∃ s, s = shapeP k := ⟨_, rfl⟩
  rw [← hsh] at his g1 g2 g3 g4 g5
  dsimp only at his g1 g2 g3 g4 g5
  subst his
  rw [instrE_eq (x := endI k) hsh.symm]
  rw [if_neg (by simp), if_neg (fun h => h.2 rfl), if_neg (fun h => h.2 rfl), if_neg (fun h => h.2 rfl), if_neg (fun h => h.2 (if_neg (g5 h.1)))]
  show (fieldE 1 lc 0 a).or ((fieldE 1 lc 0 b).or ((fieldE 1 lc 0 d).or ((fieldE 1 lc (if k = 16 then 16 else 0) p).or (arityE [⟨0, c⟩] (endI k) d)))) = none
  rw [field_nil hlc g1, field_nil hlc g2, field_nil hlc g3, Option.none_or, Option.none_or, Option.none_or]
  have e4 : fieldE 1 lc (if k = 16 then 16 else 0) p = none := by
    by_cases hk : k = 16
    · rw [if_pos hk, g4.2 hk]; rfl
    · rw [if_neg hk]; exact field_nil hlc (fun h => hk (g4.1 h))
  rw [e4, Option.none_or]
  unfold arityE
  by_cases hd : d = 3
  · rw [if_pos hd]; rfl
  · rw [if_neg hd]
theorem end_check (n : Nat) (hn : n < 64) (k : Int) (h1 : 1 ≤ k) (h2 : k ≤ 17) : checkP [⟨0, List.replicate n syncI ++ [endI k]⟩] = if k = 9 ∨ k = 16 ∨ k = 17 then (0, 0, 0) else (0, (n : Int), 11) := by
  have hlen : (List.replicate n syncI ++ [endI k]).length = n + 1 := by simp
  rw [one_check _ (by omega) (by omega), hlen]
  rw [instrs_then _ _ 0 (fun x hx => by rw [(List.mem_replicate.1 hx).2]; exact sync_instr _ _)]
  simp only [instrsE, end_instr _ (n + 1) (by omega) k h1 h2, Option.none_or]
  unfold lastE
  dsimp only
  rw [rd33_last, hlen]
  simp only [show (endI k).f0 = k from rfl]
  by_cases h : k = 9 ∨ k = 16 ∨ k = 17
  · rw [if_pos h, if_pos h]
  · rw [if_neg h, if_neg h]
    show ((0 : Int), (((n + 1 : Nat) : Int) - 1), (11 : Int)) = _
    rw [show (((n + 1 : Nat) : Int) - 1) = (n : Int) by omega]
theorem ends_loop (o : Int) (h1 : 1 ≤ o) (h2 : o ≤ 17) (n : Nat) (hn : n < 60) : ∀ (d i : Nat) (x7 : List S33), n - i = d → i ≤ n → x7 = List.replicate i syncI → Ev (fun k => haymowlaw03_ValidEnds.l0 k o n x7 i) true
  | 0, i, x7, hd, hi, hx => by
    obtain rfl : i = n := by omega
    have hlen : x7.length = i := by rw [hx]; simp
    refine Ev.step (f := fun k => haymowlaw03_ValidEnds.j1 k o i x7 o 0 0 0 (if o = 16 then 16 else 0)) (fun k => ?_) ?_
    · simp only [haymowlaw03_ValidEnds.l0]
      rw [if_neg (by omega)]
      by_cases h : o = 16
      · rw [if_pos h, if_pos h]
      · rw [if_neg h, if_neg h]
    have hc := end_check i (by omega) o h1 h2
    rw [← hx] at hc
    by_cases h : o = 9 ∨ o = 16 ∨ o = 17
    · rw [if_pos h] at hc
      refine Ev.step (f := fun k => haymowlaw03_ValidEnds.j2 k i 0 0 0 true) (fun k => ?_) (Ev.step (f := fun _ => some true) (fun k => ?_) (Ev.now _))
      · simp only [haymowlaw03_ValidEnds.j1]
        rw [if_pos (by omega), show (⟨o, 0, 0, 0, if o = 16 then 16 else 0⟩ : S33) = endI o from rfl]
        simp only [valid_Check.f, hc, Option.bind_some]
        rcases h with rfl | rfl | rfl
        · rw [if_pos rfl]
        · rw [if_neg (by decide), if_pos rfl]
        · rw [if_neg (by decide), if_neg (by decide)]; rfl
      · simp only [haymowlaw03_ValidEnds.j2, if_true, if_false, Bool.false_eq_true, awake_bind]
    · rw [if_neg h] at hc
      refine Ev.step (f := fun k => haymowlaw03_ValidEnds.j2 k i 0 i 11 false) (fun k => ?_) (Ev.step (f := fun _ => some true) (fun k => ?_) (Ev.now _))
      · simp only [haymowlaw03_ValidEnds.j1]
        rw [if_pos (by omega), show (⟨o, 0, 0, 0, if o = 16 then 16 else 0⟩ : S33) = endI o from rfl]
        simp only [valid_Check.f, hc, Option.bind_some]
        rw [if_neg (by omega), if_neg (by omega)]
        have : (o == 17) = false := by simp; omega
        rw [this]
      · simp only [haymowlaw03_ValidEnds.j2, if_true, if_false, Bool.false_eq_true, awake_bind]
  | d + 1, i, x7, hd, hi, hx => by
    have hlen : x7.length = i := by rw [hx]; simp
    refine Ev.step (fun k => ?_) (ends_loop o h1 h2 n hn d (i + 1) (x7 ++ [syncI]) (by omega) (by omega) (by rw [hx, List.replicate_succ']))
    simp only [haymowlaw03_ValidEnds.l0]
    rw [if_pos (by omega), if_pos (by omega), wrap_id (x := (i : Int) + 1) (by omega) (by omega)]
    rfl
theorem validEnds_pure (a b : Int) (ha : (Lit.int .u8 a).wf = true) (hb : (Lit.int .u8 b).wf = true) : ∃ k, haymowlaw03_ValidEnds.f k a b = some true := by
  have ha' := u8_rng ha
  have hb' := u8_rng hb
  refine Ev.rounds (g := fun k => haymowlaw03_ValidEnds.f k a b) (r := true) ?_
  have hw1 : wrap64 (Int.tmod (wrap64 a) 17 + 1) = a % 17 + 1 := by rw [wrap_id (x := a) (by omega) (by omega), Int.tmod_eq_emod_of_nonneg ha'.1, wrap_id (by omega) (by omega)]
  have hw2 : Int.tmod (wrap64 b) 60 = ((b % 60).toNat : Int) := by rw [wrap_id (by omega) (by omega), Int.tmod_eq_emod_of_nonneg hb'.1]; omega
  refine Ev.congr (fun k => ?_) (ends_loop (a % 17 + 1) (by omega) (by omega) (b % 60).toNat (by omega) _ 0 [] rfl (by omega) rfl)
  unfold haymowlaw03_ValidEnds.f
  rw [hw1, hw2]
  rfl
end Go.Proofs.Ytkbbgkhanmmhpaa.H
