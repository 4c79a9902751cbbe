/- Plain law ValidCalls. No conditions of a machine. -/
import Derived.Test.YtkbbgkhanmmhpaaPVA
import Derived.Test.YtkbbgkhanmmhpaaH15
namespace Go.Proofs.Ytkbbgkhanmmhpaa.H
open Go.RowKit Go.Proofs.YtkbbgkhanmmhpaaW.PrintWords Go.Proofs.YtkbbgkhanmmhpaaW.PrintLast Go.Proofs.YtkbbgkhanmmhpaaW.PrintMore
set_option linter.unusedVariables false
set_option linter.unusedSimpArgs false
/-! ### calls -/
theorem call_check (op n b w : Int) (hop : op = 11 ∨ op = 13) (hn : 0 ≤ n ∧ n ≤ 4) (hb : 0 ≤ b ∧ b < 8) :
    checkP [⟨0, [⟨op, 1, b, w, 0⟩, ⟨17, 0, 0, 0, 0⟩]⟩, ⟨n, [⟨17, 0, 0, 0, 0⟩]⟩] = if 0 ≤ w ∧ w < 2 then if w = 1 ∧ 8 < b + n then (0, 0, 6) else (0, 0, 0) else (0, 0, 5) := by
  have hsh : shapeP op = (if op = 11 then 1 else 2, 1, 3, 0, true) := by rcases hop with rfl | rfl <;> rfl
  generalize hl : ([⟨0, [⟨op, 1, b, w, 0⟩, ⟨17, 0, 0, 0, 0⟩]⟩, ⟨n, [⟨17, 0, 0, 0, 0⟩]⟩] : List S36) = l
  have hlen : l.length = 2 := by rw [← hl]; rfl
  have h17 : ∀ lc, instrE lc l ⟨17, 0, 0, 0, 0⟩ = none := by
    intro lc
    rw [instrE_eq (x := ⟨17, 0, 0, 0, 0⟩) (show shapeP 17 = (1, 0, 0, 0, true) from rfl)]
    rfl
  have hI : instrE 2 l ⟨op, 1, b, w, 0⟩ = if 0 ≤ w ∧ w < 2 then if w = 1 ∧ 8 < b + n then some 6 else none else some 5 := by
    rw [instrE_eq (x := ⟨op, 1, b, w, 0⟩) hsh, hlen]
    have e1 : fieldE 2 2 1 (if op = 11 then 1 else 2) = none := by rcases hop with rfl | rfl <;> rfl
    have e2 : fieldE 2 2 b 1 = none := by simp [fieldE, inB, hb.1, hb.2]
    have e4 : fieldE 2 2 0 0 = none := rfl
    dsimp only
    have hp : ¬ (if op = 11 then (1 : Int) else 2) = 0 := by split <;> decide
    rw [if_neg (by simp), if_neg (fun h => hp h.1), if_neg (by simp), if_neg (by simp), if_neg (by simp), e1, e2, e4, Option.none_or, Option.none_or, Option.none_or]
    by_cases hw : 0 ≤ w ∧ w < 2
    · rw [if_pos hw]
      have e3 : fieldE 2 2 w 3 = none := by simp [fieldE, inB, hw.1, hw.2]
      rw [e3, Option.none_or]
      unfold arityE
      rw [if_pos rfl]
      dsimp only
      rcases (by omega : w = 0 ∨ w = 1) with rfl | rfl
      · have : (rd_T36 l 0).f0 = 0 := by rw [← hl]; rfl
        rw [this, if_pos (by omega), if_neg (by omega)]
      · have : (rd_T36 l 1).f0 = n := by rw [← hl]; rfl
        rw [this]
        by_cases hx : 8 < b + n
        · rw [if_neg (by omega), if_pos ⟨rfl, hx⟩]
        · rw [if_pos (by omega), if_neg (by omega)]
    · rw [if_neg hw]
      have e3 : fieldE 2 2 w 3 = some 5 := by
        have : inB 0 2 w = false := by simp [inB]; omega
        simp [fieldE, this]
      rw [e3]; rfl
  have hF : funcE l ⟨0, [⟨op, 1, b, w, 0⟩, ⟨17, 0, 0, 0, 0⟩]⟩ = if 0 ≤ w ∧ w < 2 then if w = 1 ∧ 8 < b + n then some (0, 6) else none else some (0, 5) := by
    unfold funcE
    dsimp only
    rw [if_pos (by decide), if_pos (by simp)]
    simp only [List.length_cons, List.length_nil, instrsE, hI, h17]
    by_cases hw : 0 ≤ w ∧ w < 2
    · rw [if_pos hw, if_pos hw]
      by_cases hx : w = 1 ∧ 8 < b + n
      · rw [if_pos hx, if_pos hx]; rfl
      · rw [if_neg hx, if_neg hx]; rfl
    · rw [if_neg hw, if_neg hw]; rfl
  have hG : funcE l ⟨n, [⟨17, 0, 0, 0, 0⟩]⟩ = none := by
    unfold funcE
    dsimp only
    rw [if_pos (by omega), if_pos (by simp)]
    simp only [List.length_cons, List.length_nil, instrsE, h17]
    rfl
  unfold checkP
  rw [hlen, if_pos (by omega)]
  conv => lhs; arg 1; arg 3; rw [← hl]
  simp only [funcsE, hF, hG]
  by_cases hw : 0 ≤ w ∧ w < 2
  · rw [if_pos hw, if_pos hw]
    by_cases hx : w = 1 ∧ 8 < b + n
    · rw [if_pos hx, if_pos hx]; rfl
    · rw [if_neg hx, if_neg hx]; rfl
  · rw [if_neg hw, if_neg hw]; rfl
theorem calls_j0 (op n b w : Int) (hop : op = 11 ∨ op = 13) (hn : 0 ≤ n ∧ n ≤ 4) (hb : 0 ≤ b ∧ b < 8) : Ev (fun k => haymowlaw03_ValidCalls.j0 k w n b op) true := by
  have hc := call_check op n b w hop hn hb
  have yes : ∀ x y z : Int, Ev (fun k => haymowlaw03_ValidCalls.j2 k 0 0 6 true) true := fun _ _ _ => by
    refine Ev.step (f := fun _ => some true) (fun k => ?_) (Ev.now _)
    simp only [haymowlaw03_ValidCalls.j2, if_true, if_false, Bool.false_eq_true, awake_bind]
  have no : Ev (fun k => haymowlaw03_ValidCalls.j2 k 0 0 0 false) true := by
    refine Ev.step (f := fun _ => some true) (fun k => ?_) (Ev.now _)
    simp only [haymowlaw03_ValidCalls.j2, if_true, if_false, Bool.false_eq_true, awake_bind]
  by_cases hw : 0 ≤ w ∧ w < 2
  · rw [if_pos hw] at hc
    by_cases hx : w = 1 ∧ 8 < b + n
    · rw [if_pos hx] at hc
      refine Ev.step (f := fun k => haymowlaw03_ValidCalls.j1 k w n b 0 0 6 false) (fun k => ?_) (Ev.step (f := fun k => haymowlaw03_ValidCalls.j2 k 0 0 6 true) (fun k => ?_) (yes 0 0 0))
      · simp only [haymowlaw03_ValidCalls.j0, valid_Check.f, hc, Option.bind_some]
        rw [if_neg (by omega), decide_eq_false (by omega)]
      · simp only [haymowlaw03_ValidCalls.j1]
        rw [if_neg (by simp), if_pos hx.1, wrap_id (by omega) (by omega), decide_eq_true (by omega)]
    · rw [if_neg hx] at hc
      refine Ev.step (f := fun k => haymowlaw03_ValidCalls.j1 k w n b 0 0 0 false) (fun k => ?_) (Ev.step (f := fun k => haymowlaw03_ValidCalls.j2 k 0 0 0 false) (fun k => ?_) no)
      · simp only [haymowlaw03_ValidCalls.j0, valid_Check.f, hc, Option.bind_some]
        rw [if_neg (by omega), decide_eq_false (by omega)]
      · simp only [haymowlaw03_ValidCalls.j1]
        rw [if_neg (by simp)]
        by_cases h1 : w = 1
        · rw [if_pos h1, wrap_id (by omega) (by omega), decide_eq_false (by omega)]
        · rw [if_neg h1]
  · rw [if_neg hw] at hc
    refine Ev.step (f := fun k => haymowlaw03_ValidCalls.j1 k w n b 0 0 5 true) (fun k => ?_) (Ev.step (f := fun _ => some true) (fun k => ?_) (Ev.now _))
    · simp only [haymowlaw03_ValidCalls.j0, valid_Check.f, hc, Option.bind_some]
      by_cases h0 : w < 0
      · rw [if_pos h0]
      · rw [if_neg h0, decide_eq_true (by omega)]
    · simp only [haymowlaw03_ValidCalls.j1, if_true, if_false, Bool.false_eq_true, awake_bind]
theorem validCalls_pure (a b w : Int) (fut : Bool) (ha : (Lit.int .u8 a).wf = true) (hb : (Lit.int .u8 b).wf = true) : ∃ k, haymowlaw03_ValidCalls.f k a b w fut = some true := by
  have ha' := u8_rng ha
  have hb' := u8_rng hb
  refine Ev.rounds (g := fun k => haymowlaw03_ValidCalls.f k a b w fut) (r := true) ?_
  have hw1 : Int.tmod (wrap64 a) 5 = a % 5 := by rw [wrap_id (by omega) (by omega), Int.tmod_eq_emod_of_nonneg ha'.1]
  have hw2 : Int.tmod (wrap64 b) 8 = b % 8 := by rw [wrap_id (by omega) (by omega), Int.tmod_eq_emod_of_nonneg hb'.1]
  cases fut with
  | true =>
    refine Ev.congr (fun k => ?_) (calls_j0 13 (a % 5) (b % 8) w (.inr rfl) (by omega) (by omega))
    unfold haymowlaw03_ValidCalls.f
    rw [if_pos rfl, hw1, hw2]
  | false =>
    refine Ev.congr (fun k => ?_) (calls_j0 11 (a % 5) (b % 8) w (.inl rfl) (by omega) (by omega))
    unfold haymowlaw03_ValidCalls.f
    rw [if_neg (by simp), hw1, hw2]

end Go.Proofs.Ytkbbgkhanmmhpaa.H
