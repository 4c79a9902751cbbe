/- Plain law ValidJumps. No conditions of a machine. -/
import Derived.Test.YtkbbgkhanmmhpaaPVA
import Derived.Test.YtkbbgkhanmmhpaaH14
namespace Go.Proofs.Ytkbbgkhanmmhpaa.H
open Go.RowKit Go.Proofs.YtkbbgkhanmmhpaaW.PrintWords Go.Proofs.YtkbbgkhanmmhpaaW.PrintLast Go.Proofs.YtkbbgkhanmmhpaaW.PrintMore
set_option linter.unusedVariables false
set_option linter.unusedSimpArgs false
def jumpI (i : Int) : S33 := ⟨9, 0, 0, 0, i⟩
theorem jump_instr (l : List S36) (lc : Nat) (i : Int) : instrE lc l (jumpI i) = if 0 ≤ i ∧ i < lc then none else some 6 := by
  rw [instrE_eq (x := jumpI i) (show shapeP 9 = (0, 0, 0, 5, true) from rfl)]
  have e0 : ∀ p, p = 0 → fieldE l.length lc 0 p = none := by rintro p rfl; rfl
  simp only [jumpI]
  rw [if_neg (by simp), if_neg (by simp), if_neg (by simp), if_neg (by simp), e0 0 rfl, Option.none_or, Option.none_or, Option.none_or]
  by_cases h : 0 ≤ i ∧ i < lc
  · rw [if_pos h]
    have e5 : fieldE l.length lc i 5 = none := by simp [fieldE, inB, h.1, h.2]
    rw [e5]; rfl
  · rw [if_neg h]
    have e5 : fieldE l.length lc i 5 = some 6 := by
      have : inB 0 lc i = false := by simp only [inB, Bool.and_eq_false_iff, decide_eq_false_iff_not]; omega
      simp [fieldE, this]
    rw [e5]; rfl
theorem jump_check (n : Nat) (hn : n + 1 ≤ 64) (tt : Int) : checkP [⟨0, ((List.range n).map fun i : Nat => jumpI i) ++ [jumpI tt]⟩] = if 0 ≤ tt ∧ tt < ((n + 1 : Nat) : Int) then (0, 0, 0) else (0, (n : Int), 6) := by
  have hlen : (((List.range n).map fun i : Nat => jumpI (i : Int)) ++ [jumpI tt]).length = n + 1 := by simp
  rw [one_check _ (by omega) (by omega), hlen]
  rw [instrs_then _ _ 0 (fun x hx => by
    obtain ⟨i, hi, rfl⟩ := List.mem_map.1 hx
    have := List.mem_range.1 hi
    rw [jump_instr, if_pos (by omega)])]
  simp only [instrsE, jump_instr, List.length_map, List.length_range, Nat.zero_add]
  by_cases h : 0 ≤ tt ∧ tt < ((n + 1 : Nat) : Int)
  · rw [if_pos h, if_pos h]
    have : lastE ⟨0, ((List.range n).map fun i : Nat => jumpI i) ++ [jumpI tt]⟩ = none := by
      unfold lastE
      dsimp only
      rw [rd33_last]
      rfl
    rw [this]; rfl
  · rw [if_neg h, if_neg h]; rfl
theorem jumps_loop (tt : Int) (n : Nat) (hn : n + 1 ≤ 64) : ∀ (d i : Nat) (x6 : List S33), n + 1 - i = d → i ≤ n + 1 → x6 = (List.range i).map (fun i : Nat => jumpI i) → Ev (fun k => haymowlaw03_ValidJumps.l0 k tt ((n : Int) + 1) x6 i) true
  | 0, i, x6, hd, hi, hx => by
    obtain rfl : i = n + 1 := by omega
    have hlen : x6.length = n + 1 := by rw [hx]; simp
    have hw : wrap64 ((n : Int) + 1 - 1) = (n : Int) := by rw [wrap_id (by omega) (by omega)]; omega
    have hset : x6.set ((n : Int)).toNat (⟨(rd_T33 x6 (n : Int)).f0, (rd_T33 x6 (n : Int)).f1, (rd_T33 x6 (n : Int)).f2, (rd_T33 x6 (n : Int)).f3, tt⟩ : S33) = ((List.range n).map fun i : Nat => jumpI i) ++ [jumpI tt] := by
      have : rd_T33 x6 (n : Int) = jumpI n := by rw [hx]; simp [rd_T33]
      rw [this, hx, List.range_succ, List.map_append]
      simp [List.set_append_right, jumpI]
    by_cases hc : 0 ≤ tt ∧ tt < ((n + 1 : Nat) : Int)
    · refine Ev.step (f := fun k => haymowlaw03_ValidJumps.j1 k ((n : Int) + 1) 0 0 0 false) (fun k => ?_) (Ev.step (f := fun _ => some true) (fun k => ?_) (Ev.now _))
      · simp only [haymowlaw03_ValidJumps.l0, hw, hset, valid_Check.f, jump_check n hn tt]
        rw [if_neg (by omega), if_pos (by omega), if_pos (by omega), if_pos hc]
        simp only [Option.bind_some]
        rw [if_neg (by omega), decide_eq_false (by omega)]
      · simp only [haymowlaw03_ValidJumps.j1, if_true, if_false, Bool.false_eq_true, awake_bind]
    · refine Ev.step (f := fun k => haymowlaw03_ValidJumps.j1 k ((n : Int) + 1) 0 n 6 true) (fun k => ?_) (Ev.step (f := fun _ => some true) (fun k => ?_) (Ev.now _))
      · simp only [haymowlaw03_ValidJumps.l0, hw, hset, valid_Check.f, jump_check n hn tt]
        rw [if_neg (by omega), if_pos (by omega), if_pos (by omega), if_neg hc]
        simp only [Option.bind_some]
        by_cases h0 : tt < 0
        · rw [if_pos h0]
        · rw [if_neg h0, decide_eq_true (by omega)]
      · simp only [haymowlaw03_ValidJumps.j1, hw, if_true, if_false, Bool.false_eq_true, awake_bind]
  | d + 1, i, x6, hd, hi, hx => by
    have hlen : x6.length = i := by rw [hx]; simp
    refine Ev.step (fun k => ?_) (jumps_loop tt n hn d (i + 1) (x6 ++ [jumpI i]) (by omega) (by omega) (by rw [hx, List.range_succ, List.map_append]; rfl))
    simp only [haymowlaw03_ValidJumps.l0]
    rw [if_pos (by omega), if_pos (by omega), wrap_id (x := (i : Int) + 1) (by omega) (by omega)]
    rfl
theorem validJumps_pure (a tt : Int) (ha : (Lit.int .u8 a).wf = true) : ∃ k, haymowlaw03_ValidJumps.f k a tt = some true := by
  have ha' := u8_rng ha
  refine Ev.rounds (g := fun k => haymowlaw03_ValidJumps.f k a tt) (r := true) ?_
  have hw : wrap64 (Int.tmod (wrap64 a) 64 + 1) = ((a % 64).toNat : Int) + 1 := by
    rw [wrap_id (x := a) (by omega) (by omega), Int.tmod_eq_emod_of_nonneg ha'.1, wrap_id (by omega) (by omega)]; omega
  refine Ev.congr (fun k => ?_) (jumps_loop tt (a % 64).toNat (by omega) _ 0 [] rfl (by omega) rfl)
  unfold haymowlaw03_ValidJumps.f
  rw [hw]
  rfl

end Go.Proofs.Ytkbbgkhanmmhpaa.H
