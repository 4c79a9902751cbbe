/- One function more. No conditions of a machine. -/
import Derived.Test.YtkbbgkhanmmhpaaPVA
namespace Go.Proofs.Ytkbbgkhanmmhpaa.H
open Go.RowKit Go.Proofs.YtkbbgkhanmmhpaaW.PrintWords Go.Proofs.YtkbbgkhanmmhpaaW.PrintLast Go.Proofs.YtkbbgkhanmmhpaaW.PrintMore
set_option linter.unusedVariables false
set_option linter.unusedSimpArgs false
/-! ### one more function -/
theorem field_more {np np' lc : Nat} {n p : Int} (hn : np ≤ np') (h : fieldE np lc n p = none) : fieldE np' lc n p = none := by
  unfold fieldE at h ⊢
  by_cases h3 : p = 3
  · subst h3
    simp [inB] at h ⊢
    omega
  · simp only [if_neg h3] at h ⊢
    exact h
theorem instr_more {lc : Nat} {l : List S36} {x : S33} (g : S36) (h : instrE lc l x = none) : instrE lc (l ++ [g]) x = none := by
  obtain ⟨⟨a, b, c, k, is⟩, hsh⟩ : ∃ s, s = shapeP x.f0 := ⟨_, rfl⟩
  rw [instrE_eq hsh.symm] at h ⊢
  repeat' split at h
  all_goals first | cases h | skip
  rename_i h0 h1 h2 h3 h4
  rw [if_neg h0, if_neg h1, if_neg h2, if_neg h3, if_neg h4]
  simp only [Option.or_eq_none_iff] at h ⊢
  obtain ⟨e1, e2, e3, e4, e5⟩ := h
  have hle : l.length ≤ (l ++ [g]).length := by simp
  refine ⟨field_more hle e1, field_more hle e2, field_more hle e3, field_more hle e4, ?_⟩
  unfold arityE at e5 ⊢
  by_cases hc : c = 3
  · subst hc
    obtain ⟨g0, g1⟩ := field_three e3
    rw [if_pos rfl] at e5 ⊢
    have : rd_T36 (l ++ [g]) x.f3 = rd_T36 l x.f3 := by
      unfold rd_T36
      rw [List.getD_eq_getElem?_getD, List.getD_eq_getElem?_getD, List.getElem?_append_left (by omega)]
    rw [this]
    exact e5
  · rw [if_neg hc]
theorem instrs_more {lc : Nat} {l : List S36} (g : S36) : ∀ (c : List S33) (k : Nat), instrsE lc l k c = none → instrsE lc (l ++ [g]) k c = none
  | [], k, h => rfl
  | x :: r, k, h => by
    simp only [instrsE] at h ⊢
    cases he : instrE lc l x with
    | some e => rw [he] at h; cases h
    | none =>
      rw [he] at h
      rw [instr_more g he]
      exact instrs_more g r (k + 1) h
theorem func_more {l : List S36} {f : S36} (g : S36) (h : funcE l f = none) : funcE (l ++ [g]) f = none := by
  unfold funcE at h ⊢
  by_cases h0 : 0 ≤ f.f0 ∧ f.f0 ≤ 4
  · rw [if_pos h0] at h ⊢
    by_cases h1 : 1 ≤ f.f1.length ∧ f.f1.length ≤ 64
    · rw [if_pos h1] at h ⊢
      simp only [Option.or_eq_none_iff] at h ⊢
      exact ⟨instrs_more g _ _ h.1, h.2⟩
    · rw [if_neg h1] at h; cases h
  · rw [if_neg h0] at h; cases h
theorem funcs_more {l : List S36} (g : S36) : ∀ (r : List S36) (k : Nat) (t : List S36), funcsE l k r = none → funcsE (l ++ [g]) k (r ++ t) = funcsE (l ++ [g]) (k + r.length) t
  | [], k, t, h => by simp
  | x :: r, k, t, h => by
    simp only [funcsE, List.cons_append] at h ⊢
    cases he : funcE l x with
    | some e => rw [he] at h; cases h
    | none =>
      rw [he] at h
      rw [func_more g he]
      have := funcs_more g r (k + 1) t h
      simp only [List.length_cons]
      rw [show k + (r.length + 1) = k + 1 + r.length by omega]
      exact this
theorem func_ne {l : List S36} {g : S36} {e : Int × Int} (h : funcE l g = some e) : e.2 ≠ 0 := by
  have hi : ∀ (c : List S33) (lc k : Nat) (e : Int × Int), instrsE lc l k c = some e → e.2 ≠ 0 := by
    intro c
    induction c with
    | nil => intro lc k e h; cases h
    | cons x r ih =>
      intro lc k e h
      simp only [instrsE] at h
      cases he : instrE lc l x with
      | some n => rw [he] at h; cases h; exact instrE_ne he
      | none => rw [he] at h; exact ih _ _ _ h
  unfold funcE at h
  repeat' split at h
  · rcases (Option.or_eq_some_iff.1 h) with h | ⟨_, h⟩
    · exact hi _ _ _ _ h
    · unfold lastE at h
      dsimp only at h
      split at h <;> cases h
      exact (by decide : (11 : Int) ≠ 0)
  · cases h; exact (by decide : (3 : Int) ≠ 0)
  · cases h; exact (by decide : (6 : Int) ≠ 0)
theorem funcs_ne {l : List S36} : ∀ (r : List S36) (k : Nat) (e : Int × Int × Int), funcsE l k r = some e → e.2.2 ≠ 0
  | [], k, e, h => by cases h
  | x :: r, k, e, h => by
    simp only [funcsE] at h
    cases he : funcE l x with
    | some n => rw [he] at h; cases h; exact func_ne he
    | none => rw [he] at h; exact funcs_ne r (k + 1) e h
theorem check_zero {l : List S36} (h : (checkP l).2.2 = 0) : (1 ≤ l.length ∧ l.length ≤ 16) ∧ funcsE l 0 l = none ∧ checkP l = (0, 0, 0) := by
  unfold checkP at h ⊢
  by_cases hb : 1 ≤ l.length ∧ l.length ≤ 16
  · rw [if_pos hb] at h ⊢
    cases he : funcsE l 0 l with
    | none => exact ⟨hb, rfl, rfl⟩
    | some e => rw [he] at h; exact absurd h (funcs_ne _ _ _ he)
  · rw [if_neg hb] at h; exact absurd h (by decide)
theorem check_ok {l : List S36} (hb : 1 ≤ l.length ∧ l.length ≤ 16) (h : funcsE l 0 l = none) : checkP l = (0, 0, 0) := by
  unfold checkP; rw [if_pos hb, h]; rfl
theorem check_at {l : List S36} {e : Int × Int × Int} (hb : 1 ≤ l.length ∧ l.length ≤ 16) (h : funcsE l 0 l = some e) : checkP l = e := by
  unfold checkP; rw [if_pos hb, h]; rfl
theorem check_more {l : List S36} (a : Int) (h0 : 0 ≤ a) (h : (checkP l).2.2 = 0) :
    checkP (l ++ [⟨a, [⟨17, 7, 0, 0, 0⟩]⟩]) = if 16 ≤ l.length then (0, 0, 3) else if 4 < a then ((l.length : Int), 0, 6) else (0, 0, 0) := by
  obtain ⟨hb, hf, _⟩ := check_zero h
  by_cases hl : 16 ≤ l.length
  · rw [if_pos hl]; unfold checkP; rw [if_neg (by simp; omega)]
  · rw [if_neg hl]
    have hm := funcs_more ⟨a, [⟨17, 7, 0, 0, 0⟩]⟩ l 0 [⟨a, [⟨17, 7, 0, 0, 0⟩]⟩] hf
    rw [Nat.zero_add] at hm
    have hb2 : 1 ≤ (l ++ [(⟨a, [⟨17, 7, 0, 0, 0⟩]⟩ : S36)]).length ∧ (l ++ [(⟨a, [⟨17, 7, 0, 0, 0⟩]⟩ : S36)]).length ≤ 16 := by simp; omega
    by_cases ha : 4 < a
    · rw [if_pos ha]
      refine check_at hb2 ?_
      rw [hm]
      simp only [funcsE, funcE]
      rw [if_neg (by omega)]
    · rw [if_neg ha]
      refine check_ok hb2 ?_
      rw [hm]
      simp only [funcsE, funcE]
      rw [if_pos (by omega), if_pos (by simp)]
      rfl
end Go.Proofs.Ytkbbgkhanmmhpaa.H
