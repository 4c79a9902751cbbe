/- EvalLoops: the plain law. -/
import Derived.Test.YtnhipdniceoigaaEvQ
set_option linter.unusedVariables false
set_option linter.unusedSimpArgs false
namespace Go.Proofs.Ytnhipdniceoigaa.H
open Go.RowKit Go.Hay Go.Proofs.YtnhipdniceoigaaW.PrintWords Go.Proofs.YtnhipdniceoigaaW.PrintLast Go.Proofs.YtnhipdniceoigaaW.PrintMore
def lopC : List S55 := [⟨10, 0, 0, 0, 5⟩, ⟨15, 0, 0, 0, 0⟩, ⟨1, 1, 0, 0, -1⟩, ⟨3, 0, 0, 1, 0⟩, ⟨9, 0, 0, 0, 0⟩, ⟨17, 0, 0, 0, 0⟩]
def lopP : List S58 := [⟨1, lopC⟩]
def down : Nat → List Int
  | 0 => []
  | j + 1 => ((j : Int) + 1) :: down j
theorem down_len (j : Nat) : (down j).length = j := by
  induction j with
  | zero => rfl
  | succ j ih => simp [down, ih]
theorem down_get (k i : Nat) (h : i < k) : (down k).getD i 0 = (k : Int) - i := by
  induction k generalizing i with
  | zero => omega
  | succ k ih =>
    cases i with
    | zero => simp [down]
    | succ i =>
      show (down k).getD i 0 = _
      rw [ih i (by omega)]
      omega
def lopT (r0 r1 : Int) (at_ : Int) : Ts := ⟨[r0, r1, 0, 0, 0, 0, 0, 0], noHands, [], 0, at_⟩
def lopEnd (b : Int) (told : List Int) (s : Int) (j : Nat) (q : Out × Gs) : Prop :=
  (s + 5 * j + 2 ≤ b ∧ q.1 = .val 0 ∧ q.2.told = told ++ down j ∧ q.2.log = [([], s + 5 * j + 2)]) ∨ (b < s + 5 * j + 2 ∧ q.1 = .fail 3 ∧ q.2.log = [([], b)] ∧ q.2.told.length ≤ told.length + j)
theorem lop_budget {b s r0 r1 at_ : Int} {n : Nat} {told : List Int} (h : s = b) : runP lopP b 0 (n + 1) ⟨n, told, [([], s)]⟩ [] lopC 0 (lopT r0 r1 at_) = (.fail 3, ⟨n, told, [([], s)]⟩) := q_budget h
section
variable {l : List S58} {b d s : Int} {k n : Nat} {told : List Int} {path : List Int} {code : List S55} {T T' : Ts}
theorem o_go (x : S55) (hb : s ≠ b) (hx : rd_T55 code T.at_ = x) (h3 : x.f0 ≠ 17 ∧ x.f0 ≠ 11 ∧ x.f0 ≠ 13 ∧ x.f0 ≠ 15) (hs : simple x { T with at_ := T.at_ + 1 } = .go T') :
    runP l b d (k + 1) ⟨n + 1, told, [([], s)]⟩ path code 0 T = runP l b d k ⟨n, told, [([], s + 1)]⟩ path code 0 T' := q_go (log := [([], s)]) (me := 0) x hb hx h3 hs
theorem o_emit (x : S55) (hb : s ≠ b) (hx : rd_T55 code T.at_ = x) (h3 : x.f0 = 15) :
    runP l b d (k + 1) ⟨n + 1, told, [([], s)]⟩ path code 0 T = runP l b d k ⟨n, told ++ [rg T x.f1], [([], s + 1)]⟩ path code 0 { T with at_ := T.at_ + 1 } := q_emit (log := [([], s)]) (me := 0) x hb hx h3
theorem o_ret (x : S55) (hb : s ≠ b) (hx : rd_T55 code T.at_ = x) (h3 : x.f0 = 17) :
    runP l b d (k + 1) ⟨n + 1, told, [([], s)]⟩ path code 0 T = (.val (rg (syncP { T with at_ := T.at_ + 1 }) x.f1), ⟨n, told, [([], s + 1)]⟩) := q_ret (log := [([], s)]) (me := 0) x hb hx h3
end
theorem lop_run (b : Int) : ∀ (j : Nat) (s r1 : Int) (told : List Int) (n : Nat), s ≤ b → j < 1000 → lopEnd b told s j (runP lopP b 0 (n + 5 * j + 2 + 1) ⟨n + 5 * j + 2, told, [([], s)]⟩ [] lopC 0 (lopT j r1 0)) := by
  intro j
  induction j with
  | zero =>
    intro s r1 told n hs hj
    by_cases e0 : s = b
    · rw [lop_budget e0]; exact .inr ⟨by omega, rfl, by rw [e0], by simp⟩
    rw [show n + 5 * 0 + 2 = (n + 1) + 1 from rfl, o_go (T' := lopT 0 r1 5) ⟨10, 0, 0, 0, 5⟩ e0 rfl (by decide) rfl]
    show lopEnd b told s 0 (runP lopP b 0 (n + 1 + 1) ⟨n + 1, told, [([], s + 1)]⟩ [] lopC 0 (lopT 0 r1 5))
    by_cases e1 : s + 1 = b
    · rw [lop_budget e1]; exact .inr ⟨by omega, rfl, by rw [e1], by simp⟩
    rw [o_ret ⟨17, 0, 0, 0, 0⟩ e1 rfl rfl]
    exact .inl ⟨by omega, rfl, by simp [down], by show [(([] : List Int), s + 1 + 1)] = _; simp; omega⟩
  | succ j ih =>
    intro s r1 told n hs hj
    by_cases e0 : s = b
    · rw [lop_budget e0]; exact .inr ⟨by omega, rfl, by rw [e0], by simp⟩
    have hz : simple ⟨10, 0, 0, 0, 5⟩ (lopT ((j + 1 : Nat) : Int) r1 (0 + 1)) = .go (lopT ((j + 1 : Nat) : Int) r1 1) := by
      show Sm.go (if ((j + 1 : Nat) : Int) = 0 then _ else _) = _
      rw [if_neg (by omega)]; rfl
    rw [show n + 5 * (j + 1) + 2 = (n + 5 * j + 2 + 4) + 1 by omega, o_go (T' := lopT ((j + 1 : Nat) : Int) r1 1) ⟨10, 0, 0, 0, 5⟩ e0 rfl (by decide) hz]
    show lopEnd b told s (j + 1) (runP lopP b 0 (n + 5 * j + 2 + 3 + 1 + 1) ⟨n + 5 * j + 2 + 3 + 1, told, [([], s + 1)]⟩ [] lopC 0 (lopT ((j + 1 : Nat) : Int) r1 1))
    by_cases e1 : s + 1 = b
    · rw [lop_budget e1]; exact .inr ⟨by omega, rfl, by rw [e1], by simp⟩
    rw [o_emit ⟨15, 0, 0, 0, 0⟩ e1 rfl rfl]
    show lopEnd b told s (j + 1) (runP lopP b 0 (n + 5 * j + 2 + 2 + 1 + 1) ⟨n + 5 * j + 2 + 2 + 1, told ++ [((j + 1 : Nat) : Int)], [([], s + 1 + 1)]⟩ [] lopC 0 (lopT ((j + 1 : Nat) : Int) r1 2))
    by_cases e2 : s + 1 + 1 = b
    · rw [lop_budget e2]; exact .inr ⟨by omega, rfl, by rw [e2], by simp⟩
    rw [o_go (T' := lopT ((j + 1 : Nat) : Int) (-1) 3) ⟨1, 1, 0, 0, -1⟩ e2 rfl (by decide) rfl]
    show lopEnd b told s (j + 1) (runP lopP b 0 (n + 5 * j + 2 + 1 + 1 + 1) ⟨n + 5 * j + 2 + 1 + 1, told ++ [((j + 1 : Nat) : Int)], [([], s + 1 + 1 + 1)]⟩ [] lopC 0 (lopT ((j + 1 : Nat) : Int) (-1) 3))
    by_cases e3 : s + 1 + 1 + 1 = b
    · rw [lop_budget e3]; exact .inr ⟨by omega, rfl, by rw [e3], by simp⟩
    have ha : simple ⟨3, 0, 0, 1, 0⟩ (lopT ((j + 1 : Nat) : Int) (-1) (3 + 1)) = .go (lopT (j : Int) (-1) 4) := by
      show Sm.go (lopT (wrap64 (((j + 1 : Nat) : Int) + -1)) (-1) 4) = _
      have e : wrap64 (((j + 1 : Nat) : Int) + -1) = (j : Int) := by unfold wrap64; omega
      rw [e]
    rw [o_go (T' := lopT (j : Int) (-1) 4) ⟨3, 0, 0, 1, 0⟩ e3 rfl (by decide) ha]
    show lopEnd b told s (j + 1) (runP lopP b 0 (n + 5 * j + 2 + 1 + 1) ⟨n + 5 * j + 2 + 1, told ++ [((j + 1 : Nat) : Int)], [([], s + 1 + 1 + 1 + 1)]⟩ [] lopC 0 (lopT (j : Int) (-1) 4))
    by_cases e4 : s + 1 + 1 + 1 + 1 = b
    · rw [lop_budget e4]; exact .inr ⟨by omega, rfl, by rw [e4], by simp⟩
    rw [o_go (T' := lopT (j : Int) (-1) 0) ⟨9, 0, 0, 0, 0⟩ e4 rfl (by decide) rfl]
    have h := ih (s + 1 + 1 + 1 + 1 + 1) (-1) (told ++ [((j + 1 : Nat) : Int)]) n (by omega) (by omega)
    generalize runP lopP b 0 (n + 5 * j + 2 + 1) ⟨n + 5 * j + 2, told ++ [((j + 1 : Nat) : Int)], [([], s + 1 + 1 + 1 + 1 + 1)]⟩ [] lopC 0 (lopT (j : Int) (-1) 0) = q at h ⊢
    rcases h with ⟨h1, h2, h3, h4⟩ | ⟨h1, h2, h3, h4⟩
    · refine .inl ⟨by omega, h2, ?_, ?_⟩
      · rw [h3, List.append_assoc]
        rfl
      · rw [h4]
        have : s + 1 + 1 + 1 + 1 + 1 + 5 * (j : Int) + 2 = s + 5 * ((j + 1 : Nat) : Int) + 2 := by omega
        rw [this]
    · refine .inr ⟨by omega, h2, h3, ?_⟩
      rw [List.length_append] at h4
      simp only [List.length_singleton] at h4
      omega
theorem lop_right (b : Int) (hb : 1 ≤ b ∧ b ≤ 1000) : evRight lopP 1 b 0 = true := by
  unfold evRight
  rw [if_pos (by kernel_rfl), if_neg (by omega), if_neg (by omega), if_neg (by omega), if_neg (by omega)]
  rfl
/-- what it ends with. -/
theorem lop_ends (k : Nat) (b : Int) (hk : k < 100) (hb : 1 ≤ b ∧ b ≤ 1000) : (5 * k + 2 ≤ b ∧ evalR lopP [(k : Int)] b 0 2000 = (((0 : Int), (0 : Int), down k, [(([] : List Int), 5 * (k : Int) + 2)]), (0 : Int))) ∨ (b < 5 * k + 2 ∧ ∃ told, evalR lopP [(k : Int)] b 0 2000 = (((0 : Int), (3 : Int), told, [(([] : List Int), b)]), (0 : Int)) ∧ told.length ≤ k) := by
  rw [evalR_end (lop_right b hb)]
  have h := lop_run b k 0 0 [] (2000 - (5 * k + 2)) (by omega) (by omega)
  rw [show 2000 - (5 * k + 2) + 5 * k + 2 = 2000 by omega] at h
  generalize hq : runP lopP b 0 (2000 + 1) ⟨2000, [], [([], 0)]⟩ [] lopC 0 (lopT k 0 0) = q at h
  have e : runP lopP b 0 (2000 + 1) ⟨2000, [], [([], 0)]⟩ [] (rd_T58 lopP 0).f1 0 (newTask [(k : Int)] noHands) = q := hq
  rw [e]
  obtain ⟨o, left, told, log⟩ := q
  rcases h with ⟨h1, h2, h3, h4⟩ | ⟨h1, h2, h3, h4⟩
  · have h2 : o = .val 0 := h2
    have h3 : told = [] ++ down k := h3
    have h4 : log = [([], 0 + 5 * (k : Int) + 2)] := h4
    subst h2 h3 h4
    refine .inl ⟨by omega, ?_⟩
    show ((((0 : Int), (0 : Int), [] ++ down k, [(([] : List Int), 0 + 5 * (k : Int) + 2)]), (0 : Int)) : EvR) = _
    rw [List.nil_append, Int.zero_add]
  · have h2 : o = .fail 3 := h2
    have h3 : log = [([], b)] := h3
    subst h2 h3
    exact .inr ⟨by omega, told, rfl, by simpa using h4⟩
end Go.Proofs.Ytnhipdniceoigaa.H
