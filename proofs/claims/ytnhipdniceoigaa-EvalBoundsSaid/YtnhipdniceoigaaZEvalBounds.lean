/- No task did more than the budget, no path is longer than the depth, the log rises, and all that were done are at most as many as were let: for every input. No condition. -/
import Derived.Test.YtnhipdniceoigaaZEvalBounds4
import Derived.OpenShut
import Derived.Deep.Slices
import Derived.ChangeArms
import Derived.WideShapes
import Derived.Test.YtnhipdniceoigaaRows
import Derived.WalkKit
import Derived.ProofKit
import Derived.ShutString
import Derived.ChangeOld
import Derived.Below
import Derived.SizedLaws
set_option linter.unusedVariables false
set_option linter.unusedSimpArgs false
namespace Go.Proofs.Ytnhipdniceoigaa.H
open Go.RowKit Go.Hay Go.Proofs.YtnhipdniceoigaaW.PrintWords Go.Proofs.YtnhipdniceoigaaW.PrintLast Go.Proofs.YtnhipdniceoigaaW.PrintMore
/-- a path ahead of another one. -/
def ltP : List Int → List Int → Prop
  | _, [] => False
  | [], _ :: _ => True
  | a :: x, b :: y => a < b ∨ (a = b ∧ ltP x y)
theorem ltP_cmp {x y : List Int} (h : ltP x y) : cmpP x y = -1 := by
  induction x generalizing y with
  | nil => cases y with
    | nil => exact h.elim
    | cons b y => rfl
  | cons a x ih => cases y with
    | nil => exact h.elim
    | cons b y =>
      unfold cmpP
      rcases h with h | ⟨h1, h2⟩
      · rw [if_pos h]
      · rw [if_neg (by omega), if_neg (by omega)]; exact ih h2
theorem ltP_ext (p : List Int) (c : Int) (r : List Int) : ltP p (p ++ c :: r) := by
  induction p with
  | nil => exact trivial
  | cons a p ih => exact .inr ⟨rfl, ih⟩
theorem ltP_fork (p : List Int) {a b : Int} (h : a < b) (r s : List Int) : ltP (p ++ a :: r) (p ++ b :: s) := by
  induction p with
  | nil => exact .inl h
  | cons c p ih => exact .inr ⟨rfl, ih⟩
def Ext (p : List Int) (i : Nat) (q : List Int) : Prop := ∃ (j : Nat) (r : List Int), i ≤ j ∧ q = p ++ (j : Int) :: r
def tot : List (List Int × Int) → Int
  | [] => 0
  | e :: r => e.2 + tot r
theorem tot_app (x y : List (List Int × Int)) : tot (x ++ y) = tot x + tot y := by
  induction x with
  | nil => simp [tot]
  | cons e r ih => simp only [List.cons_append, tot, ih]; omega
/-- what is noted behind a task's run: its own number turned, others' behind it. -/
structure Ran (b d : Int) (me : Nat) (path : List Int) (i : Nat) (G G' : Gs) (s : Int) (add : List (List Int × Int)) : Prop where
  log : G'.log = G.log.set me ((G.log.getD me ([], 0)).1, s) ++ add
  sb : s ≤ b
  s0 : (G.log.getD me ([], 0)).2 ≤ s
  ext : ∀ e ∈ add, Ext path i e.1 ∧ (e.1.length : Int) ≤ d ∧ e.2 ≤ b ∧ 0 ≤ e.2
  up : add.Pairwise (fun x y => ltP x.1 y.1)
  sum : (G'.left : Int) + s + tot add = G.left + (G.log.getD me ([], 0)).2
def RanP (b d : Int) (me : Nat) (path : List Int) (i : Nat) (G G' : Gs) : Prop := ∃ s add, Ran b d me path i G G' s add
section
variable {b d : Int} {me i : Nat} {path : List Int} {G G' : Gs}
theorem Ran.refl (hme : me < G.log.length) (hb : (G.log.getD me ([], 0)).2 ≤ b) : RanP b d me path i G G := by
  refine ⟨(G.log.getD me ([], 0)).2, [], ?_, hb, Int.le_refl _, fun e he => (by cases he), List.Pairwise.nil, by simp [tot]⟩
  have e : G.log.getD me ([], 0) = G.log[me] := by rw [List.getD_eq_getElem?_getD, List.getElem?_eq_getElem hme]; rfl
  rw [e, List.append_nil]
  exact (List.set_getElem_self hme).symm
theorem bump_getD (log : List (List Int × Int)) (hme : me < log.length) : (bump log me).getD me ([], 0) = ((log.getD me ([], 0)).1, (log.getD me ([], 0)).2 + 1) := by
  rw [List.getD_eq_getElem?_getD, bump, List.getElem?_set_self hme]
  rfl
theorem bump_set (log : List (List Int × Int)) (hme : me < log.length) (s : Int) : (bump log me).set me (((bump log me).getD me ([], 0)).1, s) = log.set me ((log.getD me ([], 0)).1, s) := by
  rw [bump_getD log hme, bump, List.set_set]
theorem Ran.bump {told : List Int} (hme : me < G.log.length) (hl : G.left ≠ 0) (h : RanP b d me path i ⟨G.left - 1, told, Proofs.Ytnhipdniceoigaa.H.bump G.log me⟩ G') : RanP b d me path i G G' := by
  obtain ⟨s, add, h1, h2, h3, h4, h5, h6⟩ := h
  rw [bump_set G.log hme] at h1
  simp only [bump_getD G.log hme] at h3 h6
  refine ⟨s, add, h1, h2, by omega, h4, h5, ?_⟩
  have e : ((G.left - 1 : Nat) : Int) = (G.left : Int) - 1 := by omega
  rw [e] at h6
  omega
/-- a kid's run stands behind. -/
theorem Ran.kid {G1 : Gs} {told : List Int} {left : Nat} (hme : me < G.log.length) (hb : (G.log.getD me ([], 0)).2 ≤ b) (hd : (path.length : Int) + 1 ≤ d) (h1 : RanP b d G.log.length (path ++ [(i : Int)]) 0 ⟨G.left, told, G.log ++ [(path ++ [(i : Int)], 0)]⟩ G1) :
    RanP b d me path i G G1 ∧ me < G1.log.length ∧ (G1.log.getD me ([], 0)).2 ≤ b ∧ (∀ G', RanP b d me path (i + 1) G1 G' → RanP b d me path i G G') := by
  obtain ⟨s, add, a1, a2, a3, a4, a5, a6⟩ := h1
  have hg : (G.log ++ [(path ++ [(i : Int)], (0 : Int))]).getD G.log.length ([], 0) = (path ++ [(i : Int)], 0) := by
    rw [List.getD_eq_getElem?_getD, List.getElem?_append_right (Nat.le_refl _)]; simp
  simp only [hg] at a1 a3 a6
  have hlog : G1.log = G.log ++ (path ++ [(i : Int)], s) :: add := by
    rw [a1, List.set_append_right _ _ (Nat.le_refl _)]
    simp
  have hgm : G1.log.getD me ([], 0) = G.log.getD me ([], 0) := by
    rw [hlog, List.getD_eq_getElem?_getD, List.getElem?_append_left hme, List.getD_eq_getElem?_getD]
  have hself : G.log.set me ((G.log.getD me ([], 0)).1, (G.log.getD me ([], 0)).2) = G.log := by
    have e : G.log.getD me ([], 0) = G.log[me] := by rw [List.getD_eq_getElem?_getD, List.getElem?_eq_getElem hme]; rfl
    rw [e]
    exact List.set_getElem_self hme
  have hext : ∀ e ∈ ((path ++ [(i : Int)], s) :: add), (∃ r, e.1 = path ++ (i : Int) :: r) ∧ (e.1.length : Int) ≤ d ∧ e.2 ≤ b ∧ 0 ≤ e.2 := by
    intro e he
    rcases List.mem_cons.1 he with rfl | he
    · refine ⟨⟨[], rfl⟩, ?_, a2, a3⟩
      show ((path ++ [(i : Int)]).length : Int) ≤ d
      rw [List.length_append, List.length_singleton]; omega
    · obtain ⟨⟨j', r, _, e1⟩, h7⟩ := a4 e he
      exact ⟨⟨(j' : Int) :: r, by rw [e1]; simp⟩, h7⟩
  have hup : ((path ++ [(i : Int)], s) :: add).Pairwise (fun x y => ltP x.1 y.1) := by
    refine List.pairwise_cons.2 ⟨fun e he => ?_, a5⟩
    obtain ⟨⟨j', r, _, e1⟩, _⟩ := a4 e he
    rw [e1]
    exact ltP_ext _ _ _
  refine ⟨⟨(G.log.getD me ([], 0)).2, (path ++ [(i : Int)], s) :: add, by rw [hself]; exact hlog, hb, Int.le_refl _, fun e he => ?_, hup, ?_⟩, ?_, by rw [hgm]; exact hb, fun G' h2 => ?_⟩
  · obtain ⟨⟨r, e1⟩, h7⟩ := hext e he
    exact ⟨⟨i, r, Nat.le_refl _, e1⟩, h7⟩
  · show (G1.left : Int) + (G.log.getD me ([], 0)).2 + (s + tot add) = _
    omega
  · rw [hlog, List.length_append]; omega
  · obtain ⟨s2, add2, b1, b2, b3, b4, b5, b6⟩ := h2
    rw [hgm] at b1 b3 b6
    rw [hlog, List.set_append_left _ _ hme] at b1
    refine ⟨s2, ((path ++ [(i : Int)], s) :: add) ++ add2, by rw [b1, List.append_assoc], b2, b3, fun e he => ?_, List.pairwise_append.2 ⟨hup, b5, fun x hx y hy => ?_⟩, ?_⟩
    · rcases List.mem_append.1 he with he | he
      · obtain ⟨⟨r, e1⟩, h7⟩ := hext e he
        exact ⟨⟨i, r, Nat.le_refl _, e1⟩, h7⟩
      · obtain ⟨⟨j', r, hj, e1⟩, h7⟩ := b4 e he
        exact ⟨⟨j', r, by omega, e1⟩, h7⟩
    · obtain ⟨⟨r, e1⟩, _⟩ := hext x hx
      obtain ⟨⟨j', r', hj, e2⟩, _⟩ := b4 y hy
      rw [e1, e2]
      exact ltP_fork path (by omega) _ _
    · rw [tot_app]
      show (G'.left : Int) + s2 + (s + tot add + tot add2) = _
      omega
end
def kidSR (x : S55) (T : Ts) (G2 : Gs) : Out → SR
  | .val v => .go (goOn x T v) G2
  | .fail w => .stop (.fail w) G2
  | .long => .stop .long G2
theorem step_kid {l : List S58} {b d : Int} {k : Nat} {path : List Int} {x : S55} {T : Ts} {G G2 : Gs} {o : Out} (h3 : x.f0 = 11 ∨ x.f0 = 13) (h4 : (path.length : Int) ≠ d)
    (hq : runP l b d k { G with log := G.log ++ [(path ++ [(T.kids : Int)], 0)] } (path ++ [(T.kids : Int)]) (rd_T58 l x.f3).f1 G.log.length (newTask (argsOf l x T) T.hands) = (o, G2)) :
    stepP l d (runP l b d k) path x T G = kidSR x T G2 o := by
  unfold stepP
  rw [if_pos h3, if_neg h4, hq]
  cases o <;> rfl
theorem simple_kids {x : S55} {T T' : Ts} (h : simple x T = .go T') : T'.kids = T.kids := by
  unfold simple at h
  by_cases e1 : x.f0 = 1
  · rw [if_pos e1] at h
    cases h; rfl
  rw [if_neg e1] at h
  by_cases e2 : x.f0 = 2
  · rw [if_pos e2] at h
    cases h; rfl
  rw [if_neg e2] at h
  by_cases e3 : x.f0 = 3
  · rw [if_pos e3] at h
    cases h; rfl
  rw [if_neg e3] at h
  by_cases e4 : x.f0 = 4
  · rw [if_pos e4] at h
    cases h; rfl
  rw [if_neg e4] at h
  by_cases e5 : x.f0 = 5
  · rw [if_pos e5] at h
    cases h; rfl
  rw [if_neg e5] at h
  by_cases e6 : x.f0 = 6
  · rw [if_pos e6] at h
    by_cases z : rg T x.f3 = 0
    · rw [if_pos z] at h; cases h
    · rw [if_neg z] at h; cases h; rfl
  rw [if_neg e6] at h
  by_cases e7 : x.f0 = 7
  · rw [if_pos e7] at h
    cases h; rfl
  rw [if_neg e7] at h
  by_cases e8 : x.f0 = 8
  · rw [if_pos e8] at h
    cases h; rfl
  rw [if_neg e8] at h
  by_cases e9 : x.f0 = 9
  · rw [if_pos e9] at h
    cases h; rfl
  rw [if_neg e9] at h
  by_cases e10 : x.f0 = 10
  · rw [if_pos e10] at h
    injection h with h; subst h; (split <;> rfl)
  rw [if_neg e10] at h
  by_cases e12 : x.f0 = 12
  · rw [if_pos e12] at h
    cases h; rfl
  rw [if_neg e12] at h
  by_cases e14 : x.f0 = 14
  · rw [if_pos e14] at h
    by_cases z : (hd T x.f2).1 = true
    · rw [if_pos z] at h; cases h; rfl
    · rw [if_neg z] at h; cases h
  rw [if_neg e14] at h
  cases h
/-- every run keeps the book. -/
theorem run_ran (l : List S58) (b d : Int) (hb0 : 0 ≤ b) : ∀ (k : Nat) (G : Gs) (path : List Int) (code : List S55) (me : Nat) (T : Ts), me < G.log.length → (G.log.getD me ([], 0)).2 ≤ b → (path.length : Int) ≤ d → RanP b d me path T.kids G (runP l b d k G path code me T).2 := by
  intro k
  induction k with
  | zero => intro G path code me T hme hb hd; exact Ran.refl hme hb
  | succ k ih =>
    intro G path code me T hme hb hd
    rw [runP.eq_2]
    by_cases h1 : (G.log.getD me ([], 0)).2 = b
    · rw [if_pos h1]; exact Ran.refl hme hb
    rw [if_neg h1]
    by_cases h2 : G.left = 0
    · rw [if_pos h2]; exact Ran.refl hme hb
    rw [if_neg h2]
    have hme' : me < (bump G.log me).length := by rw [bump_len]; exact hme
    have hb' : ((bump G.log me).getD me ([], 0)).2 ≤ b := by rw [bump_getD G.log hme]; show _ + 1 ≤ b; omega
    split
    · exact Ran.bump (told := G.told) hme h2 (Ran.refl hme' hb')
    · obtain ⟨x, hx⟩ : ∃ x, x = rd_T55 code T.at_ := ⟨_, rfl⟩
      rw [← hx]
      by_cases h3 : x.f0 = 11 ∨ x.f0 = 13
      · by_cases h4 : (path.length : Int) = d
        · unfold stepP
          rw [if_pos h3, if_pos h4]
          exact Ran.bump (told := G.told) hme h2 (Ran.refl hme' hb')
        have hk := Ran.kid (G := ⟨G.left - 1, G.told, bump G.log me⟩) (i := T.kids) (told := G.told) (left := G.left - 1) hme' hb' (by omega) (ih ⟨G.left - 1, G.told, bump G.log me ++ [(path ++ [(T.kids : Int)], 0)]⟩ (path ++ [(T.kids : Int)]) (rd_T58 l x.f3).f1 (bump G.log me).length (newTask (argsOf l x { T with at_ := T.at_ + 1 }) T.hands) (by simp) (by
          rw [List.getD_eq_getElem?_getD, List.getElem?_append_right (Nat.le_refl _)]; simpa using hb0) (by rw [List.length_append, List.length_singleton]; omega))
        generalize hq : runP l b d k ⟨G.left - 1, G.told, bump G.log me ++ [(path ++ [(T.kids : Int)], 0)]⟩ (path ++ [(T.kids : Int)]) (rd_T58 l x.f3).f1 (bump G.log me).length (newTask (argsOf l x { T with at_ := T.at_ + 1 }) T.hands) = q at hk
        obtain ⟨o, G2⟩ := q
        obtain ⟨k1, k2, k3, k4⟩ := hk
        rw [step_kid (T := { T with at_ := T.at_ + 1 }) (G := ⟨G.left - 1, G.told, bump G.log me⟩) h3 h4 hq]
        cases o with
        | val v =>
          have e : (goOn x { T with at_ := T.at_ + 1 } v).kids = T.kids + 1 := by unfold goOn; split <;> rfl
          have := ih G2 path code me (goOn x { T with at_ := T.at_ + 1 } v) k2 k3 hd
          rw [e] at this
          exact Ran.bump (told := G.told) hme h2 (k4 _ this)
        | fail why => exact Ran.bump (told := G.told) hme h2 k1
        | long => exact Ran.bump (told := G.told) hme h2 k1
      · unfold stepP
        rw [if_neg h3]
        by_cases h4 : x.f0 = 15
        · rw [if_pos h4]
          exact Ran.bump hme h2 (ih ⟨G.left - 1, G.told ++ [rg { T with at_ := T.at_ + 1 } x.f1], bump G.log me⟩ path code me { T with at_ := T.at_ + 1 } hme' hb' hd)
        rw [if_neg h4]
        cases hs : simple x { T with at_ := T.at_ + 1 } with
        | go T' =>
          have e := simple_kids hs
          have := ih ⟨G.left - 1, G.told, bump G.log me⟩ path code me T' hme' hb' hd
          rw [e] at this
          exact Ran.bump (told := G.told) hme h2 this
        | stop why => exact Ran.bump (told := G.told) hme h2 (Ran.refl hme' hb')
/-! ### how many instructions are needed -/
/-- a run that ends uses so many instructions; with more it is the same, with less it is too long. -/
def Uses (l : List S58) (b d : Int) (G : Gs) (path : List Int) (code : List S55) (me : Nat) (T : Ts) (o : Out) (G' : Gs) (u : Nat) : Prop :=
  G.left = G'.left + u ∧ (∀ k L, u < k → runP l b d k { G with left := L + u } path code me T = (o, { G' with left := L })) ∧ (∀ k L, L < u → L < k → (runP l b d k { G with left := L } path code me T).1 = .long)
theorem uses_now {l : List S58} {b d : Int} {G : Gs} {path : List Int} {code : List S55} {me : Nat} {T : Ts} (h1 : (G.log.getD me ([], 0)).2 = b) : Uses l b d G path code me T (.fail 3) G 0 := by
  refine ⟨rfl, fun k L hk => ?_, fun k L h => absurd h (Nat.not_lt_zero _)⟩
  obtain ⟨k, rfl⟩ : ∃ j, k = j + 1 := ⟨k - 1, by omega⟩
  rw [runP.eq_2]
  exact if_pos h1
theorem uses_step {l : List S58} {b d : Int} {G G' : Gs} {path : List Int} {code : List S55} {me : Nat} {T : Ts} {o : Out} {u : Nat} (h1 : (G.log.getD me ([], 0)).2 ≠ b) (h2 : G.left ≠ 0)
    (hu : G.left - 1 = G'.left + u)
    (hgo : ∀ k L, u < k → (if (rd_T55 code T.at_).f0 = 17 then (.val (rg (syncP { T with at_ := T.at_ + 1 }) (rd_T55 code T.at_).f1), { G with left := L + u, log := bump G.log me })
      else match stepP l d (runP l b d k) path (rd_T55 code T.at_) { T with at_ := T.at_ + 1 } { G with left := L + u, log := bump G.log me } with
        | .go T' G' => runP l b d k G' path code me T'
        | .stop o G' => (o, G')) = (o, { G' with left := L }))
    (hlo : ∀ k L, L < u → L < k → ((if (rd_T55 code T.at_).f0 = 17 then (.val (rg (syncP { T with at_ := T.at_ + 1 }) (rd_T55 code T.at_).f1), { G with left := L, log := bump G.log me })
      else match stepP l d (runP l b d k) path (rd_T55 code T.at_) { T with at_ := T.at_ + 1 } { G with left := L, log := bump G.log me } with
        | .go T' G' => runP l b d k G' path code me T'
        | .stop o G' => (o, G') : Out × Gs)).1 = .long) : Uses l b d G path code me T o G' (u + 1) := by
  refine ⟨by omega, fun k L hk => ?_, fun k L h hk => ?_⟩
  · obtain ⟨k, rfl⟩ : ∃ j, k = j + 1 := ⟨k - 1, by omega⟩
    rw [runP.eq_2, if_neg h1, if_neg (show ¬ (L + (u + 1) = 0) by omega)]
    exact hgo k L (by omega)
  · obtain ⟨k, rfl⟩ : ∃ j, k = j + 1 := ⟨k - 1, by omega⟩
    rw [runP.eq_2, if_neg h1]
    cases L with
    | zero => rw [if_pos rfl]
    | succ L =>
      rw [if_neg (show ¬ (L + 1 = 0) by omega)]
      exact hlo k L (by omega) (by omega)
theorem run_uses (l : List S58) (b d : Int) : ∀ (k : Nat) (G : Gs) (path : List Int) (code : List S55) (me : Nat) (T : Ts) (o : Out) (G' : Gs), runP l b d k G path code me T = (o, G') → o ≠ .long → ∃ u, Uses l b d G path code me T o G' u := by
  intro k
  induction k with
  | zero => intro G path code me T o G' h ho; cases h; exact absurd rfl ho
  | succ k ih =>
    intro G path code me T o G' h ho
    rw [runP.eq_2] at h
    by_cases h1 : (G.log.getD me ([], 0)).2 = b
    · rw [if_pos h1] at h; cases h; exact ⟨0, uses_now h1⟩
    rw [if_neg h1] at h
    by_cases h2 : G.left = 0
    · rw [if_pos h2] at h; cases h; exact absurd rfl ho
    rw [if_neg h2] at h
    by_cases h17 : (rd_T55 code T.at_).f0 = 17
    · rw [if_pos h17] at h
      cases h
      refine ⟨0 + 1, uses_step h1 h2 rfl (fun k L _ => ?_) (fun k L hL => absurd hL (Nat.not_lt_zero _))⟩
      rw [if_pos h17]; rfl
    rw [if_neg h17] at h
    obtain ⟨x, hx⟩ : ∃ x, x = rd_T55 code T.at_ := ⟨_, rfl⟩
    rw [← hx] at h h17
    by_cases h3 : x.f0 = 11 ∨ x.f0 = 13
    · by_cases h4 : (path.length : Int) = d
      · have e : ∀ (k : Nat) (G : Gs), stepP l d (runP l b d k) path x { T with at_ := T.at_ + 1 } G = .stop (.fail 4) G := fun k G => by unfold stepP; rw [if_pos h3, if_pos h4]
        rw [e] at h
        cases h
        refine ⟨0 + 1, uses_step h1 h2 rfl (fun k L _ => ?_) (fun k L hL => absurd hL (Nat.not_lt_zero _))⟩
        rw [← hx, if_neg h17, e]; rfl
      · generalize hq : runP l b d k ⟨G.left - 1, G.told, bump G.log me ++ [(path ++ [(T.kids : Int)], 0)]⟩ (path ++ [(T.kids : Int)]) (rd_T58 l x.f3).f1 (bump G.log me).length (newTask (argsOf l x { T with at_ := T.at_ + 1 }) T.hands) = q at h
        obtain ⟨o1, G1⟩ := q
        rw [step_kid (T := { T with at_ := T.at_ + 1 }) (G := { left := G.left - 1, told := G.told, log := bump G.log me }) h3 h4 hq] at h
        by_cases ho1 : o1 = .long
        · subst ho1; cases h; exact absurd rfl ho
        obtain ⟨u1, e1, g1, l1⟩ := ih _ _ _ _ _ o1 G1 hq ho1
        have e1 : G.left - 1 = G1.left + u1 := e1
        cases o1 with
        | long => exact absurd rfl ho1
        | fail why =>
          cases h
          refine ⟨u1 + 1, uses_step h1 h2 e1 (fun k L hk => ?_) (fun k L hL hk => ?_)⟩
          · rw [← hx, if_neg h17, step_kid (T := { T with at_ := T.at_ + 1 }) (G := { left := L + u1, told := G.told, log := bump G.log me }) h3 h4 (g1 k L hk)]; rfl
          · obtain ⟨q, hq2⟩ : ∃ q, runP l b d k ⟨L, G.told, bump G.log me ++ [(path ++ [(T.kids : Int)], 0)]⟩ (path ++ [(T.kids : Int)]) (rd_T58 l x.f3).f1 (bump G.log me).length (newTask (argsOf l x { T with at_ := T.at_ + 1 }) T.hands) = q := ⟨_, rfl⟩
            have hl := l1 k L hL hk
            rw [show runP l b d k _ _ _ _ _ = q from hq2] at hl
            obtain ⟨o2, G2⟩ := q
            have hl : o2 = .long := hl
            subst hl
            rw [← hx, if_neg h17, step_kid (T := { T with at_ := T.at_ + 1 }) (G := { left := L, told := G.told, log := bump G.log me }) h3 h4 hq2]; rfl
        | val v =>
          obtain ⟨u2, e2, g2, l2⟩ := ih _ _ _ _ _ o G' h ho
          refine ⟨u1 + u2 + 1, uses_step h1 h2 (by omega) (fun k L hk => ?_) (fun k L hL hk => ?_)⟩
          · have g := g1 k (L + u2) (by omega)
            rw [← hx, if_neg h17, show L + (u1 + u2) = L + u2 + u1 by omega, step_kid (T := { T with at_ := T.at_ + 1 }) (G := { left := L + u2 + u1, told := G.told, log := bump G.log me }) h3 h4 g]
            exact g2 k L (by omega)
          · by_cases hL1 : L < u1
            · obtain ⟨q, hq2⟩ : ∃ q, runP l b d k ⟨L, G.told, bump G.log me ++ [(path ++ [(T.kids : Int)], 0)]⟩ (path ++ [(T.kids : Int)]) (rd_T58 l x.f3).f1 (bump G.log me).length (newTask (argsOf l x { T with at_ := T.at_ + 1 }) T.hands) = q := ⟨_, rfl⟩
              have hl := l1 k L hL1 hk
              rw [show runP l b d k _ _ _ _ _ = q from hq2] at hl
              obtain ⟨o2, G2⟩ := q
              have hl : o2 = .long := hl
              subst hl
              rw [← hx, if_neg h17, step_kid (T := { T with at_ := T.at_ + 1 }) (G := { left := L, told := G.told, log := bump G.log me }) h3 h4 hq2]; rfl
            · obtain ⟨L2, rfl⟩ : ∃ L2, L = L2 + u1 := ⟨L - u1, by omega⟩
              have g := g1 k L2 (by omega)
              rw [← hx, if_neg h17, step_kid (T := { T with at_ := T.at_ + 1 }) (G := { left := L2 + u1, told := G.told, log := bump G.log me }) h3 h4 g]
              exact l2 k L2 (by omega) (by omega)
    · by_cases h4 : x.f0 = 15
      · have e : ∀ (k : Nat) (G : Gs), stepP l d (runP l b d k) path x { T with at_ := T.at_ + 1 } G = .go { T with at_ := T.at_ + 1 } { G with told := G.told ++ [rg { T with at_ := T.at_ + 1 } x.f1] } := fun k G => by unfold stepP; rw [if_neg h3, if_pos h4]
        rw [e] at h
        obtain ⟨u, e2, g2, l2⟩ := ih _ _ _ _ _ o G' h ho
        refine ⟨u + 1, uses_step h1 h2 e2 (fun k L hk => ?_) (fun k L hL hk => ?_)⟩
        · rw [← hx, if_neg h17, e]; exact g2 k L hk
        · rw [← hx, if_neg h17, e]; exact l2 k L hL hk
      cases hs : simple x { T with at_ := T.at_ + 1 } with
      | go T' =>
        have e : ∀ (k : Nat) (G : Gs), stepP l d (runP l b d k) path x { T with at_ := T.at_ + 1 } G = .go T' G := fun k G => by unfold stepP; rw [if_neg h3, if_neg h4, hs]
        rw [e] at h
        obtain ⟨u, e2, g2, l2⟩ := ih _ _ _ _ _ o G' h ho
        refine ⟨u + 1, uses_step h1 h2 e2 (fun k L hk => ?_) (fun k L hL hk => ?_)⟩
        · rw [← hx, if_neg h17, e]; exact g2 k L hk
        · rw [← hx, if_neg h17, e]; exact l2 k L hL hk
      | stop why =>
        have e : ∀ (k : Nat) (G : Gs), stepP l d (runP l b d k) path x { T with at_ := T.at_ + 1 } G = .stop (.fail why) G := fun k G => by unfold stepP; rw [if_neg h3, if_neg h4, hs]
        rw [e] at h
        cases h
        refine ⟨0 + 1, uses_step h1 h2 rfl (fun k L _ => ?_) (fun k L hL => absurd hL (Nat.not_lt_zero _))⟩
        rw [← hx, if_neg h17, e]; rfl
/-! ### of a whole program -/
/-- what is noted by an evaluation that ends. -/
structure BookP (b d : Int) (most : Nat) (log : List (List Int × Int)) : Prop where
  ne : ∃ s r, log = ([], s) :: r
  le : ∀ e ∈ log, 0 ≤ e.2 ∧ e.2 ≤ b ∧ (e.1.length : Int) ≤ d
  up : log.Pairwise (fun x y => ltP x.1 y.1)
  sum : tot log ≤ most
theorem evalR_book {l : List S58} {args : List Int} {b d : Int} {most : Nat} {r : Int × Int × List Int × List (List Int × Int)} (h : evalR l args b d most = (r, 0)) :
    evRight l args.length b d = true ∧ (r.2.1 = 0 ∨ r.1 = 0) ∧ BookP b d most r.2.2.2 ∧ 1 ≤ tot r.2.2.2 ∧
    (∀ more : Nat, evalR l args b d ((tot r.2.2.2).toNat + more) = (r, 0)) ∧ evalR l args b d ((tot r.2.2.2).toNat - 1) = (noR, 3) := by
  by_cases hr : evRight l args.length b d = true
  · obtain ⟨hl, hb, hd, hn, hn4⟩ := evRight_ok hr
    have hran := run_ran l b d (by omega) (most + 1) ⟨most, [], [([], 0)]⟩ [] (rd_T58 l 0).f1 0 (newTask args noHands) (Nat.zero_lt_one) (by show (0 : Int) ≤ b; omega) (by show (0 : Int) ≤ d; omega)
    have he := evalR_end (most := most) hr
    have heq := h
    rw [he] at heq
    generalize hq : runP l b d (most + 1) ⟨most, [], [([], 0)]⟩ [] (rd_T58 l 0).f1 0 (newTask args noHands) = q at heq hran
    obtain ⟨o, G⟩ := q
    obtain ⟨s, add, a1, a2, a3, a4, a5, a6⟩ := hran
    have a1 : G.log = ([], s) :: add := a1
    have a3 : 0 ≤ s := a3
    have a6 : (G.left : Int) + s + tot add = most + 0 := a6
    have hlog : ∀ r', endR (o, G) = (r', 0) → r'.2.2.2 = G.log ∧ (r'.2.1 = 0 ∨ r'.1 = 0) ∧ o ≠ .long := by
      intro r' hr'
      cases o with
      | val v => cases hr'; exact ⟨rfl, .inl rfl, fun e => by cases e⟩
      | fail why => cases hr'; exact ⟨rfl, .inr rfl, fun e => by cases e⟩
      | long => cases hr'
    obtain ⟨e1, e2, e3⟩ := hlog r heq
    obtain ⟨u, u1, u2, u3⟩ := run_uses l b d _ _ _ _ _ _ _ _ hq e3
    have u1 : most = G.left + u := u1
    have htot : tot G.log = u := by rw [a1]; show s + tot add = _; omega
    have hu1 : 1 ≤ u := by
      rcases Nat.eq_zero_or_pos u with h0 | h0
      · exfalso
        subst h0
        have h1 := u2 1 0 Nat.zero_lt_one
        rw [runP.eq_2, if_neg (by show ¬ ((0 : Int) = b); omega), if_pos rfl] at h1
        injection h1 with h1 _
        exact e3 h1.symm
      · exact h0
    refine ⟨hr, e2, ⟨⟨s, add, by rw [e1, a1]⟩, ?_, ?_, ?_⟩, by rw [e1, htot]; omega, fun more => ?_, ?_⟩
    · rw [e1, a1]
      intro e he
      rcases List.mem_cons.1 he with rfl | he
      · exact ⟨a3, a2, by show (0 : Int) ≤ d; omega⟩
      · obtain ⟨_, h2, h3, h4⟩ := a4 e he
        exact ⟨h4, h3, h2⟩
    · rw [e1, a1]
      refine List.pairwise_cons.2 ⟨fun e he => ?_, a5⟩
      obtain ⟨⟨j, r', _, e5⟩, _⟩ := a4 e he
      rw [e5]
      exact ltP_ext [] _ _
    · rw [e1, htot]; omega
    · rw [evalR_end hr, e1, htot, Int.toNat_natCast]
      have h1 := u2 (u + more + 1) more (by omega)
      have h2 : runP l b d (u + more + 1) ⟨u + more, [], [([], 0)]⟩ [] (rd_T58 l 0).f1 0 (newTask args noHands) = (o, { G with left := more }) := by
        rw [← h1, Nat.add_comm u more]
      rw [h2, ← heq]
      cases o <;> rfl
    · rw [evalR_end hr, e1, htot, Int.toNat_natCast]
      have h1 := u3 (u - 1 + 1) (u - 1) (by omega) (by omega)
      have h1 : (runP l b d (u - 1 + 1) ⟨u - 1, [], [([], 0)]⟩ [] (rd_T58 l 0).f1 0 (newTask args noHands)).1 = .long := h1
      generalize runP l b d (u - 1 + 1) ⟨u - 1, [], [([], 0)]⟩ [] (rd_T58 l 0).f1 0 (newTask args noHands) = q2 at h1
      obtain ⟨o2, G2⟩ := q2
      have h1 : o2 = .long := h1
      subst h1
      rfl
  · exfalso
    unfold evalR at h
    rw [if_neg hr] at h
    cases h
end Go.Proofs.Ytnhipdniceoigaa.H

set_option linter.unusedVariables false
set_option linter.unusedSimpArgs false
namespace Go.Proofs.Ytnhipdniceoigaa.H
open Go.RowKit Go.Hay Go.Proofs.YtnhipdniceoigaaW.PrintWords Go.Proofs.YtnhipdniceoigaaW.PrintLast Go.Proofs.YtnhipdniceoigaaW.PrintMore
theorem up_lt {k i : Nat} (h : i < k) : k - (intOf (.int .i64 ((i : Int) + 1))).toNat < k - (intOf (.int .i64 (i : Int))).toNat := by simp [intOf]; omega
end Go.Proofs.Ytnhipdniceoigaa.H

set_option linter.unusedVariables false
set_option linter.unusedSimpArgs false
namespace Go.Hay
open Go.RowKit
inductive Turns where
  | done
  | take (i : Nat) (t : Turns)
  | op (i : Nat) (t : Turns)
  | fin (i : Nat) (t : Turns)
  | alt (i j : Nat) (t u : Turns)
def Turns.many : Turns → Nat
  | .done => 0
  | .take _ t => t.many + 1
  | .op _ t => t.many + 1
  | .fin _ t => t.many + 1
  | .alt _ _ t _ => t.many + 1
/-- takes, one behind the other. -/
def Turns.takes : List Nat → Turns → Turns
  | [], t => t
  | i :: l, t => .take i (takes l t)
section
variable {P : Program} {md : Region.Mode} {ops : Array Oper} {Q : Exit → Act → World → Prop} {S : World → Prop} {F : List Nat}
def runT (P : Program) (ops : Array Oper) (Q : Exit → Act → World → Prop) (S : World → Prop) : Turns → Act → World → Prop
  | .done, a, w => Q .normal a w
  | .take i t, a, w => ∃ o v, ops[i]? = some o ∧ YieldsIf P ops S o v a ∧ S w ∧ runT P ops Q S t (a.put o.dst v) w
  | .op i t, a, w => wpOp P ops Q i (fun a' w' => S w' ∧ runT P ops Q S t a' w') a w
  | .fin i t, a, w => wpOp P ops Q i (fun a' w' => runT P ops Q S t a' w') a w
  | .alt i j t u, a, w => wpOp P ops Q i (fun a' w' => S w' ∧ runT P ops Q S t a' w') a w ∧ wpOp P ops Q j (fun a' w' => S w' ∧ runT P ops Q S u a' w') a w
def okT (md : Region.Mode) (ops : Array Oper) (F : List Nat) : Turns → Array Bool → Bool
  | .done, listed => (Region.ready md ops listed).isEmpty
  | .take i t, listed => (Region.ready md ops listed).contains i && Region.free md ops listed i && blocks md ops F i && !F.contains i && okT md ops F t (listed.setIfInBounds i true)
  | .op i t, listed => (Region.ready md ops listed == [i]) && okT md ops F t (listed.setIfInBounds i true)
  | .fin i t, listed => (Region.ready md ops listed == [i]) && F.contains i && okT md ops F t (listed.setIfInBounds i true)
  | .alt i j t u, listed => (Region.ready md ops listed == [i, j]) && t.many == u.many && okT md ops F t (listed.setIfInBounds i true) && okT md ops F u (listed.setIfInBounds j true)
theorem wpAnyF_T (hs : Region.noSelect ops = true) (hQ : ∀ o ∈ ops.toList, ∀ c a v w, Q (.panic c) (a.put o.dst v) w → Q (.panic c) a w) :
    ∀ (t : Turns) (listed : Array Bool) (a : Act) (w : World), Closed md ops listed → okT md ops F t listed = true → runT P ops Q S t a w → wpAnyF P md ops Q S F t.many listed a w
  | .done, listed, a, w, _, hk, h => ⟨by simpa [okT] using hk, h⟩
  | .take i t, listed, a, w, inv, hk, h => by
    simp only [okT, Bool.and_eq_true, Bool.not_eq_true'] at hk
    obtain ⟨o, v, ho, hy, hS, hr⟩ := h
    have hi : i ∈ Region.ready md ops listed := by simpa using hk.1.1.1.1
    exact wpAnyF_first ho (Region.noSelect_spec hs) (fun c a w => hQ o (Array.mem_toList_iff.2 (Array.mem_of_getElem? ho)) c a v w) hk.1.1.2 t.many listed a w inv hk.1.2
      (Region.free_spec ho hk.1.1.1.2) hi hy hS (wpAnyF_T hs hQ t _ _ _ (inv.set hi) hk.2 hr)
  | .op i t, listed, a, w, inv, hk, h => by
    simp only [okT, Bool.and_eq_true, beq_iff_eq] at hk
    have hi : i ∈ Region.ready md ops listed := by rw [hk.1]; simp
    exact wpAnyF_one hk.1 (wpOp_mono (fun a' w' h' => ⟨h'.1, wpAnyF_T hs hQ t _ _ _ (inv.set hi) hk.2 h'.2⟩) h)
  | .fin i t, listed, a, w, inv, hk, h => by
    simp only [okT, Bool.and_eq_true, beq_iff_eq] at hk
    refine ⟨fun h0 => (by rw [hk.1.1] at h0; cases h0), fun j hj => ?_⟩
    have hji : j = i := by rw [hk.1.1] at hj; simpa using hj
    subst hji
    exact wpOp_mono (fun a' w' h' => ⟨fun hc => (by rw [hk.1.2] at hc; cases hc), wpAnyF_T hs hQ t _ _ _ (inv.set hj) hk.2 h'⟩) h
  | .alt i j t u, listed, a, w, inv, hk, h => by
    simp only [okT, Bool.and_eq_true, beq_iff_eq] at hk
    obtain ⟨⟨⟨h1, h2⟩, h3⟩, h4⟩ := hk
    have hi : i ∈ Region.ready md ops listed := by rw [h1]; simp
    have hj : j ∈ Region.ready md ops listed := by rw [h1]; simp
    refine ⟨fun h0 => (by rw [h1] at h0; cases h0), fun k hk => ?_⟩
    have hk2 : k = i ∨ k = j := by rw [h1] at hk; simpa using hk
    rcases hk2 with rfl | rfl
    · exact wpOp_mono (fun a' w' h' => ⟨fun _ => h'.1, wpAnyF_T hs hQ t _ _ _ (inv.set hi) h3 h'.2⟩) h.1
    · have := fun a' w' (h' : S w' ∧ runT P ops Q S u a' w') => wpAnyF_T hs hQ u _ a' w' (inv.set hj) h4 h'.2
      rw [← h2] at this
      exact wpOp_mono (fun a' w' h' => ⟨fun _ => h'.1, this a' w' h'⟩) h.2
theorem wp_region_T {id : Nat} {a : Act} {w : World} (S : World → Prop) (F : List Nat) (t : Turns) (hm : P.follows .mixedOrders = true) (hs : Region.noSelect ops = true) (hl : t.many = ops.size)
    (hk : okT .any ops F t (Array.replicate ops.size false) = true)
    (hQ : ∀ o ∈ ops.toList, ∀ c a v w, Q (.panic c) (a.put o.dst v) w → Q (.panic c) a w)
    (h : runT P ops Q S t a w.drew) : (Code.region id ops true).wp P Q a w :=
  wp_region_any hm (wpAny_of_F _ _ _ _ (hl ▸ wpAnyF_T hs hQ t _ _ _ Closed.start hk h))
theorem runT_done {a : Act} {w : World} (h : Q .normal a w) : runT P ops Q S .done a w := h
theorem runT_take {i : Nat} {o : Oper} {v : Value} {t : Turns} {a : Act} {w : World} (ho' : ops.toList[i]? = some o) (hw : Region.wanted o (yielded ops a.tmps) = true)
    (hy : ∀ w', S w' → (execOp a.eval o).run P w' = .ok (.value v) w') (hS : S w) (h : runT P ops Q S t (a.put o.dst v) w) : runT P ops Q S (.take i t) a w :=
  ⟨o, v, by simpa using ho', .inl ⟨hw, hy⟩, hS, h⟩
theorem runT_skip {i : Nat} {o : Oper} {t : Turns} {a : Act} {w : World} (ho' : ops.toList[i]? = some o) (hw : Region.wanted o (yielded ops a.tmps) = false)
    (hS : S w) (h : runT P ops Q S t (a.put o.dst undef) w) : runT P ops Q S (.take i t) a w :=
  ⟨o, undef, by simpa using ho', .inr ⟨hw, rfl⟩, hS, h⟩
theorem runT_op {i : Nat} {o : Oper} {t : Turns} {a : Act} {w : World} (ho' : ops.toList[i]? = some o) (hw : Region.wanted o (yielded ops a.tmps) = true)
    (h : ∀ K : Act → World → Prop, (∀ a' w', S w' → runT P ops Q S t a' w' → K a' w') → o.wp P a w K Q) : runT P ops Q S (.op i t) a w :=
  wpOp_at (R := fun a' w' => S w' ∧ runT P ops Q S t a' w') ho' hw fun K hK => h K fun a' w' hS hr => hK a' w' ⟨hS, hr⟩
theorem runT_alt {i j : Nat} {oi oj : Oper} {t u : Turns} {a : Act} {w : World} (hoi : ops.toList[i]? = some oi) (hoj : ops.toList[j]? = some oj) (hwi : Region.wanted oi (yielded ops a.tmps) = true) (hwj : Region.wanted oj (yielded ops a.tmps) = true)
    (h1 : ∀ K : Act → World → Prop, (∀ a' w', S w' → runT P ops Q S t a' w' → K a' w') → oi.wp P a w K Q)
    (h2 : ∀ K : Act → World → Prop, (∀ a' w', S w' → runT P ops Q S u a' w' → K a' w') → oj.wp P a w K Q) : runT P ops Q S (.alt i j t u) a w :=
  ⟨wpOp_at (R := fun a' w' => S w' ∧ runT P ops Q S t a' w') hoi hwi fun K hK => h1 K fun a' w' hS hr => hK a' w' ⟨hS, hr⟩, wpOp_at (R := fun a' w' => S w' ∧ runT P ops Q S u a' w') hoj hwj fun K hK => h2 K fun a' w' hS hr => hK a' w' ⟨hS, hr⟩⟩
end
end Go.Hay

set_option linter.unusedVariables false
set_option linter.unusedSimpArgs false
namespace Go.Proofs.Ytnhipdniceoigaa.H
open Go.RowKit Go.Hay Go.Proofs.YtnhipdniceoigaaW.PrintWords Go.Proofs.YtnhipdniceoigaaW.PrintLast Go.Proofs.YtnhipdniceoigaaW.PrintMore
theorem light_any (Ap : Option Addr) (cp : Nat) (P : List S68) (w : World) (hP : k68.C w Ap P.length P) (hcp : P.length ≤ cp) :
    ∃ b : Bool, (b = true → P.length ≤ 20 ∧ ∀ f ∈ P, f.f1.length ≤ 70) ∧ Calls Try.prog 11 #[.slice Ap P.length cp] w fun e w' => e = .returned (.bool b) ∧ Below w.heap.size w w' := by
  obtain ⟨b, ⟨K, hK⟩, h⟩ := light_ev P
  exact ⟨b, h, (haymowlaw06_light.calls K Ap cp P b w hP hcp (hK K (Nat.le_refl _))).mono fun e w' hp => ⟨hp.1, hp.2.below⟩⟩
/-- a document's program as_ the program's: new, and read in whatever world comes behind. -/
theorem of_any (Ap : Option Addr) (cp : Nat) (P : List S68) (w : World) (hP : k68.C w Ap P.length P) (hcp : P.length ≤ cp) (hl : P.length ≤ 20) (hf : ∀ f ∈ P, f.f1.length ≤ 70) :
    Calls Try.prog 13 #[.slice Ap P.length cp] w fun e w' => Below w.heap.size w w' ∧ ∃ A c, e = .returned (.slice A P.length c) ∧ P.length ≤ c ∧ k58.C w' A (P.map ofF).length (P.map ofF) := by
  obtain ⟨K, hK⟩ := of_ev P (by omega) (fun f h => by have := hf f h; omega)
  refine (haymowlaw06_of.calls K Ap cp P _ w hP hcp (hK K (Nat.le_refl _))).mono ?_
  rintro e w' ⟨v, rfl, hS, hb⟩
  obtain ⟨A, c, rfl⟩ := Kd.R_slice (Kd.S_R hS)
  have hq := Kd.R_reads' (Kd.S_R hS)
  have hq1 := hq.2.1
  rw [List.length_map] at hq1
  refine ⟨hb, A, c, ?_, hq1, hq.2.2⟩
  rw [List.length_map]
theorem eval_of (A : Option Addr) (c : Nat) (P : List S68) (Aa : Option Addr) (ca : Nat) (args : List Int) (b d most : Int) (w : World) (hC : k58.C w A (P.map ofF).length (P.map ofF)) (hc : P.length ≤ c) (hA : (Kd.int .i64).C w Aa args.length args) (hca : args.length ≤ ca) (hm : most ≤ 900000) {r : EvR} (hr : r = evalR (P.map ofF) args b d most.toNat) :
    Calls Try.prog 12 #[.slice A P.length c, .slice Aa args.length ca, .agg #[.int .i64 b, .int .i64 d], .int .i64 most] w (EvalPost w r) := by
  rw [hr]
  have := Eval_any (b := b) (d := d) (most := most) (c := c) hC (by rw [List.length_map]; exact hc) hA hca hm
  rwa [List.length_map] at this
/-- behind an evaluation whose result is stored at bx. -/
structure AfterE (w W : World) (bx : Nat) (rv rf : Int) (told : List Int) (log : List (List Int × Int)) (At : Option Addr) (ct : Nat) (Al : Option Addr) (cl : Nat) : Prop where
  below : Below w.heap.size w W
  box : W.heap[bx]? = some (.cells #[.int .i64 rv, .int .i64 rf, .slice At told.length ct, .slice Al log.length cl] 30 (0, 0))
  res : ResC W (rv, rf, told, log) At ct Al cl
  new : w.heap.size ≤ bx
/-- ways that meet again: the frame is found where the first one ends. -/
theorem with_act {G : Prop} {F : Nat → Option Addr → Nat → Option Addr → Nat → Option Addr → Nat → World → Prop} {K : Act → World → Prop} (act : Nat → Option Addr → Nat → Option Addr → Nat → Option Addr → Nat → Act)
    (H : (∀ bx A c At ct Al cl W, F bx A c At ct Al cl W → K (act bx A c At ct Al cl) W) → G) (h : ∀ bx A c At ct Al cl W, F bx A c At ct Al cl W → K (act bx A c At ct Al cl) W) : G := H h
def zRes : Obj := .cells #[.int .i64 0, .int .i64 0, .slice none 0 0, .slice none 0 0] 30
theorem after_store {w w4 : World} {bx : Nat} {rv rf : Int} {told : List Int} {log : List (List Int × Int)} {At : Option Addr} {ct : Nat} {Al : Option Addr} {cl : Nat} (hb : Below w.heap.size w w4) (hx : w4.heap[bx]? = some zRes) (hn : w.heap.size ≤ bx) (hr : ResC w4 (rv, rf, told, log) At ct Al cl) {W : World}
    (hW : W = (((w4.setCell ⟨bx, 0, none⟩ (.int .i64 rv)).setCell ⟨bx, 1, none⟩ (.int .i64 rf)).setCell ⟨bx, 2, none⟩ (.slice At told.length ct)).setCell ⟨bx, 3, none⟩ (.slice Al log.length cl)) : AfterE w W bx rv rf told log At ct Al cl := by
  have hk : Keep (fun q => q = bx) w4 W := by
    rw [hW]
    exact ((((Keep.refl (fun q => q = bx) w4).set (p := ⟨bx, 0, none⟩) (.inr rfl) _).set (p := ⟨bx, 1, none⟩) (.inr rfl) _).set (p := ⟨bx, 2, none⟩) (.inr rfl) _).set (p := ⟨bx, 3, none⟩) (.inr rfl) _
  refine ⟨hb.trans (hk.below (B := w.heap.size) hb.size (fun q hq e => by subst e; omega)), ?_, hr.step hk (fun q _ e => by subst e; exact ⟨_, _, hx, by decide, by decide, by decide⟩), hn⟩
  have := blk_set (blk_set (blk_set (blk_set hx 0 (.int .i64 rv)) 1 (.int .i64 rf)) 2 (.slice At told.length ct)) 3 (.slice Al log.length cl)
  rw [hW]
  exact this
/-- the log of a result, entry by entry. -/
theorem log_cells {w : World} {rv rf : Int} {told : List Int} {log : List (List Int × Int)} {At : Option Addr} {ct : Nat} {Al : Option Addr} {cl : Nat} (h : ResC w (rv, rf, told, log) At ct Al cl) (h0 : 0 < log.length) :
    ∃ ad, Al = some ad ∧ ∀ i (hi : i < log.length), ∃ A0 c0, w.cell? (ad.add (i * 2)) = some (.slice A0 log[i].1.length c0) ∧ w.cell? ⟨(ad.add (i * 2)).block, (ad.add (i * 2)).off + 1, none⟩ = some (.int .i64 log[i].2) ∧ log[i].1.length ≤ c0 ∧ (Kd.int .i64).C w A0 log[i].1.length log[i].1 := by
  have hlogc : k49.C w Al log.length (log.map entS) := h.log
  obtain ⟨ad2, hA2, _⟩ := hlogc.2.2 h0
  refine ⟨ad2, hA2, fun i hi => ?_⟩
  obtain ⟨ad, A0, c0, e2, u0, u1, u2, u3⟩ := at_T49 hlogc (i : Int) (by omega) (by omega)
  rw [hA2] at e2
  cases e2
  have e : rd_T49 (log.map entS) (i : Int) = entS log[i] := by simp [rd_T49, hi]
  rw [Int.toNat_natCast] at u0 u1
  rw [e] at u0 u1 u2 u3
  exact ⟨A0, c0, u0, u1, u2, u3⟩
theorem tot_take (log : List (List Int × Int)) (i : Nat) (hi : i < log.length) : tot (log.take (i + 1)) = tot (log.take i) + log[i].2 := by
  rw [List.take_succ_eq_append_getElem hi, tot_app]
  simp [tot]
theorem tot_le {b d : Int} {most : Nat} {log : List (List Int × Int)} (h : BookP b d most log) (i : Nat) : 0 ≤ tot (log.take i) ∧ tot (log.take i) ≤ most := by
  have pos : ∀ l : List (List Int × Int), (∀ e ∈ l, 0 ≤ e.2) → 0 ≤ tot l := by
    intro l
    induction l with
    | nil => intro _; simp [tot]
    | cons e r ih => intro h; have h1 := h e (List.mem_cons_self ..); have h2 := ih (fun x hx => h x (List.mem_cons_of_mem _ hx)); simp only [tot]; omega
  have h1 := pos (log.take i) (fun e he => (h.le e (List.mem_of_mem_take he)).1)
  have h2 := pos (log.drop i) (fun e he => (h.le e (List.mem_of_mem_drop he)).1)
  have h3 := h.sum
  have h4 : tot log = tot (log.take i) + tot (log.drop i) := by rw [← tot_app, List.take_append_drop]
  omega
end Go.Proofs.Ytnhipdniceoigaa.H

set_option linter.unusedVariables false
set_option linter.unusedSimpArgs false
namespace Go.Proofs.Ytnhipdniceoigaa.H
open Go.RowKit Go.Hay Go.Proofs.YtnhipdniceoigaaW.PrintWords Go.Proofs.YtnhipdniceoigaaW.PrintLast Go.Proofs.YtnhipdniceoigaaW.PrintMore
set_option maxRecDepth 100000 in
set_option maxHeartbeats 8000000 in
theorem bounds_walk (Ap : Option Addr) (cp : Nat) (P : List S68) (Aa : Option Addr) (ca : Nat) (args : List Int) (b d : Int) (w : World) (hP : k68.C w Ap P.length P) (hcp : P.length ≤ cp) (hA : (Kd.int .i64).C w Aa args.length args) (hca : args.length ≤ ca) :
    Calls Try.prog 4 #[.agg #[.slice Ap P.length cp, .slice Aa args.length ca, .int .i64 b, .int .i64 d]] w fun e w' => e = .returned (.bool true) ∧ Below w.heap.size w w' := by
  obtain ⟨W1, hW1⟩ : ∃ W1, W1 = w.alloc (.cells #[.slice Ap P.length cp, .slice Aa args.length ca, .int .i64 b, .int .i64 d] 25) := ⟨_, rfl⟩
  have hb1 : Below w.heap.size w W1 := by rw [hW1]; exact (Below.refl w.heap.size w).alloc (Nat.le_refl _) _
  have hx1 : W1.heap[w.heap.size]? = some (.cells #[.slice Ap P.length cp, .slice Aa args.length ca, .int .i64 b, .int .i64 d] 25 (0, 0)) := by rw [hW1]; exact alloc_blk w _
  obtain ⟨lb, hlb, hlight⟩ := light_any Ap cp P W1 (Kd.C_below hP hb1) hcp
  have H0 := Aside0.mk (And.intro hP (And.intro hcp (And.intro hA (And.intro hca (And.intro hb1 hx1)))))
  have HL := Aside0.mk hlight
  have HLB := Aside0.mk hlb
  have HW1 := Aside0.mk hW1
  have x0 := blk_cell hx1 0
  have x1 := blk_cell hx1 1
  clear hP hcp hA hca hb1 hx1 hlight hlb hW1
  go_enter Try.func4, Try.ntmps4
  go_upto_region 1 with (fail)
  rw [← HW1.out]
  go_wp2_with fail
  refine HL.out.mono ?_
  rintro e w2 ⟨rfl, hb2⟩
  have HB2 := Aside0.mk (H0.out.2.2.2.2.1.trans (hb2.mono H0.out.2.2.2.2.1.size))
  have hx2 := (hb2.block _ (blk_lt H0.out.2.2.2.2.2)).trans H0.out.2.2.2.2.2
  have HX2 := Aside0.mk hx2
  have HLW := Aside0.mk hb2
  clear x0 x1 hb2 HW1
  have x0 := blk_cell hx2 0
  have x1 := blk_cell hx2 1
  clear hx2
  cases lb with
  | false =>
    clear HL HLB
    go_wp2_with fail
    go_ret
    exact ⟨rfl, HB2.out⟩
  | true =>
    obtain ⟨hl20, hl70⟩ := HLB.out rfl
    have HLL := Aside0.mk (And.intro hl20 hl70)
    clear HL HLB hl20 hl70
    by_cases hn : 20 < args.length
    · have hn2 : ((args.length : Int) > 20) = True := eq_true (by omega)
      clear hn
      go_wp2_with fail
      go_ret
      exact ⟨rfl, HB2.out⟩
    · have hn2 : ((args.length : Int) > 20) = False := eq_false (by omega)
      have HN := Aside0.mk hn
      clear hn
      go_upto_region 3 with (fail)
      refine wp_region_T (fun w' => Below (w2).heap.size (w2) w') [] (.takes [0, 1, 3, 4, 5, 6, 7, 8, 9] (.alt 2 14 (.alt 10 14 (.takes [11, 12, 13] (.op 14 (.op 15 (.op 16 .done)))) (.op 10 (.takes [11, 12, 13] (.op 15 (.op 16 .done))))) (.op 2 (.op 10 (.takes [11, 12, 13] (.op 15 (.op 16 .done))))))) (by kernel_rfl) (by kernel_rfl) (by kernel_rfl) (by kernel_rfl) (panic_via (P := Try.prog) (fn := Try.f4) (R := fun e w' => e = .returned (.bool true) ∧ Below w.heap.size w w') (fun _ _ _ => rfl)) ?_
      obtain ⟨wd, hwd⟩ : ∃ wd, wd = (w2).drew := ⟨_, rfl⟩
      rw [← hwd]
      have hs : Below (w2).heap.size (w2) wd := by rw [hwd]; exact (Below.refl _ _).drew
      clear hwd
      simp only [Turns.takes]
      repeat (
        (first
          | (refine runT_take (v := ?_) (by rfl) (by rfl) (fun w' hS => ?_) hs ?_
             rotate_left
             · (have hX := (hS.block _ (blk_lt HX2.out)).trans HX2.out; have d0 := blk_cell hX 0; have d1 := blk_cell hX 1; have d2 := blk_cell hX 2; have d3 := blk_cell hX 3; go_simp; exact rfl))
          | refine runT_skip (by rfl) (by rfl) hs ?_)
        (try simp only [Act.put, List.setIfInBounds_toArray, List.set_cons_zero, List.set_cons_succ]))
      rename_i K0 hK0
      obtain ⟨r, hr⟩ : ∃ r, r = evalR (P.map ofF) args b d 3000 := ⟨_, rfl⟩
      obtain ⟨⟨rv, rf, told, log⟩, r2⟩ := r
      have HR := Aside0.mk hr
      clear hr
      refine' with_act (F := fun bx A c At ct Al cl W => AfterE w2 W bx rv rf told log At ct Al cl) (K := K0) _ (fun hfin => ?_) ?_
      rotate_left
      · refine runT_alt (by rfl) (by rfl) (by rfl) (by rfl) (fun K hK => ?_) (fun K hK => ?_)
        · go_simp
          refine (of_any Ap cp P _ (Kd.C_below H0.out.1 ((HB2).out.trans ((hs).mono (HB2).out.size))) H0.out.2.1 HLL.out.1 HLL.out.2).mono ?_
          rintro e w3 ⟨hb3, A, c, rfl, hc, hC⟩
          have hs3 := (hs).trans (hb3.mono (hs).size)
          have H3 := Aside0.mk (And.intro hc (And.intro hC hb3))
          refine hK _ _ hs3 ?_
          clear hK K hb3 hc hC
          (try simp only [Act.put, List.setIfInBounds_toArray, List.set_cons_zero, List.set_cons_succ])
          refine runT_alt (by rfl) (by rfl) (by rfl) (by rfl) (fun K hK => ?_) (fun K hK => ?_)
          · go_simp
            have hA3 := Kd.C_below H0.out.2.2.1 ((HB2).out.trans ((hs3).mono (HB2).out.size))
            refine (eval_of A c P Aa ca args b d 3000 w3 (Kd.C_below H3.out.2.1 (Below.refl _ _)) H3.out.1 hA3 H0.out.2.2.2.1 ((by decide)) HR.out).mono ?_
            rintro e w4 ⟨⟨At, ct, Al, cl, rfl, hrc⟩, hb4⟩
            have hs4 := (hs3).trans (hb4.mono (hs3).size)
            have H4 := Aside0.mk (And.intro hrc hb4)
            obtain ⟨V, hV⟩ : ∃ V, V = resV (((rv, rf, told, log), r2) : EvR).1 At ct Al cl := ⟨_, rfl⟩
            rw [← hV]
            have HV := Aside0.mk hV
            refine hK _ _ hs4 ?_
            clear hK K hb4 hrc hA3 hV
            (try simp only [Act.put, List.setIfInBounds_toArray, List.set_cons_zero, List.set_cons_succ])
            have hs := hs4
            repeat (
              (first
                | (refine runT_take (v := ?_) (by rfl) (by rfl) (fun w' hS => ?_) hs ?_
                   rotate_left
                   · (skip; go_simp; exact rfl))
                | refine runT_skip (by rfl) (by rfl) hs ?_)
              (try simp only [Act.put, List.setIfInBounds_toArray, List.set_cons_zero, List.set_cons_succ]))
            refine runT_op (by rfl) (by rfl) (fun K hK => ?_)
            go_simp
            obtain ⟨bx, hbx⟩ : ∃ bx, bx = (w4).heap.size := ⟨_, rfl⟩
            rw [← hbx]
            obtain ⟨w5, hw5⟩ : ∃ w5, w5 = (w4).alloc (.cells #[.int .i64 0, .int .i64 0, .slice none 0 0, .slice none 0 0] 30) := ⟨_, rfl⟩
            rw [← hw5]
            have hb5 : Below (w4).heap.size (w4) w5 := by rw [hw5]; exact (Below.refl (w4).heap.size (w4)).alloc (Nat.le_refl _) _
            have hx5 : w5.heap[bx]? = some zRes := by rw [hw5, hbx]; exact alloc_blk (w4) _
            have hs5 := (hs4).trans (hb5.mono (hs4).size)
            have H5 := Aside0.mk (And.intro hb5 (And.intro hx5 (show (w2).heap.size ≤ bx by rw [hbx]; exact (hs4).size)))
            refine hK _ _ hs5 ?_
            clear hK K hb5 hbx hw5 hx5
            (try simp only [Act.put, List.setIfInBounds_toArray, List.set_cons_zero, List.set_cons_succ])
            have hbox := H5.out.2.1
            rw [HV.out, show resV (((rv, rf, told, log), r2) : EvR).1 At ct Al cl = .agg #[.int .i64 rv, .int .i64 rf, .slice At told.length ct, .slice Al log.length cl] from rfl]
            have q0 := blk_cell hbox 0
            have q1 := blk_cell hbox 1
            have q2 := blk_cell hbox 2
            have q3 := blk_cell hbox 3
            have f0 := blk_frozen hbox 0
            have f1 := blk_frozen hbox 1
            have f2 := blk_frozen hbox 2
            have f3 := blk_frozen hbox 3
            refine runT_op (by rfl) (by rfl) (fun K hK => ?_)
            go_simp
            obtain ⟨W, hW⟩ : ∃ W, W = ((((w5).setCell ⟨bx, 0, none⟩ (.int .i64 rv)).setCell ⟨bx, 1, none⟩ (.int .i64 rf)).setCell ⟨bx, 2, none⟩ (.slice At told.length ct)).setCell ⟨bx, 3, none⟩ (.slice Al log.length cl) := ⟨_, rfl⟩
            rw [← hW]
            have hAE := after_store hs5 hbox H5.out.2.2 (H4.out.1.below H5.out.1) hW
            have HAE := Aside0.mk hAE
            refine hK _ _ hAE.below ?_
            clear hK K q0 q1 q2 q3 f0 f1 f2 f3 hW
            (try simp only [Act.put, List.setIfInBounds_toArray, List.set_cons_zero, List.set_cons_succ])
            refine runT_op (by rfl) (by rfl) (fun K hK => ?_)
            go_simp
            refine hK _ _ hAE.below ?_
            clear hK K hAE
            (try simp only [Act.put, List.setIfInBounds_toArray, List.set_cons_zero, List.set_cons_succ])
            refine runT_done ?_
            exact hfin bx A c At ct Al cl W HAE.out
          · go_simp
            obtain ⟨bx, hbx⟩ : ∃ bx, bx = (w3).heap.size := ⟨_, rfl⟩
            rw [← hbx]
            obtain ⟨w5, hw5⟩ : ∃ w5, w5 = (w3).alloc (.cells #[.int .i64 0, .int .i64 0, .slice none 0 0, .slice none 0 0] 30) := ⟨_, rfl⟩
            rw [← hw5]
            have hb5 : Below (w3).heap.size (w3) w5 := by rw [hw5]; exact (Below.refl (w3).heap.size (w3)).alloc (Nat.le_refl _) _
            have hx5 : w5.heap[bx]? = some zRes := by rw [hw5, hbx]; exact alloc_blk (w3) _
            have hs5 := (hs3).trans (hb5.mono (hs3).size)
            have H5 := Aside0.mk (And.intro hb5 (And.intro hx5 (show (w2).heap.size ≤ bx by rw [hbx]; exact (hs3).size)))
            refine hK _ _ hs5 ?_
            clear hK K hb5 hbx hw5 hx5
            (try simp only [Act.put, List.setIfInBounds_toArray, List.set_cons_zero, List.set_cons_succ])
            refine runT_op (by rfl) (by rfl) (fun K hK => ?_)
            go_simp
            have hA3 := Kd.C_below H0.out.2.2.1 ((HB2).out.trans ((hs5).mono (HB2).out.size))
            refine (eval_of A c P Aa ca args b d 3000 w5 (Kd.C_below H3.out.2.1 H5.out.1) H3.out.1 hA3 H0.out.2.2.2.1 ((by decide)) HR.out).mono ?_
            rintro e w4 ⟨⟨At, ct, Al, cl, rfl, hrc⟩, hb4⟩
            have hs4 := (hs5).trans (hb4.mono (hs5).size)
            have H4 := Aside0.mk (And.intro hrc hb4)
            obtain ⟨V, hV⟩ : ∃ V, V = resV (((rv, rf, told, log), r2) : EvR).1 At ct Al cl := ⟨_, rfl⟩
            rw [← hV]
            have HV := Aside0.mk hV
            refine hK _ _ hs4 ?_
            clear hK K hb4 hrc hA3 hV
            (try simp only [Act.put, List.setIfInBounds_toArray, List.set_cons_zero, List.set_cons_succ])
            have hs := hs4
            repeat (
              (first
                | (refine runT_take (v := ?_) (by rfl) (by rfl) (fun w' hS => ?_) hs ?_
                   rotate_left
                   · (skip; go_simp; exact rfl))
                | refine runT_skip (by rfl) (by rfl) hs ?_)
              (try simp only [Act.put, List.setIfInBounds_toArray, List.set_cons_zero, List.set_cons_succ]))
            have hbox := ((H4.out.2.block _ (blk_lt H5.out.2.1)).trans H5.out.2.1)
            rw [HV.out, show resV (((rv, rf, told, log), r2) : EvR).1 At ct Al cl = .agg #[.int .i64 rv, .int .i64 rf, .slice At told.length ct, .slice Al log.length cl] from rfl]
            have q0 := blk_cell hbox 0
            have q1 := blk_cell hbox 1
            have q2 := blk_cell hbox 2
            have q3 := blk_cell hbox 3
            have f0 := blk_frozen hbox 0
            have f1 := blk_frozen hbox 1
            have f2 := blk_frozen hbox 2
            have f3 := blk_frozen hbox 3
            refine runT_op (by rfl) (by rfl) (fun K hK => ?_)
            go_simp
            obtain ⟨W, hW⟩ : ∃ W, W = ((((w4).setCell ⟨bx, 0, none⟩ (.int .i64 rv)).setCell ⟨bx, 1, none⟩ (.int .i64 rf)).setCell ⟨bx, 2, none⟩ (.slice At told.length ct)).setCell ⟨bx, 3, none⟩ (.slice Al log.length cl) := ⟨_, rfl⟩
            rw [← hW]
            have hAE := after_store hs4 hbox H5.out.2.2 H4.out.1 hW
            have HAE := Aside0.mk hAE
            refine hK _ _ hAE.below ?_
            clear hK K q0 q1 q2 q3 f0 f1 f2 f3 hW
            (try simp only [Act.put, List.setIfInBounds_toArray, List.set_cons_zero, List.set_cons_succ])
            refine runT_op (by rfl) (by rfl) (fun K hK => ?_)
            go_simp
            refine hK _ _ hAE.below ?_
            clear hK K hAE
            (try simp only [Act.put, List.setIfInBounds_toArray, List.set_cons_zero, List.set_cons_succ])
            refine runT_done ?_
            exact hfin bx A c At ct Al cl W HAE.out
        · go_simp
          obtain ⟨bx, hbx⟩ : ∃ bx, bx = (wd).heap.size := ⟨_, rfl⟩
          rw [← hbx]
          obtain ⟨w5, hw5⟩ : ∃ w5, w5 = (wd).alloc (.cells #[.int .i64 0, .int .i64 0, .slice none 0 0, .slice none 0 0] 30) := ⟨_, rfl⟩
          rw [← hw5]
          have hb5 : Below (wd).heap.size (wd) w5 := by rw [hw5]; exact (Below.refl (wd).heap.size (wd)).alloc (Nat.le_refl _) _
          have hx5 : w5.heap[bx]? = some zRes := by rw [hw5, hbx]; exact alloc_blk (wd) _
          have hs5 := (hs).trans (hb5.mono (hs).size)
          have H5 := Aside0.mk (And.intro hb5 (And.intro hx5 (show (w2).heap.size ≤ bx by rw [hbx]; exact (hs).size)))
          refine hK _ _ hs5 ?_
          clear hK K hb5 hbx hw5 hx5
          (try simp only [Act.put, List.setIfInBounds_toArray, List.set_cons_zero, List.set_cons_succ])
          refine runT_op (by rfl) (by rfl) (fun K hK => ?_)
          go_simp
          refine (of_any Ap cp P _ (Kd.C_below H0.out.1 ((HB2).out.trans ((hs5).mono (HB2).out.size))) H0.out.2.1 HLL.out.1 HLL.out.2).mono ?_
          rintro e w3 ⟨hb3, A, c, rfl, hc, hC⟩
          have hs3 := (hs5).trans (hb3.mono (hs5).size)
          have H3 := Aside0.mk (And.intro hc (And.intro hC hb3))
          refine hK _ _ hs3 ?_
          clear hK K hb3 hc hC
          (try simp only [Act.put, List.setIfInBounds_toArray, List.set_cons_zero, List.set_cons_succ])
          refine runT_op (by rfl) (by rfl) (fun K hK => ?_)
          go_simp
          have hA3 := Kd.C_below H0.out.2.2.1 ((HB2).out.trans ((hs3).mono (HB2).out.size))
          refine (eval_of A c P Aa ca args b d 3000 w3 (Kd.C_below H3.out.2.1 (Below.refl _ _)) H3.out.1 hA3 H0.out.2.2.2.1 ((by decide)) HR.out).mono ?_
          rintro e w4 ⟨⟨At, ct, Al, cl, rfl, hrc⟩, hb4⟩
          have hs4 := (hs3).trans (hb4.mono (hs3).size)
          have H4 := Aside0.mk (And.intro hrc hb4)
          obtain ⟨V, hV⟩ : ∃ V, V = resV (((rv, rf, told, log), r2) : EvR).1 At ct Al cl := ⟨_, rfl⟩
          rw [← hV]
          have HV := Aside0.mk hV
          refine hK _ _ hs4 ?_
          clear hK K hb4 hrc hA3 hV
          (try simp only [Act.put, List.setIfInBounds_toArray, List.set_cons_zero, List.set_cons_succ])
          have hs := hs4
          repeat (
            (first
              | (refine runT_take (v := ?_) (by rfl) (by rfl) (fun w' hS => ?_) hs ?_
                 rotate_left
                 · (skip; go_simp; exact rfl))
              | refine runT_skip (by rfl) (by rfl) hs ?_)
            (try simp only [Act.put, List.setIfInBounds_toArray, List.set_cons_zero, List.set_cons_succ]))
          have hbox := ((H4.out.2.block _ (Nat.lt_of_lt_of_le (blk_lt H5.out.2.1) H3.out.2.2.size)).trans ((H3.out.2.2.block _ (blk_lt H5.out.2.1)).trans H5.out.2.1))
          rw [HV.out, show resV (((rv, rf, told, log), r2) : EvR).1 At ct Al cl = .agg #[.int .i64 rv, .int .i64 rf, .slice At told.length ct, .slice Al log.length cl] from rfl]
          have q0 := blk_cell hbox 0
          have q1 := blk_cell hbox 1
          have q2 := blk_cell hbox 2
          have q3 := blk_cell hbox 3
          have f0 := blk_frozen hbox 0
          have f1 := blk_frozen hbox 1
          have f2 := blk_frozen hbox 2
          have f3 := blk_frozen hbox 3
          refine runT_op (by rfl) (by rfl) (fun K hK => ?_)
          go_simp
          obtain ⟨W, hW⟩ : ∃ W, W = ((((w4).setCell ⟨bx, 0, none⟩ (.int .i64 rv)).setCell ⟨bx, 1, none⟩ (.int .i64 rf)).setCell ⟨bx, 2, none⟩ (.slice At told.length ct)).setCell ⟨bx, 3, none⟩ (.slice Al log.length cl) := ⟨_, rfl⟩
          rw [← hW]
          have hAE := after_store hs4 hbox H5.out.2.2 H4.out.1 hW
          have HAE := Aside0.mk hAE
          refine hK _ _ hAE.below ?_
          clear hK K q0 q1 q2 q3 f0 f1 f2 f3 hW
          (try simp only [Act.put, List.setIfInBounds_toArray, List.set_cons_zero, List.set_cons_succ])
          refine runT_op (by rfl) (by rfl) (fun K hK => ?_)
          go_simp
          refine hK _ _ hAE.below ?_
          clear hK K hAE
          (try simp only [Act.put, List.setIfInBounds_toArray, List.set_cons_zero, List.set_cons_succ])
          refine runT_done ?_
          exact hfin bx A c At ct Al cl W HAE.out
      · intro bx A c At ct Al cl W hAE
        have HAE := Aside0.mk hAE
        have HB5 := Aside0.mk (HB2.out.trans (hAE.below.mono HB2.out.size))
        have q3 := blk_cell hAE.box 3
        clear hAE hs x0 x1 HLW
        by_cases h0 : r2 = 0
        · obtain ⟨hrt, hv, hbk, htot, _, _⟩ := evalR_book (by rw [← HR.out, h0])
          have HBK := Aside0.mk (And.intro hbk (And.intro hv (evRight_ok hrt).2.2.1))
          have hr0 : (r2 != 0) = false := by simp [h0]
          obtain ⟨ad, had, hlc⟩ := log_cells HAE.out.res (by obtain ⟨s, r, e⟩ := hbk.ne; show 0 < log.length; rw [show log = _ from e]; simp)
          have HLC := Aside0.mk hlc
          have z2 := (blk_cell ((HAE.out.below.block _ (blk_lt HX2.out)).trans HX2.out) 2)
          have z3 := (blk_cell ((HAE.out.below.block _ (blk_lt HX2.out)).trans HX2.out) 3)
          clear HR h0 hrt hv hbk htot hlc
          subst had
          obtain ⟨L, hL⟩ : ∃ L, L = log.length := ⟨_, rfl⟩
          rw [← hL] at q3 ⊢
          have HLL2 := Aside0.mk hL
          clear hL
          go_wp2_with fail
          go_loopw [5, 6] (fun v5 v6 wr => ∃ i m : Nat, v5 = .int .i64 (tot (log.take i)) ∧ v6 = .int .i64 i ∧ i ≤ L ∧ wr = W.drewN m) (fun _ v6 _ => L - (intOf v6).toNat)
          case atStart => exact ⟨0, 0, rfl, rfl, Nat.zero_le _, rfl⟩
          case round =>
            obtain ⟨i, m, rfl, rfl, hi, rfl⟩ := hrel
            by_cases hik : i < L
            · obtain ⟨E, A0, c0, e0, e1, e2, e3, hEE, hsm⟩ : ∃ (E : List Int × Int) (A0 : Option Addr) (c0 : Nat), W.cell? (ad.add (i * 2)) = some (.slice A0 E.1.length c0) ∧ W.cell? ⟨(ad.add (i * 2)).block, (ad.add (i * 2)).off + 1, none⟩ = some (.int .i64 E.2) ∧ E.1.length ≤ c0 ∧ (Kd.int .i64).C W A0 E.1.length E.1 ∧ log[i]? = some E ∧ tot (log.take (i + 1)) = tot (log.take i) + E.2 := by
                obtain ⟨A0, c0, e0, e1, e2, e3⟩ := HLC.out i (HLL2.out ▸ hik)
                exact ⟨log[i]'(HLL2.out ▸ hik), A0, c0, e0, e1, e2, e3, List.getElem?_eq_getElem _, tot_take log i (HLL2.out ▸ hik)⟩
              have hlt : ((i : Int) < (L : Nat)) = True := eq_true (by omega)
              have hbk := HBK.out.1.le E (List.mem_of_getElem? hEE)
              have hg1 : (b < E.2) = False := eq_false (by omega)
              have hg2 : (d < (E.1.length : Int)) = False := eq_false (by omega)
              have hw8 : IntKind.i64.wrap ((i : Int) + 1) = (i : Int) + 1 := IntWalk.i64_in _ (by have h9 : log.length ≤ 9223372036854775807 := HAE.out.res.log.2.1; have := HLL2.out; omega)
              have hw9 : IntKind.i64.wrap (tot (log.take i) + E.2) = tot (log.take (i + 1)) := by
                rw [← hsm]
                have := tot_le HBK.out.1 (i + 1)
                exact IntWalk.i64_in _ (by omega)
              have HE := Aside0.mk (And.intro hEE (And.intro e2 e3))
              have HI := Aside0.mk hik
              clear hi hsm hbk hEE hik e2 e3
              by_cases hz : i = 0
              · have hz1 : ((0 : Int) < (i : Int)) = False := eq_false (by omega)
                have hz2 : (0 < i) = False := eq_false (by omega)
                clear hz
                go_wp2_with fail
                go_quiet (fail)
                go_wp2_with fail
                go_roundw
                case rel => exact ⟨i + 1, _, rfl, by go_num, HI.out, rfl⟩
                case measure => exact up_lt HI.out
              · have hz1 : ((0 : Int) < (i : Int)) = True := eq_true (by omega)
                have hz2 : (0 < i) = True := eq_true (by omega)
                obtain ⟨j, hj⟩ : ∃ j, j = i - 1 := ⟨_, rfl⟩
                have hjl : j < log.length := by have := HI.out; have := HLL2.out; omega
                obtain ⟨E1, A1, c1, k0, k2, k3, hE1⟩ : ∃ (E : List Int × Int) (A0 : Option Addr) (c0 : Nat), W.cell? (ad.add (j * 2)) = some (.slice A0 E.1.length c0) ∧ E.1.length ≤ c0 ∧ (Kd.int .i64).C W A0 E.1.length E.1 ∧ log[j]? = some E := by
                  obtain ⟨A0, c0, e0, e1, e2, e3⟩ := HLC.out j hjl
                  exact ⟨log[j], A0, c0, e0, e2, e3, List.getElem?_eq_getElem hjl⟩
                have hcmp : cmpP E1.1 E.1 = -1 := by
                  refine ltP_cmp ?_
                  have h1 := List.pairwise_iff_getElem.1 HBK.out.1.up j i hjl (HLL2.out ▸ HI.out) (by have := HI.out; omega)
                  obtain ⟨_, h2⟩ := List.getElem?_eq_some_iff.1 HE.out.1
                  obtain ⟨_, h3⟩ := List.getElem?_eq_some_iff.1 hE1
                  rw [h2, h3] at h1
                  exact h1
                have hlen : E1.1.length ≤ 4611686018427387904 := by
                  have h1 := (HBK.out.1.le E1 (List.mem_of_getElem? hE1)).2.2
                  have h2 := HBK.out.2.2
                  omega
                have hw10 : IntKind.i64.wrap ((i : Int) - 1) = (j : Int) := (IntWalk.i64_in _ (by have h9 : log.length ≤ 9223372036854775807 := HAE.out.res.log.2.1; have := HI.out; have := HLL2.out; omega)).trans (by omega)
                have hjt : ((j : Int) < (L : Nat)) = True := eq_true (by have := HLL2.out; omega)
                have HJ := Aside0.mk (And.intro hcmp (And.intro hlen (And.intro k2 k3)))
                clear hz hcmp hlen k2 k3 hE1 hjl hj
                go_wp2_with fail
                go_quiet (first | (go_at_call 19; refine (cmp_is A1 c1 E1.1 A0 c0 E.1 _ HJ.out.1 ?_ HJ.out.2.2.1 ?_ HE.out.2.1 HJ.out.2.1).mono ?_; (repeat (first | exact HJ.out.2.2.2 | exact HE.out.2.2 | (with_reducible refine Kd.C_drewN ?_ _) | (with_reducible refine Kd.C_drew ?_))); rintro e w' ⟨rfl, ⟨nd, rfl⟩⟩; (try first | exact ⟨rfl, _, World.drewN_drewN _ _ _⟩ | exact ⟨rfl, _, Eq.trans (World.drewN_drewN _ _ _) (congrArg (World.drewN _) (Nat.add_assoc _ _ _))⟩)))
                go_wp2_with fail
                go_roundw
                case rel => exact ⟨i + 1, _, rfl, by go_num, HI.out, rfl⟩
                case measure => exact up_lt HI.out
            · obtain rfl : i = L := Nat.le_antisymm hi (Nat.le_of_not_lt hik)
              obtain ⟨A0, c0, e0, _⟩ := HLC.out 0 (by obtain ⟨s, r, e⟩ := HBK.out.1.ne; show 0 < log.length; rw [show log = _ from e]; simp)
              replace e0 : W.cell? ad = some (.slice A0 0 c0) := by
                obtain ⟨s, r, e⟩ := HBK.out.1.ne
                have e : log = ([], s) :: r := e
                subst e
                exact e0
              have ht1 : (tot (log.take i) ≤ 3000) = True := eq_true (tot_le HBK.out.1 i).2
              have hl0 : 1 ≤ i := by obtain ⟨s, r, e⟩ := HBK.out.1.ne; rw [HLL2.out, show log = _ from e]; simp
              have hl1 : ((1 : Int) ≤ (i : Nat)) = True := eq_true (by omega)
              have hl2 : (1 ≤ i) = True := eq_true hl0
              have hl3 : (0 < i) = True := eq_true hl0
              have hl4 : ((0 : Int) < (i : Nat)) = True := eq_true (by omega)
              have q0 := blk_cell HAE.out.box 0
              have q1 := blk_cell HAE.out.box 1
              clear hik hi hl0
              generalize tot (log.take i) = T at ht1 ⊢
              have hv := HBK.out.2.1
              replace hv : rf = 0 ∨ rv = 0 := hv
              by_cases hrf : rf = 0
              · have hf1 : (rf == 0) = true := by simp [hrf]
                have hf2 : (rf = 0) = True := eq_true hrf
                clear hv hrf
                go_wp2_with fail
                refine (awake_any _).mono ?_
                rintro e w5 ⟨rfl, hb5⟩
                have HB6 := Aside0.mk (HB5.out.trans (((pw_below_drewN (Below.refl W.heap.size W) m).trans (hb5.mono (pw_below_drewN (Below.refl W.heap.size W) m).size)).mono HB5.out.size))
                clear hb5
                go_wp2_with fail
                go_ret
                exact ⟨rfl, HB6.out⟩
              · have hf1 : (rf == 0) = false := by simp [hrf]
                have hf2 : (rf = 0) = False := eq_false hrf
                have hf3 : (rv == 0) = true := by simp [hv.resolve_left hrf]
                have hf4 : (rv = 0) = True := eq_true (hv.resolve_left hrf)
                clear hv hrf
                go_wp2_with fail
                refine (awake_any _).mono ?_
                rintro e w5 ⟨rfl, hb5⟩
                have HB6 := Aside0.mk (HB5.out.trans (((pw_below_drewN (Below.refl W.heap.size W) m).trans (hb5.mono (pw_below_drewN (Below.refl W.heap.size W) m).size)).mono HB5.out.size))
                clear hb5
                go_wp2_with fail
                go_ret
                exact ⟨rfl, HB6.out⟩
        · have hr0 : (r2 != 0) = true := by simp [h0]
          clear h0
          go_wp2_with fail
          refine (awake_any _).mono ?_
          rintro e w5 ⟨rfl, hb5⟩
          have HB6 := Aside0.mk (HB5.out.trans (hb5.mono HB5.out.size))
          clear hb5
          go_wp2_with fail
          go_ret
          exact ⟨rfl, HB6.out⟩
def haymowlaw06_EvalBounds.f (l0_0 : List S68) (l0_1 : List Int) (a0_2 a0_3 : Int) : Option Bool := some true
theorem haymowlaw06_EvalBounds.calls (A0_0 : Option Addr) (c0_0 : Nat) (l0_0 : List S68) (A0_1 : Option Addr) (c0_1 : Nat) (l0_1 : List Int) (a0_2 a0_3 : Int) (r : Bool) (w : World) (hr0_0 : k68.C w A0_0 l0_0.length l0_0) (hc0_0 : l0_0.length ≤ c0_0) (hr0_1 : (Kd.int .i64).C w A0_1 l0_1.length l0_1) (hc0_1 : l0_1.length ≤ c0_1) (h : haymowlaw06_EvalBounds.f l0_0 l0_1 a0_2 a0_3 = some r) :
    Calls Try.prog 4 #[.agg #[.slice A0_0 l0_0.length c0_0, .slice A0_1 l0_1.length c0_1, .int .i64 a0_2, .int .i64 a0_3]] w fun e w' => e = .returned (.bool r) ∧ Below w.heap.size w w' := by
  cases h
  exact bounds_walk A0_0 c0_0 l0_0 A0_1 c0_1 l0_1 a0_2 a0_3 w hr0_0 hc0_0 hr0_1 hc0_1
end Go.Proofs.Ytnhipdniceoigaa.H

set_option linter.unusedVariables false
set_option linter.unusedSimpArgs false
namespace Go.Hay
open Go.RowKit Go.Proofs.YtnhipdniceoigaaW.PrintWords Go.Proofs.YtnhipdniceoigaaW.PrintLast Go.Proofs.YtnhipdniceoigaaW.PrintMore

def Opens {α : Type} (P : Program) (t : TypeId) (d : Kd α) (wf : α → Prop) : Prop :=
  ∀ {H : Type} {enc : TypeId × Value → H} {w : World} {base : Nat} {spare : Nat → Bool} {held : Bool} {fuel : Nat} {cs : List Value} {x : DataW H × List MemPlace},
    DataW.trod enc P w base spare held fuel t cs = some x → ∃ a, d.K w a cs ∧ wf a

theorem opens_int {P : Program} {t : TypeId} {k : IntKind} (ht : P.underlying t = some (.int k)) : Opens P t (Kd.int k) (fun n => (Lit.int k n).wf = true) := by
  intro H enc w base spare held fuel cs x h
  cases fuel with
  | zero => simp [DataW.trod] at h
  | succ fuel =>
    unfold DataW.trod at h
    simp only [ht] at h
    split at h <;> simp_all
    rename_i k' n _
    obtain ⟨⟨rfl, hw⟩, _⟩ := h
    exact ⟨n, rfl, hw⟩
theorem opens_slice {α : Type} {P : Program} {t e e' : TypeId} {d : Kd α} {wf : α → Prop} (ht : P.underlying t = some (.slice e)) (hc : P.cellsOf e = d.sz) (he : Opens P e d wf) : Opens P t (Kd.slice e' d) (fun l => ∀ a ∈ l, wf a) := by
  intro H enc w base spare held fuel cs x h
  rcases Deep.open_slice ht h with ⟨rfl, _⟩ | ⟨a, len, cap, m, n, D, Pl, rfl, hb, hl, hm, hmm, rfl, hx⟩
  · exact ⟨[], ⟨none, 0, rfl, Nat.le_refl _, Kd.C_nil d w⟩, by simp⟩
  · have hlm : len ≤ m := by rw [hmm]; split <;> omega
    have each : ∀ i, i < len → ∃ y : α × List Value, w.cells? base (a.add (i * P.cellsOf e)) (P.cellsOf e) = some y.2 ∧ d.K w y.1 y.2 ∧ wf y.1 := by
      intro i hi
      obtain ⟨cs', h1, h2⟩ := hx i (by omega)
      obtain ⟨y, h3, h4⟩ := he h2
      exact ⟨(y, cs'), h1, h3, h4⟩
    have : Nonempty (∀ i : Fin len, ∃ y : α × List Value, w.cells? base (a.add (i * P.cellsOf e)) (P.cellsOf e) = some y.2 ∧ d.K w y.1 y.2 ∧ wf y.1) := ⟨fun i => each i i.2⟩
    obtain ⟨g, hg⟩ := Classical.axiomOfChoice (fun i : Fin len => each i i.2)
    refine ⟨List.ofFn fun i => (g i).1, ⟨some a, cap, by simp, by simpa using hl, ?_⟩, ?_⟩
    · refine ⟨rfl, ?_, fun _ => ⟨a, rfl, fun j p hj => ?_⟩⟩
      · rw [List.length_ofFn]; unfold maxLen at hm; omega
      · obtain ⟨hlt, hj⟩ := List.getElem?_eq_some_iff.1 hj
        rw [List.length_ofFn] at hlt
        rw [List.getElem_ofFn] at hj
        subst hj
        obtain ⟨g1, g2, g3⟩ := hg ⟨j, hlt⟩
        obtain ⟨_, hcl, hcell⟩ := World.cells?_some g1
        refine ⟨_, d.K_len g2, g2, fun i u hu => ?_⟩
        have hi : i < P.cellsOf e := by
          have := (List.getElem?_eq_some_iff.1 hu).1
          omega
        have := hcell i hi
        rw [hu] at this
        rw [← this, hc]
        congr 1
        unfold Addr.add
        by_cases e1 : j * d.sz = 0 <;> by_cases e2 : i = 0 <;> simp [e1, e2] <;> omega
    · intro y hy
      obtain ⟨i, rfl⟩ := List.mem_ofFn.1 hy
      exact (hg i).2.2
def OpensAt {α : Type} (P : Program) (fs : List Field) (off : Nat) (d : Kd α) (wf : α → Prop) : Prop :=
  ∀ {H : Type} {enc : TypeId × Value → H} {w : World} {base : Nat} {spare : Nat → Bool} {held : Bool} {n : Nat} {cs : List Value} {xs : List (DataW H × List MemPlace)},
    xs.length = fs.length → (∀ (i : Nat) (f : Field), fs[i]? = some f → DataW.trod enc P w base spare held n f.type ((cs.drop f.offset).take (P.cellsOf f.type)) = xs[i]?) → ∃ a, d.K w a ((cs.drop off).take d.sz) ∧ wf a
theorem opens_last {α : Type} {P : Program} {f : Field} {off : Nat} {d : Kd α} {wf : α → Prop} (ho : f.offset = off) (hc : P.cellsOf f.type = d.sz) (he : Opens P f.type d wf) : OpensAt P [f] off d wf := by
  intro H enc w base spare held n cs xs hl h
  have h0 := h 0 f rfl
  rw [ho, hc, List.getElem?_eq_getElem (by rw [hl]; simp)] at h0
  exact he h0
theorem opens_cons {α β : Type} {P : Program} {f : Field} {fs : List Field} {off : Nat} {d : Kd α} {d2 : Kd β} {wf : α → Prop} {wf2 : β → Prop} (ho : f.offset = off) (hc : P.cellsOf f.type = d.sz) (he : Opens P f.type d wf)
    (hr : OpensAt P fs (off + d.sz) d2 wf2) : OpensAt P (f :: fs) off (Kd.pair d d2) (fun p => wf p.1 ∧ wf2 p.2) := by
  intro H enc w base spare held n cs xs hl h
  have h0 := h 0 f rfl
  rw [ho, hc, List.getElem?_eq_getElem (by rw [hl]; simp)] at h0
  obtain ⟨a, ha, hwa⟩ := he h0
  obtain ⟨b, hb, hwb⟩ := hr (n := n) (cs := cs) (xs := xs.drop 1) (by simp [hl]) (fun i g hg => by
    have := h (i + 1) g (by simpa using hg)
    rw [this]; simp [Nat.add_comm])
  refine ⟨(a, b), ⟨_, _, ?_, ha, hb⟩, hwa, hwb⟩
  show (cs.drop off).take (d.sz + d2.sz) = _
  rw [List.take_add, List.drop_drop]
theorem opens_struct {α : Type} {P : Program} {t : TypeId} {fs : Array Field} {d : Kd α} {wf : α → Prop} (ht : P.underlying t = some (.struct fs)) (hc : P.cellsOf t = d.sz) (h : OpensAt P fs.toList 0 d wf) : Opens P t d wf := by
  intro H enc w base spare held fuel cs x hx
  obtain ⟨xs, n, rfl, rfl, hlen, hxl, hall⟩ := DataW.trod_struct ht hx
  obtain ⟨a, ha, hwa⟩ := h (n := n) (cs := cs) (xs := xs) (by simpa using hxl) (fun i f hf => hall i f (by simpa using hf))
  refine ⟨a, ?_, hwa⟩
  rwa [List.drop_zero, List.take_of_length_le (by omega)] at ha
theorem opens_iso {α β : Type} {P : Program} {t : TypeId} {d : Kd α} {wf : α → Prop} (g : β → α) (f : α → β) (hf : ∀ a, g (f a) = a) (h : Opens P t d wf) : Opens P t (Kd.iso d g) (fun b => wf (g b)) := by
  intro H enc w base spare held fuel cs x hx
  obtain ⟨a, ha, hwa⟩ := h hx
  exact ⟨f a, by show d.K w (g (f a)) cs; rw [hf]; exact ha, by show wf (g (f a)); rw [hf]; exact hwa⟩
end Go.Hay

-- made by this session's gen.py: the row of the law haymow/haymowlaw06.EvalBounds; not trusted: Lean checks it
namespace Go.Proofs.Ytnhipdniceoigaa.evalBounds
open Go.ChangeShapes Go.WideShapes Go.ChangeAt Go.RowKit Go.Hay Go.Proofs.Ytnhipdniceoigaa.H Go.Proofs.YtnhipdniceoigaaW.PrintWords Go.Proofs.YtnhipdniceoigaaW.PrintLast Go.Proofs.YtnhipdniceoigaaW.PrintMore
open Go.ChangeMaps (open_string shut_string)
set_option linter.unusedVariables false
set_option linter.unusedSimpArgs false
theorem own : ownKnob Try.prog.godebug = none := by kernel_rfl
theorem laidOut : laidOutB Try.prog = true := by kernel_rfl
structure S25 where
  f0 : List (S68)
  f1 : List Int
  f2 : Int
  f3 : Int
def k25 : Kd S25 := Kd.iso (Kd.pair ((Kd.slice 68 k68)) (Kd.pair ((Kd.slice 2 (Kd.int .i64))) (Kd.pair ((Kd.int .i64)) ((Kd.int .i64))))) (fun x : S25 => (x.f0, x.f1, x.f2, x.f3))
theorem k25_open {w : World} {x : S25} {cs : List Value} (h : k25.K w x cs) : ∃ A0 c0 A1 c1, cs = [.slice A0 x.f0.length c0, .slice A1 x.f1.length c1, .int .i64 x.f2, .int .i64 x.f3] ∧ x.f0.length ≤ c0 ∧ Kd.C k68 w A0 x.f0.length x.f0 ∧ x.f1.length ≤ c1 ∧ Kd.C (Kd.int .i64) w A1 x.f1.length x.f1 := by
  obtain ⟨_, _, rfl, ⟨A0, c0, rfl, l0, g0⟩, ⟨_, _, rfl, ⟨A1, c1, rfl, l1, g1⟩, ⟨_, _, rfl, rfl, rfl⟩⟩⟩ := h
  exact ⟨A0, c0, A1, c1, rfl, l0, g0, l1, g1⟩
theorem opens3 : Opens Try.prog 3 (Kd.int .i64) (fun x => (Lit.int .i64 x).wf = true) := opens_int Try.underlying3
def wfT80 (x : S80) : Prop := ((Lit.int .i64 x.f0).wf = true ∧ (Lit.int .i64 x.f1).wf = true ∧ (Lit.int .i64 x.f2).wf = true ∧ (Lit.int .i64 x.f3).wf = true ∧ (Lit.int .i64 x.f4).wf = true)
theorem opens80 : Opens Try.prog 80 k80 wfT80 := opens_iso _ (fun y => (⟨y.1, y.2.1, y.2.2.1, y.2.2.2.1, y.2.2.2.2⟩ : S80)) (fun _ => rfl) (opens_struct Try.underlying80 (by kernel_rfl) (opens_cons rfl (by kernel_rfl) opens3 (opens_cons rfl (by kernel_rfl) opens3 (opens_cons rfl (by kernel_rfl) opens3 (opens_cons rfl (by kernel_rfl) opens3 (opens_last rfl (by kernel_rfl) opens3))))))
theorem opens66 : Opens Try.prog 66 (Kd.slice 80 k80) (fun x => (∀ y66 ∈ x, wfT80 y66)) := opens_slice (e := 80) Try.underlying66 (by kernel_rfl) opens80
def wfT68 (x : S68) : Prop := ((Lit.int .i64 x.f0).wf = true ∧ (∀ y66 ∈ x.f1, wfT80 y66))
theorem opens68 : Opens Try.prog 68 k68 wfT68 := opens_iso _ (fun y => (⟨y.1, y.2⟩ : S68)) (fun _ => rfl) (opens_struct Try.underlying68 (by kernel_rfl) (opens_cons rfl (by kernel_rfl) opens3 (opens_last rfl (by kernel_rfl) opens66)))
theorem opens22 : Opens Try.prog 22 (Kd.slice 68 k68) (fun x => (∀ y22 ∈ x, wfT68 y22)) := opens_slice (e := 68) Try.underlying22 (by kernel_rfl) opens68
theorem opens2 : Opens Try.prog 2 (Kd.int .i64) (fun x => (Lit.int .i64 x).wf = true) := opens_int Try.underlying2
theorem opens23 : Opens Try.prog 23 (Kd.slice 2 (Kd.int .i64)) (fun x => (∀ y23 ∈ x, (Lit.int .i64 y23).wf = true)) := opens_slice (e := 2) Try.underlying23 (by kernel_rfl) opens2
def wfT25 (x : S25) : Prop := ((∀ y22 ∈ x.f0, wfT68 y22) ∧ (∀ y23 ∈ x.f1, (Lit.int .i64 y23).wf = true) ∧ (Lit.int .i64 x.f2).wf = true ∧ (Lit.int .i64 x.f3).wf = true)
theorem opens25 : Opens Try.prog 25 k25 wfT25 := opens_iso _ (fun y => (⟨y.1, y.2.1, y.2.2.1, y.2.2.2⟩ : S25)) (fun _ => rfl) (opens_struct Try.underlying25 (by kernel_rfl) (opens_cons rfl (by kernel_rfl) opens22 (opens_cons rfl (by kernel_rfl) opens23 (opens_cons rfl (by kernel_rfl) opens3 (opens_last rfl (by kernel_rfl) opens3)))))
def Pure : Prop := ∀ (l0_0 : List (S68)) (l0_1 : List Int) (a0_2 : Int) (a0_3 : Int), wfT25 ⟨l0_0, l0_1, a0_2, a0_3⟩ → haymowlaw06_EvalBounds.f l0_0 l0_1 a0_2 a0_3 = some true
set_option maxRecDepth 100000 in
theorem lifted (PU : Pure) (os : Os) (started : os.Started) (H : Type) (enc : TypeId × Value → H) :
    ReturnsInHanded {} Try.checked os 4 .any (Rows.evalBoundsSpec.pre6 enc Try.prog Try.f4 Rows.evalBoundsRow.domain false) (Rows.evalBoundsSpec.post enc Try.prog Try.f4 false true false false) := by
  refine returnsInHanded_of_change_sized (C := Try.checked) own started (by kernel_rfl) Try.func4
    (ChangeSpec.witness6 (enc := enc) (C := Try.checked) false ⟨#[], #[.agg #[.slice none 0 0, .slice none 0 0, .int .i64 0, .int .i64 0]], []⟩ 8 (by kernel_rfl) (by kernel_rfl) (by kernel_rfl) (by kernel_rfl)) ?_
  intro W base args ds gs before hval0 hW hcnd hsz0 _
  have hval : ∀ (j : Nat) t v, Try.f4.params[j]? = some t → args[j]? = some v → Value.okWide Try.prog W .any base t v := hval0
  have hW' := hW
  obtain ⟨p, q, hA0, hV, rfl, hfz, hnd⟩ := hW
  have hA : DataW.TrodAll enc Try.prog W 0 (fun _ => true) true Try.f4.params.toList args.toList ds p := hA0
  rw [Try.params4] at hA hval
  obtain ⟨v0, vs0, d0, ds0, p0, q0, hargs, rfl, rfl, h0, r0⟩ := trodAll_cons hA
  obtain ⟨rfl, rfl, rfl⟩ := trodAll_nil r0
  obtain rfl : args = #[v0] := by cases args; simp_all
  obtain ⟨rfl, rfl⟩ := trodVars_none hV
  obtain ⟨cs0, rfl, hz0⟩ := okWide_struct Try.underlying25 (hval 0 25 v0 rfl rfl)
  have k0 := h0
  have lt0 : ∀ x ∈ p0, x.block < W.heap.size := by obtain ⟨m, hm⟩ := k0; exact DataW.trod_lt m _ _ _ hm
  obtain ⟨fuel0, hf0⟩ := h0
  obtain ⟨x0, hK0, hwf0⟩ := opens25 hf0
  obtain ⟨A0_0, c0_0, A0_1, c0_1, hcs0, hc0_0, hC0_0, hc0_1, hC0_1⟩ := k25_open hK0
  obtain rfl : cs0 = #[.slice A0_0 x0.f0.length c0_0, .slice A0_1 x0.f1.length c0_1, .int .i64 x0.f2, .int .i64 x0.f3] := by cases cs0; simpa [Value.cells] using hcs0
  clear hA0 hval0 hsz0
  have hpure := PU x0.f0 x0.f1 x0.f2 x0.f3 hwf0
  refine (haymowlaw06_EvalBounds.calls _ _ x0.f0 _ _ x0.f1 x0.f2 x0.f3 true W hC0_0 hc0_0 hC0_1 hc0_1 hpure).mono fun e W' hpost => ?_
  obtain ⟨he, bel⟩ := hpost
  subst he
  exact ⟨_, rfl, _, _, _, [], _, [], hW', trodAll_mk1 (shut_bool Try.underlying4 _), (trodAll_cons_mk (Below.trod laidOut (by kernel_rfl) (of_decide_eq_true (by kernel_rfl)) k0 bel lt0) trodAll_mk0), rfl, bel.frame _, fun h => by cases h⟩
theorem over (PU : Pure) : Rows.evalBoundsRow.holds Try.pinned (OpenSpec.ofChange Rows.evalBoundsSpec) :=
  OpenClaim.holds_of_wide 4 Try.f4 rfl rfl rfl rfl rfl rfl rfl ⟨rfl, rfl, rfl, rfl, rfl⟩ rfl rfl rfl rfl rfl (by kernel_rfl) Try.func4 (by kernel_rfl)
    (of_decide_eq_true (by kernel_rfl)) (by unfold Func.isWrapper; first | (rw [if_pos (by decide +kernel)]; kernel_rfl) | (rw [if_neg (by decide +kernel)]; exact ⟨rfl, rfl⟩))
    (fun os started H enc _ => lifted PU os started H enc)
theorem said (PU : Pure) : Rows.EvalBoundsSaid := over PU
end Go.Proofs.Ytnhipdniceoigaa.evalBounds

namespace Go.Proofs.Ytnhipdniceoigaa
open Go.RowKit
theorem evalBounds_holds : Rows.EvalBoundsSaid := evalBounds.said (fun _ _ _ _ _ => rfl)
#print axioms evalBounds_holds
end Go.Proofs.Ytnhipdniceoigaa

