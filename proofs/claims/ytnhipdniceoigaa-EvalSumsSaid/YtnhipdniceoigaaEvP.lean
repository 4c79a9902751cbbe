/- What evaluating a program comes to, in plain words. -/
import Derived.Test.YtnhipdniceoigaaCkVal
import Derived.Test.YtnhipdniceoigaaBaseW
set_option linter.unusedVariables false
set_option linter.unusedSimpArgs false
namespace Go.Proofs.Ytnhipdniceoigaa.H
open Go.RowKit Go.Hay Go.Proofs.YtnhipdniceoigaaW.PrintWords Go.Proofs.YtnhipdniceoigaaW.PrintLast Go.Proofs.YtnhipdniceoigaaW.PrintMore
/-- all that is told and noted, and how many instructions may be done yet. -/
structure Gs where
  left : Nat
  told : List Int
  log : List (List Int × Int)
/-- a task. -/
structure Ts where
  regs : List Int
  hands : List (Bool × Int)
  wait : List (Int × Int)
  kids : Nat
  at_ : Int
inductive Out where
  | val (v : Int)
  | fail (why : Int)
  | long
def rg (T : Ts) (i : Int) : Int := T.regs.getD i.toNat 0
def hd (T : Ts) (i : Int) : Bool × Int := T.hands.getD i.toNat (false, 0)
def setR (T : Ts) (i v : Int) : Ts := { T with regs := T.regs.set i.toNat v }
def syncP (T : Ts) : Ts := { T with regs := T.wait.foldl (fun r s => r.set s.1.toNat s.2) T.regs, wait := [] }
inductive Sm where
  | go (T : Ts)
  | stop (why : Int)
def lessV (a b : Int) : Int := if a < b then 1 else 0
def sameV (a b : Int) : Int := if a = b then 1 else 0
/-- an instruction that concerns the task alone. -/
def simple (x : S55) (T : Ts) : Sm :=
  if x.f0 = 1 then .go (setR T x.f1 x.f4)
  else if x.f0 = 2 then .go (setR T x.f1 (rg T x.f2))
  else if x.f0 = 3 then .go (setR T x.f1 (wrap64 (rg T x.f2 + rg T x.f3)))
  else if x.f0 = 4 then .go (setR T x.f1 (wrap64 (rg T x.f2 - rg T x.f3)))
  else if x.f0 = 5 then .go (setR T x.f1 (wrap64 (rg T x.f2 * rg T x.f3)))
  else if x.f0 = 6 then (if rg T x.f3 = 0 then .stop 1 else .go (setR T x.f1 (wrap64 ((rg T x.f2).tdiv (rg T x.f3)))))
  else if x.f0 = 7 then .go (setR T x.f1 (lessV (rg T x.f2) (rg T x.f3)))
  else if x.f0 = 8 then .go (setR T x.f1 (sameV (rg T x.f2) (rg T x.f3)))
  else if x.f0 = 9 then .go { T with at_ := x.f4 }
  else if x.f0 = 10 then .go (if rg T x.f1 = 0 then { T with at_ := x.f4 } else T)
  else if x.f0 = 12 then .go (syncP T)
  else if x.f0 = 14 then (if (hd T x.f2).1 = true then .go (setR T x.f1 (hd T x.f2).2) else .stop 2)
  else .stop x.f4
def bump (log : List (List Int × Int)) (me : Nat) : List (List Int × Int) := log.set me ((log.getD me ([], 0)).1, (log.getD me ([], 0)).2 + 1)
def newRegs (args : List Int) : List Int := args.take 8 ++ List.replicate (8 - args.length) 0
def newTask (args : List Int) (hands : List (Bool × Int)) : Ts := ⟨newRegs args, hands, [], 0, 0⟩
def argsOf (l : List S58) (x : S55) (T : Ts) : List Int := (T.regs.drop x.f2.toNat).take (rd_T58 l x.f3).f0.toNat
inductive SR where
  | go (T : Ts) (G : Gs)
  | stop (o : Out) (G : Gs)
/-- one instruction, but ret; rec: how the tasks end that it begins. -/
def stepP (l : List S58) (depth : Int) (rec : Gs → List Int → List S55 → Nat → Ts → Out × Gs) (path : List Int) (x : S55) (T : Ts) (G : Gs) : SR :=
  if x.f0 = 11 ∨ x.f0 = 13 then
    if (path.length : Int) = depth then .stop (.fail 4) G
    else match rec { G with log := G.log ++ [(path ++ [(T.kids : Int)], 0)] } (path ++ [(T.kids : Int)]) (rd_T58 l x.f3).f1 G.log.length (newTask (argsOf l x T) T.hands) with
      | (.val v, G2) => .go (if x.f0 = 11 then { T with kids := T.kids + 1, wait := T.wait ++ [(x.f1, v)] } else { T with kids := T.kids + 1, hands := T.hands.set x.f1.toNat (true, v) }) G2
      | (o, G2) => .stop o G2
  else if x.f0 = 15 then .go T { G with told := G.told ++ [rg T x.f1] }
  else match simple x T with
    | .go T' => .go T' G
    | .stop why => .stop (.fail why) G
/-- a task's run. -/
def runP (l : List S58) (budget depth : Int) : Nat → Gs → List Int → List S55 → Nat → Ts → Out × Gs
  | 0, G, _, _, _, _ => (.long, G)
  | k + 1, G, path, code, me, T =>
    if (G.log.getD me ([], 0)).2 = budget then (.fail 3, G)
    else if G.left = 0 then (.long, G)
    else if (rd_T55 code T.at_).f0 = 17 then (.val (rg (syncP { T with at_ := T.at_ + 1 }) (rd_T55 code T.at_).f1), { G with left := G.left - 1, log := bump G.log me })
    else match stepP l depth (runP l budget depth k) path (rd_T55 code T.at_) { T with at_ := T.at_ + 1 } { G with left := G.left - 1, log := bump G.log me } with
      | .go T' G' => runP l budget depth k G' path code me T'
      | .stop o G' => (o, G')
def beginP (l : List S58) (budget depth : Int) (k : Nat) (G : Gs) (f : Int) (path args : List Int) (hands : List (Bool × Int)) : Out × Gs :=
  runP l budget depth k { G with log := G.log ++ [(path, 0)] } path (rd_T58 l f).f1 G.log.length (newTask args hands)
def noHands : List (Bool × Int) := [(false, 0), (false, 0), (false, 0), (false, 0)]
/-- a program's end: value, failure, what was told, what was noted; none: too many instructions. -/
def evalP (l : List S58) (args : List Int) (budget depth : Int) (most : Nat) : Option (Int × Int × List Int × List (List Int × Int)) :=
  match beginP l budget depth (most + 1) ⟨most, [], []⟩ 0 [] args noHands with
  | (.val v, G) => some (v, 0, G.told, G.log)
  | (.fail why, G) => some (0, why, G.told, G.log)
  | (.long, _) => none
/-! ### a program that may run -/
/-- what an instruction's numbers may be. -/
structure IOk (l : List S58) (lc : Nat) (x : S55) : Prop where
  op : 1 ≤ x.f0 ∧ x.f0 ≤ 17
  a : x.f0 ≠ 9 → x.f0 ≠ 12 → x.f0 ≠ 13 → x.f0 ≠ 16 → 0 ≤ x.f1 ∧ x.f1 < 8
  a13 : x.f0 = 13 → 0 ≤ x.f1 ∧ x.f1 < 4
  b : (2 ≤ x.f0 ∧ x.f0 ≤ 8) ∨ x.f0 = 11 ∨ x.f0 = 13 → 0 ≤ x.f2 ∧ x.f2 < 8
  b14 : x.f0 = 14 → 0 ≤ x.f2 ∧ x.f2 < 4
  c : 3 ≤ x.f0 ∧ x.f0 ≤ 8 → 0 ≤ x.f3 ∧ x.f3 < 8
  cf : x.f0 = 11 ∨ x.f0 = 13 → 0 ≤ x.f3 ∧ x.f3 < l.length ∧ (rd_T58 l x.f3).f0 ≤ 8 - x.f2
  k : x.f0 = 9 ∨ x.f0 = 10 → 0 ≤ x.f4 ∧ x.f4 < lc
  kb : -2147483648 ≤ x.f4 ∧ x.f4 < 2147483648
structure POk (l : List S58) : Prop where
  len : 1 ≤ l.length ∧ l.length ≤ 16
  fn : ∀ f (h : f < l.length), (0 ≤ l[f].f0 ∧ l[f].f0 ≤ 4) ∧ (1 ≤ l[f].f1.length ∧ l[f].f1.length ≤ 64) ∧ (∀ k (hk : k < l[f].f1.length), IOk l l[f].f1.length l[f].f1[k]) ∧
    ((rd_T55 l[f].f1 ((l[f].f1.length : Int) - 1)).f0 = 9 ∨ (rd_T55 l[f].f1 ((l[f].f1.length : Int) - 1)).f0 = 16 ∨ (rd_T55 l[f].f1 ((l[f].f1.length : Int) - 1)).f0 = 17)
theorem fieldE_none {np lc : Nat} {n p : Int} (h : fieldE np lc n p = none) : (p = 1 → 0 ≤ n ∧ n < 8) ∧ (p = 2 → 0 ≤ n ∧ n < 4) ∧ (p = 3 → 0 ≤ n ∧ n < np) ∧ (p = 5 → 0 ≤ n ∧ n < lc) ∧ (p = 6 → 16 ≤ n ∧ n < 2147483648) ∧ (p = 4 → -2147483648 ≤ n ∧ n < 2147483648) := by
  unfold fieldE at h
  refine ⟨fun e => ?_, fun e => ?_, fun e => ?_, fun e => ?_, fun e => ?_, fun e => ?_⟩
  all_goals
    subst e
    simp [inB] at h
    omega
theorem instrE_ok {l : List S58} {lc : Nat} {x : S55} (hlc : lc ≤ 1000) (h : instrE lc l x = none) : IOk l lc x := by
  obtain ⟨a, b, c, k, is, hsh⟩ : ∃ a b c k is, shapeP x.f0 = (a, b, c, k, is) := ⟨_, _, _, _, _, rfl⟩
  rw [instrE_eq hsh] at h
  by_cases his : is = false
  · rw [if_pos his] at h; cases h
  rw [if_neg his] at h
  by_cases h1 : a = 0 ∧ x.f1 ≠ 0
  · rw [if_pos h1] at h; cases h
  by_cases h2 : b = 0 ∧ x.f2 ≠ 0
  · rw [if_neg h1, if_pos h2] at h; cases h
  by_cases h3 : c = 0 ∧ x.f3 ≠ 0
  · rw [if_neg h1, if_neg h2, if_pos h3] at h; cases h
  by_cases h4 : k = 0 ∧ x.f4 ≠ 0
  · rw [if_neg h1, if_neg h2, if_neg h3, if_pos h4] at h; cases h
  rw [if_neg h1, if_neg h2, if_neg h3, if_neg h4] at h
  simp only [Option.or_eq_none_iff] at h
  obtain ⟨ha, hb, hc, hk, har⟩ := h
  have fa := fieldE_none ha
  have fb := fieldE_none hb
  have fc := fieldE_none hc
  have fk := fieldE_none hk
  clear ha hb hc hk
  have hop : 1 ≤ x.f0 ∧ x.f0 ≤ 17 := by
    by_cases ho : 1 ≤ x.f0 ∧ x.f0 ≤ 17
    · exact ho
    · exfalso
      have : shapeP x.f0 = (0, 0, 0, 0, false) := by
        unfold shapeP
        repeat (first | rw [if_neg (by omega)])
      rw [this] at hsh; cases hsh; exact his rfl
  have hcases : x.f0 = 1 ∨ x.f0 = 2 ∨ x.f0 = 3 ∨ x.f0 = 4 ∨ x.f0 = 5 ∨ x.f0 = 6 ∨ x.f0 = 7 ∨ x.f0 = 8 ∨ x.f0 = 9 ∨ x.f0 = 10 ∨ x.f0 = 11 ∨ x.f0 = 12 ∨ x.f0 = 13 ∨ x.f0 = 14 ∨ x.f0 = 15 ∨ x.f0 = 16 ∨ x.f0 = 17 := by omega
  have hari : c = 3 → (rd_T58 l x.f3).f0 ≤ 8 - x.f2 := by
    intro e
    unfold arityE at har
    rw [if_pos e] at har
    split at har
    · assumption
    · cases har
  clear har his
  rcases hcases with e | e | e | e | e | e | e | e | e | e | e | e | e | e | e | e | e
  all_goals
    rw [e] at hsh
    simp [shapeP] at hsh
    obtain ⟨rfl, rfl, rfl, rfl, _⟩ := hsh
    simp at fa fb fc fk h1 h2 h3 h4 hari
    refine ⟨by omega, fun _ _ _ _ => ?_, fun _ => ?_, fun _ => ?_, fun _ => ?_, fun _ => ?_, fun _ => ?_, fun _ => ?_, ?_⟩
    all_goals first | omega | (refine ⟨?_, ?_, ?_⟩ <;> omega)
theorem instrsE_none {lc : Nat} {l : List S58} {xs : List S55} : ∀ {k : Nat}, instrsE lc l k xs = none → ∀ j (h : j < xs.length), instrE lc l xs[j] = none := by
  induction xs with
  | nil => intro k _ j h; simp at h
  | cons x r ih =>
    intro k h j hj
    simp only [instrsE] at h
    cases hx : instrE lc l x with
    | some e => rw [hx] at h; cases h
    | none =>
      rw [hx] at h
      cases j with
      | zero => exact hx
      | succ j => exact ih h j (by simpa using hj)
theorem funcE_ok {l : List S58} {g : S58} (h : funcE l g = none) : (0 ≤ g.f0 ∧ g.f0 ≤ 4) ∧ (1 ≤ g.f1.length ∧ g.f1.length ≤ 64) ∧ (∀ k (hk : k < g.f1.length), IOk l g.f1.length g.f1[k]) ∧
    ((rd_T55 g.f1 ((g.f1.length : Int) - 1)).f0 = 9 ∨ (rd_T55 g.f1 ((g.f1.length : Int) - 1)).f0 = 16 ∨ (rd_T55 g.f1 ((g.f1.length : Int) - 1)).f0 = 17) := by
  unfold funcE at h
  split at h
  · rename_i h1
    split at h
    · rename_i h2
      rw [Option.or_eq_none_iff] at h
      refine ⟨h1, h2, fun k hk => instrE_ok (by omega) (instrsE_none h.1 k hk), ?_⟩
      have h3 := h.2
      unfold lastE at h3
      simp only at h3
      split at h3
      · assumption
      · cases h3
    · cases h
  · cases h
theorem funcsE_none {l : List S58} {gs : List S58} : ∀ {f : Nat}, funcsE l f gs = none → ∀ j (h : j < gs.length), funcE l gs[j] = none := by
  induction gs with
  | nil => intro f _ j h; simp at h
  | cons g r ih =>
    intro f h j hj
    simp only [funcsE] at h
    cases hx : funcE l g with
    | some e => rw [hx] at h; cases h
    | none =>
      rw [hx] at h
      cases j with
      | zero => exact hx
      | succ j => exact ih h j (by simpa using hj)
theorem fieldE_code {np lc : Nat} {n p e : Int} (h : fieldE np lc n p = some e) : e ≠ 0 := by
  unfold fieldE at h
  repeat' split at h
  all_goals first | (cases h; done) | (injection h with h; omega)
theorem instrE_code {l : List S58} {lc : Nat} {x : S55} {e : Int} (h : instrE lc l x = some e) : e ≠ 0 := by
  obtain ⟨a, b, c, k, is, hsh⟩ : ∃ a b c k is, shapeP x.f0 = (a, b, c, k, is) := ⟨_, _, _, _, _, rfl⟩
  rw [instrE_eq hsh] at h
  repeat' split at h
  all_goals try (injection h with h; omega)
  cases ha : fieldE l.length lc x.f1 a with
  | some y => rw [ha] at h; injection h with h; rw [← h]; exact fieldE_code ha
  | none =>
    cases hb : fieldE l.length lc x.f2 b with
    | some y => rw [ha, hb] at h; injection h with h; rw [← h]; exact fieldE_code hb
    | none =>
      cases hc : fieldE l.length lc x.f3 c with
      | some y => rw [ha, hb, hc] at h; injection h with h; rw [← h]; exact fieldE_code hc
      | none =>
        cases hk : fieldE l.length lc x.f4 k with
        | some y => rw [ha, hb, hc, hk] at h; injection h with h; rw [← h]; exact fieldE_code hk
        | none =>
          rw [ha, hb, hc, hk] at h
          have h : arityE l x c = some e := h
          unfold arityE at h
          repeat' split at h
          all_goals first | (cases h; done) | (injection h with h; omega)
theorem instrsE_code {lc : Nat} {l : List S58} {xs : List S55} : ∀ {k : Nat} {e : Int × Int}, instrsE lc l k xs = some e → e.2 ≠ 0 := by
  induction xs with
  | nil => intro k e h; simp [instrsE] at h
  | cons x r ih =>
    intro k e h
    simp only [instrsE] at h
    cases hx : instrE lc l x with
    | some y => rw [hx] at h; injection h with h; rw [← h]; exact instrE_code hx
    | none => rw [hx] at h; exact ih h
theorem funcE_code {l : List S58} {g : S58} {e : Int × Int} (h : funcE l g = some e) : e.2 ≠ 0 := by
  unfold funcE at h
  split at h
  · split at h
    · cases hi : instrsE g.f1.length l 0 g.f1 with
      | some y => rw [hi] at h; injection h with h; rw [← h]; exact instrsE_code hi
      | none =>
        rw [hi] at h
        have h : lastE g = some e := h
        unfold lastE at h
        simp only at h
        split at h
        · cases h
        · injection h with h; rw [← h]; show (11 : Int) ≠ 0; decide
    · injection h with h; rw [← h]; decide
  · injection h with h; rw [← h]; decide
theorem funcsE_code {l : List S58} {gs : List S58} : ∀ {f : Nat} {e : Int × Int × Int}, funcsE l f gs = some e → e.2.2 ≠ 0 := by
  induction gs with
  | nil => intro f e h; simp [funcsE] at h
  | cons g r ih =>
    intro f e h
    simp only [funcsE] at h
    cases hx : funcE l g with
    | some y => rw [hx] at h; injection h with h; rw [← h]; exact funcE_code hx
    | none => rw [hx] at h; exact ih h
/-- what the check passes may run. -/
theorem check_ok {l : List S58} (h : (checkP l).2.2 = 0) : POk l := by
  unfold checkP at h
  split at h
  · rename_i hl
    cases hf : funcsE l 0 l with
    | some e => rw [hf] at h; exact absurd h (funcsE_code hf)
    | none => exact ⟨hl, fun f hfl => funcE_ok (funcsE_none hf f hfl)⟩
  · cases h
end Go.Proofs.Ytnhipdniceoigaa.H
