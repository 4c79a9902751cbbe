/- Trees behind pointers: what a node at an address is, and what merging comes to, in plain words. -/
import Derived.Test.YtiplpkjjplicjaaH0
import Derived.Test.YtiplpkjjplicjaaBaseW
set_option linter.unusedVariables false
set_option linter.unusedSimpArgs false
namespace Go.Proofs.Ytiplpkjjplicjaa.H
open Go.RowKit Go.Hay Go.Proofs.YtiplpkjjplicjaaW.PrintWords Go.Proofs.YtiplpkjjplicjaaW.PrintLast Go.Proofs.YtiplpkjjplicjaaW.PrintMore
/-- A tree: a piece is whether it is a kid, and a number. -/
inductive T where
  | nil
  | node (ps : List S64) (ks : List T) (v f : Int)
def kP : Kd (Option Addr) := Kd.scalar Value.pointer (fun _ => rfl)
mutual
def IsT : T → World → Option Addr → Prop
  | .nil, _, a => a = none
  | .node ps ks v f, w, a => ∃ b A1 c1 A2 c2 qs, a = some ⟨b, 0, none⟩ ∧ w.heap[b]? = some (.cells #[.slice A1 ps.length c1, .slice A2 ks.length c2, .int .i64 v, .int .i64 f] 42 (0, 0)) ∧
      ps.length ≤ c1 ∧ k64.C w A1 ps.length ps ∧ ks.length ≤ c2 ∧ kP.C w A2 ks.length qs ∧ IsTs ks w qs
def IsTs : List T → World → List (Option Addr) → Prop
  | [], _, qs => qs = []
  | k :: r, w, qs => ∃ a s, qs = a :: s ∧ IsT k w a ∧ IsTs r w s
end
mutual
theorem IsT.keep : ∀ (t : T) {w w' : World} {a : Option Addr}, IsT t w a → Below w.heap.size w w' → IsT t w' a
  | .nil, _, _, _, h, _ => by simpa only [IsT] using h
  | .node ps ks v f, w, w', a, h, hb => by
    simp only [IsT] at h ⊢
    obtain ⟨b, A1, c1, A2, c2, qs, h1, h2, h3, h4, h5, h6, h7⟩ := h
    exact ⟨b, A1, c1, A2, c2, qs, h1, (hb.block _ (blk_lt h2)).trans h2, h3, Kd.C_below h4 hb, h5, Kd.C_below h6 hb, IsTs.keep ks h7 hb⟩
theorem IsTs.keep : ∀ (l : List T) {w w' : World} {qs : List (Option Addr)}, IsTs l w qs → Below w.heap.size w w' → IsTs l w' qs
  | [], _, _, _, h, _ => by simpa only [IsTs] using h
  | k :: r, w, w', qs, h, hb => by
    simp only [IsTs] at h ⊢
    obtain ⟨a, s, h1, h2, h3⟩ := h
    exact ⟨a, s, h1, IsT.keep k h2 hb, IsTs.keep r h3 hb⟩
end
theorem IsTs.length : ∀ {l : List T} {w : World} {qs : List (Option Addr)}, IsTs l w qs → qs.length = l.length
  | [], _, _, h => by simp only [IsTs] at h; simp [h]
  | k :: r, w, qs, h => by
    simp only [IsTs] at h
    obtain ⟨a, s, rfl, h2, h3⟩ := h
    simp [IsTs.length h3]
theorem IsTs.get : ∀ {l : List T} {w : World} {qs : List (Option Addr)} (h : IsTs l w qs) (i : Nat) (hi : i < l.length), ∃ h' : i < qs.length, IsT l[i] w qs[i]
  | [], _, _, h, i, hi => absurd hi (Nat.not_lt_zero _)
  | k :: r, w, qs, h, i, hi => by
    simp only [IsTs] at h
    obtain ⟨a, s, rfl, h2, h3⟩ := h
    cases i with
    | zero => exact ⟨by simp, h2⟩
    | succ i =>
      obtain ⟨h', hg⟩ := IsTs.get h3 i (by simpa using hi)
      exact ⟨by simpa using h', by simpa using hg⟩
theorem at_P {w : World} {A : Option Addr} {n : Nat} {qs : List (Option Addr)} (h : kP.C w A n qs) (i : Nat) (hi : i < n) (hi2 : i < qs.length) : ∃ ad, A = some ad ∧ w.cell? (ad.add i) = some (.pointer qs[i]) := by
  obtain ⟨ad, cs, e, _, hK, hc⟩ := Kd.C_get h none (i : Int) (by omega) (by omega)
  have hK : cs = [.pointer (qs.getD (i : Int).toNat none)] := hK
  have := hc 0 _ (by rw [hK]; rfl)
  refine ⟨ad, e, ?_⟩
  have e2 : qs.getD (i : Int).toNat none = qs[i] := by simp [hi2]
  rw [e2] at this
  simpa [kP, Kd.scalar] using this

/-! ### what is right -/
def metP : Int → List S64 → Option Int
  | m, [] => some m
  | m, p :: r => if p.f0 = true then (if p.f1 = m then metP (m + 1) r else none) else metP m r
mutual
def rightT : T → Int → Bool
  | .nil, _ => false
  | .node ps ks v f, d => if d > 30 ∨ (f ≠ 0 ∧ v ≠ 0) then false else match metP 0 ps with
    | none => false
    | some m => if m = (ks.length : Int) then rightTs ks (d + 1) else false
def rightTs : List T → Int → Bool
  | [], _ => true
  | k :: r, d => rightT k d && rightTs r d
end
/-! ### what is told, why it fails, and where first -/
def preT (t : List Int) (r : List Int × Int × Option (List Int)) : List Int × Int × Option (List Int) := (t ++ r.1, r.2.1, r.2.2)
def walkPs : List S64 → List (List Int × Int × Option (List Int)) → List Int × Int × Option (List Int)
  | [], _ => ([], 0, none)
  | p :: r, W => if p.f0 = true then (if (W.getD p.f1.toNat ([], 0, none)).2.1 = 0 then preT (W.getD p.f1.toNat ([], 0, none)).1 (walkPs r W) else W.getD p.f1.toNat ([], 0, none)) else preT [p.f1] (walkPs r W)
mutual
def walkT : T → List Int → List Int × Int × Option (List Int)
  | .nil, _ => ([], 0, none)
  | .node ps ks v f, path => if (walkPs ps (walkKs ks path 0)).2.1 = 0 then ((walkPs ps (walkKs ks path 0)).1, f, if f = 0 then none else some path) else walkPs ps (walkKs ks path 0)
def walkKs : List T → List Int → Nat → List (List Int × Int × Option (List Int))
  | [], _, _ => []
  | k :: r, path, i => walkT k (path ++ [(i : Int)]) :: walkKs r path (i + 1)
end
theorem walkKs_get : ∀ (ks : List T) (path : List Int) (j i : Nat) (h : i < ks.length), (walkKs ks path j)[i]? = some (walkT ks[i] (path ++ [((j + i : Nat) : Int)]))
  | [], _, _, i, h => absurd h (Nat.not_lt_zero _)
  | k :: r, path, j, 0, h => by rw [walkKs]; rfl
  | k :: r, path, j, i + 1, h => by
    rw [walkKs, List.getElem?_cons_succ, walkKs_get r path (j + 1) i (by simpa using h)]
    simp only [List.getElem_cons_succ]
    rw [show j + 1 + i = j + (i + 1) by omega]
theorem metP_le : ∀ {l : List S64} {m r : Int}, metP m l = some r → m ≤ r
  | [], m, r, h => by rw [metP] at h; cases h; exact Int.le_refl _
  | p :: l, m, r, h => by
    rw [metP] at h
    by_cases h1 : p.f0 = true
    · rw [if_pos h1] at h
      by_cases h2 : p.f1 = m
      · rw [if_pos h2] at h; have := metP_le h; omega
      · rw [if_neg h2] at h; cases h
    · rw [if_neg h1] at h; exact metP_le h
/-- it fails just if there is a first one. -/
def Fits (r : List Int × Int × Option (List Int)) : Prop := r.2.1 = 0 ↔ r.2.2 = none
theorem walkPs_fits : ∀ (ps : List S64) (W : List (List Int × Int × Option (List Int))), (∀ x ∈ W, Fits x) → Fits (walkPs ps W)
  | [], W, _ => by simp [walkPs, Fits]
  | p :: r, W, h => by
    have hr := walkPs_fits r W h
    rw [walkPs]
    have hk : Fits (W.getD p.f1.toNat ([], 0, none)) := by
      rw [List.getD_eq_getElem?_getD]
      cases hx : W[p.f1.toNat]? with
      | none => simp [Fits]
      | some x => exact h x (List.mem_of_getElem? hx)
    split
    · split
      · exact hr
      · exact hk
    · exact hr
mutual
theorem walkT_fits : ∀ (t : T) (path : List Int), Fits (walkT t path)
  | .nil, _ => by simp [walkT, Fits]
  | .node ps ks v f, path => by
    have := walkPs_fits ps _ (walkKs_fits ks path 0)
    rw [walkT]
    split
    · by_cases hf : f = 0
      · simp [Fits, hf]
      · simp [Fits, hf]
    · exact this
theorem walkKs_fits : ∀ (ks : List T) (path : List Int) (j : Nat), ∀ x ∈ walkKs ks path j, Fits x
  | [], _, _, x, h => by simp [walkKs] at h
  | k :: r, path, j, x, h => by
    rw [walkKs] at h
    rcases List.mem_cons.1 h with h | h
    · exact h ▸ walkT_fits k _
    · exact walkKs_fits r path (j + 1) x h
end
/-! ### how many -/
mutual
def countT : T → Int × Int
  | .nil => (0, 0)
  | .node ps ks v f => countTs ks (1, (ps.length : Int) - (ks.length : Int))
def countTs : List T → Int × Int → Int × Int
  | [], c => c
  | k :: r, c => countTs r (c.1 + (countT k).1, c.2 + (countT k).2)
end
end Go.Proofs.Ytiplpkjjplicjaa.H
