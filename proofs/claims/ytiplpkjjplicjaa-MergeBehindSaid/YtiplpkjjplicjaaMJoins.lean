/- MergeJoins: of a node whose pieces are all its kids, what it tells is what they tell, one behind the other. -/
import Derived.Test.YtiplpkjjplicjaaMBuild
set_option linter.unusedVariables false
set_option linter.unusedSimpArgs false
namespace Go.Proofs.Ytiplpkjjplicjaa.H
open Go.RowKit Go.Hay Go.Proofs.YtiplpkjjplicjaaW.PrintWords Go.Proofs.YtiplpkjjplicjaaW.PrintLast Go.Proofs.YtiplpkjjplicjaaW.PrintMore
/-! ### the tree, in plain words -/
def tellPs (l : List Int) : List S64 := l.map fun n => ⟨false, n⟩
def kidPs (m n : Nat) : List S64 := (List.range' m n).map fun i : Nat => ⟨true, (i : Int)⟩
def kidT (l : List Int) : T := .node (tellPs l) [] 0 0
def joinT (l : List (List Int)) (v : Int) : T := .node (kidPs 0 l.length) (l.map kidT) v 0
theorem met_tell : ∀ (l : List Int) (m : Int), metP m (tellPs l) = some m
  | [], m => rfl
  | n :: r, m => by
    show metP m (⟨false, n⟩ :: tellPs r) = _
    rw [metP, if_neg (by simp)]; exact met_tell r m
theorem met_kids : ∀ (n m : Nat), metP m (kidPs m n) = some ((m + n : Nat) : Int)
  | 0, m => rfl
  | n + 1, m => by
    show metP m (⟨true, (m : Int)⟩ :: kidPs (m + 1) n) = _
    rw [metP, if_pos rfl, if_pos rfl]
    have := met_kids n (m + 1)
    rw [show ((m : Int) + 1) = ((m + 1 : Nat) : Int) by omega, this]
    congr 2; omega
theorem kid_right (l : List Int) (e : Int) (he : e ≤ 30) : rightT (kidT l) e = true := by
  rw [kidT, rightT, if_neg (by rintro (h | h); omega; exact h.1 rfl), met_tell]; rfl
theorem kids_right : ∀ (l : List (List Int)) (e : Int), e ≤ 30 → rightTs (l.map kidT) e = true
  | [], e, he => rfl
  | a :: r, e, he => by rw [List.map_cons, rightTs, kid_right a e he, kids_right r e he]; rfl
theorem join_right (l : List (List Int)) (v : Int) : rightT (joinT l v) 0 = true := by
  have hm := met_kids l.length 0
  rw [joinT, rightT, if_neg (by rintro (h | h); omega; exact h.1 rfl)]
  rw [show ((0 : Nat) : Int) = 0 from rfl, Nat.zero_add] at hm
  rw [hm]
  simp only [List.length_map, if_true]
  exact kids_right l _ (by omega)
theorem tell_walk : ∀ (l : List Int) (W : List (List Int × Int × Option (List Int))), walkPs (tellPs l) W = (l, 0, none)
  | [], W => rfl
  | n :: r, W => by
    show walkPs (⟨false, n⟩ :: tellPs r) W = _
    rw [walkPs, if_neg (by simp), tell_walk r W]; rfl
theorem kid_walk (l : List Int) (p : List Int) : walkT (kidT l) p = (l, 0, none) := by
  rw [kidT, walkT, tell_walk]; rfl
theorem kids_walk (l : List (List Int)) (W : List (List Int × Int × Option (List Int))) (hW : ∀ i (h : i < l.length), W.getD i ([], 0, none) = (l[i], 0, none)) : ∀ (n m : Nat), m + n = l.length → walkPs (kidPs m n) W = ((l.drop m).flatten, 0, none)
  | 0, m, h => by
    rw [List.drop_of_length_le (by omega)]; rfl
  | n + 1, m, h => by
    show walkPs (⟨true, (m : Int)⟩ :: kidPs (m + 1) n) W = _
    rw [walkPs, if_pos rfl]
    simp only [Int.toNat_natCast]
    rw [hW m (by omega), if_pos rfl, kids_walk l W hW n (m + 1) (by omega), List.drop_eq_getElem_cons (show m < l.length by omega)]
    rfl
theorem join_walk (l : List (List Int)) (v : Int) : walkT (joinT l v) [] = (l.flatten, 0, none) := by
  have h := kids_walk l (walkKs (l.map kidT) [] 0) (fun i hi => by
    rw [List.getD_eq_getElem?_getD, walkKs_get (l.map kidT) [] 0 i (by simpa using hi)]
    simp [kid_walk]) l.length 0 (by omega)
  rw [joinT, walkT, h, if_pos rfl]; rfl
theorem join_merge (l : List (List Int)) (v : Int) : mergeP (joinT l v) = (l.flatten, v, 0, 0) := by
  unfold mergeP; rw [if_pos (join_right l v), join_walk, if_pos rfl]; rfl
theorem kids_count : ∀ l : List (List Int), nodesTs (l.map kidT) = l.length ∧ numsTs (l.map kidT) = l.flatten.length
  | [] => ⟨rfl, rfl⟩
  | a :: r => by
    obtain ⟨h1, h2⟩ := kids_count r
    rw [List.map_cons, nodesTs, numsTs, h1, h2, kidT, nodesT, numsT, nodesTs, numsTs]
    simp [tellPs]; omega
theorem join_count (l : List (List Int)) (v : Int) : nodesT (joinT l v) = 1 + l.length ∧ numsT (joinT l v) = l.flatten.length := by
  obtain ⟨h1, h2⟩ := kids_count l
  rw [joinT, nodesT, numsT, h1, h2]
  simp [kidPs]
theorem join_many (l : List (List Int)) (v : Int) : manyP (joinT l v) = (1 + (l.length : Int), (l.flatten.length : Int)) := by
  unfold manyP; rw [if_pos (join_right l v), (join_count l v).1, (join_count l v).2]
theorem flat_len : ∀ l : List (List Int), (∀ a ∈ l, a.length ≤ 30) → l.flatten.length ≤ 30 * l.length
  | [], _ => by simp
  | a :: r, h => by
    have := flat_len r (fun x hx => h x (by simp [hx]))
    have := h a (by simp)
    rw [List.flatten_cons, List.length_append, List.length_cons]; omega
theorem kidPs_snoc (n : Nat) : kidPs 0 (n + 1) = kidPs 0 n ++ [⟨true, (n : Int)⟩] := by
  unfold kidPs; rw [← List.range_eq_range', ← List.range_eq_range', List.range_succ, List.map_append]; rfl
theorem at_LL {w : World} {A : Option Addr} {n : Nat} {xs : List (List Int)} (h : (Kd.slice 2 (Kd.int .i64)).C w A n xs) (i : Nat) (hi : i < n) (hi2 : i < xs.length) : ∃ ad A0 c0, A = some ad ∧ w.cell? (ad.add i) = some (.slice A0 xs[i].length c0) ∧ xs[i].length ≤ c0 ∧ (Kd.int .i64).C w A0 xs[i].length xs[i] := by
  obtain ⟨ad, c, e, _, hK, hc0⟩ := Kd.C_get h ([] : List Int) (i : Int) (by omega) (by omega)
  have hc : ∀ j u, c[j]? = some u → w.cell? (ad.add (i * 1 + j)) = some u := hc0
  have e2 : xs.getD (i : Int).toNat [] = xs[i] := by simp [hi2]
  rw [e2] at hK
  obtain ⟨A0, c0, rfl, l0, g0⟩ := hK
  have := hc 0 _ rfl
  rw [Nat.mul_one, Nat.add_zero] at this
  exact ⟨ad, A0, c0, e, this, l0, g0⟩
end Go.Proofs.Ytiplpkjjplicjaa.H
