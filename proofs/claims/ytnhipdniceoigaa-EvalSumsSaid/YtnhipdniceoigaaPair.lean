/- A region that draws its order, walked in one order, where two operations (two rooms that are made) may come in either order. No conditions of a program. -/
import Derived.Test.YtnhipdniceoigaaBase
set_option linter.unusedVariables false
set_option linter.unusedSimpArgs false
namespace Go.Hay
open Go.RowKit
inductive Turn2 where
  | take (i : Nat)
  | op (i : Nat)
  | fin (i : Nat)
  | pair (i j : Nat)
  | tri (i k j : Nat)
  | rooms (l : List Nat)
def Turn2.many : Turn2 → Nat
  | .pair _ _ => 2
  | .tri _ _ _ => 3
  | .rooms l => l.length
  | _ => 1
def many2 : List Turn2 → Nat
  | [] => 0
  | t :: r => many2 r + t.many
/-! ### rooms: operations that come in any order, each with what it yields and the blocks that it owns -/
def dstOf (ops : Array Oper) (i : Nat) : Option Tmp := (ops[i]?).bind (·.dst)
theorem put_put {a : Act} {d e : Option Tmp} (h : d ≠ e) (x y : Value) : (a.put d x).put e y = (a.put e y).put d x := by
  cases d with
  | none => rfl
  | some d =>
    cases e with
    | none => rfl
    | some e =>
      simp only [Act.put]
      rw [Array.setIfInBounds_comm _ _ (fun he => h (congrArg some he))]
def putE (ops : Array Oper) : List Nat → (Nat → Bool) → (Nat → Value) → Act → Act
  | [], _, _, a => a
  | i :: l, ex, vals, a => putE ops l ex vals (if ex i = true then a.put (dstOf ops i) (vals i) else a)
theorem putE_put (ops : Array Oper) (ex : Nat → Bool) (vals : Nat → Value) (d : Option Tmp) (v : Value) : ∀ (l : List Nat) (a : Act), (∀ i ∈ l, dstOf ops i ≠ d) → (putE ops l ex vals a).put d v = putE ops l ex vals (a.put d v)
  | [], _, _ => rfl
  | i :: l, a, h => by
    rw [putE, putE, putE_put ops ex vals d v l _ (fun j hj => h j (List.mem_cons_of_mem _ hj))]
    congr 1
    split
    · exact put_put (h i (List.mem_cons_self ..)) _ _
    · rfl
theorem putE_congr (ops : Array Oper) {ex ex' : Nat → Bool} {vals vals' : Nat → Value} : ∀ (l : List Nat) (a : Act), (∀ i ∈ l, ex i = ex' i ∧ (ex i = true → vals i = vals' i)) → putE ops l ex vals a = putE ops l ex' vals' a
  | [], _, _ => rfl
  | i :: l, a, h => by
    have h1 := h i (List.mem_cons_self ..)
    rw [putE, putE, ← h1.1]
    rw [putE_congr ops l _ (fun j hj => h j (List.mem_cons_of_mem _ hj))]
    congr 1
    split
    · rename_i he; rw [h1.2 he]
    · rfl
def upd {α : Type} (f : Nat → α) (i : Nat) (x : α) : Nat → α := fun j => if j = i then x else f j
theorem upd_same {α : Type} (f : Nat → α) (i : Nat) (x : α) : upd f i x i = x := by simp [upd]
theorem upd_ne {α : Type} (f : Nat → α) {i j : Nat} (x : α) (h : j ≠ i) : upd f i x j = f j := by simp [upd, h]
theorem putE_set (ops : Array Oper) (ex : Nat → Bool) (vals : Nat → Value) (i : Nat) (v : Value) : ∀ (l : List Nat) (a : Act), (l.map (dstOf ops)).Nodup → i ∈ l → ex i = false → (putE ops l ex vals a).put (dstOf ops i) v = putE ops l (upd ex i true) (upd vals i v) a
  | [], _, _, h, _ => by cases h
  | j :: l, a, hn, h, he => by
    rw [List.map_cons, List.nodup_cons] at hn
    by_cases hij : i = j
    · subst hij
      have hni : ∀ k ∈ l, k ≠ i := fun k hk e => hn.1 (by rw [← e]; exact List.mem_map_of_mem hk)
      rw [putE, putE, he, upd_same, upd_same, if_neg (by simp), if_pos rfl, putE_put ops ex vals _ v l a (fun k hk e => hn.1 (by rw [← e]; exact List.mem_map_of_mem hk))]
      exact putE_congr ops l _ (fun k hk => ⟨(upd_ne _ _ (hni k hk)).symm, fun _ => (upd_ne _ _ (hni k hk)).symm⟩)
    · have hi : i ∈ l := by
        rcases List.mem_cons.1 h with h | h
        · exact absurd h hij
        · exact h
      rw [putE, putE, upd_ne _ _ (Ne.symm hij), upd_ne _ _ (Ne.symm hij)]
      exact putE_set ops ex vals i v l _ hn.2 hi he
theorem put_size (a : Act) (d : Option Tmp) (v : Value) : (a.put d v).tmps.size = a.tmps.size := by cases d <;> simp [Act.put]
theorem putE_other (ops : Array Oper) (ex : Nat → Bool) (vals : Nat → Value) (t : Nat) : ∀ (l : List Nat) (a : Act), (∀ j ∈ l, dstOf ops j ≠ some t) → (putE ops l ex vals a).tmps.getD t undef = a.tmps.getD t undef
  | [], _, _ => rfl
  | i :: l, a, h => by
    rw [putE, putE_other ops ex vals t l _ (fun j hj => h j (List.mem_cons_of_mem _ hj))]
    split
    · exact put_getD (h i (List.mem_cons_self ..))
    · rfl
theorem putE_at (ops : Array Oper) (ex : Nat → Bool) (vals : Nat → Value) (i t : Nat) : ∀ (l : List Nat) (a : Act), (l.map (dstOf ops)).Nodup → i ∈ l → ex i = true → dstOf ops i = some t → t < a.tmps.size → (putE ops l ex vals a).tmps.getD t undef = vals i
  | [], _, _, h, _, _, _ => by cases h
  | j :: l, a, hn, h, he, hd, ht => by
    rw [List.map_cons, List.nodup_cons] at hn
    rw [putE]
    by_cases hij : i = j
    · subst hij
      rw [putE_other ops ex vals t l _ (fun k hk e => hn.1 (by rw [hd, ← e]; exact List.mem_map_of_mem hk)), if_pos he, hd]
      simp [Act.put, ht]
    · have hi : i ∈ l := by
        rcases List.mem_cons.1 h with h | h
        · exact absurd h hij
        · exact h
      exact putE_at ops ex vals i t l _ hn.2 hi he hd (by split <;> simpa [put_size] using ht)
structure Rooms (P : Program) (ops : Array Oper) (Q : Exit → Act → World → Prop) (S : World → Prop) (l : List Nat) (a : Act) (F : Nat → Value → (Nat → Prop) → World → Prop) : Prop where
  stable : ∀ (i : Nat) (v : Value) (B : Nat → Prop) (w w' : World), F i v B w → S w' → w.heap.size ≤ w'.heap.size → (∀ k, B k → w'.heap[k]? = w.heap[k]?) → F i v B w'
  step : ∀ i ∈ l, ∀ (vals : Nat → Value) (B : Nat → Nat → Prop) (w : World) (a' : Act), S w →
    (∀ d, d ∈ l → d ∈ depsAt .any ops i → F d (vals d) (B d) w ∧ ∀ k, B d k → k < w.heap.size) →
    (∀ d d', d ∈ l → d' ∈ l → d ∈ depsAt .any ops i → d' ∈ depsAt .any ops i → d ≠ d' → ∀ k, B d k → ¬ B d' k) →
    (∀ t, (∀ j ∈ l, dstOf ops j ≠ some t) → a'.tmps.getD t undef = a.tmps.getD t undef) →
    (∀ d, d ∈ l → d ∈ depsAt .any ops i → ∀ t, dstOf ops d = some t → t < a.tmps.size → a'.tmps.getD t undef = vals d) →
    wpOp P ops Q i (fun a'' w'' => ∃ v B', a'' = a'.put (dstOf ops i) v ∧ S w'' ∧ w.heap.size ≤ w''.heap.size ∧ F i v B' w'' ∧ (∀ k, B' k → k < w''.heap.size ∧ (w.heap.size ≤ k ∨ ∃ d, d ∈ l ∧ d ∈ depsAt .any ops i ∧ B d k)) ∧
      ∀ k, k < w.heap.size → (∀ d, d ∈ l → d ∈ depsAt .any ops i → ¬ B d k) → w''.heap[k]? = w.heap[k]?) a' w
/-- the same, with what a closed reckoning decides. -/
def isDep (ops : Array Oper) (l : List Nat) (i d : Nat) : Bool := l.contains d && (depsAt .any ops i).contains d
theorem isDep_iff {ops : Array Oper} {l : List Nat} {i d : Nat} : isDep ops l i d = true ↔ d ∈ l ∧ d ∈ depsAt .any ops i := by simp [isDep]
theorem Rooms.of {P : Program} {ops : Array Oper} {Q : Exit → Act → World → Prop} {S : World → Prop} {l : List Nat} {a : Act} {F : Nat → Value → (Nat → Prop) → World → Prop}
    (stable : ∀ (i : Nat) (v : Value) (B : Nat → Prop) (w w' : World), F i v B w → S w' → w.heap.size ≤ w'.heap.size → (∀ k, B k → w'.heap[k]? = w.heap[k]?) → F i v B w')
    (step : ∀ i ∈ l, ∀ (vals : Nat → Value) (B : Nat → Nat → Prop) (w : World) (a' : Act), S w →
      (∀ d, isDep ops l i d = true → F d (vals d) (B d) w ∧ ∀ k, B d k → k < w.heap.size) →
      (∀ d d', isDep ops l i d = true → isDep ops l i d' = true → d ≠ d' → ∀ k, B d k → ¬ B d' k) →
      (∀ t, (l.all fun j => dstOf ops j != some t) = true → a'.tmps.getD t undef = a.tmps.getD t undef) →
      (∀ d t, isDep ops l i d = true → (dstOf ops d == some t && Nat.ble (t + 1) a.tmps.size) = true → a'.tmps.getD t undef = vals d) →
      wpOp P ops Q i (fun a'' w'' => ∃ v B', a'' = a'.put (dstOf ops i) v ∧ S w'' ∧ w.heap.size ≤ w''.heap.size ∧ F i v B' w'' ∧ (∀ k, B' k → k < w''.heap.size ∧ (w.heap.size ≤ k ∨ ∃ d, isDep ops l i d = true ∧ B d k)) ∧
        ∀ k, k < w.heap.size → (∀ d, isDep ops l i d = true → ¬ B d k) → w''.heap[k]? = w.heap[k]?) a' w) : Rooms P ops Q S l a F := by
  refine ⟨stable, fun i hi vals B w a' hS h1 h2 h3 h4 => ?_⟩
  refine wpOp_mono (fun a'' w'' hx => ?_) (step i hi vals B w a' hS (fun d hd => h1 d (isDep_iff.1 hd).1 (isDep_iff.1 hd).2) (fun d d' hd hd' => h2 d d' (isDep_iff.1 hd).1 (isDep_iff.1 hd').1 (isDep_iff.1 hd).2 (isDep_iff.1 hd').2)
    (fun t ht => h3 t (fun j hj => by simpa using List.all_eq_true.1 ht j hj)) (fun d t hd ht => by
      simp only [Bool.and_eq_true, beq_iff_eq] at ht
      exact h4 d (isDep_iff.1 hd).1 (isDep_iff.1 hd).2 t ht.1 (Nat.le_of_ble_eq_true ht.2)))
  obtain ⟨v, B', e, q1, q2, q3, q4, q5⟩ := hx
  exact ⟨v, B', e, q1, q2, q3, fun k hk => ⟨(q4 k hk).1, (q4 k hk).2.imp id (fun ⟨d, hd, hb⟩ => ⟨d, (isDep_iff.1 hd).1, (isDep_iff.1 hd).2, hb⟩)⟩, fun k hk hn => q5 k hk (fun d hd => hn d (isDep_iff.1 hd).1 (isDep_iff.1 hd).2)⟩
/-- what is left behind them all. -/
structure Left (ops : Array Oper) (l : List Nat) (F : Nat → Value → (Nat → Prop) → World → Prop) (w0 : World) (vals : Nat → Value) (B : Nat → Nat → Prop) (w : World) : Prop where
  size : w0.heap.size ≤ w.heap.size
  fact : ∀ i ∈ l, (∀ j ∈ l, i ∉ depsAt .any ops j) → F i (vals i) (B i) w ∧ ∀ k, B i k → k < w.heap.size
  apart : ∀ i i', i ∈ l → i' ∈ l → (∀ j ∈ l, i ∉ depsAt .any ops j) → (∀ j ∈ l, i' ∉ depsAt .any ops j) → i ≠ i' → ∀ k, B i k → ¬ B i' k
def okRooms (ops : Array Oper) (l : List Nat) (listed : Array Bool) : Bool :=
  decide ((l.map (dstOf ops)).Nodup) &&
  l.all (fun i => decide (i < ops.size) && !listed.getD i true && (depsAt .any ops i).all (fun d => decide (d < i) && (listed.getD d false || l.contains d))) &&
  l.all (fun i => l.all fun i' => i == i' || (depsAt .any ops i).all fun d => !(l.contains d) || !((depsAt .any ops i').contains d)) &&
  (List.range ops.size).all (fun j => listed.getD j true || l.contains j || l.all fun i => (depsAt .any ops j).contains i)
section
variable {P : Program} {md : Region.Mode} {ops : Array Oper} {Q : Exit → Act → World → Prop} {S : World → Prop} {F : List Nat}
def runSeq2 (P : Program) (ops : Array Oper) (Q : Exit → Act → World → Prop) (S : World → Prop) : List Turn2 → Act → World → Prop
  | [], a, w => Q .normal a w
  | .take i :: r, a, w => ∃ o v, ops[i]? = some o ∧ YieldsIf P ops S o v a ∧ S w ∧ runSeq2 P ops Q S r (a.put o.dst v) w
  | .op i :: r, a, w => wpOp P ops Q i (fun a' w' => S w' ∧ runSeq2 P ops Q S r a' w') a w
  | .fin i :: r, a, w => wpOp P ops Q i (fun a' w' => runSeq2 P ops Q S r a' w') a w
  | .pair i j :: r, a, w => wpOp P ops Q i (fun a' w' => S w' ∧ wpOp P ops Q j (fun a' w' => S w' ∧ runSeq2 P ops Q S r a' w') a' w') a w ∧
      wpOp P ops Q j (fun a' w' => S w' ∧ wpOp P ops Q i (fun a' w' => S w' ∧ runSeq2 P ops Q S r a' w') a' w') a w
  | .tri i k j :: r, a, w => wpOp P ops Q i (fun a' w' => S w' ∧ (wpOp P ops Q k (fun a' w' => S w' ∧ wpOp P ops Q j (fun a' w' => S w' ∧ runSeq2 P ops Q S r a' w') a' w') a' w' ∧
        wpOp P ops Q j (fun a' w' => S w' ∧ wpOp P ops Q k (fun a' w' => S w' ∧ runSeq2 P ops Q S r a' w') a' w') a' w')) a w ∧
      wpOp P ops Q j (fun a' w' => S w' ∧ wpOp P ops Q i (fun a' w' => S w' ∧ wpOp P ops Q k (fun a' w' => S w' ∧ runSeq2 P ops Q S r a' w') a' w') a' w') a w
  | .rooms l :: r, a, w => ∃ F, Rooms P ops Q S l a F ∧ S w ∧ ∀ vals B w', S w' → Left ops l F w vals B w' → runSeq2 P ops Q S r (putE ops l (fun _ => true) vals a) w'
def okSeq2 (md : Region.Mode) (ops : Array Oper) (F : List Nat) : List Turn2 → Array Bool → Bool
  | [], listed => (Region.ready md ops listed).isEmpty
  | .take i :: r, listed => (Region.ready md ops listed).contains i && Region.free md ops listed i && blocks md ops F i && !F.contains i && okSeq2 md ops F r (listed.setIfInBounds i true)
  | .op i :: r, listed => (Region.ready md ops listed == [i]) && okSeq2 md ops F r (listed.setIfInBounds i true)
  | .fin i :: r, listed => (Region.ready md ops listed == [i]) && F.contains i && okSeq2 md ops F r (listed.setIfInBounds i true)
  | .pair i j :: r, listed => (Region.ready md ops listed == [i, j]) && i != j && (Region.ready md ops (listed.setIfInBounds i true) == [j]) && (Region.ready md ops (listed.setIfInBounds j true) == [i]) &&
      okSeq2 md ops F r ((listed.setIfInBounds i true).setIfInBounds j true)
  | .tri i k j :: r, listed => (Region.ready md ops listed == [i, j]) && i != j && k != j && (Region.ready md ops (listed.setIfInBounds i true) == [k, j]) && (Region.ready md ops (listed.setIfInBounds j true) == [i]) &&
      (Region.ready md ops ((listed.setIfInBounds i true).setIfInBounds k true) == [j]) && (Region.ready md ops ((listed.setIfInBounds i true).setIfInBounds j true) == [k]) &&
      okSeq2 md ops F r (((listed.setIfInBounds i true).setIfInBounds k true).setIfInBounds j true)
  | .rooms l :: r, listed => (md == .any) && okRooms ops l listed && okSeq2 md ops F r (l.foldl (fun x i => x.setIfInBounds i true) listed)
theorem wpAnyF_one {i : Nat} {fuel : Nat} {listed : Array Bool} {a : Act} {w : World} (hr : Region.ready md ops listed = [i])
    (h : wpOp P ops Q i (fun a' w' => S w' ∧ wpAnyF P md ops Q S F fuel (listed.setIfInBounds i true) a' w') a w) : wpAnyF P md ops Q S F (fuel + 1) listed a w := by
  refine ⟨fun h0 => (by rw [hr] at h0; cases h0), fun k hk => ?_⟩
  have hki : k = i := by rw [hr] at hk; simpa using hk
  subst hki
  exact wpOp_mono (fun a' w' h' => ⟨fun _ => h'.1, h'.2⟩) h
theorem foldl_getD : ∀ (l : List Nat) (listed : Array Bool) (j : Nat) (d : Bool), (∀ i ∈ l, i < listed.size) → (l.foldl (fun x i => x.setIfInBounds i true) listed).getD j d = if j ∈ l then true else listed.getD j d
  | [], listed, j, d, _ => by simp
  | i :: l, listed, j, d, h => by
    rw [List.foldl_cons, foldl_getD l _ j d (fun k hk => by rw [Array.size_setIfInBounds]; exact h k (List.mem_cons_of_mem _ hk))]
    have hi := h i (List.mem_cons_self ..)
    by_cases hj : j ∈ l
    · rw [if_pos hj, if_pos (List.mem_cons_of_mem _ hj)]
    · rw [if_neg hj]
      by_cases e : j = i
      · subst e
        rw [if_pos (List.mem_cons_self ..)]
        simp [Array.getD, hi]
      · rw [if_neg (by simp [e, hj]), getD_set_ne d (Ne.symm e)]
theorem foldl_size : ∀ (l : List Nat) (listed : Array Bool), (l.foldl (fun x i => x.setIfInBounds i true) listed).size = listed.size
  | [], _ => rfl
  | i :: l, listed => by rw [List.foldl_cons, foldl_size l]; simp
theorem wpAnyF_rooms {l : List Nat} {listed0 : Array Bool} {a0 : Act} {w0 : World} {n : Nat} {Fc : Nat → Value → (Nat → Prop) → World → Prop} (hok : okRooms ops l listed0 = true) (R : Rooms P ops Q S l a0 Fc)
    (fin : ∀ vals B w', S w' → Left ops l Fc w0 vals B w' → wpAnyF P .any ops Q S F n (l.foldl (fun x i => x.setIfInBounds i true) listed0) (putE ops l (fun _ => true) vals a0) w') :
    ∀ (m : Nat) (listed : Array Bool) (ex : Nat → Bool) (vals : Nat → Value) (B : Nat → Nat → Prop) (w : World), (l.filter fun i => !ex i).length = m → Closed .any ops listed → listed.size = listed0.size →
      (∀ j d, listed.getD j d = if j ∈ l then (if ex j = true then true else listed0.getD j d) else listed0.getD j d) → S w → w0.heap.size ≤ w.heap.size →
      (∀ i ∈ l, ex i = true → (∀ j ∈ l, ex j = true → i ∉ depsAt .any ops j) → Fc i (vals i) (B i) w ∧ ∀ k, B i k → k < w.heap.size) →
      (∀ i i', i ∈ l → i' ∈ l → ex i = true → ex i' = true → (∀ j ∈ l, ex j = true → i ∉ depsAt .any ops j) → (∀ j ∈ l, ex j = true → i' ∉ depsAt .any ops j) → i ≠ i' → ∀ k, B i k → ¬ B i' k) →
      wpAnyF P .any ops Q S F (m + n) listed (putE ops l ex vals a0) w := by
  have hok' := hok
  simp only [okRooms, Bool.and_eq_true, decide_eq_true_eq] at hok'
  obtain ⟨⟨⟨hnd, h1⟩, h2⟩, h3⟩ := hok'
  have hin : ∀ i ∈ l, i < ops.size ∧ listed0.getD i true = false ∧ ∀ d ∈ depsAt .any ops i, d < i ∧ (listed0.getD d false = true ∨ d ∈ l) := fun i hi => by
    have := List.all_eq_true.1 h1 i hi
    simp only [Bool.and_eq_true, decide_eq_true_eq, Bool.not_eq_true'] at this
    exact ⟨this.1.1, this.1.2, fun d hd => by have := List.all_eq_true.1 this.2 d hd; simpa using this⟩
  have hone : ∀ i ∈ l, ∀ i' ∈ l, i ≠ i' → ∀ d ∈ l, d ∈ depsAt .any ops i → d ∉ depsAt .any ops i' := fun i hi i' hi' hne d hd hdi => by
    have := List.all_eq_true.1 (List.all_eq_true.1 h2 i hi) i' hi'
    simp only [Bool.or_eq_true, beq_iff_eq] at this
    rcases this with h | h
    · exact absurd h hne
    · have := List.all_eq_true.1 h d hdi
      simpa [hd] using this
  have hout : ∀ j, j < ops.size → listed0.getD j true = false → j ∉ l → ∀ i ∈ l, i ∈ depsAt .any ops j := fun j hj hl hn i hi => by
    have := List.all_eq_true.1 h3 j (List.mem_range.2 hj)
    simp only [Bool.or_eq_true] at this
    rcases this with (h | h) | h
    · rw [hl] at h; cases h
    · exact absurd (by simpa using h) hn
    · simpa using List.all_eq_true.1 h i hi
  have hln : l.Nodup := by
    have := List.pairwise_map.1 hnd
    exact this.imp (fun h e => h (by rw [e]))
  intro m
  induction m with
  | zero =>
    intro listed ex vals B w hm hcl hsz hlst hS hw hF hB
    have hall : ∀ i ∈ l, ex i = true := fun i hi => by
      cases he : ex i with
      | true => rfl
      | false => have : i ∈ l.filter (fun i => !ex i) := List.mem_filter.2 ⟨hi, by simp [he]⟩
                 rw [List.length_eq_zero_iff.1 hm] at this; cases this
    have e1 : listed = l.foldl (fun x i => x.setIfInBounds i true) listed0 := by
      apply Array.ext
      · rw [foldl_size, hsz]
      · intro j hj hj'
        have hd : ∀ (A : Array Bool) (h : j < A.size), A[j] = A.getD j false := fun A h => by simp [Array.getD, h]
        rw [hd _ hj, hd _ hj', hlst j false]
        have hb : ∀ i ∈ l, i < listed0.size := fun i hi => by
          have := (hin i hi).2.1
          by_cases hlt : i < listed0.size
          · exact hlt
          · simp [Array.getD, hlt] at this
        rw [foldl_getD l listed0 j false hb]
        by_cases hjl : j ∈ l
        · rw [if_pos hjl, if_pos (hall j hjl), if_pos hjl]
        · rw [if_neg hjl, if_neg hjl]
    have e2 : putE ops l ex vals a0 = putE ops l (fun _ => true) vals a0 := putE_congr ops l a0 (fun i hi => ⟨hall i hi, fun _ => rfl⟩)
    rw [e1, e2, Nat.zero_add]
    exact fin vals B w hS ⟨hw, fun i hi hn => hF i hi (hall i hi) (fun j hj _ => hn j hj), fun i i' hi hi' hn hn' => hB i i' hi hi' (hall i hi) (hall i' hi') (fun j hj _ => hn j hj) (fun j hj _ => hn' j hj)⟩
  | succ m ih =>
    intro listed ex vals B w hm hcl hsz hlst hS hw hF hB
    rw [show m + 1 + n = (m + n) + 1 by omega]
    have hex : ∃ i, i ∈ l ∧ ex i = false := by
      cases hf : l.filter (fun i => !ex i) with
      | nil => rw [hf] at hm; cases hm
      | cons i r =>
        have : i ∈ l.filter (fun i => !ex i) := by rw [hf]; exact List.mem_cons_self ..
        exact ⟨i, (List.mem_filter.1 this).1, by simpa using (List.mem_filter.1 this).2⟩
    have hready : ∀ i ∈ Region.ready .any ops listed, i ∈ l ∧ ex i = false := fun i hi => by
      have hun := (mem_ready.1 hi).1
      obtain ⟨_, o, ho, _⟩ := mem_ready.1 hi
      have hlt : i < ops.size := (Array.getElem?_eq_some_iff.1 ho).1
      rw [hlst i true] at hun
      by_cases hil : i ∈ l
      · rw [if_pos hil] at hun
        refine ⟨hil, ?_⟩
        cases he : ex i with
        | false => rfl
        | true => rw [he] at hun; simp at hun
      · rw [if_neg hil] at hun
        obtain ⟨j, hj, hje⟩ := hex
        have := Closed.ready_dep hi (hout i hlt hun hil j hj)
        rw [hlst j false, if_pos hj, hje] at this
        have h0 := getD_both (hin j hj).2.1
        simp [h0] at this
    refine ⟨fun h0 => ?_, fun i hi => ?_⟩
    · exfalso
      have key : ∀ (q : Nat) (i : Nat), i ≤ q → i ∈ l → ex i = false → ∃ i, i ∈ Region.ready .any ops listed := by
        intro q
        induction q with
        | zero =>
          intro i hq hi he
          obtain ⟨h4, h5, h6⟩ := hin i hi
          refine ⟨i, mem_ready.2 ⟨by rw [hlst i true, if_pos hi, he]; simpa using h5, ops[i], by simp [h4], fun e he2 hb => ?_⟩⟩
          have hd : e.on ∈ depsAt .any ops i := by
            unfold depsAt; rw [Array.getElem?_eq_getElem h4]
            exact List.mem_map.2 ⟨e, List.mem_filter.2 ⟨Array.mem_toList_iff.2 he2, hb⟩, rfl⟩
          have := (h6 _ hd).1
          omega
        | succ q ihq =>
          intro i hq hi he
          obtain ⟨h4, h5, h6⟩ := hin i hi
          by_cases hx : ∃ d, d ∈ depsAt .any ops i ∧ d ∈ l ∧ ex d = false
          · obtain ⟨d, hd, hdl, hde⟩ := hx
            have := (h6 d hd).1
            exact ihq d (by omega) hdl hde
          · refine ⟨i, mem_ready.2 ⟨by rw [hlst i true, if_pos hi, he]; simpa using h5, ops[i], by simp [h4], fun e he2 hb => ?_⟩⟩
            have hd : e.on ∈ depsAt .any ops i := by
              unfold depsAt; rw [Array.getElem?_eq_getElem h4]
              exact List.mem_map.2 ⟨e, List.mem_filter.2 ⟨Array.mem_toList_iff.2 he2, hb⟩, rfl⟩
            rw [hlst e.on false]
            by_cases hl : e.on ∈ l
            · rw [if_pos hl]
              cases hee : ex e.on with
              | true => simp
              | false => exact absurd ⟨_, hd, hl, hee⟩ hx
            · rw [if_neg hl]
              rcases (h6 _ hd).2 with h7 | h7
              · exact h7
              · exact absurd h7 hl
      obtain ⟨i, hi, he⟩ := hex
      obtain ⟨j, hj⟩ := key i i (Nat.le_refl _) hi he
      rw [h0] at hj; cases hj
    · obtain ⟨hil, hie⟩ := hready i hi
      have hdx : ∀ d, d ∈ l → d ∈ depsAt .any ops i → ex d = true := fun d hd hdi => by
        have := Closed.ready_dep hi hdi
        rw [hlst d false, if_pos hd] at this
        cases he : ex d with
        | true => rfl
        | false =>
          rw [he] at this
          have h0 := getD_both (hin d hd).2.1
          simp [h0] at this
      have hdu : ∀ d, d ∈ l → d ∈ depsAt .any ops i → ∀ j ∈ l, ex j = true → d ∉ depsAt .any ops j := fun d hd hdi j hj hje =>
        hone i hil j hj (fun e => by rw [e, hje] at hie; cases hie) d hd hdi
      have hst := R.step i hil vals B w (putE ops l ex vals a0) hS (fun d hd hdi => hF d hd (hdx d hd hdi) (hdu d hd hdi))
        (fun d d' hd hd' hdi hdi' hne => hB d d' hd hd' (hdx d hd hdi) (hdx d' hd' hdi') (hdu d hd hdi) (hdu d' hd' hdi') hne)
        (fun t ht => putE_other ops ex vals t l a0 ht)
        (fun d hd hdi t hdt htl => putE_at ops ex vals d t l a0 hnd hd (hdx d hd hdi) hdt htl)
      refine wpOp_mono (fun a'' w'' hx => ?_) hst
      obtain ⟨v, B', rfl, hS', hsz', hFi, hBi, hkeep⟩ := hx
      refine ⟨fun _ => hS', ?_⟩
      rw [putE_set ops ex vals i v l a0 hnd hil hie]
      have hexi : ∀ j, upd ex i true j = true → j ≠ i → ex j = true := fun j h hne => by rwa [upd_ne _ _ hne] at h
      refine ih (listed.setIfInBounds i true) (upd ex i true) (upd vals i v) (upd B i B') w'' ?_ (hcl.set hi) (by simp [hsz]) (fun j d => ?_) hS' (Nat.le_trans hw hsz') (fun j hj hje hjn => ?_) (fun j j' hj hj' hje hje' hjn hjn' hne => ?_)
      · have hcnt : ∀ (l : List Nat), l.Nodup → i ∈ l → (l.filter fun j => !(upd ex i true j)).length + 1 = (l.filter fun j => !ex j).length := by
          intro l
          induction l with
          | nil => intro _ h; cases h
          | cons x l ihl =>
            intro hnl hx
            rw [List.nodup_cons] at hnl
            by_cases hxi : x = i
            · subst hxi
              have : (l.filter fun j => !(upd ex x true j)) = l.filter fun j => !ex j := List.filter_congr (fun j hj => by rw [upd_ne _ _ (fun e => hnl.1 (by rw [← e]; exact hj))])
              rw [List.filter_cons, List.filter_cons, upd_same, hie, this]; simp
            · have hxl : i ∈ l := by
                rcases List.mem_cons.1 hx with h | h
                · exact absurd h.symm hxi
                · exact h
              have := ihl hnl.2 hxl
              rw [List.filter_cons, List.filter_cons, upd_ne _ _ hxi]
              split
              · simp only [List.length_cons]; omega
              · exact this
        have := hcnt l hln hil
        omega
      · by_cases hji : j = i
        · subst hji
          rw [if_pos hil, upd_same, if_pos rfl]
          have hlt : j < listed.size := by
            have := (hin j hil).1
            rw [hcl.size]; exact this
          simp [Array.getD, hlt]
        · rw [getD_set_ne d (Ne.symm hji), hlst j d, upd_ne _ _ hji]
      · by_cases hji : j = i
        · subst hji
          rw [upd_same, upd_same]
          exact ⟨hFi, fun k hk => (hBi k hk).1⟩
        · rw [upd_ne _ _ hji, upd_ne _ _ hji]
          have hjx := hexi j hje hji
          have hjd : j ∉ depsAt .any ops i := hjn i hil (upd_same _ _ _)
          have hju : ∀ j' ∈ l, ex j' = true → j ∉ depsAt .any ops j' := fun j' hj' he => hjn j' hj' (by
            by_cases e : j' = i
            · rw [e, upd_same]
            · rw [upd_ne _ _ e]; exact he)
          obtain ⟨hf, hb⟩ := hF j hj hjx hju
          refine ⟨R.stable j _ _ w w'' hf hS' hsz' (fun k hk => hkeep k (hb k hk) (fun d hd hdi hbd => hB j d hj hd hjx (hdx d hd hdi) hju (hdu d hd hdi) (fun e => hjd (e ▸ hdi)) k hk hbd)), fun k hk => Nat.lt_of_lt_of_le (hb k hk) hsz'⟩
      · have hold : ∀ j, j ∈ l → upd ex i true j = true → (∀ q ∈ l, upd ex i true q = true → j ∉ depsAt .any ops q) → j ≠ i → ex j = true ∧ (∀ q ∈ l, ex q = true → j ∉ depsAt .any ops q) ∧ j ∉ depsAt .any ops i := fun j hj hje hjn hji =>
          ⟨hexi j hje hji, fun q hq he => hjn q hq (by
            by_cases e : q = i
            · rw [e, upd_same]
            · rw [upd_ne _ _ e]; exact he), hjn i hil (upd_same _ _ _)⟩
        have hnew : ∀ j, j ∈ l → upd ex i true j = true → (∀ q ∈ l, upd ex i true q = true → j ∉ depsAt .any ops q) → j ≠ i → ∀ k, B' k → ¬ B j k := fun j hj hje hjn hji k hk hbj => by
          obtain ⟨h4, h5, h6⟩ := hold j hj hje hjn hji
          rcases (hBi k hk).2 with h7 | ⟨d, hd, hdi, hbd⟩
          · have := (hF j hj h4 h5).2 k hbj; omega
          · exact hB d j hd hj (hdx d hd hdi) h4 (hdu d hd hdi) h5 (fun e => h6 (e ▸ hdi)) k hbd hbj
        by_cases hji : j = i
        · subst hji
          intro k hk
          rw [upd_same] at hk
          rw [upd_ne _ _ (Ne.symm hne)]
          exact hnew j' hj' hje' hjn' (Ne.symm hne) k hk
        · intro k hk
          rw [upd_ne _ _ hji] at hk
          by_cases hji' : j' = i
          · subst hji'
            rw [upd_same]
            exact fun hk' => hnew j hj hje hjn hji k hk' hk
          · rw [upd_ne _ _ hji']
            obtain ⟨h4, h5, _⟩ := hold j hj hje hjn hji
            obtain ⟨h6, h7, _⟩ := hold j' hj' hje' hjn' hji'
            exact hB j j' hj hj' h4 h6 h5 h7 hne k hk
theorem wpAnyF_seq2 (hs : Region.noSelect ops = true) (hQ : ∀ o ∈ ops.toList, ∀ c a v w, Q (.panic c) (a.put o.dst v) w → Q (.panic c) a w) :
    ∀ (l : List Turn2) (listed : Array Bool) (a : Act) (w : World), Closed md ops listed → okSeq2 md ops F l listed = true → runSeq2 P ops Q S l a w → wpAnyF P md ops Q S F (many2 l) listed a w
  | [], listed, a, w, _, hk, h => ⟨by simpa [okSeq2] using hk, h⟩
  | .take i :: r, listed, a, w, inv, hk, h => by
    simp only [okSeq2, Bool.and_eq_true, Bool.not_eq_true'] at hk
    obtain ⟨o, v, ho, hy, hS, hr⟩ := h
    have hi : i ∈ Region.ready md ops listed := by simpa using hk.1.1.1.1
    exact wpAnyF_first ho (Region.noSelect_spec hs) (fun c a w => hQ o (Array.mem_toList_iff.2 (Array.mem_of_getElem? ho)) c a v w) hk.1.1.2 (many2 r) listed a w inv hk.1.2
      (Region.free_spec ho hk.1.1.1.2) hi hy hS (wpAnyF_seq2 hs hQ r _ _ _ (inv.set hi) hk.2 hr)
  | .op i :: r, listed, a, w, inv, hk, h => by
    simp only [okSeq2, Bool.and_eq_true, beq_iff_eq] at hk
    have hi : i ∈ Region.ready md ops listed := by rw [hk.1]; simp
    exact wpAnyF_one hk.1 (wpOp_mono (fun a' w' h' => ⟨h'.1, wpAnyF_seq2 hs hQ r _ _ _ (inv.set hi) hk.2 h'.2⟩) h)
  | .fin i :: r, listed, a, w, inv, hk, h => by
    simp only [okSeq2, Bool.and_eq_true, beq_iff_eq] at hk
    refine ⟨fun h0 => (by rw [hk.1.1] at h0; cases h0), fun j hj => ?_⟩
    have hji : j = i := by rw [hk.1.1] at hj; simpa using hj
    subst hji
    exact wpOp_mono (fun a' w' h' => ⟨fun hc => (by rw [hk.1.2] at hc; cases hc), wpAnyF_seq2 hs hQ r _ _ _ (inv.set hj) hk.2 h'⟩) h
  | .pair i j :: r, listed, a, w, inv, hk, h => by
    simp only [okSeq2, Bool.and_eq_true, beq_iff_eq, bne_iff_ne, ne_eq] at hk
    obtain ⟨⟨⟨⟨h1, hij⟩, h2⟩, h3⟩, h4⟩ := hk
    have hi : i ∈ Region.ready md ops listed := by rw [h1]; simp
    have hj : j ∈ Region.ready md ops listed := by rw [h1]; simp
    have hj2 : j ∈ Region.ready md ops (listed.setIfInBounds i true) := by rw [h2]; simp
    refine ⟨fun h0 => (by rw [h1] at h0; cases h0), fun k hk => ?_⟩
    have hk2 : k = i ∨ k = j := by rw [h1] at hk; simpa using hk
    rcases hk2 with rfl | rfl
    · exact wpOp_mono (fun a' w' h' => ⟨fun _ => h'.1, wpAnyF_one h2 (wpOp_mono (fun a' w' h' => ⟨h'.1, wpAnyF_seq2 hs hQ r _ _ _ ((inv.set hi).set hj2) h4 h'.2⟩) h'.2)⟩) h.1
    · refine wpOp_mono (fun a' w' h' => ⟨fun _ => h'.1, wpAnyF_one h3 (wpOp_mono (fun a' w' h' => ⟨h'.1, ?_⟩) h'.2)⟩) h.2
      rw [Array.setIfInBounds_comm _ _ (Ne.symm hij)]
      exact wpAnyF_seq2 hs hQ r _ _ _ ((inv.set hi).set hj2) h4 h'.2
  | .tri i k j :: r, listed, a, w, inv, hk, h => by
    simp only [okSeq2, Bool.and_eq_true, beq_iff_eq, bne_iff_ne, ne_eq] at hk
    obtain ⟨⟨⟨⟨⟨⟨⟨h1, hij⟩, hkj⟩, h2⟩, h3⟩, h4⟩, h5⟩, h6⟩ := hk
    have hi : i ∈ Region.ready md ops listed := by rw [h1]; simp
    have hk2 : k ∈ Region.ready md ops (listed.setIfInBounds i true) := by rw [h2]; simp
    have hj3 : j ∈ Region.ready md ops ((listed.setIfInBounds i true).setIfInBounds k true) := by rw [h4]; simp
    have inv3 := ((inv.set hi).set hk2).set hj3
    have e1 : ((listed.setIfInBounds i true).setIfInBounds j true).setIfInBounds k true = ((listed.setIfInBounds i true).setIfInBounds k true).setIfInBounds j true := Array.setIfInBounds_comm _ _ (Ne.symm hkj)
    have e2 : (listed.setIfInBounds j true).setIfInBounds i true = (listed.setIfInBounds i true).setIfInBounds j true := Array.setIfInBounds_comm _ _ (Ne.symm hij)
    refine ⟨fun h0 => (by rw [h1] at h0; cases h0), fun q hq => ?_⟩
    have hq2 : q = i ∨ q = j := by rw [h1] at hq; simpa using hq
    rcases hq2 with rfl | rfl
    · refine wpOp_mono (fun a' w' h' => ⟨fun _ => h'.1, ⟨fun h0 => (by rw [h2] at h0; cases h0), fun q2 hq2 => ?_⟩⟩) h.1
      have hq3 : q2 = k ∨ q2 = j := by rw [h2] at hq2; simpa using hq2
      rcases hq3 with rfl | rfl
      · exact wpOp_mono (fun a' w' h' => ⟨fun _ => h'.1, wpAnyF_one h4 (wpOp_mono (fun a' w' h' => ⟨h'.1, wpAnyF_seq2 hs hQ r _ _ _ inv3 h6 h'.2⟩) h'.2)⟩) h'.2.1
      · refine wpOp_mono (fun a' w' h' => ⟨fun _ => h'.1, wpAnyF_one h5 (wpOp_mono (fun a' w' h' => ⟨h'.1, ?_⟩) h'.2)⟩) h'.2.2
        rw [e1]
        exact wpAnyF_seq2 hs hQ r _ _ _ inv3 h6 h'.2
    · refine wpOp_mono (fun a' w' h' => ⟨fun _ => h'.1, wpAnyF_one h3 (wpOp_mono (fun a' w' h' => ⟨h'.1, ?_⟩) h'.2)⟩) h.2
      rw [e2]
      refine wpAnyF_one h5 (wpOp_mono (fun a' w' h' => ⟨h'.1, ?_⟩) h'.2)
      rw [e1]
      exact wpAnyF_seq2 hs hQ r _ _ _ inv3 h6 h'.2
  | .rooms l :: r, listed, a, w, inv, hk, h => by
    simp only [okSeq2, Bool.and_eq_true] at hk
    obtain ⟨⟨hmd, hok⟩, hr⟩ := hk
    have hmd : md = .any := by cases md <;> first | rfl | cases hmd
    obtain ⟨Fc, hR, hS, hfin⟩ := h
    have hgo : Closed md ops (l.foldl (fun x i => x.setIfInBounds i true) listed) → ∀ vals B w', S w' → Left ops l Fc w vals B w' → wpAnyF P md ops Q S F (many2 r) (l.foldl (fun x i => x.setIfInBounds i true) listed) (putE ops l (fun _ => true) vals a) w' :=
      fun hc vals B w' hS' hl => wpAnyF_seq2 hs hQ r _ _ _ hc hr (hfin vals B w' hS' hl)
    clear hfin
    subst hmd
    have hin : ∀ i ∈ l, listed.getD i true = false := fun i hi => by
      simp only [okRooms, Bool.and_eq_true] at hok
      have := List.all_eq_true.1 hok.1.1.2 i hi
      simp only [Bool.and_eq_true, Bool.not_eq_true'] at this
      exact this.1.2
    have hinv : Closed .any ops (l.foldl (fun x i => x.setIfInBounds i true) listed) := by
      have hok' := hok
      simp only [okRooms, Bool.and_eq_true] at hok'
      refine ⟨by rw [foldl_size, inv.size], fun j oj hj hl e he hb => ?_⟩
      have hbd : ∀ i ∈ l, i < listed.size := fun i hi => by
        have := List.all_eq_true.1 hok'.1.1.2 i hi
        simp only [Bool.and_eq_true, decide_eq_true_eq] at this
        rw [inv.size]; exact this.1.1
      rw [foldl_getD l listed _ _ hbd] at hl ⊢
      have hd : e.on ∈ depsAt .any ops j := by
        unfold depsAt; rw [hj]
        exact List.mem_map.2 ⟨e, List.mem_filter.2 ⟨Array.mem_toList_iff.2 he, hb⟩, rfl⟩
      by_cases hjl : j ∈ l
      · have := List.all_eq_true.1 hok'.1.1.2 j hjl
        simp only [Bool.and_eq_true, decide_eq_true_eq] at this
        have h2 := List.all_eq_true.1 this.2 e.on hd
        simp only [Bool.and_eq_true, decide_eq_true_eq, Bool.or_eq_true] at h2
        split
        · rfl
        · rename_i hn
          rcases h2.2 with h3 | h3
          · exact h3
          · exact absurd (by simpa using h3) hn
      · rw [if_neg hjl] at hl
        have := inv.closed j oj hj hl e he hb
        split
        · rfl
        · exact this
    have := wpAnyF_rooms (Fc := Fc) (n := many2 r) (w0 := w) hok hR (hgo hinv) l.length listed (fun _ => false) (fun _ => undef) (fun _ _ => False) w (by simp) inv rfl
      (fun j d => by simp) hS (Nat.le_refl _) (fun i hi he => by cases he) (fun i i' hi hi' he => by cases he)
    have e : putE ops l (fun _ => false) (fun _ => undef) a = a := by
      have : ∀ (l : List Nat) (a : Act), putE ops l (fun _ => false) (fun _ => undef) a = a := by
        intro l
        induction l with
        | nil => intro a; rfl
        | cons i l ih => intro a; rw [putE, if_neg (by simp)]; exact ih a
      exact this l a
    rw [e] at this
    rw [many2, Turn2.many, Nat.add_comm]
    exact this
theorem wp_region_seq2 {id : Nat} {a : Act} {w : World} (S : World → Prop) (F : List Nat) (l : List Turn2) (hm : P.follows .mixedOrders = true) (hs : Region.noSelect ops = true) (hl : many2 l = ops.size)
    (hk : okSeq2 .any ops F l (Array.replicate ops.size false) = true)
    (hQ : ∀ o ∈ ops.toList, ∀ c a v w, Q (.panic c) (a.put o.dst v) w → Q (.panic c) a w)
    (h : runSeq2 P ops Q S l a w.drew) : (Code.region id ops true).wp P Q a w :=
  wp_region_any hm (wpAny_of_F _ _ _ _ (hl ▸ wpAnyF_seq2 hs hQ l _ _ _ Closed.start hk h))
theorem runSeq2_nil {a : Act} {w : World} (h : Q .normal a w) : runSeq2 P ops Q S [] a w := h
theorem runSeq2_take {i : Nat} {o : Oper} {v : Value} {r : List Turn2} {a : Act} {w : World} (ho' : ops.toList[i]? = some o) (hw : Region.wanted o (yielded ops a.tmps) = true)
    (hy : ∀ w', S w' → (execOp a.eval o).run P w' = .ok (.value v) w') (hS : S w) (h : runSeq2 P ops Q S r (a.put o.dst v) w) : runSeq2 P ops Q S (.take i :: r) a w :=
  ⟨o, v, by simpa using ho', .inl ⟨hw, hy⟩, hS, h⟩
theorem runSeq2_skip {i : Nat} {o : Oper} {r : List Turn2} {a : Act} {w : World} (ho' : ops.toList[i]? = some o) (hw : Region.wanted o (yielded ops a.tmps) = false)
    (hS : S w) (h : runSeq2 P ops Q S r (a.put o.dst undef) w) : runSeq2 P ops Q S (.take i :: r) a w :=
  ⟨o, undef, by simpa using ho', .inr ⟨hw, rfl⟩, hS, h⟩
theorem wpOp_at {i : Nat} {o : Oper} {a : Act} {w : World} {R : Act → World → Prop} (ho' : ops.toList[i]? = some o) (hw : Region.wanted o (yielded ops a.tmps) = true)
    (h : ∀ K : Act → World → Prop, (∀ a' w', R a' w' → K a' w') → o.wp P a w K Q) : wpOp P ops Q i R a w := by
  have ho : ops[i]? = some o := by simpa using ho'
  unfold wpOp
  simp only [ho, hw, if_true]
  exact .inl (h _ fun a' w' hR => hR)
theorem runSeq2_op {i : Nat} {o : Oper} {r : List Turn2} {a : Act} {w : World} (ho' : ops.toList[i]? = some o) (hw : Region.wanted o (yielded ops a.tmps) = true)
    (h : ∀ K : Act → World → Prop, (∀ a' w', S w' → runSeq2 P ops Q S r a' w' → K a' w') → o.wp P a w K Q) : runSeq2 P ops Q S (.op i :: r) a w :=
  wpOp_at (R := fun a' w' => S w' ∧ runSeq2 P ops Q S r a' w') ho' hw fun K hK => h K fun a' w' hS hr => hK a' w' ⟨hS, hr⟩
theorem runSeq2_fin {i : Nat} {o : Oper} {r : List Turn2} {a : Act} {w : World} (ho' : ops.toList[i]? = some o) (hw : Region.wanted o (yielded ops a.tmps) = true)
    (h : ∀ K : Act → World → Prop, (∀ a' w', runSeq2 P ops Q S r a' w' → K a' w') → o.wp P a w K Q) : runSeq2 P ops Q S (.fin i :: r) a w :=
  wpOp_at (R := fun a' w' => runSeq2 P ops Q S r a' w') ho' hw h
/-- Two in either order: both come to M, and M is gone on with. -/
theorem runSeq2_pair {i j : Nat} {r : List Turn2} {a : Act} {w : World} (M : Act → World → Prop)
    (h1 : wpOp P ops Q i (fun a' w' => S w' ∧ wpOp P ops Q j (fun a' w' => S w' ∧ M a' w') a' w') a w)
    (h2 : wpOp P ops Q j (fun a' w' => S w' ∧ wpOp P ops Q i (fun a' w' => S w' ∧ M a' w') a' w') a w)
    (h : ∀ a' w', S w' → M a' w' → runSeq2 P ops Q S r a' w') : runSeq2 P ops Q S (.pair i j :: r) a w :=
  ⟨wpOp_mono (fun a' w' x => ⟨x.1, wpOp_mono (fun a' w' y => ⟨y.1, h _ _ y.1 y.2⟩) x.2⟩) h1, wpOp_mono (fun a' w' x => ⟨x.1, wpOp_mono (fun a' w' y => ⟨y.1, h _ _ y.1 y.2⟩) x.2⟩) h2⟩
theorem put_comm {a : Act} {i j : Nat} (h : i ≠ j) (x y : Value) : (a.put (some j) y).put (some i) x = (a.put (some i) x).put (some j) y := by
  simp only [Act.put]
  rw [Array.setIfInBounds_comm _ _ (Ne.symm h)]
theorem wanted_free {o : Oper} (hg : o.guard = none) (ys : Nat → Option Bool) : Region.wanted o ys = true := by simp [Region.wanted, hg]
/-- Two rooms are made, in either order: what is gone on with knows that they are new, and not the same. -/
theorem runSeq2_two {i j di dj : Nat} {oi oj : Oper} {Zi Zj : Obj} {r : List Turn2} {a : Act} {w : World} (hoi : ops.toList[i]? = some oi) (hoj : ops.toList[j]? = some oj) (hgi : oi.guard = none) (hgj : oj.guard = none)
    (hi : ∀ (a : Act) (w : World) (K : Act → World → Prop), K (a.put (some di) (.pointer (some ⟨w.heap.size, 0, none⟩))) (w.alloc Zi) → oi.wp P a w K Q)
    (hj : ∀ (a : Act) (w : World) (K : Act → World → Prop), K (a.put (some dj) (.pointer (some ⟨w.heap.size, 0, none⟩))) (w.alloc Zj) → oj.wp P a w K Q)
    (hd : di ≠ dj) (hS : ∀ w', S w' → ∀ o, S (w'.alloc o)) (hs : S w)
    (h : ∀ bi bj w', S w' → bi ≠ bj → w.heap.size ≤ bi → w.heap.size ≤ bj → w'.heap[bi]? = some Zi → w'.heap[bj]? = some Zj →
      runSeq2 P ops Q S r ((a.put (some di) (.pointer (some ⟨bi, 0, none⟩))).put (some dj) (.pointer (some ⟨bj, 0, none⟩))) w') : runSeq2 P ops Q S (.pair i j :: r) a w := by
  have hsz : ∀ (w : World) (o : Obj), (w.alloc o).heap.size = w.heap.size + 1 := fun w o => Array.size_push _
  have hnew : ∀ (w : World) (o : Obj), (w.alloc o).heap[w.heap.size]? = some o := fun w o => by show (w.heap.push o)[_]? = _; rw [Array.getElem?_push_size]
  have hold : ∀ (w : World) (o o' : Obj), ((w.alloc o).alloc o').heap[w.heap.size]? = some o := fun w o o' => by
    show ((w.heap.push o).push o')[_]? = _
    rw [Array.getElem?_push, if_neg (by simp), Array.getElem?_push_size]
  refine ⟨wpOp_at hoi (wanted_free hgi _) fun K hK => hi _ _ _ (hK _ _ ⟨hS _ hs _, wpOp_at hoj (wanted_free hgj _) fun K hK => hj _ _ _ (hK _ _ ⟨hS _ (hS _ hs _) _, ?_⟩)⟩),
    wpOp_at hoj (wanted_free hgj _) fun K hK => hj _ _ _ (hK _ _ ⟨hS _ hs _, wpOp_at hoi (wanted_free hgi _) fun K hK => hi _ _ _ (hK _ _ ⟨hS _ (hS _ hs _) _, ?_⟩)⟩)⟩
  · have := hsz w Zi
    exact h _ _ _ (hS _ (hS _ hs _) _) (by omega) (Nat.le_refl _) (by omega) (hold _ _ _) (hnew _ _)
  · have := hsz w Zj
    rw [put_comm hd]
    exact h _ _ _ (hS _ (hS _ hs _) _) (by omega) (by omega) (Nat.le_refl _) (hnew _ _) (hold _ _ _)
/-- One, another behind it, and a third in any place. -/
theorem runSeq2_triM {i k j di dk dj : Nat} {r : List Turn2} {a : Act} {w : World} (N : Value → Value → Value → World → Prop) (hij : di ≠ dj) (hkj : dk ≠ dj)
    (h1 : wpOp P ops Q i (fun a1 w1 => ∃ v, a1 = a.put (some di) v ∧ S w1 ∧ (wpOp P ops Q k (fun a2 w2 => ∃ u, a2 = a1.put (some dk) u ∧ S w2 ∧ wpOp P ops Q j (fun a3 w3 => ∃ x, a3 = a2.put (some dj) x ∧ S w3 ∧ N v u x w3) a2 w2) a1 w1 ∧
      wpOp P ops Q j (fun a2 w2 => ∃ x, a2 = a1.put (some dj) x ∧ S w2 ∧ wpOp P ops Q k (fun a3 w3 => ∃ u, a3 = a2.put (some dk) u ∧ S w3 ∧ N v u x w3) a2 w2) a1 w1)) a w)
    (h2 : wpOp P ops Q j (fun a1 w1 => ∃ x, a1 = a.put (some dj) x ∧ S w1 ∧ wpOp P ops Q i (fun a2 w2 => ∃ v, a2 = a1.put (some di) v ∧ S w2 ∧ wpOp P ops Q k (fun a3 w3 => ∃ u, a3 = a2.put (some dk) u ∧ S w3 ∧ N v u x w3) a2 w2) a1 w1) a w)
    (h : ∀ v u x w', S w' → N v u x w' → runSeq2 P ops Q S r (((a.put (some di) v).put (some dk) u).put (some dj) x) w') : runSeq2 P ops Q S (.tri i k j :: r) a w := by
  refine ⟨wpOp_mono (fun a1 w1 x => ?_) h1, wpOp_mono (fun a1 w1 x => ?_) h2⟩
  · obtain ⟨v, rfl, hs, hx, hy⟩ := x
    refine ⟨hs, wpOp_mono (fun a2 w2 y => ?_) hx, wpOp_mono (fun a2 w2 y => ?_) hy⟩
    · obtain ⟨u, rfl, hs2, hz⟩ := y
      refine ⟨hs2, wpOp_mono (fun a3 w3 z => ?_) hz⟩
      obtain ⟨x, rfl, hs3, hn⟩ := z
      exact ⟨hs3, h v u x w3 hs3 hn⟩
    · obtain ⟨x, rfl, hs2, hz⟩ := y
      refine ⟨hs2, wpOp_mono (fun a3 w3 z => ?_) hz⟩
      obtain ⟨u, rfl, hs3, hn⟩ := z
      rw [put_comm hkj]
      exact ⟨hs3, h v u x w3 hs3 hn⟩
  · obtain ⟨x, rfl, hs, hx⟩ := x
    refine ⟨hs, wpOp_mono (fun a2 w2 y => ?_) hx⟩
    obtain ⟨v, rfl, hs2, hz⟩ := y
    refine ⟨hs2, wpOp_mono (fun a3 w3 z => ?_) hz⟩
    obtain ⟨u, rfl, hs3, hn⟩ := z
    rw [put_comm hij, put_comm hkj]
    exact ⟨hs3, h v u x w3 hs3 hn⟩
/-- Two in either order, each with a value: what is gone on with knows both. -/
theorem runSeq2_pairM {i j di dj : Nat} {r : List Turn2} {a : Act} {w : World} (N : Value → Value → World → Prop) (hd : di ≠ dj)
    (h1 : wpOp P ops Q i (fun a1 w1 => ∃ v, a1 = a.put (some di) v ∧ S w1 ∧ wpOp P ops Q j (fun a2 w2 => ∃ u, a2 = a1.put (some dj) u ∧ S w2 ∧ N v u w2) a1 w1) a w)
    (h2 : wpOp P ops Q j (fun a1 w1 => ∃ u, a1 = a.put (some dj) u ∧ S w1 ∧ wpOp P ops Q i (fun a2 w2 => ∃ v, a2 = a1.put (some di) v ∧ S w2 ∧ N v u w2) a1 w1) a w)
    (h : ∀ v u w', S w' → N v u w' → runSeq2 P ops Q S r ((a.put (some di) v).put (some dj) u) w') : runSeq2 P ops Q S (.pair i j :: r) a w := by
  refine ⟨wpOp_mono (fun a1 w1 x => ?_) h1, wpOp_mono (fun a1 w1 x => ?_) h2⟩
  · obtain ⟨v, rfl, hs, hx⟩ := x
    refine ⟨hs, wpOp_mono (fun a2 w2 y => ?_) hx⟩
    obtain ⟨u, rfl, hs2, hn⟩ := y
    exact ⟨hs2, h v u w2 hs2 hn⟩
  · obtain ⟨u, rfl, hs, hx⟩ := x
    refine ⟨hs, wpOp_mono (fun a2 w2 y => ?_) hx⟩
    obtain ⟨v, rfl, hs2, hn⟩ := y
    rw [put_comm hd]
    exact ⟨hs2, h v u w2 hs2 hn⟩
end
end Go.Hay
