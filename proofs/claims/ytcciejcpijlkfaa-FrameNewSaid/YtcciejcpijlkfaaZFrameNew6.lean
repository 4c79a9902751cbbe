/- What the proof of FrameNew stands on, part 6: this session's own texts and the words that the kit's print lays, those that are used. -/
import Derived.Test.YtcciejcpijlkfaaZFrameNew5
set_option linter.unusedVariables false
set_option linter.unusedSimpArgs false
namespace Go.Hay
open Go.RowKit
inductive Turn2 where
  | take (i : Nat)
  | op (i : Nat)
  | fin (i : Nat)
  | pair (i j : Nat)
  | tri (i k j : Nat)
  | rooms (l : List Nat)
def Turn2.many : Turn2 → Nat
  | .pair _ _ => 2
  | .tri _ _ _ => 3
  | .rooms l => l.length
  | _ => 1
def many2 : List Turn2 → Nat
  | [] => 0
  | t :: r => many2 r + t.many
/-! ### rooms: operations that come in any order, each with what it yields and the blocks that it owns -/
def dstOf (ops : Array Oper) (i : Nat) : Option Tmp := (ops[i]?).bind (·.dst)
theorem put_put {a : Act} {d e : Option Tmp} (h : d ≠ e) (x y : Value) : (a.put d x).put e y = (a.put e y).put d x := by
  cases d with
  | none => rfl
  | some d =>
    cases e with
    | none => rfl
    | some e =>
      simp only [Act.put]
      rw [Array.setIfInBounds_comm _ _ (fun he => h (congrArg some he))]
def putE (ops : Array Oper) : List Nat → (Nat → Bool) → (Nat → Value) → Act → Act
  | [], _, _, a => a
  | i :: l, ex, vals, a => putE ops l ex vals (if ex i = true then a.put (dstOf ops i) (vals i) else a)
theorem putE_put (ops : Array Oper) (ex : Nat → Bool) (vals : Nat → Value) (d : Option Tmp) (v : Value) : ∀ (l : List Nat) (a : Act), (∀ i ∈ l, dstOf ops i ≠ d) → (putE ops l ex vals a).put d v = putE ops l ex vals (a.put d v)
  | [], _, _ => rfl
  | i :: l, a, h => by
    rw [putE, putE, putE_put ops ex vals d v l _ (fun j hj => h j (List.mem_cons_of_mem _ hj))]
    congr 1
    split
    · exact put_put (h i (List.mem_cons_self ..)) _ _
    · rfl
theorem putE_congr (ops : Array Oper) {ex ex' : Nat → Bool} {vals vals' : Nat → Value} : ∀ (l : List Nat) (a : Act), (∀ i ∈ l, ex i = ex' i ∧ (ex i = true → vals i = vals' i)) → putE ops l ex vals a = putE ops l ex' vals' a
  | [], _, _ => rfl
  | i :: l, a, h => by
    have h1 := h i (List.mem_cons_self ..)
    rw [putE, putE, ← h1.1]
    rw [putE_congr ops l _ (fun j hj => h j (List.mem_cons_of_mem _ hj))]
    congr 1
    split
    · rename_i he; rw [h1.2 he]
    · rfl
def upd {α : Type} (f : Nat → α) (i : Nat) (x : α) : Nat → α := fun j => if j = i then x else f j
theorem upd_same {α : Type} (f : Nat → α) (i : Nat) (x : α) : upd f i x i = x := by simp [upd]
theorem upd_ne {α : Type} (f : Nat → α) {i j : Nat} (x : α) (h : j ≠ i) : upd f i x j = f j := by simp [upd, h]
theorem putE_set (ops : Array Oper) (ex : Nat → Bool) (vals : Nat → Value) (i : Nat) (v : Value) : ∀ (l : List Nat) (a : Act), (l.map (dstOf ops)).Nodup → i ∈ l → ex i = false → (putE ops l ex vals a).put (dstOf ops i) v = putE ops l (upd ex i true) (upd vals i v) a
  | [], _, _, h, _ => by cases h
  | j :: l, a, hn, h, he => by
    rw [List.map_cons, List.nodup_cons] at hn
    by_cases hij : i = j
    · subst hij
      have hni : ∀ k ∈ l, k ≠ i := fun k hk e => hn.1 (by rw [← e]; exact List.mem_map_of_mem hk)
      rw [putE, putE, he, upd_same, upd_same, if_neg (by simp), if_pos rfl, putE_put ops ex vals _ v l a (fun k hk e => hn.1 (by rw [← e]; exact List.mem_map_of_mem hk))]
      exact putE_congr ops l _ (fun k hk => ⟨(upd_ne _ _ (hni k hk)).symm, fun _ => (upd_ne _ _ (hni k hk)).symm⟩)
    · have hi : i ∈ l := by
        rcases List.mem_cons.1 h with h | h
        · exact absurd h hij
        · exact h
      rw [putE, putE, upd_ne _ _ (Ne.symm hij), upd_ne _ _ (Ne.symm hij)]
      exact putE_set ops ex vals i v l _ hn.2 hi he
theorem put_size (a : Act) (d : Option Tmp) (v : Value) : (a.put d v).tmps.size = a.tmps.size := by cases d <;> simp [Act.put]
theorem putE_other (ops : Array Oper) (ex : Nat → Bool) (vals : Nat → Value) (t : Nat) : ∀ (l : List Nat) (a : Act), (∀ j ∈ l, dstOf ops j ≠ some t) → (putE ops l ex vals a).tmps.getD t undef = a.tmps.getD t undef
  | [], _, _ => rfl
  | i :: l, a, h => by
    rw [putE, putE_other ops ex vals t l _ (fun j hj => h j (List.mem_cons_of_mem _ hj))]
    split
    · exact put_getD (h i (List.mem_cons_self ..))
    · rfl
theorem putE_at (ops : Array Oper) (ex : Nat → Bool) (vals : Nat → Value) (i t : Nat) : ∀ (l : List Nat) (a : Act), (l.map (dstOf ops)).Nodup → i ∈ l → ex i = true → dstOf ops i = some t → t < a.tmps.size → (putE ops l ex vals a).tmps.getD t undef = vals i
  | [], _, _, h, _, _, _ => by cases h
  | j :: l, a, hn, h, he, hd, ht => by
    rw [List.map_cons, List.nodup_cons] at hn
    rw [putE]
    by_cases hij : i = j
    · subst hij
      rw [putE_other ops ex vals t l _ (fun k hk e => hn.1 (by rw [hd, ← e]; exact List.mem_map_of_mem hk)), if_pos he, hd]
      simp [Act.put, ht]
    · have hi : i ∈ l := by
        rcases List.mem_cons.1 h with h | h
        · exact absurd h hij
        · exact h
      exact putE_at ops ex vals i t l _ hn.2 hi he hd (by split <;> simpa [put_size] using ht)
structure Rooms (P : Program) (ops : Array Oper) (Q : Exit → Act → World → Prop) (S : World → Prop) (l : List Nat) (a : Act) (F : Nat → Value → (Nat → Prop) → World → Prop) : Prop where
  stable : ∀ (i : Nat) (v : Value) (B : Nat → Prop) (w w' : World), F i v B w → S w' → w.heap.size ≤ w'.heap.size → (∀ k, B k → w'.heap[k]? = w.heap[k]?) → F i v B w'
  step : ∀ i ∈ l, ∀ (vals : Nat → Value) (B : Nat → Nat → Prop) (w : World) (a' : Act), S w →
    (∀ d, d ∈ l → d ∈ depsAt .any ops i → F d (vals d) (B d) w ∧ ∀ k, B d k → k < w.heap.size) →
    (∀ d d', d ∈ l → d' ∈ l → d ∈ depsAt .any ops i → d' ∈ depsAt .any ops i → d ≠ d' → ∀ k, B d k → ¬ B d' k) →
    (∀ t, (∀ j ∈ l, dstOf ops j ≠ some t) → a'.tmps.getD t undef = a.tmps.getD t undef) →
    (∀ d, d ∈ l → d ∈ depsAt .any ops i → ∀ t, dstOf ops d = some t → t < a.tmps.size → a'.tmps.getD t undef = vals d) →
    wpOp P ops Q i (fun a'' w'' => ∃ v B', a'' = a'.put (dstOf ops i) v ∧ S w'' ∧ w.heap.size ≤ w''.heap.size ∧ F i v B' w'' ∧ (∀ k, B' k → k < w''.heap.size ∧ (w.heap.size ≤ k ∨ ∃ d, d ∈ l ∧ d ∈ depsAt .any ops i ∧ B d k)) ∧
      ∀ k, k < w.heap.size → (∀ d, d ∈ l → d ∈ depsAt .any ops i → ¬ B d k) → w''.heap[k]? = w.heap[k]?) a' w
/-- the same, with what a closed reckoning decides. -/
def isDep (ops : Array Oper) (l : List Nat) (i d : Nat) : Bool := l.contains d && (depsAt .any ops i).contains d
theorem isDep_iff {ops : Array Oper} {l : List Nat} {i d : Nat} : isDep ops l i d = true ↔ d ∈ l ∧ d ∈ depsAt .any ops i := by simp [isDep]
theorem Rooms.of {P : Program} {ops : Array Oper} {Q : Exit → Act → World → Prop} {S : World → Prop} {l : List Nat} {a : Act} {F : Nat → Value → (Nat → Prop) → World → Prop}
    (stable : ∀ (i : Nat) (v : Value) (B : Nat → Prop) (w w' : World), F i v B w → S w' → w.heap.size ≤ w'.heap.size → (∀ k, B k → w'.heap[k]? = w.heap[k]?) → F i v B w')
    (step : ∀ i ∈ l, ∀ (vals : Nat → Value) (B : Nat → Nat → Prop) (w : World) (a' : Act), S w →
      (∀ d, isDep ops l i d = true → F d (vals d) (B d) w ∧ ∀ k, B d k → k < w.heap.size) →
      (∀ d d', isDep ops l i d = true → isDep ops l i d' = true → d ≠ d' → ∀ k, B d k → ¬ B d' k) →
      (∀ t, (l.all fun j => dstOf ops j != some t) = true → a'.tmps.getD t undef = a.tmps.getD t undef) →
      (∀ d t, isDep ops l i d = true → (dstOf ops d == some t && Nat.ble (t + 1) a.tmps.size) = true → a'.tmps.getD t undef = vals d) →
      wpOp P ops Q i (fun a'' w'' => ∃ v B', a'' = a'.put (dstOf ops i) v ∧ S w'' ∧ w.heap.size ≤ w''.heap.size ∧ F i v B' w'' ∧ (∀ k, B' k → k < w''.heap.size ∧ (w.heap.size ≤ k ∨ ∃ d, isDep ops l i d = true ∧ B d k)) ∧
        ∀ k, k < w.heap.size → (∀ d, isDep ops l i d = true → ¬ B d k) → w''.heap[k]? = w.heap[k]?) a' w) : Rooms P ops Q S l a F := by
  refine ⟨stable, fun i hi vals B w a' hS h1 h2 h3 h4 => ?_⟩
  refine wpOp_mono (fun a'' w'' hx => ?_) (step i hi vals B w a' hS (fun d hd => h1 d (isDep_iff.1 hd).1 (isDep_iff.1 hd).2) (fun d d' hd hd' => h2 d d' (isDep_iff.1 hd).1 (isDep_iff.1 hd').1 (isDep_iff.1 hd).2 (isDep_iff.1 hd').2)
    (fun t ht => h3 t (fun j hj => by simpa using List.all_eq_true.1 ht j hj)) (fun d t hd ht => by
      simp only [Bool.and_eq_true, beq_iff_eq] at ht
      exact h4 d (isDep_iff.1 hd).1 (isDep_iff.1 hd).2 t ht.1 (Nat.le_of_ble_eq_true ht.2)))
  obtain ⟨v, B', e, q1, q2, q3, q4, q5⟩ := hx
  exact ⟨v, B', e, q1, q2, q3, fun k hk => ⟨(q4 k hk).1, (q4 k hk).2.imp id (fun ⟨d, hd, hb⟩ => ⟨d, (isDep_iff.1 hd).1, (isDep_iff.1 hd).2, hb⟩)⟩, fun k hk hn => q5 k hk (fun d hd => hn d (isDep_iff.1 hd).1 (isDep_iff.1 hd).2)⟩
/-- what is left behind them all. -/
structure Left (ops : Array Oper) (l : List Nat) (F : Nat → Value → (Nat → Prop) → World → Prop) (w0 : World) (vals : Nat → Value) (B : Nat → Nat → Prop) (w : World) : Prop where
  size : w0.heap.size ≤ w.heap.size
  fact : ∀ i ∈ l, (∀ j ∈ l, i ∉ depsAt .any ops j) → F i (vals i) (B i) w ∧ ∀ k, B i k → k < w.heap.size
  apart : ∀ i i', i ∈ l → i' ∈ l → (∀ j ∈ l, i ∉ depsAt .any ops j) → (∀ j ∈ l, i' ∉ depsAt .any ops j) → i ≠ i' → ∀ k, B i k → ¬ B i' k
def okRooms (ops : Array Oper) (l : List Nat) (listed : Array Bool) : Bool :=
  decide ((l.map (dstOf ops)).Nodup) &&
  l.all (fun i => decide (i < ops.size) && !listed.getD i true && (depsAt .any ops i).all (fun d => decide (d < i) && (listed.getD d false || l.contains d))) &&
  l.all (fun i => l.all fun i' => i == i' || (depsAt .any ops i).all fun d => !(l.contains d) || !((depsAt .any ops i').contains d)) &&
  (List.range ops.size).all (fun j => listed.getD j true || l.contains j || l.all fun i => (depsAt .any ops j).contains i)
section
variable {P : Program} {md : Region.Mode} {ops : Array Oper} {Q : Exit → Act → World → Prop} {S : World → Prop} {F : List Nat}
def runSeq2 (P : Program) (ops : Array Oper) (Q : Exit → Act → World → Prop) (S : World → Prop) : List Turn2 → Act → World → Prop
  | [], a, w => Q .normal a w
  | .take i :: r, a, w => ∃ o v, ops[i]? = some o ∧ YieldsIf P ops S o v a ∧ S w ∧ runSeq2 P ops Q S r (a.put o.dst v) w
  | .op i :: r, a, w => wpOp P ops Q i (fun a' w' => S w' ∧ runSeq2 P ops Q S r a' w') a w
  | .fin i :: r, a, w => wpOp P ops Q i (fun a' w' => runSeq2 P ops Q S r a' w') a w
  | .pair i j :: r, a, w => wpOp P ops Q i (fun a' w' => S w' ∧ wpOp P ops Q j (fun a' w' => S w' ∧ runSeq2 P ops Q S r a' w') a' w') a w ∧
      wpOp P ops Q j (fun a' w' => S w' ∧ wpOp P ops Q i (fun a' w' => S w' ∧ runSeq2 P ops Q S r a' w') a' w') a w
  | .tri i k j :: r, a, w => wpOp P ops Q i (fun a' w' => S w' ∧ (wpOp P ops Q k (fun a' w' => S w' ∧ wpOp P ops Q j (fun a' w' => S w' ∧ runSeq2 P ops Q S r a' w') a' w') a' w' ∧
        wpOp P ops Q j (fun a' w' => S w' ∧ wpOp P ops Q k (fun a' w' => S w' ∧ runSeq2 P ops Q S r a' w') a' w') a' w')) a w ∧
      wpOp P ops Q j (fun a' w' => S w' ∧ wpOp P ops Q i (fun a' w' => S w' ∧ wpOp P ops Q k (fun a' w' => S w' ∧ runSeq2 P ops Q S r a' w') a' w') a' w') a w
  | .rooms l :: r, a, w => ∃ F, Rooms P ops Q S l a F ∧ S w ∧ ∀ vals B w', S w' → Left ops l F w vals B w' → runSeq2 P ops Q S r (putE ops l (fun _ => true) vals a) w'
def okSeq2 (md : Region.Mode) (ops : Array Oper) (F : List Nat) : List Turn2 → Array Bool → Bool
  | [], listed => (Region.ready md ops listed).isEmpty
  | .take i :: r, listed => (Region.ready md ops listed).contains i && Region.free md ops listed i && blocks md ops F i && !F.contains i && okSeq2 md ops F r (listed.setIfInBounds i true)
  | .op i :: r, listed => (Region.ready md ops listed == [i]) && okSeq2 md ops F r (listed.setIfInBounds i true)
  | .fin i :: r, listed => (Region.ready md ops listed == [i]) && F.contains i && okSeq2 md ops F r (listed.setIfInBounds i true)
  | .pair i j :: r, listed => (Region.ready md ops listed == [i, j]) && i != j && (Region.ready md ops (listed.setIfInBounds i true) == [j]) && (Region.ready md ops (listed.setIfInBounds j true) == [i]) &&
      okSeq2 md ops F r ((listed.setIfInBounds i true).setIfInBounds j true)
  | .tri i k j :: r, listed => (Region.ready md ops listed == [i, j]) && i != j && k != j && (Region.ready md ops (listed.setIfInBounds i true) == [k, j]) && (Region.ready md ops (listed.setIfInBounds j true) == [i]) &&
      (Region.ready md ops ((listed.setIfInBounds i true).setIfInBounds k true) == [j]) && (Region.ready md ops ((listed.setIfInBounds i true).setIfInBounds j true) == [k]) &&
      okSeq2 md ops F r (((listed.setIfInBounds i true).setIfInBounds k true).setIfInBounds j true)
  | .rooms l :: r, listed => (md == .any) && okRooms ops l listed && okSeq2 md ops F r (l.foldl (fun x i => x.setIfInBounds i true) listed)
theorem wpAnyF_one {i : Nat} {fuel : Nat} {listed : Array Bool} {a : Act} {w : World} (hr : Region.ready md ops listed = [i])
    (h : wpOp P ops Q i (fun a' w' => S w' ∧ wpAnyF P md ops Q S F fuel (listed.setIfInBounds i true) a' w') a w) : wpAnyF P md ops Q S F (fuel + 1) listed a w := by
  refine ⟨fun h0 => (by rw [hr] at h0; cases h0), fun k hk => ?_⟩
  have hki : k = i := by rw [hr] at hk; simpa using hk
  subst hki
  exact wpOp_mono (fun a' w' h' => ⟨fun _ => h'.1, h'.2⟩) h
theorem foldl_getD : ∀ (l : List Nat) (listed : Array Bool) (j : Nat) (d : Bool), (∀ i ∈ l, i < listed.size) → (l.foldl (fun x i => x.setIfInBounds i true) listed).getD j d = if j ∈ l then true else listed.getD j d
  | [], listed, j, d, _ => by simp
  | i :: l, listed, j, d, h => by
    rw [List.foldl_cons, foldl_getD l _ j d (fun k hk => by rw [Array.size_setIfInBounds]; exact h k (List.mem_cons_of_mem _ hk))]
    have hi := h i (List.mem_cons_self ..)
    by_cases hj : j ∈ l
    · rw [if_pos hj, if_pos (List.mem_cons_of_mem _ hj)]
    · rw [if_neg hj]
      by_cases e : j = i
      · subst e
        rw [if_pos (List.mem_cons_self ..)]
        simp [Array.getD, hi]
      · rw [if_neg (by simp [e, hj]), getD_set_ne d (Ne.symm e)]
theorem foldl_size : ∀ (l : List Nat) (listed : Array Bool), (l.foldl (fun x i => x.setIfInBounds i true) listed).size = listed.size
  | [], _ => rfl
  | i :: l, listed => by rw [List.foldl_cons, foldl_size l]; simp
theorem wpAnyF_rooms {l : List Nat} {listed0 : Array Bool} {a0 : Act} {w0 : World} {n : Nat} {Fc : Nat → Value → (Nat → Prop) → World → Prop} (hok : okRooms ops l listed0 = true) (R : Rooms P ops Q S l a0 Fc)
    (fin : ∀ vals B w', S w' → Left ops l Fc w0 vals B w' → wpAnyF P .any ops Q S F n (l.foldl (fun x i => x.setIfInBounds i true) listed0) (putE ops l (fun _ => true) vals a0) w') :
    ∀ (m : Nat) (listed : Array Bool) (ex : Nat → Bool) (vals : Nat → Value) (B : Nat → Nat → Prop) (w : World), (l.filter fun i => !ex i).length = m → Closed .any ops listed → listed.size = listed0.size →
      (∀ j d, listed.getD j d = if j ∈ l then (if ex j = true then true else listed0.getD j d) else listed0.getD j d) → S w → w0.heap.size ≤ w.heap.size →
      (∀ i ∈ l, ex i = true → (∀ j ∈ l, ex j = true → i ∉ depsAt .any ops j) → Fc i (vals i) (B i) w ∧ ∀ k, B i k → k < w.heap.size) →
      (∀ i i', i ∈ l → i' ∈ l → ex i = true → ex i' = true → (∀ j ∈ l, ex j = true → i ∉ depsAt .any ops j) → (∀ j ∈ l, ex j = true → i' ∉ depsAt .any ops j) → i ≠ i' → ∀ k, B i k → ¬ B i' k) →
      wpAnyF P .any ops Q S F (m + n) listed (putE ops l ex vals a0) w := by
  have hok' := hok
  simp only [okRooms, Bool.and_eq_true, decide_eq_true_eq] at hok'
  obtain ⟨⟨⟨hnd, h1⟩, h2⟩, h3⟩ := hok'
  have hin : ∀ i ∈ l, i < ops.size ∧ listed0.getD i true = false ∧ ∀ d ∈ depsAt .any ops i, d < i ∧ (listed0.getD d false = true ∨ d ∈ l) := fun i hi => by
    have := List.all_eq_true.1 h1 i hi
    simp only [Bool.and_eq_true, decide_eq_true_eq, Bool.not_eq_true'] at this
    exact ⟨this.1.1, this.1.2, fun d hd => by have := List.all_eq_true.1 this.2 d hd; simpa using this⟩
  have hone : ∀ i ∈ l, ∀ i' ∈ l, i ≠ i' → ∀ d ∈ l, d ∈ depsAt .any ops i → d ∉ depsAt .any ops i' := fun i hi i' hi' hne d hd hdi => by
    have := List.all_eq_true.1 (List.all_eq_true.1 h2 i hi) i' hi'
    simp only [Bool.or_eq_true, beq_iff_eq] at this
    rcases this with h | h
    · exact absurd h hne
    · have := List.all_eq_true.1 h d hdi
      simpa [hd] using this
  have hout : ∀ j, j < ops.size → listed0.getD j true = false → j ∉ l → ∀ i ∈ l, i ∈ depsAt .any ops j := fun j hj hl hn i hi => by
    have := List.all_eq_true.1 h3 j (List.mem_range.2 hj)
    simp only [Bool.or_eq_true] at this
    rcases this with (h | h) | h
    · rw [hl] at h; cases h
    · exact absurd (by simpa using h) hn
    · simpa using List.all_eq_true.1 h i hi
  have hln : l.Nodup := by
    have := List.pairwise_map.1 hnd
    exact this.imp (fun h e => h (by rw [e]))
  intro m
  induction m with
  | zero =>
    intro listed ex vals B w hm hcl hsz hlst hS hw hF hB
    have hall : ∀ i ∈ l, ex i = true := fun i hi => by
      cases he : ex i with
      | true => rfl
      | false => have : i ∈ l.filter (fun i => !ex i) := List.mem_filter.2 ⟨hi, by simp [he]⟩
                 rw [List.length_eq_zero_iff.1 hm] at this; cases this
    have e1 : listed = l.foldl (fun x i => x.setIfInBounds i true) listed0 := by
      apply Array.ext
      · rw [foldl_size, hsz]
      · intro j hj hj'
        have hd : ∀ (A : Array Bool) (h : j < A.size), A[j] = A.getD j false := fun A h => by simp [Array.getD, h]
        rw [hd _ hj, hd _ hj', hlst j false]
        have hb : ∀ i ∈ l, i < listed0.size := fun i hi => by
          have := (hin i hi).2.1
          by_cases hlt : i < listed0.size
          · exact hlt
          · simp [Array.getD, hlt] at this
        rw [foldl_getD l listed0 j false hb]
        by_cases hjl : j ∈ l
        · rw [if_pos hjl, if_pos (hall j hjl), if_pos hjl]
        · rw [if_neg hjl, if_neg hjl]
    have e2 : putE ops l ex vals a0 = putE ops l (fun _ => true) vals a0 := putE_congr ops l a0 (fun i hi => ⟨hall i hi, fun _ => rfl⟩)
    rw [e1, e2, Nat.zero_add]
    exact fin vals B w hS ⟨hw, fun i hi hn => hF i hi (hall i hi) (fun j hj _ => hn j hj), fun i i' hi hi' hn hn' => hB i i' hi hi' (hall i hi) (hall i' hi') (fun j hj _ => hn j hj) (fun j hj _ => hn' j hj)⟩
  | succ m ih =>
    intro listed ex vals B w hm hcl hsz hlst hS hw hF hB
    rw [show m + 1 + n = (m + n) + 1 by omega]
    have hex : ∃ i, i ∈ l ∧ ex i = false := by
      cases hf : l.filter (fun i => !ex i) with
      | nil => rw [hf] at hm; cases hm
      | cons i r =>
        have : i ∈ l.filter (fun i => !ex i) := by rw [hf]; exact List.mem_cons_self ..
        exact ⟨i, (List.mem_filter.1 this).1, by simpa using (List.mem_filter.1 this).2⟩
    have hready : ∀ i ∈ Region.ready .any ops listed, i ∈ l ∧ ex i = false := fun i hi => by
      have hun := (mem_ready.1 hi).1
      obtain ⟨_, o, ho, _⟩ := mem_ready.1 hi
      have hlt : i < ops.size := (Array.getElem?_eq_some_iff.1 ho).1
      rw [hlst i true] at hun
      by_cases hil : i ∈ l
      · rw [if_pos hil] at hun
        refine ⟨hil, ?_⟩
        cases he : ex i with
        | false => rfl
        | true => rw [he] at hun; simp at hun
      · rw [if_neg hil] at hun
        obtain ⟨j, hj, hje⟩ := hex
        have := Closed.ready_dep hi (hout i hlt hun hil j hj)
        rw [hlst j false, if_pos hj, hje] at this
        have h0 := getD_both (hin j hj).2.1
        simp [h0] at this
    refine ⟨fun h0 => ?_, fun i hi => ?_⟩
    · exfalso
      have key : ∀ (q : Nat) (i : Nat), i ≤ q → i ∈ l → ex i = false → ∃ i, i ∈ Region.ready .any ops listed := by
        intro q
        induction q with
        | zero =>
          intro i hq hi he
          obtain ⟨h4, h5, h6⟩ := hin i hi
          refine ⟨i, mem_ready.2 ⟨by rw [hlst i true, if_pos hi, he]; simpa using h5, ops[i], by simp [h4], fun e he2 hb => ?_⟩⟩
          have hd : e.on ∈ depsAt .any ops i := by
            unfold depsAt; rw [Array.getElem?_eq_getElem h4]
            exact List.mem_map.2 ⟨e, List.mem_filter.2 ⟨Array.mem_toList_iff.2 he2, hb⟩, rfl⟩
          have := (h6 _ hd).1
          omega
        | succ q ihq =>
          intro i hq hi he
          obtain ⟨h4, h5, h6⟩ := hin i hi
          by_cases hx : ∃ d, d ∈ depsAt .any ops i ∧ d ∈ l ∧ ex d = false
          · obtain ⟨d, hd, hdl, hde⟩ := hx
            have := (h6 d hd).1
            exact ihq d (by omega) hdl hde
          · refine ⟨i, mem_ready.2 ⟨by rw [hlst i true, if_pos hi, he]; simpa using h5, ops[i], by simp [h4], fun e he2 hb => ?_⟩⟩
            have hd : e.on ∈ depsAt .any ops i := by
              unfold depsAt; rw [Array.getElem?_eq_getElem h4]
              exact List.mem_map.2 ⟨e, List.mem_filter.2 ⟨Array.mem_toList_iff.2 he2, hb⟩, rfl⟩
            rw [hlst e.on false]
            by_cases hl : e.on ∈ l
            · rw [if_pos hl]
              cases hee : ex e.on with
              | true => simp
              | false => exact absurd ⟨_, hd, hl, hee⟩ hx
            · rw [if_neg hl]
              rcases (h6 _ hd).2 with h7 | h7
              · exact h7
              · exact absurd h7 hl
      obtain ⟨i, hi, he⟩ := hex
      obtain ⟨j, hj⟩ := key i i (Nat.le_refl _) hi he
      rw [h0] at hj; cases hj
    · obtain ⟨hil, hie⟩ := hready i hi
      have hdx : ∀ d, d ∈ l → d ∈ depsAt .any ops i → ex d = true := fun d hd hdi => by
        have := Closed.ready_dep hi hdi
        rw [hlst d false, if_pos hd] at this
        cases he : ex d with
        | true => rfl
        | false =>
          rw [he] at this
          have h0 := getD_both (hin d hd).2.1
          simp [h0] at this
      have hdu : ∀ d, d ∈ l → d ∈ depsAt .any ops i → ∀ j ∈ l, ex j = true → d ∉ depsAt .any ops j := fun d hd hdi j hj hje =>
        hone i hil j hj (fun e => by rw [e, hje] at hie; cases hie) d hd hdi
      have hst := R.step i hil vals B w (putE ops l ex vals a0) hS (fun d hd hdi => hF d hd (hdx d hd hdi) (hdu d hd hdi))
        (fun d d' hd hd' hdi hdi' hne => hB d d' hd hd' (hdx d hd hdi) (hdx d' hd' hdi') (hdu d hd hdi) (hdu d' hd' hdi') hne)
        (fun t ht => putE_other ops ex vals t l a0 ht)
        (fun d hd hdi t hdt htl => putE_at ops ex vals d t l a0 hnd hd (hdx d hd hdi) hdt htl)
      refine wpOp_mono (fun a'' w'' hx => ?_) hst
      obtain ⟨v, B', rfl, hS', hsz', hFi, hBi, hkeep⟩ := hx
      refine ⟨fun _ => hS', ?_⟩
      rw [putE_set ops ex vals i v l a0 hnd hil hie]
      have hexi : ∀ j, upd ex i true j = true → j ≠ i → ex j = true := fun j h hne => by rwa [upd_ne _ _ hne] at h
      refine ih (listed.setIfInBounds i true) (upd ex i true) (upd vals i v) (upd B i B') w'' ?_ (hcl.set hi) (by simp [hsz]) (fun j d => ?_) hS' (Nat.le_trans hw hsz') (fun j hj hje hjn => ?_) (fun j j' hj hj' hje hje' hjn hjn' hne => ?_)
      · have hcnt : ∀ (l : List Nat), l.Nodup → i ∈ l → (l.filter fun j => !(upd ex i true j)).length + 1 = (l.filter fun j => !ex j).length := by
          intro l
          induction l with
          | nil => intro _ h; cases h
          | cons x l ihl =>
            intro hnl hx
            rw [List.nodup_cons] at hnl
            by_cases hxi : x = i
            · subst hxi
              have : (l.filter fun j => !(upd ex x true j)) = l.filter fun j => !ex j := List.filter_congr (fun j hj => by rw [upd_ne _ _ (fun e => hnl.1 (by rw [← e]; exact hj))])
              rw [List.filter_cons, List.filter_cons, upd_same, hie, this]; simp
            · have hxl : i ∈ l := by
                rcases List.mem_cons.1 hx with h | h
                · exact absurd h.symm hxi
                · exact h
              have := ihl hnl.2 hxl
              rw [List.filter_cons, List.filter_cons, upd_ne _ _ hxi]
              split
              · simp only [List.length_cons]; omega
              · exact this
        have := hcnt l hln hil
        omega
      · by_cases hji : j = i
        · subst hji
          rw [if_pos hil, upd_same, if_pos rfl]
          have hlt : j < listed.size := by
            have := (hin j hil).1
            rw [hcl.size]; exact this
          simp [Array.getD, hlt]
        · rw [getD_set_ne d (Ne.symm hji), hlst j d, upd_ne _ _ hji]
      · by_cases hji : j = i
        · subst hji
          rw [upd_same, upd_same]
          exact ⟨hFi, fun k hk => (hBi k hk).1⟩
        · rw [upd_ne _ _ hji, upd_ne _ _ hji]
          have hjx := hexi j hje hji
          have hjd : j ∉ depsAt .any ops i := hjn i hil (upd_same _ _ _)
          have hju : ∀ j' ∈ l, ex j' = true → j ∉ depsAt .any ops j' := fun j' hj' he => hjn j' hj' (by
            by_cases e : j' = i
            · rw [e, upd_same]
            · rw [upd_ne _ _ e]; exact he)
          obtain ⟨hf, hb⟩ := hF j hj hjx hju
          refine ⟨R.stable j _ _ w w'' hf hS' hsz' (fun k hk => hkeep k (hb k hk) (fun d hd hdi hbd => hB j d hj hd hjx (hdx d hd hdi) hju (hdu d hd hdi) (fun e => hjd (e ▸ hdi)) k hk hbd)), fun k hk => Nat.lt_of_lt_of_le (hb k hk) hsz'⟩
      · have hold : ∀ j, j ∈ l → upd ex i true j = true → (∀ q ∈ l, upd ex i true q = true → j ∉ depsAt .any ops q) → j ≠ i → ex j = true ∧ (∀ q ∈ l, ex q = true → j ∉ depsAt .any ops q) ∧ j ∉ depsAt .any ops i := fun j hj hje hjn hji =>
          ⟨hexi j hje hji, fun q hq he => hjn q hq (by
            by_cases e : q = i
            · rw [e, upd_same]
            · rw [upd_ne _ _ e]; exact he), hjn i hil (upd_same _ _ _)⟩
        have hnew : ∀ j, j ∈ l → upd ex i true j = true → (∀ q ∈ l, upd ex i true q = true → j ∉ depsAt .any ops q) → j ≠ i → ∀ k, B' k → ¬ B j k := fun j hj hje hjn hji k hk hbj => by
          obtain ⟨h4, h5, h6⟩ := hold j hj hje hjn hji
          rcases (hBi k hk).2 with h7 | ⟨d, hd, hdi, hbd⟩
          · have := (hF j hj h4 h5).2 k hbj; omega
          · exact hB d j hd hj (hdx d hd hdi) h4 (hdu d hd hdi) h5 (fun e => h6 (e ▸ hdi)) k hbd hbj
        by_cases hji : j = i
        · subst hji
          intro k hk
          rw [upd_same] at hk
          rw [upd_ne _ _ (Ne.symm hne)]
          exact hnew j' hj' hje' hjn' (Ne.symm hne) k hk
        · intro k hk
          rw [upd_ne _ _ hji] at hk
          by_cases hji' : j' = i
          · subst hji'
            rw [upd_same]
            exact fun hk' => hnew j hj hje hjn hji k hk' hk
          · rw [upd_ne _ _ hji']
            obtain ⟨h4, h5, _⟩ := hold j hj hje hjn hji
            obtain ⟨h6, h7, _⟩ := hold j' hj' hje' hjn' hji'
            exact hB j j' hj hj' h4 h6 h5 h7 hne k hk
theorem wpAnyF_seq2 (hs : Region.noSelect ops = true) (hQ : ∀ o ∈ ops.toList, ∀ c a v w, Q (.panic c) (a.put o.dst v) w → Q (.panic c) a w) :
    ∀ (l : List Turn2) (listed : Array Bool) (a : Act) (w : World), Closed md ops listed → okSeq2 md ops F l listed = true → runSeq2 P ops Q S l a w → wpAnyF P md ops Q S F (many2 l) listed a w
  | [], listed, a, w, _, hk, h => ⟨by simpa [okSeq2] using hk, h⟩
  | .take i :: r, listed, a, w, inv, hk, h => by
    simp only [okSeq2, Bool.and_eq_true, Bool.not_eq_true'] at hk
    obtain ⟨o, v, ho, hy, hS, hr⟩ := h
    have hi : i ∈ Region.ready md ops listed := by simpa using hk.1.1.1.1
    exact wpAnyF_first ho (Region.noSelect_spec hs) (fun c a w => hQ o (Array.mem_toList_iff.2 (Array.mem_of_getElem? ho)) c a v w) hk.1.1.2 (many2 r) listed a w inv hk.1.2
      (Region.free_spec ho hk.1.1.1.2) hi hy hS (wpAnyF_seq2 hs hQ r _ _ _ (inv.set hi) hk.2 hr)
  | .op i :: r, listed, a, w, inv, hk, h => by
    simp only [okSeq2, Bool.and_eq_true, beq_iff_eq] at hk
    have hi : i ∈ Region.ready md ops listed := by rw [hk.1]; simp
    exact wpAnyF_one hk.1 (wpOp_mono (fun a' w' h' => ⟨h'.1, wpAnyF_seq2 hs hQ r _ _ _ (inv.set hi) hk.2 h'.2⟩) h)
  | .fin i :: r, listed, a, w, inv, hk, h => by
    simp only [okSeq2, Bool.and_eq_true, beq_iff_eq] at hk
    refine ⟨fun h0 => (by rw [hk.1.1] at h0; cases h0), fun j hj => ?_⟩
    have hji : j = i := by rw [hk.1.1] at hj; simpa using hj
    subst hji
    exact wpOp_mono (fun a' w' h' => ⟨fun hc => (by rw [hk.1.2] at hc; cases hc), wpAnyF_seq2 hs hQ r _ _ _ (inv.set hj) hk.2 h'⟩) h
  | .pair i j :: r, listed, a, w, inv, hk, h => by
    simp only [okSeq2, Bool.and_eq_true, beq_iff_eq, bne_iff_ne, ne_eq] at hk
    obtain ⟨⟨⟨⟨h1, hij⟩, h2⟩, h3⟩, h4⟩ := hk
    have hi : i ∈ Region.ready md ops listed := by rw [h1]; simp
    have hj : j ∈ Region.ready md ops listed := by rw [h1]; simp
    have hj2 : j ∈ Region.ready md ops (listed.setIfInBounds i true) := by rw [h2]; simp
    refine ⟨fun h0 => (by rw [h1] at h0; cases h0), fun k hk => ?_⟩
    have hk2 : k = i ∨ k = j := by rw [h1] at hk; simpa using hk
    rcases hk2 with rfl | rfl
    · exact wpOp_mono (fun a' w' h' => ⟨fun _ => h'.1, wpAnyF_one h2 (wpOp_mono (fun a' w' h' => ⟨h'.1, wpAnyF_seq2 hs hQ r _ _ _ ((inv.set hi).set hj2) h4 h'.2⟩) h'.2)⟩) h.1
    · refine wpOp_mono (fun a' w' h' => ⟨fun _ => h'.1, wpAnyF_one h3 (wpOp_mono (fun a' w' h' => ⟨h'.1, ?_⟩) h'.2)⟩) h.2
      rw [Array.setIfInBounds_comm _ _ (Ne.symm hij)]
      exact wpAnyF_seq2 hs hQ r _ _ _ ((inv.set hi).set hj2) h4 h'.2
  | .tri i k j :: r, listed, a, w, inv, hk, h => by
    simp only [okSeq2, Bool.and_eq_true, beq_iff_eq, bne_iff_ne, ne_eq] at hk
    obtain ⟨⟨⟨⟨⟨⟨⟨h1, hij⟩, hkj⟩, h2⟩, h3⟩, h4⟩, h5⟩, h6⟩ := hk
    have hi : i ∈ Region.ready md ops listed := by rw [h1]; simp
    have hk2 : k ∈ Region.ready md ops (listed.setIfInBounds i true) := by rw [h2]; simp
    have hj3 : j ∈ Region.ready md ops ((listed.setIfInBounds i true).setIfInBounds k true) := by rw [h4]; simp
    have inv3 := ((inv.set hi).set hk2).set hj3
    have e1 : ((listed.setIfInBounds i true).setIfInBounds j true).setIfInBounds k true = ((listed.setIfInBounds i true).setIfInBounds k true).setIfInBounds j true := Array.setIfInBounds_comm _ _ (Ne.symm hkj)
    have e2 : (listed.setIfInBounds j true).setIfInBounds i true = (listed.setIfInBounds i true).setIfInBounds j true := Array.setIfInBounds_comm _ _ (Ne.symm hij)
    refine ⟨fun h0 => (by rw [h1] at h0; cases h0), fun q hq => ?_⟩
    have hq2 : q = i ∨ q = j := by rw [h1] at hq; simpa using hq
    rcases hq2 with rfl | rfl
    · refine wpOp_mono (fun a' w' h' => ⟨fun _ => h'.1, ⟨fun h0 => (by rw [h2] at h0; cases h0), fun q2 hq2 => ?_⟩⟩) h.1
      have hq3 : q2 = k ∨ q2 = j := by rw [h2] at hq2; simpa using hq2
      rcases hq3 with rfl | rfl
      · exact wpOp_mono (fun a' w' h' => ⟨fun _ => h'.1, wpAnyF_one h4 (wpOp_mono (fun a' w' h' => ⟨h'.1, wpAnyF_seq2 hs hQ r _ _ _ inv3 h6 h'.2⟩) h'.2)⟩) h'.2.1
      · refine wpOp_mono (fun a' w' h' => ⟨fun _ => h'.1, wpAnyF_one h5 (wpOp_mono (fun a' w' h' => ⟨h'.1, ?_⟩) h'.2)⟩) h'.2.2
        rw [e1]
        exact wpAnyF_seq2 hs hQ r _ _ _ inv3 h6 h'.2
    · refine wpOp_mono (fun a' w' h' => ⟨fun _ => h'.1, wpAnyF_one h3 (wpOp_mono (fun a' w' h' => ⟨h'.1, ?_⟩) h'.2)⟩) h.2
      rw [e2]
      refine wpAnyF_one h5 (wpOp_mono (fun a' w' h' => ⟨h'.1, ?_⟩) h'.2)
      rw [e1]
      exact wpAnyF_seq2 hs hQ r _ _ _ inv3 h6 h'.2
  | .rooms l :: r, listed, a, w, inv, hk, h => by
    simp only [okSeq2, Bool.and_eq_true] at hk
    obtain ⟨⟨hmd, hok⟩, hr⟩ := hk
    have hmd : md = .any := by cases md <;> first | rfl | cases hmd
    obtain ⟨Fc, hR, hS, hfin⟩ := h
    have hgo : Closed md ops (l.foldl (fun x i => x.setIfInBounds i true) listed) → ∀ vals B w', S w' → Left ops l Fc w vals B w' → wpAnyF P md ops Q S F (many2 r) (l.foldl (fun x i => x.setIfInBounds i true) listed) (putE ops l (fun _ => true) vals a) w' :=
      fun hc vals B w' hS' hl => wpAnyF_seq2 hs hQ r _ _ _ hc hr (hfin vals B w' hS' hl)
    clear hfin
    subst hmd
    have hin : ∀ i ∈ l, listed.getD i true = false := fun i hi => by
      simp only [okRooms, Bool.and_eq_true] at hok
      have := List.all_eq_true.1 hok.1.1.2 i hi
      simp only [Bool.and_eq_true, Bool.not_eq_true'] at this
      exact this.1.2
    have hinv : Closed .any ops (l.foldl (fun x i => x.setIfInBounds i true) listed) := by
      have hok' := hok
      simp only [okRooms, Bool.and_eq_true] at hok'
      refine ⟨by rw [foldl_size, inv.size], fun j oj hj hl e he hb => ?_⟩
      have hbd : ∀ i ∈ l, i < listed.size := fun i hi => by
        have := List.all_eq_true.1 hok'.1.1.2 i hi
        simp only [Bool.and_eq_true, decide_eq_true_eq] at this
        rw [inv.size]; exact this.1.1
      rw [foldl_getD l listed _ _ hbd] at hl ⊢
      have hd : e.on ∈ depsAt .any ops j := by
        unfold depsAt; rw [hj]
        exact List.mem_map.2 ⟨e, List.mem_filter.2 ⟨Array.mem_toList_iff.2 he, hb⟩, rfl⟩
      by_cases hjl : j ∈ l
      · have := List.all_eq_true.1 hok'.1.1.2 j hjl
        simp only [Bool.and_eq_true, decide_eq_true_eq] at this
        have h2 := List.all_eq_true.1 this.2 e.on hd
        simp only [Bool.and_eq_true, decide_eq_true_eq, Bool.or_eq_true] at h2
        split
        · rfl
        · rename_i hn
          rcases h2.2 with h3 | h3
          · exact h3
          · exact absurd (by simpa using h3) hn
      · rw [if_neg hjl] at hl
        have := inv.closed j oj hj hl e he hb
        split
        · rfl
        · exact this
    have := wpAnyF_rooms (Fc := Fc) (n := many2 r) (w0 := w) hok hR (hgo hinv) l.length listed (fun _ => false) (fun _ => undef) (fun _ _ => False) w (by simp) inv rfl
      (fun j d => by simp) hS (Nat.le_refl _) (fun i hi he => by cases he) (fun i i' hi hi' he => by cases he)
    have e : putE ops l (fun _ => false) (fun _ => undef) a = a := by
      have : ∀ (l : List Nat) (a : Act), putE ops l (fun _ => false) (fun _ => undef) a = a := by
        intro l
        induction l with
        | nil => intro a; rfl
        | cons i l ih => intro a; rw [putE, if_neg (by simp)]; exact ih a
      exact this l a
    rw [e] at this
    rw [many2, Turn2.many, Nat.add_comm]
    exact this
theorem wp_region_seq2 {id : Nat} {a : Act} {w : World} (S : World → Prop) (F : List Nat) (l : List Turn2) (hm : P.follows .mixedOrders = true) (hs : Region.noSelect ops = true) (hl : many2 l = ops.size)
    (hk : okSeq2 .any ops F l (Array.replicate ops.size false) = true)
    (hQ : ∀ o ∈ ops.toList, ∀ c a v w, Q (.panic c) (a.put o.dst v) w → Q (.panic c) a w)
    (h : runSeq2 P ops Q S l a w.drew) : (Code.region id ops true).wp P Q a w :=
  wp_region_any hm (wpAny_of_F _ _ _ _ (hl ▸ wpAnyF_seq2 hs hQ l _ _ _ Closed.start hk h))
theorem runSeq2_nil {a : Act} {w : World} (h : Q .normal a w) : runSeq2 P ops Q S [] a w := h
theorem runSeq2_take {i : Nat} {o : Oper} {v : Value} {r : List Turn2} {a : Act} {w : World} (ho' : ops.toList[i]? = some o) (hw : Region.wanted o (yielded ops a.tmps) = true)
    (hy : ∀ w', S w' → (execOp a.eval o).run P w' = .ok (.value v) w') (hS : S w) (h : runSeq2 P ops Q S r (a.put o.dst v) w) : runSeq2 P ops Q S (.take i :: r) a w :=
  ⟨o, v, by simpa using ho', .inl ⟨hw, hy⟩, hS, h⟩
theorem runSeq2_skip {i : Nat} {o : Oper} {r : List Turn2} {a : Act} {w : World} (ho' : ops.toList[i]? = some o) (hw : Region.wanted o (yielded ops a.tmps) = false)
    (hS : S w) (h : runSeq2 P ops Q S r (a.put o.dst undef) w) : runSeq2 P ops Q S (.take i :: r) a w :=
  ⟨o, undef, by simpa using ho', .inr ⟨hw, rfl⟩, hS, h⟩
theorem wpOp_at {i : Nat} {o : Oper} {a : Act} {w : World} {R : Act → World → Prop} (ho' : ops.toList[i]? = some o) (hw : Region.wanted o (yielded ops a.tmps) = true)
    (h : ∀ K : Act → World → Prop, (∀ a' w', R a' w' → K a' w') → o.wp P a w K Q) : wpOp P ops Q i R a w := by
  have ho : ops[i]? = some o := by simpa using ho'
  unfold wpOp
  simp only [ho, hw, if_true]
  exact .inl (h _ fun a' w' hR => hR)
theorem runSeq2_op {i : Nat} {o : Oper} {r : List Turn2} {a : Act} {w : World} (ho' : ops.toList[i]? = some o) (hw : Region.wanted o (yielded ops a.tmps) = true)
    (h : ∀ K : Act → World → Prop, (∀ a' w', S w' → runSeq2 P ops Q S r a' w' → K a' w') → o.wp P a w K Q) : runSeq2 P ops Q S (.op i :: r) a w :=
  wpOp_at (R := fun a' w' => S w' ∧ runSeq2 P ops Q S r a' w') ho' hw fun K hK => h K fun a' w' hS hr => hK a' w' ⟨hS, hr⟩
theorem runSeq2_fin {i : Nat} {o : Oper} {r : List Turn2} {a : Act} {w : World} (ho' : ops.toList[i]? = some o) (hw : Region.wanted o (yielded ops a.tmps) = true)
    (h : ∀ K : Act → World → Prop, (∀ a' w', runSeq2 P ops Q S r a' w' → K a' w') → o.wp P a w K Q) : runSeq2 P ops Q S (.fin i :: r) a w :=
  wpOp_at (R := fun a' w' => runSeq2 P ops Q S r a' w') ho' hw h
theorem put_comm {a : Act} {i j : Nat} (h : i ≠ j) (x y : Value) : (a.put (some j) y).put (some i) x = (a.put (some i) x).put (some j) y := by
  simp only [Act.put]
  rw [Array.setIfInBounds_comm _ _ (Ne.symm h)]
theorem wanted_free {o : Oper} (hg : o.guard = none) (ys : Nat → Option Bool) : Region.wanted o ys = true := by simp [Region.wanted, hg]
/-- Two rooms are made, in either order: what is gone on with knows that they are new, and not the same. -/
theorem runSeq2_two {i j di dj : Nat} {oi oj : Oper} {Zi Zj : Obj} {r : List Turn2} {a : Act} {w : World} (hoi : ops.toList[i]? = some oi) (hoj : ops.toList[j]? = some oj) (hgi : oi.guard = none) (hgj : oj.guard = none)
    (hi : ∀ (a : Act) (w : World) (K : Act → World → Prop), K (a.put (some di) (.pointer (some ⟨w.heap.size, 0, none⟩))) (w.alloc Zi) → oi.wp P a w K Q)
    (hj : ∀ (a : Act) (w : World) (K : Act → World → Prop), K (a.put (some dj) (.pointer (some ⟨w.heap.size, 0, none⟩))) (w.alloc Zj) → oj.wp P a w K Q)
    (hd : di ≠ dj) (hS : ∀ w', S w' → ∀ o, S (w'.alloc o)) (hs : S w)
    (h : ∀ bi bj w', S w' → bi ≠ bj → w.heap.size ≤ bi → w.heap.size ≤ bj → w'.heap[bi]? = some Zi → w'.heap[bj]? = some Zj →
      runSeq2 P ops Q S r ((a.put (some di) (.pointer (some ⟨bi, 0, none⟩))).put (some dj) (.pointer (some ⟨bj, 0, none⟩))) w') : runSeq2 P ops Q S (.pair i j :: r) a w := by
  have hsz : ∀ (w : World) (o : Obj), (w.alloc o).heap.size = w.heap.size + 1 := fun w o => Array.size_push _
  have hnew : ∀ (w : World) (o : Obj), (w.alloc o).heap[w.heap.size]? = some o := fun w o => by show (w.heap.push o)[_]? = _; rw [Array.getElem?_push_size]
  have hold : ∀ (w : World) (o o' : Obj), ((w.alloc o).alloc o').heap[w.heap.size]? = some o := fun w o o' => by
    show ((w.heap.push o).push o')[_]? = _
    rw [Array.getElem?_push, if_neg (by simp), Array.getElem?_push_size]
  refine ⟨wpOp_at hoi (wanted_free hgi _) fun K hK => hi _ _ _ (hK _ _ ⟨hS _ hs _, wpOp_at hoj (wanted_free hgj _) fun K hK => hj _ _ _ (hK _ _ ⟨hS _ (hS _ hs _) _, ?_⟩)⟩),
    wpOp_at hoj (wanted_free hgj _) fun K hK => hj _ _ _ (hK _ _ ⟨hS _ hs _, wpOp_at hoi (wanted_free hgi _) fun K hK => hi _ _ _ (hK _ _ ⟨hS _ (hS _ hs _) _, ?_⟩)⟩)⟩
  · have := hsz w Zi
    exact h _ _ _ (hS _ (hS _ hs _) _) (by omega) (Nat.le_refl _) (by omega) (hold _ _ _) (hnew _ _)
  · have := hsz w Zj
    rw [put_comm hd]
    exact h _ _ _ (hS _ (hS _ hs _) _) (by omega) (by omega) (Nat.le_refl _) (hnew _ _) (hold _ _ _)
/-- Two in either order, each with a value: what is gone on with knows both. -/
theorem runSeq2_pairM {i j di dj : Nat} {r : List Turn2} {a : Act} {w : World} (N : Value → Value → World → Prop) (hd : di ≠ dj)
    (h1 : wpOp P ops Q i (fun a1 w1 => ∃ v, a1 = a.put (some di) v ∧ S w1 ∧ wpOp P ops Q j (fun a2 w2 => ∃ u, a2 = a1.put (some dj) u ∧ S w2 ∧ N v u w2) a1 w1) a w)
    (h2 : wpOp P ops Q j (fun a1 w1 => ∃ u, a1 = a.put (some dj) u ∧ S w1 ∧ wpOp P ops Q i (fun a2 w2 => ∃ v, a2 = a1.put (some di) v ∧ S w2 ∧ N v u w2) a1 w1) a w)
    (h : ∀ v u w', S w' → N v u w' → runSeq2 P ops Q S r ((a.put (some di) v).put (some dj) u) w') : runSeq2 P ops Q S (.pair i j :: r) a w := by
  refine ⟨wpOp_mono (fun a1 w1 x => ?_) h1, wpOp_mono (fun a1 w1 x => ?_) h2⟩
  · obtain ⟨v, rfl, hs, hx⟩ := x
    refine ⟨hs, wpOp_mono (fun a2 w2 y => ?_) hx⟩
    obtain ⟨u, rfl, hs2, hn⟩ := y
    exact ⟨hs2, h v u w2 hs2 hn⟩
  · obtain ⟨u, rfl, hs, hx⟩ := x
    refine ⟨hs, wpOp_mono (fun a2 w2 y => ?_) hx⟩
    obtain ⟨v, rfl, hs2, hn⟩ := y
    rw [put_comm hd]
    exact ⟨hs2, h v u w2 hs2 hn⟩
end
end Go.Hay

set_option linter.unusedVariables false
set_option linter.unusedSimpArgs false
namespace Go.Hay
open Go.RowKit Go.Proofs.YtcciejcpijlkfaaW.PrintWords Go.Proofs.YtcciejcpijlkfaaW.PrintLast Go.Proofs.YtcciejcpijlkfaaW.PrintMore
theorem nums_own {k : IntKind} {e base : Nat} {w : World} {ok : Nat → Prop} {v : Value} {xs : List Int} (h : (Kd.int k).R e w base ok v xs) : ∀ b, v.ownBlock = some b → ok b ∧ base ≤ b ∧ b < w.heap.size :=
  fun b hb => ⟨h.1 b hb, Go.Proofs.YtcciejcpijlkfaaW.PrintWords.Kd.R_base h b hb, Go.Proofs.YtcciejcpijlkfaaW.PrintWords.Kd.R_lt h b hb⟩
theorem C_at {α : Type} {d : Go.Proofs.YtcciejcpijlkfaaW.PrintWords.Kd α} (hd : ∀ {w w' : World} {x : α} {cs : List Value}, d.K w x cs → d.K w' x cs) {w w' : World} {A : Option Addr} {n : Nat} {xs : List α} (h : d.C w A n xs) (hk : ∀ ad, A = some ad → w'.heap[ad.block]? = w.heap[ad.block]?) : d.C w' A n xs := by
  refine ⟨h.1, h.2.1, fun hp => ?_⟩
  obtain ⟨ad, rfl, hx⟩ := h.2.2 hp
  refine ⟨ad, rfl, fun j p hj => ?_⟩
  obtain ⟨cs, h1, h2, h3⟩ := hx j p hj
  refine ⟨cs, h1, hd h2, fun i u hu => ?_⟩
  rw [← h3 i u hu]
  exact World.cell?_of_block (by rw [add_block]; exact hk ad rfl)
section
variable {P : Program} {ops : Array Oper} {Q : Exit → Act → World → Prop} {S : World → Prop}
end
end Go.Hay

set_option linter.unusedVariables false
set_option linter.unusedSimpArgs false
namespace Go.Proofs.Ytcciejcpijlkfaa.H
open Go.RowKit Go.Hay Go.Proofs.YtcciejcpijlkfaaW.PrintWords Go.Proofs.YtcciejcpijlkfaaW.PrintLast Go.Proofs.YtcciejcpijlkfaaW.PrintMore
def frcells (F : Fr) (vp : Value) : List Value := [.int .i64 F.fn, .int .i64 F.at_, .int .i64 F.steps, .int .i64 F.kids, vp] ++ (F.regs.map (Value.int .i64) ++ F.hands.map (Value.int .i64))
structure FB (fb : Nat) (F : Fr) (vp : Value) (w : World) : Prop where
  node : w.heap[fb]? = some (.cells (frcells F vp).toArray 62 (0, 0))
  rl : F.regs.length = 8
  hl : F.hands.length = 4
theorem eightF {α : Type} {l : List α} (h : l.length = 8) : ∃ a b c d e f g i, l = [a, b, c, d, e, f, g, i] := by
  match l, h with
  | [a, b, c, d, e, f, g, i], _ => exact ⟨a, b, c, d, e, f, g, i, rfl⟩
theorem fourF {α : Type} {l : List α} (h : l.length = 4) : ∃ a b c d, l = [a, b, c, d] := by
  match l, h with
  | [a, b, c, d], _ => exact ⟨a, b, c, d, rfl⟩
section
variable {fb : Nat} {vp : Value} {F : Fr} {w w1 : World}
theorem FB.cells (h : FB fb F vp w) : ∃ r0 r1 r2 r3 r4 r5 r6 r7 h0 h1 h2 h3, F.regs = [r0, r1, r2, r3, r4, r5, r6, r7] ∧ F.hands = [h0, h1, h2, h3] ∧
    (frcells F vp).toArray = #[.int .i64 F.fn, .int .i64 F.at_, .int .i64 F.steps, .int .i64 F.kids, vp, .int .i64 r0, .int .i64 r1, .int .i64 r2, .int .i64 r3, .int .i64 r4, .int .i64 r5, .int .i64 r6, .int .i64 r7, .int .i64 h0, .int .i64 h1, .int .i64 h2, .int .i64 h3] := by
  obtain ⟨r0, r1, r2, r3, r4, r5, r6, r7, hr⟩ := eightF h.rl
  obtain ⟨h0, h1, h2, h3, hh⟩ := fourF h.hl
  refine ⟨r0, r1, r2, r3, r4, r5, r6, r7, h0, h1, h2, h3, hr, hh, ?_⟩
  unfold frcells
  rw [hr, hh]
  rfl
theorem FB.frozen (h : FB fb F vp w) (i : Nat) : w.frozen? ⟨fb, i, none⟩ = false := blk_frozen h.node i
theorem FB.fix (h : FB fb F vp w) : w.cell? ⟨fb, 0, none⟩ = some (.int .i64 F.fn) ∧ w.cell? ⟨fb, 1, none⟩ = some (.int .i64 F.at_) ∧ w.cell? ⟨fb, 2, none⟩ = some (.int .i64 F.steps) ∧ w.cell? ⟨fb, 3, none⟩ = some (.int .i64 F.kids) ∧ w.cell? ⟨fb, 4, none⟩ = some vp := by
  obtain ⟨r0, r1, r2, r3, r4, r5, r6, r7, h0, h1, h2, h3, hr, hh, hc⟩ := h.cells
  have hn := h.node
  rw [hc] at hn
  exact ⟨blk_cell hn 0, blk_cell hn 1, blk_cell hn 2, blk_cell hn 3, blk_cell hn 4⟩
theorem FB.reg (h : FB fb F vp w) (i : Nat) (hi : i < 8) : w.cell? ⟨fb, 5 + i, none⟩ = some (.int .i64 (F.regs.getD i 0)) := by
  obtain ⟨r0, r1, r2, r3, r4, r5, r6, r7, h0, h1, h2, h3, hr, hh, hc⟩ := h.cells
  have hn := h.node
  rw [hc] at hn
  rw [hr]
  have : i = 0 ∨ i = 1 ∨ i = 2 ∨ i = 3 ∨ i = 4 ∨ i = 5 ∨ i = 6 ∨ i = 7 := by omega
  rcases this with rfl | rfl | rfl | rfl | rfl | rfl | rfl | rfl <;> exact blk_cell hn _
theorem FB.hand (h : FB fb F vp w) (i : Nat) (hi : i < 4) : w.cell? ⟨fb, 13 + i, none⟩ = some (.int .i64 (F.hands.getD i 0)) := by
  obtain ⟨r0, r1, r2, r3, r4, r5, r6, r7, h0, h1, h2, h3, hr, hh, hc⟩ := h.cells
  have hn := h.node
  rw [hc] at hn
  rw [hh]
  have : i = 0 ∨ i = 1 ∨ i = 2 ∨ i = 3 := by omega
  rcases this with rfl | rfl | rfl | rfl <;> exact blk_cell hn _
theorem FB.keep {S : Nat → Prop} (h : FB fb F vp w) (hk : Keep S w w1) (hS : ¬ S fb) : FB fb F vp w1 := ⟨hk.blk h.node hS, h.rl, h.hl⟩
theorem FB.below (h : FB fb F vp w) (hb : Below w.heap.size w w1) : FB fb F vp w1 := ⟨(hb.block _ (blk_lt h.node)).trans h.node, h.rl, h.hl⟩
theorem FB.lt (h : FB fb F vp w) : fb < w.heap.size := blk_lt h.node
theorem FB.setAt (h : FB fb F vp w) (x : Int) : FB fb { F with at_ := x } vp (w.setCell ⟨fb, 1, none⟩ (.int .i64 x)) := by
  obtain ⟨r0, r1, r2, r3, r4, r5, r6, r7, h0, h1, h2, h3, hr, hh, hc⟩ := h.cells
  have := blk_set h.node (1) (.int .i64 x)
  refine ⟨?_, h.rl, h.hl⟩
  rw [this, hc]; unfold frcells; simp only [hr, hh]; rfl
theorem FB.setSteps (h : FB fb F vp w) (x : Int) : FB fb { F with steps := x } vp (w.setCell ⟨fb, 2, none⟩ (.int .i64 x)) := by
  obtain ⟨r0, r1, r2, r3, r4, r5, r6, r7, h0, h1, h2, h3, hr, hh, hc⟩ := h.cells
  have := blk_set h.node (2) (.int .i64 x)
  refine ⟨?_, h.rl, h.hl⟩
  rw [this, hc]; unfold frcells; simp only [hr, hh]; rfl
theorem FB.setKids (h : FB fb F vp w) (x : Int) : FB fb { F with kids := x } vp (w.setCell ⟨fb, 3, none⟩ (.int .i64 x)) := by
  obtain ⟨r0, r1, r2, r3, r4, r5, r6, r7, h0, h1, h2, h3, hr, hh, hc⟩ := h.cells
  have := blk_set h.node (3) (.int .i64 x)
  refine ⟨?_, h.rl, h.hl⟩
  rw [this, hc]; unfold frcells; simp only [hr, hh]; rfl
theorem FB.setReg (h : FB fb F vp w) (i : Nat) (hi : i < 8) (x : Int) : FB fb { F with regs := F.regs.set i x } vp (w.setCell ⟨fb, 5 + i, none⟩ (.int .i64 x)) := by
  obtain ⟨r0, r1, r2, r3, r4, r5, r6, r7, h0, h1, h2, h3, hr, hh, hc⟩ := h.cells
  have := blk_set h.node (5 + i) (.int .i64 x)
  refine ⟨?_, by rw [List.length_set]; exact h.rl, h.hl⟩
  rw [this, hc]; unfold frcells; simp only [hr, hh]
  have : i = 0 ∨ i = 1 ∨ i = 2 ∨ i = 3 ∨ i = 4 ∨ i = 5 ∨ i = 6 ∨ i = 7 := by omega
  rcases this with rfl | rfl | rfl | rfl | rfl | rfl | rfl | rfl <;> rfl
/-- registers, one behind the other. -/
theorem FB.argsC (h : FB fb F vp w) (b ar : Nat) (hb : b + ar ≤ 8) : ((F.regs.drop b).take ar).length = ar ∧ (Kd.int .i64).C w (some ⟨fb, 5 + b, none⟩) ((F.regs.drop b).take ar).length ((F.regs.drop b).take ar) := by
  have hl : ((F.regs.drop b).take ar).length = ar := by rw [List.length_take, List.length_drop, h.rl]; omega
  refine ⟨hl, rfl, by omega, fun _ => ⟨_, rfl, fun j p hj => ⟨[.int .i64 p], rfl, rfl, fun i u hu => ?_⟩⟩⟩
  have hlt := (List.getElem?_eq_some_iff.1 hj).1
  match i, hu with
  | 0, hu =>
    cases hu
    have e : (⟨fb, 5 + b, none⟩ : Addr).add (j * (Kd.int .i64).sz + 0) = ⟨fb, 5 + (b + j), none⟩ := by
      have e2 : j * (Kd.int .i64).sz + 0 = j := Nat.mul_one j
      rw [e2]
      unfold Addr.add
      by_cases hj0 : j = 0
      · subst hj0; simp
      · simp [hj0]; omega
    rw [e, h.reg (b + j) (by omega)]
    rw [List.getElem?_take_of_lt (by omega), List.getElem?_drop] at hj
    rw [List.getD_eq_getElem?_getD, hj]; rfl
end
theorem slice_regsF (fb b ar : Nat) (hb : b < 8) (har : b + ar ≤ 8) (w : World) : (Instr.sliceAt 24 (.pointer (some ⟨fb, 5, none⟩)) (some (.int .i64 (b : Int))) (some (.int .i64 ((b : Int) + (ar : Int)))) none).run Try.prog w = .ok (.slice (some ⟨fb, 5 + b, none⟩) ar (8 - b)) w := by
  have hal : Try.prog.arrayLen 24 = 8 := by kernel_rfl
  have hel : Try.prog.elem 24 = 2 := by kernel_rfl
  have hsz : ∀ w, (sizeOf 2).run Try.prog w = .ok 1 w := fun _ => by kernel_rfl
  have ht : Try.prog.underlying 24 = some (.array (Try.prog.arrayLen 24) (Try.prog.elem 24)) := by rw [hal, hel]; exact Try.underlying24
  rw [run_sliceAt_array_lh w 24 ⟨fb, 5, none⟩ ht .i64 .i64 (b : Int) ((b : Int) + (ar : Int)) (by omega) (by omega) (by rw [hal]; omega), hel, hsz, hal]
  show Result.ok (slicedAt _ _ _ _ _) w = _
  have e1 : ((b : Int) + (ar : Int)).toNat = b + ar := by omega
  unfold slicedAt
  rw [e1, Int.toNat_natCast, if_neg (by omega), Nat.add_sub_cancel_left, Nat.mul_one]
  by_cases hb0 : b = 0
  · subst hb0; rfl
  · unfold Addr.add; simp [hb0]
/-! ### an effect -/
def efV (e : Ef) (Aa : Option Addr) (ca : Nat) (Ab : Option Addr) (cb : Nat) : Value := .agg #[.int .i64 e.kind, .int .i64 e.value, .int .i64 e.reg, .int .i64 e.fn, .int .i64 e.hand, .int .i64 e.why, .slice Aa e.args.length ca, .slice Ab e.path.length cb]
/-- its rows lie in blocks from B on. -/
structure EfC (B : Nat) (w : World) (e : Ef) (Aa : Option Addr) (ca : Nat) (Ab : Option Addr) (cb : Nat) : Prop where
  args : (Kd.int .i64).C w Aa e.args.length e.args
  argsC : e.args.length ≤ ca
  path : (Kd.int .i64).C w Ab e.path.length e.path
  pathC : e.path.length ≤ cb
  newA : e.args = [] ∨ ∃ ad, Aa = some ad ∧ B ≤ ad.block
  newP : e.path = [] ∨ ∃ ad, Ab = some ad ∧ B ≤ ad.block
theorem EfC.plain (B : Nat) (w : World) (e : Ef) (h : e.args = [] ∧ e.path = []) : EfC B w e none 0 none 0 := by
  obtain ⟨h1, h2⟩ := h
  refine ⟨?_, ?_, ?_, ?_, .inl h1, .inl h2⟩
  · rw [h1]; exact Kd.C_nil _ _
  · rw [h1]; exact Nat.le_refl _
  · rw [h2]; exact Kd.C_nil _ _
  · rw [h2]; exact Nat.le_refl _
theorem EfC.below {B : Nat} {w w1 : World} {e : Ef} {Aa : Option Addr} {ca : Nat} {Ab : Option Addr} {cb : Nat} (h : EfC B w e Aa ca Ab cb) (hb : Below w.heap.size w w1) : EfC B w1 e Aa ca Ab cb :=
  ⟨Kd.C_below h.args hb, h.argsC, Kd.C_below h.path hb, h.pathC, h.newA, h.newP⟩
theorem C_new {w w1 : World} {xs : List Int} {A : Option Addr} {B : Nat} {S : Nat → Prop} (h : (Kd.int .i64).C w A xs.length xs) (hn : xs = [] ∨ ∃ ad, A = some ad ∧ B ≤ ad.block) (hk : Keep S w w1) (hS : ∀ q, B ≤ q → q < w.heap.size → ¬ S q) : (Kd.int .i64).C w1 A xs.length xs := by
  rcases hn with rfl | ⟨ad, rfl, hB⟩
  · exact ⟨rfl, by simp, fun hp => absurd hp (Nat.lt_irrefl 0)⟩
  · refine ⟨rfl, h.2.1, fun hp => ?_⟩
    obtain ⟨ad', e, hx⟩ := h.2.2 hp
    cases e
    refine ⟨ad, rfl, fun j p hj => ?_⟩
    obtain ⟨cs, h1, h2, h3⟩ := hx j p hj
    refine ⟨cs, h1, h2, fun i u hu => ?_⟩
    have h4 := h3 i u hu
    have hlt := World.block_lt_of_cell? _ _ h4
    rw [add_block] at hlt
    rw [← h4]
    exact World.cell?_of_block (by rw [add_block]; exact hk.block _ hlt (hS _ hB hlt))
theorem EfC.keep {B : Nat} {w w1 : World} {e : Ef} {Aa : Option Addr} {ca : Nat} {Ab : Option Addr} {cb : Nat} (h : EfC B w e Aa ca Ab cb) {S : Nat → Prop} (hk : Keep S w w1) (hS : ∀ q, B ≤ q → q < w.heap.size → ¬ S q) : EfC B w1 e Aa ca Ab cb :=
  ⟨C_new h.args h.newA hk hS, h.argsC, C_new h.path h.newP hk hS, h.pathC, h.newA, h.newP⟩
/-- what an operation on a frame leaves. -/
def DoP (fb : Nat) (vp : Value) (r : Ef × Fr) (w : World) (x : Ending) (w' : World) : Prop :=
  ∃ Aa ca Ab cb, x = .returned (efV r.1 Aa ca Ab cb) ∧ EfC w.heap.size w' r.1 Aa ca Ab cb ∧ FB fb r.2 vp w' ∧ Keep (fun q => q = fb) w w'
/-! ### the boxes of an operation -/
def zEff : Obj := .cells #[.int .i64 0, .int .i64 0, .int .i64 0, .int .i64 0, .int .i64 0, .int .i64 0, .slice none 0 0, .slice none 0 0] 36
def dV (A : Option Addr) (n c : Nat) (b d : Int) (fb : Nat) : Value := .agg #[.slice A n c, .int .i64 b, .int .i64 d, .pointer (some ⟨fb, 0, none⟩)]
def xvF (x : S65) : Value := .agg #[.int .i64 x.f0, .int .i64 x.f1, .int .i64 x.f2, .int .i64 x.f3, .int .i64 x.f4]
structure DW (w : World) (A : Option Addr) (n c : Nat) (b d : Int) (fb : Nat) (x : S65) (W : World) : Prop where
  below : Below w.heap.size w W
  c0 : W.heap[w.heap.size]? = some (.cells #[.slice A n c, .int .i64 b, .int .i64 d, .pointer (some ⟨fb, 0, none⟩)] 115 (0, 0))
  c1 : W.heap[w.heap.size + 1]? = some (.cells #[.int .i64 x.f0, .int .i64 x.f1, .int .i64 x.f2, .int .i64 x.f3, .int .i64 x.f4] 65 (0, 0))
  c2 : W.heap[w.heap.size + 1 + 1]? = some zEff
theorem DW.start (w : World) (A : Option Addr) (n c : Nat) (b d : Int) (fb : Nat) (x : S65) : DW w A n c b d fb x (((w.alloc (.cells #[.slice A n c, .int .i64 b, .int .i64 d, .pointer (some ⟨fb, 0, none⟩)] 115)).alloc (.cells #[.int .i64 x.f0, .int .i64 x.f1, .int .i64 x.f2, .int .i64 x.f3, .int .i64 x.f4] 65)).alloc zEff) := by
  have e1 : (w.alloc (.cells #[.slice A n c, .int .i64 b, .int .i64 d, .pointer (some ⟨fb, 0, none⟩)] 115)).heap.size = w.heap.size + 1 := Array.size_push _
  have e2 : ((w.alloc (.cells #[.slice A n c, .int .i64 b, .int .i64 d, .pointer (some ⟨fb, 0, none⟩)] 115)).alloc (.cells #[.int .i64 x.f0, .int .i64 x.f1, .int .i64 x.f2, .int .i64 x.f3, .int .i64 x.f4] 65)).heap.size = w.heap.size + 1 + 1 := by
    rw [← e1]; exact Array.size_push _
  have b1 := (Below.refl w.heap.size w).alloc (Nat.le_refl _) (.cells #[.slice A n c, .int .i64 b, .int .i64 d, .pointer (some ⟨fb, 0, none⟩)] 115)
  have b2 := b1.alloc b1.size (.cells #[.int .i64 x.f0, .int .i64 x.f1, .int .i64 x.f2, .int .i64 x.f3, .int .i64 x.f4] 65)
  refine ⟨b2.alloc b2.size _, blk_alloc (blk_alloc (alloc_blk w _) _) _, ?_, ?_⟩
  · have := alloc_blk (w.alloc (.cells #[.slice A n c, .int .i64 b, .int .i64 d, .pointer (some ⟨fb, 0, none⟩)] 115)) (.cells #[.int .i64 x.f0, .int .i64 x.f1, .int .i64 x.f2, .int .i64 x.f3, .int .i64 x.f4] 65)
    rw [e1] at this
    exact blk_alloc this _
  · have := alloc_blk ((w.alloc (.cells #[.slice A n c, .int .i64 b, .int .i64 d, .pointer (some ⟨fb, 0, none⟩)] 115)).alloc (.cells #[.int .i64 x.f0, .int .i64 x.f1, .int .i64 x.f2, .int .i64 x.f3, .int .i64 x.f4] 65)) zEff
    rw [e2] at this
    exact this
theorem DW.below2 {w W W' : World} {A : Option Addr} {n c : Nat} {b d : Int} {fb : Nat} {x : S65} (h : DW w A n c b d fb x W) (hb : Below W.heap.size W W') : DW w A n c b d fb x W' :=
  ⟨h.below.trans (hb.mono h.below.size), (hb.block _ (blk_lt h.c0)).trans h.c0, (hb.block _ (blk_lt h.c1)).trans h.c1, (hb.block _ (blk_lt h.c2)).trans h.c2⟩
theorem DW.keep {w W W' : World} {A : Option Addr} {n c : Nat} {b d : Int} {fb : Nat} {x : S65} (h : DW w A n c b d fb x W) (hf : fb < w.heap.size) (hk : Keep (fun q => q = fb) W W') : W'.heap[w.heap.size]? = W.heap[w.heap.size]? ∧ W'.heap[w.heap.size + 1]? = W.heap[w.heap.size + 1]? ∧ W'.heap[w.heap.size + 1 + 1]? = W.heap[w.heap.size + 1 + 1]? :=
  ⟨hk.block _ (blk_lt h.c0) (by omega), hk.block _ (blk_lt h.c1) (by omega), hk.block _ (blk_lt h.c2) (by omega)⟩
/-- an effect that is stored at rb. -/
def effObj (e : Ef) (Aa : Option Addr) (ca : Nat) (Ab : Option Addr) (cb : Nat) : Obj := .cells #[.int .i64 e.kind, .int .i64 e.value, .int .i64 e.reg, .int .i64 e.fn, .int .i64 e.hand, .int .i64 e.why, .slice Aa e.args.length ca, .slice Ab e.path.length cb] 36
def storeE (w : World) (rb : Nat) (e : Ef) (Aa : Option Addr) (ca : Nat) (Ab : Option Addr) (cb : Nat) : World :=
  (((((((w.setCell ⟨rb, 0, none⟩ (.int .i64 e.kind)).setCell ⟨rb, 1, none⟩ (.int .i64 e.value)).setCell ⟨rb, 2, none⟩ (.int .i64 e.reg)).setCell ⟨rb, 3, none⟩ (.int .i64 e.fn)).setCell ⟨rb, 4, none⟩ (.int .i64 e.hand)).setCell ⟨rb, 5, none⟩ (.int .i64 e.why)).setCell ⟨rb, 6, none⟩ (.slice Aa e.args.length ca)).setCell ⟨rb, 7, none⟩ (.slice Ab e.path.length cb)
theorem storeE_at {w : World} {rb : Nat} {v0 v1 v2 v3 v4 v5 v6 v7 : Value} (h : w.heap[rb]? = some (.cells #[v0, v1, v2, v3, v4, v5, v6, v7] 36 (0, 0))) (e : Ef) (Aa : Option Addr) (ca : Nat) (Ab : Option Addr) (cb : Nat) : (storeE w rb e Aa ca Ab cb).heap[rb]? = some (effObj e Aa ca Ab cb) ∧ Keep (fun q => q = rb) w (storeE w rb e Aa ca Ab cb) := by
  unfold storeE
  obtain ⟨w0, hw0⟩ : ∃ w0, w0 = w.setCell ⟨rb, 0, none⟩ (.int .i64 e.kind) := ⟨_, rfl⟩
  rw [← hw0]
  have h0 : w0.heap[rb]? = some (.cells #[.int .i64 e.kind, v1, v2, v3, v4, v5, v6, v7] 36 (0, 0)) := by rw [hw0]; exact blk_set h 0 (.int .i64 e.kind)
  have k0 : Keep (fun q => q = rb) w w0 := by rw [hw0]; exact (Keep.refl (fun q => q = rb) w).set (p := ⟨rb, 0, none⟩) (.inr rfl) _
  obtain ⟨w1, hw1⟩ : ∃ w1, w1 = w0.setCell ⟨rb, 1, none⟩ (.int .i64 e.value) := ⟨_, rfl⟩
  rw [← hw1]
  have h1 : w1.heap[rb]? = some (.cells #[.int .i64 e.kind, .int .i64 e.value, v2, v3, v4, v5, v6, v7] 36 (0, 0)) := by rw [hw1]; exact blk_set h0 1 (.int .i64 e.value)
  have k1 : Keep (fun q => q = rb) w w1 := by rw [hw1]; exact (k0).set (p := ⟨rb, 1, none⟩) (.inr rfl) _
  obtain ⟨w2, hw2⟩ : ∃ w2, w2 = w1.setCell ⟨rb, 2, none⟩ (.int .i64 e.reg) := ⟨_, rfl⟩
  rw [← hw2]
  have h2 : w2.heap[rb]? = some (.cells #[.int .i64 e.kind, .int .i64 e.value, .int .i64 e.reg, v3, v4, v5, v6, v7] 36 (0, 0)) := by rw [hw2]; exact blk_set h1 2 (.int .i64 e.reg)
  have k2 : Keep (fun q => q = rb) w w2 := by rw [hw2]; exact (k1).set (p := ⟨rb, 2, none⟩) (.inr rfl) _
  obtain ⟨w3, hw3⟩ : ∃ w3, w3 = w2.setCell ⟨rb, 3, none⟩ (.int .i64 e.fn) := ⟨_, rfl⟩
  rw [← hw3]
  have h3 : w3.heap[rb]? = some (.cells #[.int .i64 e.kind, .int .i64 e.value, .int .i64 e.reg, .int .i64 e.fn, v4, v5, v6, v7] 36 (0, 0)) := by rw [hw3]; exact blk_set h2 3 (.int .i64 e.fn)
  have k3 : Keep (fun q => q = rb) w w3 := by rw [hw3]; exact (k2).set (p := ⟨rb, 3, none⟩) (.inr rfl) _
  obtain ⟨w4, hw4⟩ : ∃ w4, w4 = w3.setCell ⟨rb, 4, none⟩ (.int .i64 e.hand) := ⟨_, rfl⟩
  rw [← hw4]
  have h4 : w4.heap[rb]? = some (.cells #[.int .i64 e.kind, .int .i64 e.value, .int .i64 e.reg, .int .i64 e.fn, .int .i64 e.hand, v5, v6, v7] 36 (0, 0)) := by rw [hw4]; exact blk_set h3 4 (.int .i64 e.hand)
  have k4 : Keep (fun q => q = rb) w w4 := by rw [hw4]; exact (k3).set (p := ⟨rb, 4, none⟩) (.inr rfl) _
  obtain ⟨w5, hw5⟩ : ∃ w5, w5 = w4.setCell ⟨rb, 5, none⟩ (.int .i64 e.why) := ⟨_, rfl⟩
  rw [← hw5]
  have h5 : w5.heap[rb]? = some (.cells #[.int .i64 e.kind, .int .i64 e.value, .int .i64 e.reg, .int .i64 e.fn, .int .i64 e.hand, .int .i64 e.why, v6, v7] 36 (0, 0)) := by rw [hw5]; exact blk_set h4 5 (.int .i64 e.why)
  have k5 : Keep (fun q => q = rb) w w5 := by rw [hw5]; exact (k4).set (p := ⟨rb, 5, none⟩) (.inr rfl) _
  obtain ⟨w6, hw6⟩ : ∃ w6, w6 = w5.setCell ⟨rb, 6, none⟩ (.slice Aa e.args.length ca) := ⟨_, rfl⟩
  rw [← hw6]
  have h6 : w6.heap[rb]? = some (.cells #[.int .i64 e.kind, .int .i64 e.value, .int .i64 e.reg, .int .i64 e.fn, .int .i64 e.hand, .int .i64 e.why, .slice Aa e.args.length ca, v7] 36 (0, 0)) := by rw [hw6]; exact blk_set h5 6 (.slice Aa e.args.length ca)
  have k6 : Keep (fun q => q = rb) w w6 := by rw [hw6]; exact (k5).set (p := ⟨rb, 6, none⟩) (.inr rfl) _
  obtain ⟨w7, hw7⟩ : ∃ w7, w7 = w6.setCell ⟨rb, 7, none⟩ (.slice Ab e.path.length cb) := ⟨_, rfl⟩
  rw [← hw7]
  have h7 : w7.heap[rb]? = some (.cells #[.int .i64 e.kind, .int .i64 e.value, .int .i64 e.reg, .int .i64 e.fn, .int .i64 e.hand, .int .i64 e.why, .slice Aa e.args.length ca, .slice Ab e.path.length cb] 36 (0, 0)) := by rw [hw7]; exact blk_set h6 7 (.slice Ab e.path.length cb)
  have k7 : Keep (fun q => q = rb) w w7 := by rw [hw7]; exact (k6).set (p := ⟨rb, 7, none⟩) (.inr rfl) _
  exact ⟨h7, k7⟩
theorem eff_results {fn : Func} {k : Nat} (hr : fn.results = #[.cell k 36]) {tmps : Array Value} {w : World} {rb : Nat} {e : Ef} {Aa : Option Addr} {ca : Nat} {Ab : Option Addr} {cb : Nat} (t : tmps.getD k undef = .pointer (some ⟨rb, 0, none⟩)) (c : w.heap[rb]? = some (effObj e Aa ca Ab cb)) :
    (results fn tmps).run Try.prog w = .ok (efV e Aa ca Ab cb) w := by
  have q0 := blk_cell c 0
  have q1 := blk_cell c 1
  have q2 := blk_cell c 2
  have q3 := blk_cell c 3
  have q4 := blk_cell c 4
  have q5 := blk_cell c 5
  have q6 := blk_cell c 6
  have q7 := blk_cell c 7
  simp only [Array.getD_eq_getD_getElem?] at t
  simp [results, hr, go_sem, t, q0, q1, q2, q3, q4, q5, q6, q7, efV]
end Go.Proofs.Ytcciejcpijlkfaa.H

set_option linter.unusedVariables false
set_option linter.unusedSimpArgs false
namespace Go.Hay
open Go.RowKit
inductive Turns where
  | done
  | take (i : Nat) (t : Turns)
  | op (i : Nat) (t : Turns)
  | fin (i : Nat) (t : Turns)
  | alt (i j : Nat) (t u : Turns)
def Turns.many : Turns → Nat
  | .done => 0
  | .take _ t => t.many + 1
  | .op _ t => t.many + 1
  | .fin _ t => t.many + 1
  | .alt _ _ t _ => t.many + 1
/-- takes, one behind the other. -/
def Turns.takes : List Nat → Turns → Turns
  | [], t => t
  | i :: l, t => .take i (takes l t)
section
variable {P : Program} {md : Region.Mode} {ops : Array Oper} {Q : Exit → Act → World → Prop} {S : World → Prop} {F : List Nat}
def runT (P : Program) (ops : Array Oper) (Q : Exit → Act → World → Prop) (S : World → Prop) : Turns → Act → World → Prop
  | .done, a, w => Q .normal a w
  | .take i t, a, w => ∃ o v, ops[i]? = some o ∧ YieldsIf P ops S o v a ∧ S w ∧ runT P ops Q S t (a.put o.dst v) w
  | .op i t, a, w => wpOp P ops Q i (fun a' w' => S w' ∧ runT P ops Q S t a' w') a w
  | .fin i t, a, w => wpOp P ops Q i (fun a' w' => runT P ops Q S t a' w') a w
  | .alt i j t u, a, w => wpOp P ops Q i (fun a' w' => S w' ∧ runT P ops Q S t a' w') a w ∧ wpOp P ops Q j (fun a' w' => S w' ∧ runT P ops Q S u a' w') a w
def okT (md : Region.Mode) (ops : Array Oper) (F : List Nat) : Turns → Array Bool → Bool
  | .done, listed => (Region.ready md ops listed).isEmpty
  | .take i t, listed => (Region.ready md ops listed).contains i && Region.free md ops listed i && blocks md ops F i && !F.contains i && okT md ops F t (listed.setIfInBounds i true)
  | .op i t, listed => (Region.ready md ops listed == [i]) && okT md ops F t (listed.setIfInBounds i true)
  | .fin i t, listed => (Region.ready md ops listed == [i]) && F.contains i && okT md ops F t (listed.setIfInBounds i true)
  | .alt i j t u, listed => (Region.ready md ops listed == [i, j]) && t.many == u.many && okT md ops F t (listed.setIfInBounds i true) && okT md ops F u (listed.setIfInBounds j true)
theorem wpAnyF_T (hs : Region.noSelect ops = true) (hQ : ∀ o ∈ ops.toList, ∀ c a v w, Q (.panic c) (a.put o.dst v) w → Q (.panic c) a w) :
    ∀ (t : Turns) (listed : Array Bool) (a : Act) (w : World), Closed md ops listed → okT md ops F t listed = true → runT P ops Q S t a w → wpAnyF P md ops Q S F t.many listed a w
  | .done, listed, a, w, _, hk, h => ⟨by simpa [okT] using hk, h⟩
  | .take i t, listed, a, w, inv, hk, h => by
    simp only [okT, Bool.and_eq_true, Bool.not_eq_true'] at hk
    obtain ⟨o, v, ho, hy, hS, hr⟩ := h
    have hi : i ∈ Region.ready md ops listed := by simpa using hk.1.1.1.1
    exact wpAnyF_first ho (Region.noSelect_spec hs) (fun c a w => hQ o (Array.mem_toList_iff.2 (Array.mem_of_getElem? ho)) c a v w) hk.1.1.2 t.many listed a w inv hk.1.2
      (Region.free_spec ho hk.1.1.1.2) hi hy hS (wpAnyF_T hs hQ t _ _ _ (inv.set hi) hk.2 hr)
  | .op i t, listed, a, w, inv, hk, h => by
    simp only [okT, Bool.and_eq_true, beq_iff_eq] at hk
    have hi : i ∈ Region.ready md ops listed := by rw [hk.1]; simp
    exact wpAnyF_one hk.1 (wpOp_mono (fun a' w' h' => ⟨h'.1, wpAnyF_T hs hQ t _ _ _ (inv.set hi) hk.2 h'.2⟩) h)
  | .fin i t, listed, a, w, inv, hk, h => by
    simp only [okT, Bool.and_eq_true, beq_iff_eq] at hk
    refine ⟨fun h0 => (by rw [hk.1.1] at h0; cases h0), fun j hj => ?_⟩
    have hji : j = i := by rw [hk.1.1] at hj; simpa using hj
    subst hji
    exact wpOp_mono (fun a' w' h' => ⟨fun hc => (by rw [hk.1.2] at hc; cases hc), wpAnyF_T hs hQ t _ _ _ (inv.set hj) hk.2 h'⟩) h
  | .alt i j t u, listed, a, w, inv, hk, h => by
    simp only [okT, Bool.and_eq_true, beq_iff_eq] at hk
    obtain ⟨⟨⟨h1, h2⟩, h3⟩, h4⟩ := hk
    have hi : i ∈ Region.ready md ops listed := by rw [h1]; simp
    have hj : j ∈ Region.ready md ops listed := by rw [h1]; simp
    refine ⟨fun h0 => (by rw [h1] at h0; cases h0), fun k hk => ?_⟩
    have hk2 : k = i ∨ k = j := by rw [h1] at hk; simpa using hk
    rcases hk2 with rfl | rfl
    · exact wpOp_mono (fun a' w' h' => ⟨fun _ => h'.1, wpAnyF_T hs hQ t _ _ _ (inv.set hi) h3 h'.2⟩) h.1
    · have := fun a' w' (h' : S w' ∧ runT P ops Q S u a' w') => wpAnyF_T hs hQ u _ a' w' (inv.set hj) h4 h'.2
      rw [← h2] at this
      exact wpOp_mono (fun a' w' h' => ⟨fun _ => h'.1, this a' w' h'⟩) h.2
theorem wp_region_T {id : Nat} {a : Act} {w : World} (S : World → Prop) (F : List Nat) (t : Turns) (hm : P.follows .mixedOrders = true) (hs : Region.noSelect ops = true) (hl : t.many = ops.size)
    (hk : okT .any ops F t (Array.replicate ops.size false) = true)
    (hQ : ∀ o ∈ ops.toList, ∀ c a v w, Q (.panic c) (a.put o.dst v) w → Q (.panic c) a w)
    (h : runT P ops Q S t a w.drew) : (Code.region id ops true).wp P Q a w :=
  wp_region_any hm (wpAny_of_F _ _ _ _ (hl ▸ wpAnyF_T hs hQ t _ _ _ Closed.start hk h))
theorem runT_done {a : Act} {w : World} (h : Q .normal a w) : runT P ops Q S .done a w := h
theorem runT_take {i : Nat} {o : Oper} {v : Value} {t : Turns} {a : Act} {w : World} (ho' : ops.toList[i]? = some o) (hw : Region.wanted o (yielded ops a.tmps) = true)
    (hy : ∀ w', S w' → (execOp a.eval o).run P w' = .ok (.value v) w') (hS : S w) (h : runT P ops Q S t (a.put o.dst v) w) : runT P ops Q S (.take i t) a w :=
  ⟨o, v, by simpa using ho', .inl ⟨hw, hy⟩, hS, h⟩
theorem runT_skip {i : Nat} {o : Oper} {t : Turns} {a : Act} {w : World} (ho' : ops.toList[i]? = some o) (hw : Region.wanted o (yielded ops a.tmps) = false)
    (hS : S w) (h : runT P ops Q S t (a.put o.dst undef) w) : runT P ops Q S (.take i t) a w :=
  ⟨o, undef, by simpa using ho', .inr ⟨hw, rfl⟩, hS, h⟩
theorem runT_op {i : Nat} {o : Oper} {t : Turns} {a : Act} {w : World} (ho' : ops.toList[i]? = some o) (hw : Region.wanted o (yielded ops a.tmps) = true)
    (h : ∀ K : Act → World → Prop, (∀ a' w', S w' → runT P ops Q S t a' w' → K a' w') → o.wp P a w K Q) : runT P ops Q S (.op i t) a w :=
  wpOp_at (R := fun a' w' => S w' ∧ runT P ops Q S t a' w') ho' hw fun K hK => h K fun a' w' hS hr => hK a' w' ⟨hS, hr⟩
theorem runT_fin {i : Nat} {o : Oper} {t : Turns} {a : Act} {w : World} (ho' : ops.toList[i]? = some o) (hw : Region.wanted o (yielded ops a.tmps) = true)
    (h : ∀ K : Act → World → Prop, (∀ a' w', runT P ops Q S t a' w' → K a' w') → o.wp P a w K Q) : runT P ops Q S (.fin i t) a w :=
  wpOp_at (R := fun a' w' => runT P ops Q S t a' w') ho' hw h
end
end Go.Hay

