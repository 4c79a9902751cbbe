/- A region that draws its order, walked in one order, where two operations (two rooms that are made) may come in either order. No conditions of a program. -/
import Derived.Test.YtiplpkjjplicjaaBase
set_option linter.unusedVariables false
set_option linter.unusedSimpArgs false
namespace Go.Hay
open Go.RowKit
inductive Turn2 where
  | take (i : Nat)
  | op (i : Nat)
  | fin (i : Nat)
  | pair (i j : Nat)
def Turn2.many : Turn2 → Nat
  | .pair _ _ => 2
  | _ => 1
def many2 : List Turn2 → Nat
  | [] => 0
  | t :: r => many2 r + t.many
section
variable {P : Program} {md : Region.Mode} {ops : Array Oper} {Q : Exit → Act → World → Prop} {S : World → Prop} {F : List Nat}
def runSeq2 (P : Program) (ops : Array Oper) (Q : Exit → Act → World → Prop) (S : World → Prop) : List Turn2 → Act → World → Prop
  | [], a, w => Q .normal a w
  | .take i :: r, a, w => ∃ o v, ops[i]? = some o ∧ YieldsIf P ops S o v a ∧ S w ∧ runSeq2 P ops Q S r (a.put o.dst v) w
  | .op i :: r, a, w => wpOp P ops Q i (fun a' w' => S w' ∧ runSeq2 P ops Q S r a' w') a w
  | .fin i :: r, a, w => wpOp P ops Q i (fun a' w' => runSeq2 P ops Q S r a' w') a w
  | .pair i j :: r, a, w => wpOp P ops Q i (fun a' w' => S w' ∧ wpOp P ops Q j (fun a' w' => S w' ∧ runSeq2 P ops Q S r a' w') a' w') a w ∧
      wpOp P ops Q j (fun a' w' => S w' ∧ wpOp P ops Q i (fun a' w' => S w' ∧ runSeq2 P ops Q S r a' w') a' w') a w
def okSeq2 (md : Region.Mode) (ops : Array Oper) (F : List Nat) : List Turn2 → Array Bool → Bool
  | [], listed => (Region.ready md ops listed).isEmpty
  | .take i :: r, listed => (Region.ready md ops listed).contains i && Region.free md ops listed i && blocks md ops F i && !F.contains i && okSeq2 md ops F r (listed.setIfInBounds i true)
  | .op i :: r, listed => (Region.ready md ops listed == [i]) && okSeq2 md ops F r (listed.setIfInBounds i true)
  | .fin i :: r, listed => (Region.ready md ops listed == [i]) && F.contains i && okSeq2 md ops F r (listed.setIfInBounds i true)
  | .pair i j :: r, listed => (Region.ready md ops listed == [i, j]) && i != j && (Region.ready md ops (listed.setIfInBounds i true) == [j]) && (Region.ready md ops (listed.setIfInBounds j true) == [i]) &&
      okSeq2 md ops F r ((listed.setIfInBounds i true).setIfInBounds j true)
theorem wpAnyF_one {i : Nat} {fuel : Nat} {listed : Array Bool} {a : Act} {w : World} (hr : Region.ready md ops listed = [i])
    (h : wpOp P ops Q i (fun a' w' => S w' ∧ wpAnyF P md ops Q S F fuel (listed.setIfInBounds i true) a' w') a w) : wpAnyF P md ops Q S F (fuel + 1) listed a w := by
  refine ⟨fun h0 => (by rw [hr] at h0; cases h0), fun k hk => ?_⟩
  have hki : k = i := by rw [hr] at hk; simpa using hk
  subst hki
  exact wpOp_mono (fun a' w' h' => ⟨fun _ => h'.1, h'.2⟩) h
theorem wpAnyF_seq2 (hs : Region.noSelect ops = true) (hQ : ∀ o ∈ ops.toList, ∀ c a v w, Q (.panic c) (a.put o.dst v) w → Q (.panic c) a w) :
    ∀ (l : List Turn2) (listed : Array Bool) (a : Act) (w : World), Closed md ops listed → okSeq2 md ops F l listed = true → runSeq2 P ops Q S l a w → wpAnyF P md ops Q S F (many2 l) listed a w
  | [], listed, a, w, _, hk, h => ⟨by simpa [okSeq2] using hk, h⟩
  | .take i :: r, listed, a, w, inv, hk, h => by
    simp only [okSeq2, Bool.and_eq_true, Bool.not_eq_true'] at hk
    obtain ⟨o, v, ho, hy, hS, hr⟩ := h
    have hi : i ∈ Region.ready md ops listed := by simpa using hk.1.1.1.1
    exact wpAnyF_first ho (Region.noSelect_spec hs) (fun c a w => hQ o (Array.mem_toList_iff.2 (Array.mem_of_getElem? ho)) c a v w) hk.1.1.2 (many2 r) listed a w inv hk.1.2
      (Region.free_spec ho hk.1.1.1.2) hi hy hS (wpAnyF_seq2 hs hQ r _ _ _ (inv.set hi) hk.2 hr)
  | .op i :: r, listed, a, w, inv, hk, h => by
    simp only [okSeq2, Bool.and_eq_true, beq_iff_eq] at hk
    have hi : i ∈ Region.ready md ops listed := by rw [hk.1]; simp
    exact wpAnyF_one hk.1 (wpOp_mono (fun a' w' h' => ⟨h'.1, wpAnyF_seq2 hs hQ r _ _ _ (inv.set hi) hk.2 h'.2⟩) h)
  | .fin i :: r, listed, a, w, inv, hk, h => by
    simp only [okSeq2, Bool.and_eq_true, beq_iff_eq] at hk
    refine ⟨fun h0 => (by rw [hk.1.1] at h0; cases h0), fun j hj => ?_⟩
    have hji : j = i := by rw [hk.1.1] at hj; simpa using hj
    subst hji
    exact wpOp_mono (fun a' w' h' => ⟨fun hc => (by rw [hk.1.2] at hc; cases hc), wpAnyF_seq2 hs hQ r _ _ _ (inv.set hj) hk.2 h'⟩) h
  | .pair i j :: r, listed, a, w, inv, hk, h => by
    simp only [okSeq2, Bool.and_eq_true, beq_iff_eq, bne_iff_ne, ne_eq] at hk
    obtain ⟨⟨⟨⟨h1, hij⟩, h2⟩, h3⟩, h4⟩ := hk
    have hi : i ∈ Region.ready md ops listed := by rw [h1]; simp
    have hj : j ∈ Region.ready md ops listed := by rw [h1]; simp
    have hj2 : j ∈ Region.ready md ops (listed.setIfInBounds i true) := by rw [h2]; simp
    refine ⟨fun h0 => (by rw [h1] at h0; cases h0), fun k hk => ?_⟩
    have hk2 : k = i ∨ k = j := by rw [h1] at hk; simpa using hk
    rcases hk2 with rfl | rfl
    · exact wpOp_mono (fun a' w' h' => ⟨fun _ => h'.1, wpAnyF_one h2 (wpOp_mono (fun a' w' h' => ⟨h'.1, wpAnyF_seq2 hs hQ r _ _ _ ((inv.set hi).set hj2) h4 h'.2⟩) h'.2)⟩) h.1
    · refine wpOp_mono (fun a' w' h' => ⟨fun _ => h'.1, wpAnyF_one h3 (wpOp_mono (fun a' w' h' => ⟨h'.1, ?_⟩) h'.2)⟩) h.2
      rw [Array.setIfInBounds_comm _ _ (Ne.symm hij)]
      exact wpAnyF_seq2 hs hQ r _ _ _ ((inv.set hi).set hj2) h4 h'.2
theorem wp_region_seq2 {id : Nat} {a : Act} {w : World} (S : World → Prop) (F : List Nat) (l : List Turn2) (hm : P.follows .mixedOrders = true) (hs : Region.noSelect ops = true) (hl : many2 l = ops.size)
    (hk : okSeq2 .any ops F l (Array.replicate ops.size false) = true)
    (hQ : ∀ o ∈ ops.toList, ∀ c a v w, Q (.panic c) (a.put o.dst v) w → Q (.panic c) a w)
    (h : runSeq2 P ops Q S l a w.drew) : (Code.region id ops true).wp P Q a w :=
  wp_region_any hm (wpAny_of_F _ _ _ _ (hl ▸ wpAnyF_seq2 hs hQ l _ _ _ Closed.start hk h))
theorem runSeq2_nil {a : Act} {w : World} (h : Q .normal a w) : runSeq2 P ops Q S [] a w := h
theorem runSeq2_take {i : Nat} {o : Oper} {v : Value} {r : List Turn2} {a : Act} {w : World} (ho' : ops.toList[i]? = some o) (hw : Region.wanted o (yielded ops a.tmps) = true)
    (hy : ∀ w', S w' → (execOp a.eval o).run P w' = .ok (.value v) w') (hS : S w) (h : runSeq2 P ops Q S r (a.put o.dst v) w) : runSeq2 P ops Q S (.take i :: r) a w :=
  ⟨o, v, by simpa using ho', .inl ⟨hw, hy⟩, hS, h⟩
theorem runSeq2_skip {i : Nat} {o : Oper} {r : List Turn2} {a : Act} {w : World} (ho' : ops.toList[i]? = some o) (hw : Region.wanted o (yielded ops a.tmps) = false)
    (hS : S w) (h : runSeq2 P ops Q S r (a.put o.dst undef) w) : runSeq2 P ops Q S (.take i :: r) a w :=
  ⟨o, undef, by simpa using ho', .inr ⟨hw, rfl⟩, hS, h⟩
theorem wpOp_at {i : Nat} {o : Oper} {a : Act} {w : World} {R : Act → World → Prop} (ho' : ops.toList[i]? = some o) (hw : Region.wanted o (yielded ops a.tmps) = true)
    (h : ∀ K : Act → World → Prop, (∀ a' w', R a' w' → K a' w') → o.wp P a w K Q) : wpOp P ops Q i R a w := by
  have ho : ops[i]? = some o := by simpa using ho'
  unfold wpOp
  simp only [ho, hw, if_true]
  exact .inl (h _ fun a' w' hR => hR)
theorem runSeq2_op {i : Nat} {o : Oper} {r : List Turn2} {a : Act} {w : World} (ho' : ops.toList[i]? = some o) (hw : Region.wanted o (yielded ops a.tmps) = true)
    (h : ∀ K : Act → World → Prop, (∀ a' w', S w' → runSeq2 P ops Q S r a' w' → K a' w') → o.wp P a w K Q) : runSeq2 P ops Q S (.op i :: r) a w :=
  wpOp_at (R := fun a' w' => S w' ∧ runSeq2 P ops Q S r a' w') ho' hw fun K hK => h K fun a' w' hS hr => hK a' w' ⟨hS, hr⟩
theorem runSeq2_fin {i : Nat} {o : Oper} {r : List Turn2} {a : Act} {w : World} (ho' : ops.toList[i]? = some o) (hw : Region.wanted o (yielded ops a.tmps) = true)
    (h : ∀ K : Act → World → Prop, (∀ a' w', runSeq2 P ops Q S r a' w' → K a' w') → o.wp P a w K Q) : runSeq2 P ops Q S (.fin i :: r) a w :=
  wpOp_at (R := fun a' w' => runSeq2 P ops Q S r a' w') ho' hw h
/-- Two in either order: both come to M, and M is gone on with. -/
theorem runSeq2_pair {i j : Nat} {r : List Turn2} {a : Act} {w : World} (M : Act → World → Prop)
    (h1 : wpOp P ops Q i (fun a' w' => S w' ∧ wpOp P ops Q j (fun a' w' => S w' ∧ M a' w') a' w') a w)
    (h2 : wpOp P ops Q j (fun a' w' => S w' ∧ wpOp P ops Q i (fun a' w' => S w' ∧ M a' w') a' w') a w)
    (h : ∀ a' w', S w' → M a' w' → runSeq2 P ops Q S r a' w') : runSeq2 P ops Q S (.pair i j :: r) a w :=
  ⟨wpOp_mono (fun a' w' x => ⟨x.1, wpOp_mono (fun a' w' y => ⟨y.1, h _ _ y.1 y.2⟩) x.2⟩) h1, wpOp_mono (fun a' w' x => ⟨x.1, wpOp_mono (fun a' w' y => ⟨y.1, h _ _ y.1 y.2⟩) x.2⟩) h2⟩
theorem put_comm {a : Act} {i j : Nat} (h : i ≠ j) (x y : Value) : (a.put (some j) y).put (some i) x = (a.put (some i) x).put (some j) y := by
  simp only [Act.put]
  rw [Array.setIfInBounds_comm _ _ (Ne.symm h)]
theorem wanted_free {o : Oper} (hg : o.guard = none) (ys : Nat → Option Bool) : Region.wanted o ys = true := by simp [Region.wanted, hg]
/-- Two rooms are made, in either order: what is gone on with knows that they are new, and not the same. -/
theorem runSeq2_two {i j di dj : Nat} {oi oj : Oper} {Zi Zj : Obj} {r : List Turn2} {a : Act} {w : World} (hoi : ops.toList[i]? = some oi) (hoj : ops.toList[j]? = some oj) (hgi : oi.guard = none) (hgj : oj.guard = none)
    (hi : ∀ (a : Act) (w : World) (K : Act → World → Prop), K (a.put (some di) (.pointer (some ⟨w.heap.size, 0, none⟩))) (w.alloc Zi) → oi.wp P a w K Q)
    (hj : ∀ (a : Act) (w : World) (K : Act → World → Prop), K (a.put (some dj) (.pointer (some ⟨w.heap.size, 0, none⟩))) (w.alloc Zj) → oj.wp P a w K Q)
    (hd : di ≠ dj) (hS : ∀ w', S w' → ∀ o, S (w'.alloc o)) (hs : S w)
    (h : ∀ bi bj w', S w' → bi ≠ bj → w.heap.size ≤ bi → w.heap.size ≤ bj → w'.heap[bi]? = some Zi → w'.heap[bj]? = some Zj →
      runSeq2 P ops Q S r ((a.put (some di) (.pointer (some ⟨bi, 0, none⟩))).put (some dj) (.pointer (some ⟨bj, 0, none⟩))) w') : runSeq2 P ops Q S (.pair i j :: r) a w := by
  have hsz : ∀ (w : World) (o : Obj), (w.alloc o).heap.size = w.heap.size + 1 := fun w o => Array.size_push _
  have hnew : ∀ (w : World) (o : Obj), (w.alloc o).heap[w.heap.size]? = some o := fun w o => by show (w.heap.push o)[_]? = _; rw [Array.getElem?_push_size]
  have hold : ∀ (w : World) (o o' : Obj), ((w.alloc o).alloc o').heap[w.heap.size]? = some o := fun w o o' => by
    show ((w.heap.push o).push o')[_]? = _
    rw [Array.getElem?_push, if_neg (by simp), Array.getElem?_push_size]
  refine ⟨wpOp_at hoi (wanted_free hgi _) fun K hK => hi _ _ _ (hK _ _ ⟨hS _ hs _, wpOp_at hoj (wanted_free hgj _) fun K hK => hj _ _ _ (hK _ _ ⟨hS _ (hS _ hs _) _, ?_⟩)⟩),
    wpOp_at hoj (wanted_free hgj _) fun K hK => hj _ _ _ (hK _ _ ⟨hS _ hs _, wpOp_at hoi (wanted_free hgi _) fun K hK => hi _ _ _ (hK _ _ ⟨hS _ (hS _ hs _) _, ?_⟩)⟩)⟩
  · have := hsz w Zi
    exact h _ _ _ (hS _ (hS _ hs _) _) (by omega) (Nat.le_refl _) (by omega) (hold _ _ _) (hnew _ _)
  · have := hsz w Zj
    rw [put_comm hd]
    exact h _ _ _ (hS _ (hS _ hs _) _) (by omega) (by omega) (Nat.le_refl _) (hnew _ _) (hold _ _ _)
/-- Two in either order, each with a value: what is gone on with knows both. -/
theorem runSeq2_pairM {i j di dj : Nat} {r : List Turn2} {a : Act} {w : World} (N : Value → Value → World → Prop) (hd : di ≠ dj)
    (h1 : wpOp P ops Q i (fun a1 w1 => ∃ v, a1 = a.put (some di) v ∧ S w1 ∧ wpOp P ops Q j (fun a2 w2 => ∃ u, a2 = a1.put (some dj) u ∧ S w2 ∧ N v u w2) a1 w1) a w)
    (h2 : wpOp P ops Q j (fun a1 w1 => ∃ u, a1 = a.put (some dj) u ∧ S w1 ∧ wpOp P ops Q i (fun a2 w2 => ∃ v, a2 = a1.put (some di) v ∧ S w2 ∧ N v u w2) a1 w1) a w)
    (h : ∀ v u w', S w' → N v u w' → runSeq2 P ops Q S r ((a.put (some di) v).put (some dj) u) w') : runSeq2 P ops Q S (.pair i j :: r) a w := by
  refine ⟨wpOp_mono (fun a1 w1 x => ?_) h1, wpOp_mono (fun a1 w1 x => ?_) h2⟩
  · obtain ⟨v, rfl, hs, hx⟩ := x
    refine ⟨hs, wpOp_mono (fun a2 w2 y => ?_) hx⟩
    obtain ⟨u, rfl, hs2, hn⟩ := y
    exact ⟨hs2, h v u w2 hs2 hn⟩
  · obtain ⟨u, rfl, hs, hx⟩ := x
    refine ⟨hs, wpOp_mono (fun a2 w2 y => ?_) hx⟩
    obtain ⟨v, rfl, hs2, hn⟩ := y
    rw [put_comm hd]
    exact ⟨hs2, h v u w2 hs2 hn⟩
end
end Go.Hay
