/- Rooms over rows: what an append yields and which blocks it owns. No conditions of a program. -/
import Derived.Test.YtnhipdniceoigaaBaseW
import Derived.Test.YtnhipdniceoigaaPair
set_option linter.unusedVariables false
set_option linter.unusedSimpArgs false
namespace Go.Hay
open Go.RowKit Go.Proofs.YtnhipdniceoigaaW.PrintWords Go.Proofs.YtnhipdniceoigaaW.PrintLast Go.Proofs.YtnhipdniceoigaaW.PrintMore
theorem alloc_size (w : World) (o : Obj) : (w.alloc o).heap.size = w.heap.size + 1 := Array.size_push _
theorem alloc_old (w : World) (o : Obj) {k : Nat} (h : k < w.heap.size) : (w.alloc o).heap[k]? = w.heap[k]? := by
  show (w.heap.push o)[k]? = _
  rw [Array.getElem?_push, if_neg (by omega)]
/-- Rows of numbers hang on their own block alone. -/
theorem nums_flat {k : IntKind} {e base : Nat} {w w1 : World} {ok ok' : Nat → Prop} {v : Value} {xs : List Int} (h : (Kd.int k).R e w base ok v xs) (ho : ∀ b, v.ownBlock = some b → ok' b) (hag : ∀ b, v.ownBlock = some b → w1.heap[b]? = w.heap[b]?) : (Kd.int k).R e w1 base ok' v xs := by
  obtain ⟨_, inner, ⟨h1, h2⟩, h3, h4⟩ := h
  refine ⟨ho, inner, ⟨h1, ?_⟩, h3, fun j p hj => h4 j p hj⟩
  rcases h2 with h2 | ⟨g, cap, cur, rfl, q2, q3, q4⟩
  · exact .inl h2
  · exact .inr ⟨g, cap, cur, rfl, q2, (hag g rfl).trans q3, q4⟩
theorem nums_own {k : IntKind} {e base : Nat} {w : World} {ok : Nat → Prop} {v : Value} {xs : List Int} (h : (Kd.int k).R e w base ok v xs) : ∀ b, v.ownBlock = some b → ok b ∧ base ≤ b ∧ b < w.heap.size :=
  fun b hb => ⟨h.1 b hb, Go.Proofs.YtnhipdniceoigaaW.PrintWords.Kd.R_base h b hb, Go.Proofs.YtnhipdniceoigaaW.PrintWords.Kd.R_lt h b hb⟩
theorem nums_empty (k : IntKind) (e : Nat) (w : World) (base : Nat) (hb : base ≤ w.heap.size) : (Kd.int k).R e (w.alloc (.cells #[] e)) base (fun b => b = w.heap.size) (.slice (some ⟨w.heap.size, 0, none⟩) 0 0) [] :=
  ⟨fun b hb => by cases hb; rfl, [], ⟨rfl, .inr ⟨w.heap.size, 0, #[], rfl, hb, alloc_blk _ _, Nat.le_refl _, by decide, rfl, rfl⟩⟩, Reps.none _ _⟩
theorem C_at {α : Type} {d : Go.Proofs.YtnhipdniceoigaaW.PrintWords.Kd α} (hd : ∀ {w w' : World} {x : α} {cs : List Value}, d.K w x cs → d.K w' x cs) {w w' : World} {A : Option Addr} {n : Nat} {xs : List α} (h : d.C w A n xs) (hk : ∀ ad, A = some ad → w'.heap[ad.block]? = w.heap[ad.block]?) : d.C w' A n xs := by
  refine ⟨h.1, h.2.1, fun hp => ?_⟩
  obtain ⟨ad, rfl, hx⟩ := h.2.2 hp
  refine ⟨ad, rfl, fun j p hj => ?_⟩
  obtain ⟨cs, h1, h2, h3⟩ := hx j p hj
  refine ⟨cs, h1, hd h2, fun i u hu => ?_⟩
  rw [← h3 i u hu]
  exact World.cell?_of_block (by rw [add_block]; exact hk ad rfl)
theorem room_append_nums {P : Program} {o : Oper} {a : Act} {K : Act → World → Prop} {Q : Exit → Act → World → Prop} (k : IntKind) {W : World} (base : Nat) (hgd : o.guard = none) (s x : Operand) (t e : TypeId) (bytes : Nat)
    (ho : o.op = .call { callee := .builtin .append, args := #[s, x], argTypes := #[t, t] })
    (ht : P.underlying t = some (.slice e)) (hinfo : (P.info? e).map (fun i => (i.zero, i.size, i.bytes)) = some (some (.int k 0), 1, bytes)) (hb0 : 0 < bytes)
    (v : Value) (xs ys : List Int) (A : Option Addr) (m c : Nat) (hs : a.eval s = v) (hx : a.eval x = .slice A m c) {B : Nat → Prop}
    (HO : (Kd.int k).R e W base B v xs) (HR : ReadsRow ((Kd.int k).K W) 1 W A m ys) (hbase : base ≤ W.heap.size) (hl : (xs.length + m) * bytes ≤ 140737488355328)
    (h : ∀ v1 w1 (B' : Nat → Prop), (Kd.int k).R e w1 base B' v1 (xs ++ ys) → Below base W w1 → W.heap.size ≤ w1.heap.size → (∀ b, B' b → b < w1.heap.size ∧ (W.heap.size ≤ b ∨ B b)) → (∀ b, b < W.heap.size → ¬ B b → w1.heap[b]? = W.heap[b]?) → K (a.put o.dst v1) w1) :
    o.wp P a W K Q := by
  refine wp_append_nums k base hgd s x t e bytes ho ht hinfo hb0 v xs ys A m c hs hx (nums_flat HO (fun _ _ => trivial) (fun _ _ => rfl)) HR hbase hl ?_
  intro v1 w1 hR hb hg hat
  refine h v1 w1 (fun b => v1.ownBlock = some b) (nums_flat hR (fun b hb => hb) (fun _ _ => rfl)) hb hg.size (fun b hb => ⟨(nums_own hR b hb).2.2, ?_⟩) (fun b hb hn => hg.block b hb (fun e => hn (HO.1 b e.symm)))
  rcases hat with h1 | ⟨b', h1, h2⟩
  · rw [h1] at hb; exact .inr (HO.1 b hb)
  · rw [h1] at hb; cases hb; exact .inl h2
section
variable {P : Program} {ops : Array Oper} {Q : Exit → Act → World → Prop} {S : World → Prop}
theorem Left.get {l : List Nat} {F : Nat → Value → (Nat → Prop) → World → Prop} {w0 w : World} {vals : Nat → Value} {B : Nat → Nat → Prop} (h : Left ops l F w0 vals B w) (i : Nat) (hb : (l.contains i && l.all fun j => !((depsAt .any ops j).contains i)) = true) :
    F i (vals i) (B i) w ∧ ∀ k, B i k → k < w.heap.size := by
  simp only [Bool.and_eq_true] at hb
  exact h.fact i (by simpa using hb.1) (fun j hj => by simpa using List.all_eq_true.1 hb.2 j hj)
theorem Left.ne {l : List Nat} {F : Nat → Value → (Nat → Prop) → World → Prop} {w0 w : World} {vals : Nat → Value} {B : Nat → Nat → Prop} (h : Left ops l F w0 vals B w) (i i' : Nat) (hb : (l.contains i && l.all fun j => !((depsAt .any ops j).contains i)) = true) (hb' : (l.contains i' && l.all fun j => !((depsAt .any ops j).contains i')) = true) (hne : i ≠ i') :
    ∀ k, B i k → ¬ B i' k := by
  simp only [Bool.and_eq_true] at hb hb'
  exact h.apart i i' (by simpa using hb.1) (by simpa using hb'.1) (fun j hj => by simpa using List.all_eq_true.1 hb.2 j hj) (fun j hj => by simpa using List.all_eq_true.1 hb'.2 j hj) hne
theorem runSeq2_putE {l : List Nat} {r : List Turn2} {vals : Nat → Value} {a : Act} {w : World} {i : Nat} {d : Option Tmp} (hd : dstOf ops i = d) (h : runSeq2 P ops Q S r (putE ops l (fun _ => true) vals (a.put d (vals i))) w) : runSeq2 P ops Q S r (putE ops (i :: l) (fun _ => true) vals a) w := by
  rw [putE, if_pos rfl, hd]; exact h
theorem runSeq2_putE_nil {r : List Turn2} {vals : Nat → Value} {a : Act} {w : World} (h : runSeq2 P ops Q S r a w) : runSeq2 P ops Q S r (putE ops [] (fun _ => true) vals a) w := h
end
end Go.Hay
