/- What the proof of FrameNew stands on, part 5: this session's own texts and the words that the kit's print lays, those that are used. -/
import Derived.Test.YtcciejcpijlkfaaZFrameNew4
import Derived.WalkKit
import Derived.KernelRfl
import Derived.WalkLawsBesides
import Derived.Defers
import Derived.Recover
import Derived.OrdersHeld
import Derived.StillTail
import Derived.Outline
import Derived.Deep.RegionHeld3
set_option linter.unusedVariables false
set_option linter.unusedSimpArgs false
namespace Go.Hay
open Go.RowKit

/-! ### a deferred closure that recovers -/
theorem wpS_body {P : Program} {fn : Func} {c : Code} {c₀ : Frame} {cs : List Frame} {R : Ending → FrameMode → World → Prop} {a : Act} {w : World} {u : FrameMode}
    (h : c.wp P (bodyPost P fn fun e w' => R e u w') a w) : c.wpS P (bodyPostS P fn c₀ cs R) a ({ c₀ with mode := u } :: cs) w := by
  refine wpS_of_wp (Code.wp_mono ?_ h)
  intro e a w' q
  cases e with
  | normal => obtain ⟨hd, v, hr, hR⟩ := q; exact ⟨hd, u, rfl, v, hr, hR⟩
  | ret => obtain ⟨hd, v, hr, hR⟩ := q; exact ⟨hd, u, rfl, v, hr, hR⟩
  | panic ch => obtain ⟨hd, hR⟩ := q; exact ⟨hd, u, rfl, hR⟩
  | outgrown => exact ⟨u, q⟩
  | exit id => exact q.elim
  | goto l => exact q.elim
theorem wpS_body_same {P : Program} {fn : Func} {c : Code} {c₀ : Frame} {cs : List Frame} {R : Ending → FrameMode → World → Prop} {a : Act} {w : World} {u : FrameMode} (hu : c₀.mode = u)
    (h : c.wp P (bodyPost P fn fun e w' => R e u w') a w) : c.wpS P (bodyPostS P fn c₀ cs R) a (c₀ :: cs) w := by
  have h2 := wpS_body (c₀ := c₀) (cs := cs) h
  subst hu
  exact h2

/-! ### a region that draws its order, walked in one order: what yields in every world that meets S is taken first (.take); the others come one by one (.op); behind those of the last kind (.fin) S is not asked: they wait for all that were taken -/
inductive Turn where
  | take (i : Nat)
  | op (i : Nat)
  | fin (i : Nat)
def Turn.at : Turn → Nat
  | .take i | .op i | .fin i => i
section
variable {P : Program} {md : Region.Mode} {ops : Array Oper} {Q : Exit → Act → World → Prop} {S : World → Prop} {F : List Nat}
def depsAt (md : Region.Mode) (ops : Array Oper) (k : Nat) : List Nat :=
  match ops[k]? with
  | some o => (o.after.toList.filter (Region.binds md)).map (·.on)
  | none => []
/-- Those that wait for i, one behind the other. -/
def upset (md : Region.Mode) (ops : Array Oper) (i : Nat) : List Nat :=
  (List.range ops.size).foldl (fun acc k => if (depsAt md ops k).any acc.contains then k :: acc else acc) [i]
structure Closed (md : Region.Mode) (ops : Array Oper) (listed : Array Bool) : Prop where
  size : listed.size = ops.size
  closed : ∀ j oj, ops[j]? = some oj → listed.getD j false = true → ∀ e ∈ oj.after, Region.binds md e = true → listed.getD e.on false = true
theorem Closed.set {i : Nat} {listed : Array Bool} (inv : Closed md ops listed) (hi : i ∈ Region.ready md ops listed) : Closed md ops (listed.setIfInBounds i true) := by
  obtain ⟨_, oi, hoi, hall⟩ := mem_ready.1 hi
  refine ⟨by simp [inv.size], fun j oj hj hl e he hb => ?_⟩
  by_cases hij : i = j
  · subst hij
    have : oj = oi := Option.some.inj (hj.symm.trans hoi)
    subst this
    exact getD_set_true (hall e he hb)
  · rw [getD_set_ne false hij] at hl
    exact getD_set_true (inv.closed j oj hj hl e he hb)
theorem Closed.start : Closed md ops (Array.replicate ops.size false) :=
  ⟨by simp, fun j oj hj hl => by rw [getD_replicate_false] at hl; cases hl⟩
theorem Closed.dep {listed : Array Bool} (inv : Closed md ops listed) {k d : Nat} (hk : listed.getD k false = true) (hd : d ∈ depsAt md ops k) : listed.getD d false = true := by
  unfold depsAt at hd
  split at hd
  · rename_i o ho
    simp only [List.mem_map, List.mem_filter] at hd
    obtain ⟨e, ⟨he, hb⟩, rfl⟩ := hd
    exact inv.closed k o ho hk e (Array.mem_toList_iff.1 he) hb
  · cases hd
theorem Closed.ready_dep {listed : Array Bool} {k d : Nat} (hk : k ∈ Region.ready md ops listed) (hd : d ∈ depsAt md ops k) : listed.getD d false = true := by
  obtain ⟨_, ok, hok, hall⟩ := mem_ready.1 hk
  unfold depsAt at hd
  rw [hok] at hd
  simp only [List.mem_map, List.mem_filter] at hd
  obtain ⟨e, ⟨he, hb⟩, rfl⟩ := hd
  exact hall e (Array.mem_toList_iff.1 he) hb
theorem upset_unlisted {listed : Array Bool} (inv : Closed md ops listed) {i : Nat} (hi : listed.getD i false = false) : ∀ k ∈ upset md ops i, listed.getD k false = false := by
  unfold upset
  generalize List.range ops.size = l
  have key : ∀ (l acc : List Nat), (∀ k ∈ acc, listed.getD k false = false) → ∀ k ∈ l.foldl (fun acc k => if (depsAt md ops k).any acc.contains then k :: acc else acc) acc, listed.getD k false = false := by
    intro l
    induction l with
    | nil => intro acc h; simpa using h
    | cons x l ih =>
      intro acc h
      rw [List.foldl_cons]
      apply ih
      split
      · rename_i hany
        intro k hk
        rcases List.mem_cons.1 hk with rfl | hk
        · obtain ⟨d, hd, hc⟩ := List.any_eq_true.1 hany
          have hd0 := h d (by simpa using hc)
          cases hx : listed.getD k false with
          | false => rfl
          | true => rw [inv.dep hx hd] at hd0; cases hd0
        · exact h k hk
      · exact h
  exact key l [i] (by intro k hk; rw [List.mem_singleton.1 hk]; exact hi)
def wpAnyF (P : Program) (md : Region.Mode) (ops : Array Oper) (Q : Exit → Act → World → Prop) (S : World → Prop) (F : List Nat) : Nat → Array Bool → Act → World → Prop
  | 0, listed, a, w => Region.ready md ops listed = [] ∧ Q .normal a w
  | fuel + 1, listed, a, w =>
    (Region.ready md ops listed = [] → Q .normal a w) ∧
    ∀ i ∈ Region.ready md ops listed, wpOp P ops Q i (fun a' w' => (F.contains i = false → S w') ∧ wpAnyF P md ops Q S F fuel (listed.setIfInBounds i true) a' w') a w
theorem wpAny_of_F : ∀ (fuel : Nat) (listed : Array Bool) (a : Act) (w : World), wpAnyF P md ops Q S F fuel listed a w → wpAny P md ops Q fuel listed a w
  | 0, _, _, _, h => h
  | fuel + 1, _, _, _, h => ⟨h.1, fun i hi => wpOp_mono (fun a' w' h' => wpAny_of_F fuel _ a' w' h'.2) (h.2 i hi)⟩
/-- those of F wait for i. -/
def blocks (md : Region.Mode) (ops : Array Oper) (F : List Nat) (i : Nat) : Bool := let u := upset md ops i; F.all fun j => (depsAt md ops j).any u.contains
theorem not_last {listed : Array Bool} (inv : Closed md ops listed) {i j : Nat} (hb : blocks md ops F i = true) (hi : listed.getD i true = false) (hj : j ∈ Region.ready md ops listed) : F.contains j = false := by
  cases hF : F.contains j with
  | false => rfl
  | true =>
    have h1 := List.all_eq_true.1 hb j (by simpa using hF)
    obtain ⟨d, hd, hc⟩ := List.any_eq_true.1 h1
    have h2 := upset_unlisted inv (getD_both hi) d (by simpa using hc)
    rw [Closed.ready_dep hj hd] at h2; cases h2
theorem wpAnyF_first {i : Nat} {oi : Oper} {v : Value} (hi : ops[i]? = some oi) (hsel : ∀ (j : Nat) (o : Oper) cs b, ops[j]? = some o → o.op ≠ .select cs b)
    (hQ : ∀ c a w, Q (.panic c) (a.put oi.dst v) w → Q (.panic c) a w) (hb : blocks md ops F i = true) :
    ∀ (fuel : Nat) (listed : Array Bool) (a : Act) (w : World), Closed md ops listed → F.contains i = false →
      (∀ j oj, ops[j]? = some oj → j ≠ i → listed.getD j true = false → (∀ e ∈ oj.after, Region.binds md e = true → e.on ≠ i) → oi.apart ops oj = true) →
      i ∈ Region.ready md ops listed → YieldsIf P ops S oi v a → S w →
      wpAnyF P md ops Q S F fuel (listed.setIfInBounds i true) (a.put oi.dst v) w → wpAnyF P md ops Q S F (fuel + 1) listed a w := by
  intro fuel
  induction fuel with
  | zero =>
    intro listed a w _ _ _ hr hy hS H
    refine ⟨fun h => (by rw [h] at hr; cases hr), fun j hj => ?_⟩
    by_cases hji : j = i
    · subst hji; exact hy.wpOp hi hS ⟨fun _ => hS, H⟩
    · have := ready_mono hj hji
      rw [H.1] at this
      cases this
  | succ fuel ih =>
    intro listed a w inv hFi hfree hr hy hS H
    refine ⟨fun h => (by rw [h] at hr; cases hr), fun j hj => ?_⟩
    by_cases hji : j = i
    · subst hji; exact hy.wpOp hi hS ⟨fun _ => hS, H⟩
    · have h1 := H.2 j (ready_mono hj hji)
      obtain ⟨hjun, oj, hoj, hall⟩ := mem_ready.1 hj
      have hiun := (mem_ready.1 hr).1
      have hnF := not_last inv hb hiun hj
      have hnot : ∀ e ∈ oj.after, Region.binds md e = true → e.on ≠ i := fun e he hb heq => by
        have h1 := hall e he hb
        rw [heq] at h1
        have h0 := getD_both hiun
        rw [h1] at h0; cases h0
      have h2 := wpOp_putIf hoj (hfree j oj hoj hji hjun hnot) (fun cs b => hsel i oi cs b hi) (fun cs b => hsel j oj cs b hoj) hQ hy h1
      have hfree' : ∀ k ok, ops[k]? = some ok → k ≠ i → (listed.setIfInBounds j true).getD k true = false →
          (∀ e ∈ ok.after, Region.binds md e = true → e.on ≠ i) → oi.apart ops ok = true := fun k ok hk hki hun hno => by
        refine hfree k ok hk hki ?_ hno
        by_cases hjk : j = k
        · subst hjk; exact hjun
        · rw [getD_set_ne true hjk] at hun; exact hun
      refine wpOp_mono (fun a' w' h3 => ⟨fun _ => h3.2.1 hnF, ih (listed.setIfInBounds j true) a' w' (inv.set hj) hFi hfree' (ready_mono hr (Ne.symm hji)) h3.1 (h3.2.1 hnF) ?_⟩) h2
      rw [Array.setIfInBounds_comm _ _ hji]
      exact h3.2.2
def runSeq (P : Program) (ops : Array Oper) (Q : Exit → Act → World → Prop) (S : World → Prop) : List Turn → Act → World → Prop
  | [], a, w => Q .normal a w
  | .take i :: r, a, w => ∃ o v, ops[i]? = some o ∧ YieldsIf P ops S o v a ∧ S w ∧ runSeq P ops Q S r (a.put o.dst v) w
  | .op i :: r, a, w => wpOp P ops Q i (fun a' w' => S w' ∧ runSeq P ops Q S r a' w') a w
  | .fin i :: r, a, w => wpOp P ops Q i (fun a' w' => runSeq P ops Q S r a' w') a w
def okSeq (md : Region.Mode) (ops : Array Oper) (F : List Nat) : List Turn → Array Bool → Bool
  | [], listed => (Region.ready md ops listed).isEmpty
  | .take i :: r, listed => (Region.ready md ops listed).contains i && Region.free md ops listed i && blocks md ops F i && !F.contains i && okSeq md ops F r (listed.setIfInBounds i true)
  | .op i :: r, listed => (Region.ready md ops listed == [i]) && okSeq md ops F r (listed.setIfInBounds i true)
  | .fin i :: r, listed => (Region.ready md ops listed == [i]) && F.contains i && okSeq md ops F r (listed.setIfInBounds i true)
theorem wpAnyF_seq (hs : Region.noSelect ops = true) (hQ : ∀ o ∈ ops.toList, ∀ c a v w, Q (.panic c) (a.put o.dst v) w → Q (.panic c) a w) :
    ∀ (l : List Turn) (listed : Array Bool) (a : Act) (w : World), Closed md ops listed → okSeq md ops F l listed = true → runSeq P ops Q S l a w → wpAnyF P md ops Q S F l.length listed a w
  | [], listed, a, w, _, hk, h => ⟨by simpa [okSeq] using hk, h⟩
  | .take i :: r, listed, a, w, inv, hk, h => by
    simp only [okSeq, Bool.and_eq_true, Bool.not_eq_true'] at hk
    obtain ⟨o, v, ho, hy, hS, hr⟩ := h
    have hi : i ∈ Region.ready md ops listed := by simpa using hk.1.1.1.1
    exact wpAnyF_first ho (Region.noSelect_spec hs) (fun c a w => hQ o (Array.mem_toList_iff.2 (Array.mem_of_getElem? ho)) c a v w) hk.1.1.2 r.length listed a w inv hk.1.2
      (Region.free_spec ho hk.1.1.1.2) hi hy hS (wpAnyF_seq hs hQ r _ _ _ (inv.set hi) hk.2 hr)
  | .op i :: r, listed, a, w, inv, hk, h => by
    simp only [okSeq, Bool.and_eq_true, beq_iff_eq] at hk
    refine ⟨fun h0 => (by rw [hk.1] at h0; cases h0), fun j hj => ?_⟩
    have hji : j = i := by rw [hk.1] at hj; simpa using hj
    subst hji
    exact wpOp_mono (fun a' w' h' => ⟨fun _ => h'.1, wpAnyF_seq hs hQ r _ _ _ (inv.set hj) hk.2 h'.2⟩) h
  | .fin i :: r, listed, a, w, inv, hk, h => by
    simp only [okSeq, Bool.and_eq_true, beq_iff_eq] at hk
    refine ⟨fun h0 => (by rw [hk.1.1] at h0; cases h0), fun j hj => ?_⟩
    have hji : j = i := by rw [hk.1.1] at hj; simpa using hj
    subst hji
    exact wpOp_mono (fun a' w' h' => ⟨fun hc => (by rw [hk.1.2] at hc; cases hc), wpAnyF_seq hs hQ r _ _ _ (inv.set hj) hk.2 h'⟩) h
theorem wp_region_seq {id : Nat} {a : Act} {w : World} (S : World → Prop) (F : List Nat) (l : List Turn) (hm : P.follows .mixedOrders = true) (hs : Region.noSelect ops = true) (hl : l.length = ops.size)
    (hk : okSeq .any ops F l (Array.replicate ops.size false) = true)
    (hQ : ∀ o ∈ ops.toList, ∀ c a v w, Q (.panic c) (a.put o.dst v) w → Q (.panic c) a w)
    (h : runSeq P ops Q S l a w.drew) : (Code.region id ops true).wp P Q a w :=
  wp_region_any hm (wpAny_of_F _ _ _ _ (hl ▸ wpAnyF_seq hs hQ l _ _ _ Closed.start hk h))
theorem runSeq_nil {a : Act} {w : World} (h : Q .normal a w) : runSeq P ops Q S [] a w := h
theorem runSeq_take {i : Nat} {o : Oper} {v : Value} {r : List Turn} {a : Act} {w : World} (ho' : ops.toList[i]? = some o) (hw : Region.wanted o (yielded ops a.tmps) = true)
    (hy : ∀ w', S w' → (execOp a.eval o).run P w' = .ok (.value v) w') (hS : S w) (h : runSeq P ops Q S r (a.put o.dst v) w) : runSeq P ops Q S (.take i :: r) a w :=
  ⟨o, v, by simpa using ho', .inl ⟨hw, hy⟩, hS, h⟩
theorem runSeq_skip {i : Nat} {o : Oper} {r : List Turn} {a : Act} {w : World} (ho' : ops.toList[i]? = some o) (hw : Region.wanted o (yielded ops a.tmps) = false)
    (hS : S w) (h : runSeq P ops Q S r (a.put o.dst undef) w) : runSeq P ops Q S (.take i :: r) a w :=
  ⟨o, undef, by simpa using ho', .inr ⟨hw, rfl⟩, hS, h⟩
theorem runSeq_op {i : Nat} {o : Oper} {r : List Turn} {a : Act} {w : World} (ho' : ops.toList[i]? = some o) (hw : Region.wanted o (yielded ops a.tmps) = true)
    (h : ∀ K : Act → World → Prop, (∀ a' w', S w' → runSeq P ops Q S r a' w' → K a' w') → o.wp P a w K Q) : runSeq P ops Q S (.op i :: r) a w := by
  have ho : ops[i]? = some o := by simpa using ho'
  show wpOp _ _ _ _ _ _ _
  unfold wpOp
  simp only [ho, hw, if_true]
  exact .inl (h _ fun a' w' hS hr => ⟨hS, hr⟩)
theorem runSeq_fin {i : Nat} {o : Oper} {r : List Turn} {a : Act} {w : World} (ho' : ops.toList[i]? = some o) (hw : Region.wanted o (yielded ops a.tmps) = true)
    (h : ∀ K : Act → World → Prop, (∀ a' w', runSeq P ops Q S r a' w' → K a' w') → o.wp P a w K Q) : runSeq P ops Q S (.fin i :: r) a w := by
  have ho : ops[i]? = some o := by simpa using ho'
  show wpOp _ _ _ _ _ _ _
  unfold wpOp
  simp only [ho, hw, if_true]
  exact .inl (h _ fun a' w' hr => hr)
end
/-! ### what the region's post asks of a frame at a panic -/
theorem put_getD {a : Act} {d : Option Tmp} {v : Value} {t : Nat} (h : d ≠ some t) : (a.put d v).tmps.getD t undef = a.tmps.getD t undef := by
  cases d with
  | none => rfl
  | some k =>
    have hk : k ≠ t := fun e => h (by rw [e])
    simp [Act.put, Array.getD_eq_getD_getElem?, Array.getElem?_setIfInBounds_ne hk]
theorem panic_put {P : Program} {fn : Func} {R : Ending → World → Prop} {ops : Array Oper} :
    ∀ o ∈ ops.toList, ∀ c a v w, bodyPost P fn R (.panic c) (a.put o.dst v) w → bodyPost P fn R (.panic c) a w := by
  intro o ho c a v w h
  have hd : (a.put o.dst v).defers = a.defers := by cases o.dst <;> rfl
  exact ⟨hd ▸ h.1, h.2⟩
end Go.Hay

set_option linter.unusedVariables false
set_option linter.unusedSimpArgs false
namespace Go.Hay
open Go.RowKit Go.Proofs.YtcciejcpijlkfaaW.PrintWords Go.Proofs.YtcciejcpijlkfaaW.PrintLast Go.Proofs.YtcciejcpijlkfaaW.PrintMore

theorem reads_cells {α : Type} {R : α → List Value → Prop} {size : Nat} {W : World} {b : Nat} {C : Array Value} {t : TypeId} {fr : Nat × Nat} {ps : List α} (h : W.heap[b]? = some (.cells C t fr)) (hr : Reps R size ps C.toList)
    (hm : ps.length ≤ 9223372036854775807) : ReadsRow R size W (some ⟨b, 0, none⟩) ps.length ps := by
  refine ⟨rfl, hm, fun _ => ⟨_, rfl, fun j p hj => ?_⟩⟩
  have hlt : j < ps.length := (List.getElem?_eq_some_iff.1 hj).1
  have hle : (j + 1) * size ≤ ps.length * size := Nat.mul_le_mul_right _ hlt
  rw [Nat.add_mul, Nat.one_mul] at hle
  refine ⟨_, ?_, hr.2 j p hj, fun i u hu => ?_⟩
  · have := hr.1
    simp only [List.length_take, List.length_drop]
    omega
  · rw [add_plain]
    have hi : i < size := by
      have := (List.getElem?_eq_some_iff.1 hu).1
      simp only [List.length_take] at this
      omega
    rw [cell_of_row W b _ C t fr h]
    rw [List.getElem?_take_of_lt hi, List.getElem?_drop] at hu
    simpa using hu

theorem alloc_blk (w : World) (o : Obj) : (w.alloc o).heap[w.heap.size]? = some o := by
  show (w.heap.push o)[_]? = _
  rw [Array.getElem?_push_size]

/-- A literal of numbers. -/
theorem reads_nums {W : World} {b : Nat} {t : TypeId} {fr : Nat × Nat} {k : IntKind} (ys : List Int) (h : W.heap[b]? = some (.cells (ys.map (Value.int k)).toArray t fr)) (hm : ys.length ≤ 9223372036854775807) :
    ReadsRow ((Kd.int k).K W) 1 W (some ⟨b, 0, none⟩) ys.length ys := by
  refine reads_cells h ⟨by simp, fun j p hj => ?_⟩ hm
  show _ = [Value.int k p]
  have hlt : j < ys.length := (List.getElem?_eq_some_iff.1 hj).1
  simp only [Nat.mul_one, ← List.map_drop, ← List.map_take]
  rw [List.drop_eq_getElem_cons hlt]
  have : ys[j] = p := by rw [List.getElem?_eq_getElem hlt] at hj; exact Option.some.inj hj
  simp [this]

/-- append(v, ys...) at the operation. -/
theorem wp_append_rows {P : Program} {o : Oper} {a : Act} {K : Act → World → Prop} {Q : Exit → Act → World → Prop} {α : Type} (d : Kd α) {Rr : α → List Value → Prop} {W : World} (base : Nat) (hgd : o.guard = none) (s x : Operand) (t e : TypeId) (z : Value) (bytes : Nat)
    (ho : o.op = .call { callee := .builtin .append, args := #[s, x], argTypes := #[t, t] })
    (ht : P.underlying t = some (.slice e)) (hinfo : (P.info? e).map (fun i => (i.zero, i.size, i.bytes)) = some (some z, d.sz, bytes)) (hz : z.cells.size = d.sz) (hs0 : 0 < d.sz) (hb0 : 0 < bytes)
    (v : Value) (xs ys : List α) (A : Option Addr) (m c : Nat) (ok okp : Nat → Prop) (hs : a.eval s = v) (hx : a.eval x = .slice A m c)
    (HO : d.R e W base ok v xs) (HR : ReadsRow Rr d.sz W A m ys) (hKM : ∀ x cs, Rr x cs → d.M W base okp x cs) (hokp : ∀ k, okp k → ok k ∧ some k ≠ v.ownBlock) (hfresh : ∀ k, W.heap.size ≤ k → ok k)
    (hbase : base ≤ W.heap.size) (hl : (xs.length + m) * bytes ≤ 140737488355328)
    (h : ∀ v1 w1, d.R e w1 base ok v1 (xs ++ ys) → Below base W w1 → W.grownBy w1 v.ownBlock → (v1.ownBlock = v.ownBlock ∨ ∃ b, v1.ownBlock = some b ∧ W.heap.size ≤ b) → K (a.put o.dst v1) w1) :
    o.wp P a W K Q := by
  have hw : Region.wanted o (yielded #[] a.tmps) = true := by simp [Region.wanted, hgd]
  have := Kd.R_append_rows_step (P := P) (ops := #[]) (Kc := K) (Q := Q) d (w0 := W) base hw s x t e z bytes ho ht hinfo hz hs0 hb0 v xs ys A m c ok okp hs hx HO HR hKM hokp hfresh (Below.refl _ _) hbase hl h
  rwa [if_pos hw] at this
/-- append(v, literal of numbers...) at the operation. -/
theorem wp_append_nums {P : Program} {o : Oper} {a : Act} {K : Act → World → Prop} {Q : Exit → Act → World → Prop} (k : IntKind) {W : World} (base : Nat) (hgd : o.guard = none) (s x : Operand) (t e : TypeId) (bytes : Nat)
    (ho : o.op = .call { callee := .builtin .append, args := #[s, x], argTypes := #[t, t] })
    (ht : P.underlying t = some (.slice e)) (hinfo : (P.info? e).map (fun i => (i.zero, i.size, i.bytes)) = some (some (.int k 0), 1, bytes)) (hb0 : 0 < bytes)
    (v : Value) (xs ys : List Int) (A : Option Addr) (m c : Nat) (hs : a.eval s = v) (hx : a.eval x = .slice A m c)
    (HO : (Kd.int k).R e W base (fun _ => True) v xs) (HR : ReadsRow ((Kd.int k).K W) 1 W A m ys)
    (hbase : base ≤ W.heap.size) (hl : (xs.length + m) * bytes ≤ 140737488355328)
    (h : ∀ v1 w1, (Kd.int k).R e w1 base (fun _ => True) v1 (xs ++ ys) → Below base W w1 → W.grownBy w1 v.ownBlock → (v1.ownBlock = v.ownBlock ∨ ∃ b, v1.ownBlock = some b ∧ W.heap.size ≤ b) → K (a.put o.dst v1) w1) :
    o.wp P a W K Q :=
  wp_append_rows (Kd.int k) base hgd s x t e (.int k 0) bytes ho ht hinfo rfl Nat.one_pos hb0 v xs ys A m c (fun _ => True) (fun _ => False) hs hx HO HR (fun x cs h => h) (fun _ h => h.elim) (fun _ _ => trivial) hbase hl h
/-! ### a frame: all that was there is as_ it was, but the blocks of S -/
structure Keep (S : Nat → Prop) (w w' : World) : Prop where
  os : w'.os = w.os
  tape : w'.tape = w.tape
  output : w'.output = w.output
  size : w.heap.size ≤ w'.heap.size
  block : ∀ k, k < w.heap.size → ¬ S k → w'.heap[k]? = w.heap[k]?
section
variable {S T : Nat → Prop} {w w1 w2 W : World}
theorem Keep.refl (S : Nat → Prop) (w : World) : Keep S w w := ⟨rfl, rfl, rfl, Nat.le_refl _, fun _ _ _ => rfl⟩
theorem Keep.trans (h : Keep S w w1) (k : Keep S w1 w2) : Keep S w w2 :=
  ⟨k.os.trans h.os, k.tape.trans h.tape, k.output.trans h.output, Nat.le_trans h.size k.size, fun i hi hS => (k.block i (Nat.lt_of_lt_of_le hi h.size) hS).trans (h.block i hi hS)⟩
theorem Keep.mono (h : Keep S w w1) (hST : ∀ k, k < w.heap.size → S k → T k) : Keep T w w1 := ⟨h.os, h.tape, h.output, h.size, fun k hk hT => h.block k hk (fun hS => hT (hST k hk hS))⟩
/-- what is written behind the first step's blocks does not matter. -/
theorem Keep.then (h : Keep S w w1) (k : Keep T w1 w2) (hT : ∀ i, i < w.heap.size → T i → S i) : Keep S w w2 :=
  ⟨k.os.trans h.os, k.tape.trans h.tape, k.output.trans h.output, Nat.le_trans h.size k.size, fun i hi hS => (k.block i (Nat.lt_of_lt_of_le hi h.size) (fun hTi => hS (hT i hi hTi))).trans (h.block i hi hS)⟩
theorem Keep.of_below (h : Below w.heap.size w w1) (S : Nat → Prop) : Keep S w w1 := ⟨h.os, h.tape, h.output, h.size, fun k hk _ => h.block k hk⟩
theorem Keep.below {B : Nat} (h : Keep S w w1) (hB : B ≤ w.heap.size) (hS : ∀ k, k < B → ¬ S k) : Below B w w1 := ⟨h.os, h.tape, h.output, h.size, fun k hk => h.block k (Nat.lt_of_lt_of_le hk hB) (hS k hk)⟩
theorem Keep.of_belowB {B : Nat} (h : Below B w w1) : Keep (fun k => B ≤ k) w w1 := ⟨h.os, h.tape, h.output, h.size, fun k hk hS => h.block k (Nat.lt_of_not_le hS)⟩
theorem Keep.grown {row : Option Nat} (h : w.grownBy w1 row) : Keep (fun k => some k = row) w w1 := ⟨h.os, h.tape, h.output, h.size, fun k hk hS => h.block k hk hS⟩
theorem Keep.alloc (h : Keep S w w1) (o : Obj) : Keep S w (w1.alloc o) := h.then (Keep.of_below (below_alloc (Below.refl _ _) o) (fun _ => False)) (fun _ _ h => h.elim)
theorem Keep.drew (h : Keep S w w1) : Keep S w w1.drew := h.then (Keep.of_below (below_drew (Below.refl _ _)) (fun _ => False)) (fun _ _ h => h.elim)
theorem Keep.drewN (h : Keep S w w1) (n : Nat) : Keep S w (w1.drewN n) := h.then (Keep.of_below (pw_below_drewN (Below.refl _ _) n) (fun _ => False)) (fun _ _ h => h.elim)
theorem Keep.set {p : Addr} (h : Keep S w w1) (hp : w.heap.size ≤ p.block ∨ S p.block) (v : Value) : Keep S w (w1.setCell p v) :=
  ⟨h.os, h.tape, h.output, by simpa [World.setCell] using h.size, fun k hk hS => (Below.heap_setCell w1 p v k (fun e => by subst e; exact hp.elim (fun hp => absurd hk (by omega)) (fun hp => hS hp))).trans (h.block k hk hS)⟩
theorem Keep.blk {g : Nat} {o : Obj} (h : Keep S w w1) (hb : w.heap[g]? = some o) (hg : ¬ S g) : w1.heap[g]? = some o := (h.block g (blk_lt hb) hg).trans hb
theorem Keep.cell {a : Addr} {v : Value} (h : Keep S w w1) (hc : w.cell? a = some v) (hg : ¬ S a.block) : w1.cell? a = some v := by
  rw [← hc]; exact World.cell?_of_block (w := w) (h.block a.block (World.block_lt_of_cell? w a hc) hg)
end
namespace Kd
section
variable {α : Type} {d : Go.Proofs.YtcciejcpijlkfaaW.PrintWords.Kd α} {e : Nat} {w w1 : World} {base : Nat} {ok : Nat → Prop} {v : Value} {xs : List α} {S : Nat → Prop}
end
end Kd
end Go.Hay

set_option linter.unusedVariables false
set_option linter.unusedSimpArgs false
namespace Go.Proofs.Ytcciejcpijlkfaa.H
open Go.RowKit Go.Hay Go.Proofs.YtcciejcpijlkfaaW.PrintWords Go.Proofs.YtcciejcpijlkfaaW.PrintLast Go.Proofs.YtcciejcpijlkfaaW.PrintMore
/-- a task. -/
structure Ts where
  regs : List Int
  hands : List (Bool × Int)
  wait : List (Int × Int)
  kids : Nat
  at_ : Int
def hd (T : Ts) (i : Int) : Bool × Int := T.hands.getD i.toNat (false, 0)
def lessV (a b : Int) : Int := if a < b then 1 else 0
def sameV (a b : Int) : Int := if a = b then 1 else 0
def newRegs (args : List Int) : List Int := args.take 8 ++ List.replicate (8 - args.length) 0
/-! ### a program that may run -/
/-- what an instruction's numbers may be. -/
structure IOk (l : List S68) (lc : Nat) (x : S65) : Prop where
  op : 1 ≤ x.f0 ∧ x.f0 ≤ 17
  a : x.f0 ≠ 9 → x.f0 ≠ 12 → x.f0 ≠ 13 → x.f0 ≠ 16 → 0 ≤ x.f1 ∧ x.f1 < 8
  a13 : x.f0 = 13 → 0 ≤ x.f1 ∧ x.f1 < 4
  b : (2 ≤ x.f0 ∧ x.f0 ≤ 8) ∨ x.f0 = 11 ∨ x.f0 = 13 → 0 ≤ x.f2 ∧ x.f2 < 8
  b14 : x.f0 = 14 → 0 ≤ x.f2 ∧ x.f2 < 4
  c : 3 ≤ x.f0 ∧ x.f0 ≤ 8 → 0 ≤ x.f3 ∧ x.f3 < 8
  cf : x.f0 = 11 ∨ x.f0 = 13 → 0 ≤ x.f3 ∧ x.f3 < l.length ∧ (rd_T68 l x.f3).f0 ≤ 8 - x.f2
  k : x.f0 = 9 ∨ x.f0 = 10 → 0 ≤ x.f4 ∧ x.f4 < lc
  kb : -2147483648 ≤ x.f4 ∧ x.f4 < 2147483648
structure POk (l : List S68) : Prop where
  len : 1 ≤ l.length ∧ l.length ≤ 16
  fn : ∀ f (h : f < l.length), (0 ≤ l[f].f0 ∧ l[f].f0 ≤ 4) ∧ (1 ≤ l[f].f1.length ∧ l[f].f1.length ≤ 64) ∧ (∀ k (hk : k < l[f].f1.length), IOk l l[f].f1.length l[f].f1[k]) ∧
    ((rd_T65 l[f].f1 ((l[f].f1.length : Int) - 1)).f0 = 9 ∨ (rd_T65 l[f].f1 ((l[f].f1.length : Int) - 1)).f0 = 16 ∨ (rd_T65 l[f].f1 ((l[f].f1.length : Int) - 1)).f0 = 17)
theorem fieldE_none {np lc : Nat} {n p : Int} (h : fieldE np lc n p = none) : (p = 1 → 0 ≤ n ∧ n < 8) ∧ (p = 2 → 0 ≤ n ∧ n < 4) ∧ (p = 3 → 0 ≤ n ∧ n < np) ∧ (p = 5 → 0 ≤ n ∧ n < lc) ∧ (p = 6 → 16 ≤ n ∧ n < 2147483648) ∧ (p = 4 → -2147483648 ≤ n ∧ n < 2147483648) := by
  unfold fieldE at h
  refine ⟨fun e => ?_, fun e => ?_, fun e => ?_, fun e => ?_, fun e => ?_, fun e => ?_⟩
  all_goals
    subst e
    simp [inB] at h
    omega
theorem instrE_ok {l : List S68} {lc : Nat} {x : S65} (hlc : lc ≤ 1000) (h : instrE lc l x = none) : IOk l lc x := by
  obtain ⟨a, b, c, k, is, hsh⟩ : ∃ a b c k is, shapeP x.f0 = (a, b, c, k, is) := ⟨_, _, _, _, _, rfl⟩
  rw [instrE_eq hsh] at h
  by_cases his : is = false
  · rw [if_pos his] at h; cases h
  rw [if_neg his] at h
  by_cases h1 : a = 0 ∧ x.f1 ≠ 0
  · rw [if_pos h1] at h; cases h
  by_cases h2 : b = 0 ∧ x.f2 ≠ 0
  · rw [if_neg h1, if_pos h2] at h; cases h
  by_cases h3 : c = 0 ∧ x.f3 ≠ 0
  · rw [if_neg h1, if_neg h2, if_pos h3] at h; cases h
  by_cases h4 : k = 0 ∧ x.f4 ≠ 0
  · rw [if_neg h1, if_neg h2, if_neg h3, if_pos h4] at h; cases h
  rw [if_neg h1, if_neg h2, if_neg h3, if_neg h4] at h
  simp only [Option.or_eq_none_iff] at h
  obtain ⟨ha, hb, hc, hk, har⟩ := h
  have fa := fieldE_none ha
  have fb := fieldE_none hb
  have fc := fieldE_none hc
  have fk := fieldE_none hk
  clear ha hb hc hk
  have hop : 1 ≤ x.f0 ∧ x.f0 ≤ 17 := by
    by_cases ho : 1 ≤ x.f0 ∧ x.f0 ≤ 17
    · exact ho
    · exfalso
      have : shapeP x.f0 = (0, 0, 0, 0, false) := by
        unfold shapeP
        repeat (first | rw [if_neg (by omega)])
      rw [this] at hsh; cases hsh; exact his rfl
  have hcases : x.f0 = 1 ∨ x.f0 = 2 ∨ x.f0 = 3 ∨ x.f0 = 4 ∨ x.f0 = 5 ∨ x.f0 = 6 ∨ x.f0 = 7 ∨ x.f0 = 8 ∨ x.f0 = 9 ∨ x.f0 = 10 ∨ x.f0 = 11 ∨ x.f0 = 12 ∨ x.f0 = 13 ∨ x.f0 = 14 ∨ x.f0 = 15 ∨ x.f0 = 16 ∨ x.f0 = 17 := by omega
  have hari : c = 3 → (rd_T68 l x.f3).f0 ≤ 8 - x.f2 := by
    intro e
    unfold arityE at har
    rw [if_pos e] at har
    split at har
    · assumption
    · cases har
  clear har his
  rcases hcases with e | e | e | e | e | e | e | e | e | e | e | e | e | e | e | e | e
  all_goals
    rw [e] at hsh
    simp [shapeP] at hsh
    obtain ⟨rfl, rfl, rfl, rfl, _⟩ := hsh
    simp at fa fb fc fk h1 h2 h3 h4 hari
    refine ⟨by omega, fun _ _ _ _ => ?_, fun _ => ?_, fun _ => ?_, fun _ => ?_, fun _ => ?_, fun _ => ?_, fun _ => ?_, ?_⟩
    all_goals first | omega | (refine ⟨?_, ?_, ?_⟩ <;> omega)
theorem instrsE_none {lc : Nat} {l : List S68} {xs : List S65} : ∀ {k : Nat}, instrsE lc l k xs = none → ∀ j (h : j < xs.length), instrE lc l xs[j] = none := by
  induction xs with
  | nil => intro k _ j h; simp at h
  | cons x r ih =>
    intro k h j hj
    simp only [instrsE] at h
    cases hx : instrE lc l x with
    | some e => rw [hx] at h; cases h
    | none =>
      rw [hx] at h
      cases j with
      | zero => exact hx
      | succ j => exact ih h j (by simpa using hj)
theorem funcE_ok {l : List S68} {g : S68} (h : funcE l g = none) : (0 ≤ g.f0 ∧ g.f0 ≤ 4) ∧ (1 ≤ g.f1.length ∧ g.f1.length ≤ 64) ∧ (∀ k (hk : k < g.f1.length), IOk l g.f1.length g.f1[k]) ∧
    ((rd_T65 g.f1 ((g.f1.length : Int) - 1)).f0 = 9 ∨ (rd_T65 g.f1 ((g.f1.length : Int) - 1)).f0 = 16 ∨ (rd_T65 g.f1 ((g.f1.length : Int) - 1)).f0 = 17) := by
  unfold funcE at h
  split at h
  · rename_i h1
    split at h
    · rename_i h2
      rw [Option.or_eq_none_iff] at h
      refine ⟨h1, h2, fun k hk => instrE_ok (by omega) (instrsE_none h.1 k hk), ?_⟩
      have h3 := h.2
      unfold lastE at h3
      simp only at h3
      split at h3
      · assumption
      · cases h3
    · cases h
  · cases h
theorem funcsE_none {l : List S68} {gs : List S68} : ∀ {f : Nat}, funcsE l f gs = none → ∀ j (h : j < gs.length), funcE l gs[j] = none := by
  induction gs with
  | nil => intro f _ j h; simp at h
  | cons g r ih =>
    intro f h j hj
    simp only [funcsE] at h
    cases hx : funcE l g with
    | some e => rw [hx] at h; cases h
    | none =>
      rw [hx] at h
      cases j with
      | zero => exact hx
      | succ j => exact ih h j (by simpa using hj)
theorem fieldE_code {np lc : Nat} {n p e : Int} (h : fieldE np lc n p = some e) : e ≠ 0 := by
  unfold fieldE at h
  repeat' split at h
  all_goals first | (cases h; done) | (injection h with h; omega)
theorem instrE_code {l : List S68} {lc : Nat} {x : S65} {e : Int} (h : instrE lc l x = some e) : e ≠ 0 := by
  obtain ⟨a, b, c, k, is, hsh⟩ : ∃ a b c k is, shapeP x.f0 = (a, b, c, k, is) := ⟨_, _, _, _, _, rfl⟩
  rw [instrE_eq hsh] at h
  repeat' split at h
  all_goals try (injection h with h; omega)
  cases ha : fieldE l.length lc x.f1 a with
  | some y => rw [ha] at h; injection h with h; rw [← h]; exact fieldE_code ha
  | none =>
    cases hb : fieldE l.length lc x.f2 b with
    | some y => rw [ha, hb] at h; injection h with h; rw [← h]; exact fieldE_code hb
    | none =>
      cases hc : fieldE l.length lc x.f3 c with
      | some y => rw [ha, hb, hc] at h; injection h with h; rw [← h]; exact fieldE_code hc
      | none =>
        cases hk : fieldE l.length lc x.f4 k with
        | some y => rw [ha, hb, hc, hk] at h; injection h with h; rw [← h]; exact fieldE_code hk
        | none =>
          rw [ha, hb, hc, hk] at h
          have h : arityE l x c = some e := h
          unfold arityE at h
          repeat' split at h
          all_goals first | (cases h; done) | (injection h with h; omega)
theorem instrsE_code {lc : Nat} {l : List S68} {xs : List S65} : ∀ {k : Nat} {e : Int × Int}, instrsE lc l k xs = some e → e.2 ≠ 0 := by
  induction xs with
  | nil => intro k e h; simp [instrsE] at h
  | cons x r ih =>
    intro k e h
    simp only [instrsE] at h
    cases hx : instrE lc l x with
    | some y => rw [hx] at h; injection h with h; rw [← h]; exact instrE_code hx
    | none => rw [hx] at h; exact ih h
theorem funcE_code {l : List S68} {g : S68} {e : Int × Int} (h : funcE l g = some e) : e.2 ≠ 0 := by
  unfold funcE at h
  split at h
  · split at h
    · cases hi : instrsE g.f1.length l 0 g.f1 with
      | some y => rw [hi] at h; injection h with h; rw [← h]; exact instrsE_code hi
      | none =>
        rw [hi] at h
        have h : lastE g = some e := h
        unfold lastE at h
        simp only at h
        split at h
        · cases h
        · injection h with h; rw [← h]; show (11 : Int) ≠ 0; decide
    · injection h with h; rw [← h]; decide
  · injection h with h; rw [← h]; decide
theorem funcsE_code {l : List S68} {gs : List S68} : ∀ {f : Nat} {e : Int × Int × Int}, funcsE l f gs = some e → e.2.2 ≠ 0 := by
  induction gs with
  | nil => intro f e h; simp [funcsE] at h
  | cons g r ih =>
    intro f e h
    simp only [funcsE] at h
    cases hx : funcE l g with
    | some y => rw [hx] at h; injection h with h; rw [← h]; exact funcE_code hx
    | none => rw [hx] at h; exact ih h
/-- what the check passes may run. -/
theorem check_ok {l : List S68} (h : (checkP l).2.2 = 0) : POk l := by
  unfold checkP at h
  split at h
  · rename_i hl
    cases hf : funcsE l 0 l with
    | some e => rw [hf] at h; exact absurd h (funcsE_code hf)
    | none => exact ⟨hl, fun f hfl => funcE_ok (funcsE_none hf f hfl)⟩
  · cases h
end Go.Proofs.Ytcciejcpijlkfaa.H

set_option linter.unusedVariables false
set_option linter.unusedSimpArgs false
namespace Go.Proofs.Ytcciejcpijlkfaa.H
open Go.RowKit Go.Hay Go.Proofs.YtcciejcpijlkfaaW.PrintWords Go.Proofs.YtcciejcpijlkfaaW.PrintLast Go.Proofs.YtcciejcpijlkfaaW.PrintMore
structure Fr where
  fn : Int
  at_ : Int
  steps : Int
  kids : Int
  path : List Int
  regs : List Int
  hands : List Int
structure Ef where
  kind : Int
  value : Int
  reg : Int
  fn : Int
  hand : Int
  why : Int
  args : List Int
  path : List Int
def efZ : Ef := ⟨0, 0, 0, 0, 0, 0, [], []⟩
def efGoes : Ef := ⟨1, 0, 0, 0, 0, 0, [], []⟩
def efFails (why : Int) : Ef := ⟨8, 0, 0, 0, 0, why, [], []⟩
def fR (F : Fr) (i : Int) : Int := F.regs.getD i.toNat 0
def fH (F : Fr) (i : Int) : Int := F.hands.getD i.toNat 0
def fSet (F : Fr) (i v : Int) : Fr := { F with regs := F.regs.set i.toNat v }
def reckonP (op a b : Int) : Option Int :=
  if op = 3 then some (wrap64 (a + b))
  else if op = 4 then some (wrap64 (a - b))
  else if op = 5 then some (wrap64 (a * b))
  else if op = 6 then (if b = 0 then none else some (wrap64 (a.tdiv b)))
  else if op = 7 then some (lessV a b)
  else some (sameV a b)
def argsF (l : List S68) (x : S65) (F : Fr) : List Int := (F.regs.drop x.f2.toNat).take (rd_T68 l x.f3).f0.toNat
/-- a task that is begun. -/
def beginF (l : List S68) (d : Int) (x : S65) (F : Fr) (kind reg hand : Int) : Ef × Fr :=
  if d ≤ (F.path.length : Int) then (efFails 4, F)
  else (⟨kind, 0, reg, x.f3, hand, 0, argsF l x F, F.path ++ [F.kids]⟩, { F with kids := wrap64 (F.kids + 1) })
/-- an instruction, behind the counting. -/
def doF (l : List S68) (d : Int) (x : S65) (F : Fr) : Ef × Fr :=
  if x.f0 = 1 then (efGoes, fSet F x.f1 x.f4)
  else if x.f0 = 2 then (efGoes, fSet F x.f1 (fR F x.f2))
  else if x.f0 ≤ 8 then (match reckonP x.f0 (fR F x.f2) (fR F x.f3) with | some n => (efGoes, fSet F x.f1 n) | none => (efFails 1, F))
  else if x.f0 = 9 then (efGoes, { F with at_ := x.f4 })
  else if x.f0 = 10 then (efGoes, if fR F x.f1 = 0 then { F with at_ := x.f4 } else F)
  else if x.f0 = 11 then beginF l d x F 3 x.f1 0
  else if x.f0 = 12 then (⟨5, 0, 0, 0, 0, 0, [], []⟩, F)
  else if x.f0 = 13 then beginF l d x F 4 0 x.f1
  else if x.f0 = 14 then (if fH F x.f2 = 0 then (efFails 2, F) else (⟨6, 0, x.f1, 0, fH F x.f2, 0, [], []⟩, F))
  else if x.f0 = 15 then (⟨2, fR F x.f1, 0, 0, 0, 0, [], []⟩, F)
  else if x.f0 = 16 then (efFails x.f4, F)
  else (⟨7, 0, x.f1, 0, 0, 0, [], []⟩, F)
/-- may a program run with such limits? -/
def frRight (l : List S68) (b d : Int) : Bool := decide ((checkP l).2.2 = 0 ∧ (1 ≤ b ∧ b ≤ 10000) ∧ (0 ≤ d ∧ d ≤ 30))
/-- is an instruction there? -/
def thereP (l : List S68) (F : Fr) : Bool := decide ((0 ≤ F.fn ∧ F.fn < l.length) ∧ 0 ≤ F.at_ ∧ F.at_ < (rd_T68 l F.fn).f1.length)
def instrF (l : List S68) (F : Fr) : S65 := rd_T65 (rd_T68 l F.fn).f1 F.at_
def stepF (F : Fr) : Fr := { F with steps := F.steps + 1, at_ := F.at_ + 1 }
/-- what Exec answers: the effect, the error, the frame. -/
def execP (l : List S68) (b d : Int) (F : Fr) : Ef × Int × Fr :=
  if frRight l b d = true then
    if thereP l F = true then
      if b ≤ F.steps then (efFails 3, 0, F) else ((doF l d (instrF l F) (stepF F)).1, 0, (doF l d (instrF l F) (stepF F)).2)
    else (efZ, 11, F)
  else (efZ, 1, F)
def newFr (fn : Int) (path args hands : List Int) : Fr := ⟨fn, 0, 0, 0, path, newRegs args, hands⟩
theorem newRegsF_len (args : List Int) : (newRegs args).length = 8 := by
  unfold newRegs
  rw [List.length_append, List.length_take, List.length_replicate]
  omega
theorem ite_ind {α : Type} {P : α → Prop} {c : Prop} [Decidable c] {a b : α} (ha : P a) (hb : P b) : P (if c then a else b) := by
  split
  · exact ha
  · exact hb
def SameP (F : Fr) (r : Ef × Fr) : Prop := r.2.path = F.path ∧ r.2.steps = F.steps
theorem SameP.of {F : Fr} {e : Ef} {F1 : Fr} (h1 : F1.path = F.path) (h2 : F1.steps = F.steps) : SameP F (e, F1) := ⟨h1, h2⟩
theorem doF_path (l : List S68) (d : Int) (x : S65) (F : Fr) : SameP F (doF l d x F) := by
  have hb : ∀ k r h, SameP F (beginF l d x F k r h) := fun k r h => by
    unfold beginF
    exact ite_ind (.of rfl rfl) (.of rfl rfl)
  have hr : SameP F (match reckonP x.f0 (fR F x.f2) (fR F x.f3) with | some n => (efGoes, fSet F x.f1 n) | none => (efFails 1, F)) := by
    cases reckonP x.f0 (fR F x.f2) (fR F x.f3) <;> exact .of rfl rfl
  have hz : SameP F (efGoes, if fR F x.f1 = 0 then { F with at_ := x.f4 } else F) := by
    by_cases h : fR F x.f1 = 0
    · rw [if_pos h]; exact .of rfl rfl
    · rw [if_neg h]; exact .of rfl rfl
  unfold doF
  exact ite_ind (.of rfl rfl) (ite_ind (.of rfl rfl) (ite_ind hr (ite_ind (.of rfl rfl) (ite_ind hz (ite_ind (hb _ _ _) (ite_ind (.of rfl rfl) (ite_ind (hb _ _ _) (ite_ind (ite_ind (.of rfl rfl) (.of rfl rfl)) (ite_ind (.of rfl rfl) (ite_ind (.of rfl rfl) (.of rfl rfl)))))))))))
theorem execP_path (l : List S68) (b d : Int) (F : Fr) : (execP l b d F).2.2.path = F.path ∧ F.steps ≤ (execP l b d F).2.2.steps := by
  unfold execP
  by_cases h1 : frRight l b d = true
  · rw [if_pos h1]
    by_cases h2 : thereP l F = true
    · rw [if_pos h2]
      by_cases h3 : b ≤ F.steps
      · rw [if_pos h3]; exact ⟨rfl, Int.le_refl _⟩
      · rw [if_neg h3]
        obtain ⟨e1, e2⟩ := doF_path l d (instrF l F) (stepF F)
        exact ⟨e1, by show F.steps ≤ (doF l d (instrF l F) (stepF F)).2.steps; rw [e2]; show F.steps ≤ F.steps + 1; omega⟩
    · rw [if_neg h2]; exact ⟨rfl, Int.le_refl _⟩
  · rw [if_neg h1]; exact ⟨rfl, Int.le_refl _⟩
end Go.Proofs.Ytcciejcpijlkfaa.H

