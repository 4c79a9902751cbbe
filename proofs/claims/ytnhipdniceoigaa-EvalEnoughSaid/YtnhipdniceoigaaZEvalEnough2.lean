/- What the proof of EvalEnough stands on, part 2: this session's own texts and the words that the kit's print lays, those that are used. -/
import Derived.Test.YtnhipdniceoigaaZEvalEnough1
import Derived.WalkKit
import Derived.KernelRfl
import Derived.WalkLawsBesides
import Derived.Defers
import Derived.Recover
import Derived.OrdersHeld
import Derived.StillTail
import Derived.Outline
import Derived.Deep.RegionHeld3
import Derived.BigQuiet
import Derived.Deep.QuietTactic
set_option linter.unusedVariables false
set_option linter.unusedSimpArgs false
namespace Go.Hay
open Go.RowKit

/-! ### a deferred closure that recovers -/
theorem wpS_body {P : Program} {fn : Func} {c : Code} {c₀ : Frame} {cs : List Frame} {R : Ending → FrameMode → World → Prop} {a : Act} {w : World} {u : FrameMode}
    (h : c.wp P (bodyPost P fn fun e w' => R e u w') a w) : c.wpS P (bodyPostS P fn c₀ cs R) a ({ c₀ with mode := u } :: cs) w := by
  refine wpS_of_wp (Code.wp_mono ?_ h)
  intro e a w' q
  cases e with
  | normal => obtain ⟨hd, v, hr, hR⟩ := q; exact ⟨hd, u, rfl, v, hr, hR⟩
  | ret => obtain ⟨hd, v, hr, hR⟩ := q; exact ⟨hd, u, rfl, v, hr, hR⟩
  | panic ch => obtain ⟨hd, hR⟩ := q; exact ⟨hd, u, rfl, hR⟩
  | outgrown => exact ⟨u, q⟩
  | exit id => exact q.elim
  | goto l => exact q.elim
theorem wpS_body_same {P : Program} {fn : Func} {c : Code} {c₀ : Frame} {cs : List Frame} {R : Ending → FrameMode → World → Prop} {a : Act} {w : World} {u : FrameMode} (hu : c₀.mode = u)
    (h : c.wp P (bodyPost P fn fun e w' => R e u w') a w) : c.wpS P (bodyPostS P fn c₀ cs R) a (c₀ :: cs) w := by
  have h2 := wpS_body (c₀ := c₀) (cs := cs) h
  subst hu
  exact h2

/-- What is left behind a panic hangs on the frame through the results alone. -/
theorem leaves_congr {P : Program} {fn : Func} {t t' : Array Value} {R : Ending → World → Prop} (hr : ∀ w, (results fn t).run P w = (results fn t').run P w) :
    ∀ (ds : List Deferred) (u : FrameMode) (w : World), Leaves P fn t R ds u w → Leaves P fn t' R ds u w
  | [], .returning, w, h => by obtain ⟨v, hv, hR⟩ := h; exact ⟨v, by rw [← hr]; exact hv, hR⟩
  | [], .panicking _, _, h => h
  | [], .run, _, h => h.elim
  | d :: ds, u, w, h => by
    obtain ⟨h1, fv, cap, f, args, h2, h3, h4⟩ := h
    refine ⟨h1, fv, cap, f, args, h2, h3, ?_⟩
    intro c cs hc
    obtain ⟨e, u', w', fr, hR, hrest⟩ := h4 c cs hc
    refine ⟨e, u', w', fr, ?_, hrest⟩
    cases e with
    | returned v => exact leaves_congr hr ds _ _ hR
    | panicked ch => exact leaves_congr hr ds _ _ hR
    | outgrown => exact hR

/-! ### a region that draws its order, walked in one order: what yields in every world that meets S is taken first (.take); the others come one by one (.op); behind those of the last kind (.fin) S is not asked: they wait for all that were taken -/
inductive Turn where
  | take (i : Nat)
  | op (i : Nat)
  | fin (i : Nat)
def Turn.at : Turn → Nat
  | .take i | .op i | .fin i => i
section
variable {P : Program} {md : Region.Mode} {ops : Array Oper} {Q : Exit → Act → World → Prop} {S : World → Prop} {F : List Nat}
def depsAt (md : Region.Mode) (ops : Array Oper) (k : Nat) : List Nat :=
  match ops[k]? with
  | some o => (o.after.toList.filter (Region.binds md)).map (·.on)
  | none => []
/-- Those that wait for i, one behind the other. -/
def upset (md : Region.Mode) (ops : Array Oper) (i : Nat) : List Nat :=
  (List.range ops.size).foldl (fun acc k => if (depsAt md ops k).any acc.contains then k :: acc else acc) [i]
structure Closed (md : Region.Mode) (ops : Array Oper) (listed : Array Bool) : Prop where
  size : listed.size = ops.size
  closed : ∀ j oj, ops[j]? = some oj → listed.getD j false = true → ∀ e ∈ oj.after, Region.binds md e = true → listed.getD e.on false = true
theorem Closed.set {i : Nat} {listed : Array Bool} (inv : Closed md ops listed) (hi : i ∈ Region.ready md ops listed) : Closed md ops (listed.setIfInBounds i true) := by
  obtain ⟨_, oi, hoi, hall⟩ := mem_ready.1 hi
  refine ⟨by simp [inv.size], fun j oj hj hl e he hb => ?_⟩
  by_cases hij : i = j
  · subst hij
    have : oj = oi := Option.some.inj (hj.symm.trans hoi)
    subst this
    exact getD_set_true (hall e he hb)
  · rw [getD_set_ne false hij] at hl
    exact getD_set_true (inv.closed j oj hj hl e he hb)
theorem Closed.start : Closed md ops (Array.replicate ops.size false) :=
  ⟨by simp, fun j oj hj hl => by rw [getD_replicate_false] at hl; cases hl⟩
theorem Closed.dep {listed : Array Bool} (inv : Closed md ops listed) {k d : Nat} (hk : listed.getD k false = true) (hd : d ∈ depsAt md ops k) : listed.getD d false = true := by
  unfold depsAt at hd
  split at hd
  · rename_i o ho
    simp only [List.mem_map, List.mem_filter] at hd
    obtain ⟨e, ⟨he, hb⟩, rfl⟩ := hd
    exact inv.closed k o ho hk e (Array.mem_toList_iff.1 he) hb
  · cases hd
theorem Closed.ready_dep {listed : Array Bool} {k d : Nat} (hk : k ∈ Region.ready md ops listed) (hd : d ∈ depsAt md ops k) : listed.getD d false = true := by
  obtain ⟨_, ok, hok, hall⟩ := mem_ready.1 hk
  unfold depsAt at hd
  rw [hok] at hd
  simp only [List.mem_map, List.mem_filter] at hd
  obtain ⟨e, ⟨he, hb⟩, rfl⟩ := hd
  exact hall e (Array.mem_toList_iff.1 he) hb
theorem upset_unlisted {listed : Array Bool} (inv : Closed md ops listed) {i : Nat} (hi : listed.getD i false = false) : ∀ k ∈ upset md ops i, listed.getD k false = false := by
  unfold upset
  generalize List.range ops.size = l
  have key : ∀ (l acc : List Nat), (∀ k ∈ acc, listed.getD k false = false) → ∀ k ∈ l.foldl (fun acc k => if (depsAt md ops k).any acc.contains then k :: acc else acc) acc, listed.getD k false = false := by
    intro l
    induction l with
    | nil => intro acc h; simpa using h
    | cons x l ih =>
      intro acc h
      rw [List.foldl_cons]
      apply ih
      split
      · rename_i hany
        intro k hk
        rcases List.mem_cons.1 hk with rfl | hk
        · obtain ⟨d, hd, hc⟩ := List.any_eq_true.1 hany
          have hd0 := h d (by simpa using hc)
          cases hx : listed.getD k false with
          | false => rfl
          | true => rw [inv.dep hx hd] at hd0; cases hd0
        · exact h k hk
      · exact h
  exact key l [i] (by intro k hk; rw [List.mem_singleton.1 hk]; exact hi)
def wpAnyF (P : Program) (md : Region.Mode) (ops : Array Oper) (Q : Exit → Act → World → Prop) (S : World → Prop) (F : List Nat) : Nat → Array Bool → Act → World → Prop
  | 0, listed, a, w => Region.ready md ops listed = [] ∧ Q .normal a w
  | fuel + 1, listed, a, w =>
    (Region.ready md ops listed = [] → Q .normal a w) ∧
    ∀ i ∈ Region.ready md ops listed, wpOp P ops Q i (fun a' w' => (F.contains i = false → S w') ∧ wpAnyF P md ops Q S F fuel (listed.setIfInBounds i true) a' w') a w
theorem wpAny_of_F : ∀ (fuel : Nat) (listed : Array Bool) (a : Act) (w : World), wpAnyF P md ops Q S F fuel listed a w → wpAny P md ops Q fuel listed a w
  | 0, _, _, _, h => h
  | fuel + 1, _, _, _, h => ⟨h.1, fun i hi => wpOp_mono (fun a' w' h' => wpAny_of_F fuel _ a' w' h'.2) (h.2 i hi)⟩
/-- those of F wait for i. -/
def blocks (md : Region.Mode) (ops : Array Oper) (F : List Nat) (i : Nat) : Bool := let u := upset md ops i; F.all fun j => (depsAt md ops j).any u.contains
theorem not_last {listed : Array Bool} (inv : Closed md ops listed) {i j : Nat} (hb : blocks md ops F i = true) (hi : listed.getD i true = false) (hj : j ∈ Region.ready md ops listed) : F.contains j = false := by
  cases hF : F.contains j with
  | false => rfl
  | true =>
    have h1 := List.all_eq_true.1 hb j (by simpa using hF)
    obtain ⟨d, hd, hc⟩ := List.any_eq_true.1 h1
    have h2 := upset_unlisted inv (getD_both hi) d (by simpa using hc)
    rw [Closed.ready_dep hj hd] at h2; cases h2
theorem wpAnyF_first {i : Nat} {oi : Oper} {v : Value} (hi : ops[i]? = some oi) (hsel : ∀ (j : Nat) (o : Oper) cs b, ops[j]? = some o → o.op ≠ .select cs b)
    (hQ : ∀ c a w, Q (.panic c) (a.put oi.dst v) w → Q (.panic c) a w) (hb : blocks md ops F i = true) :
    ∀ (fuel : Nat) (listed : Array Bool) (a : Act) (w : World), Closed md ops listed → F.contains i = false →
      (∀ j oj, ops[j]? = some oj → j ≠ i → listed.getD j true = false → (∀ e ∈ oj.after, Region.binds md e = true → e.on ≠ i) → oi.apart ops oj = true) →
      i ∈ Region.ready md ops listed → YieldsIf P ops S oi v a → S w →
      wpAnyF P md ops Q S F fuel (listed.setIfInBounds i true) (a.put oi.dst v) w → wpAnyF P md ops Q S F (fuel + 1) listed a w := by
  intro fuel
  induction fuel with
  | zero =>
    intro listed a w _ _ _ hr hy hS H
    refine ⟨fun h => (by rw [h] at hr; cases hr), fun j hj => ?_⟩
    by_cases hji : j = i
    · subst hji; exact hy.wpOp hi hS ⟨fun _ => hS, H⟩
    · have := ready_mono hj hji
      rw [H.1] at this
      cases this
  | succ fuel ih =>
    intro listed a w inv hFi hfree hr hy hS H
    refine ⟨fun h => (by rw [h] at hr; cases hr), fun j hj => ?_⟩
    by_cases hji : j = i
    · subst hji; exact hy.wpOp hi hS ⟨fun _ => hS, H⟩
    · have h1 := H.2 j (ready_mono hj hji)
      obtain ⟨hjun, oj, hoj, hall⟩ := mem_ready.1 hj
      have hiun := (mem_ready.1 hr).1
      have hnF := not_last inv hb hiun hj
      have hnot : ∀ e ∈ oj.after, Region.binds md e = true → e.on ≠ i := fun e he hb heq => by
        have h1 := hall e he hb
        rw [heq] at h1
        have h0 := getD_both hiun
        rw [h1] at h0; cases h0
      have h2 := wpOp_putIf hoj (hfree j oj hoj hji hjun hnot) (fun cs b => hsel i oi cs b hi) (fun cs b => hsel j oj cs b hoj) hQ hy h1
      have hfree' : ∀ k ok, ops[k]? = some ok → k ≠ i → (listed.setIfInBounds j true).getD k true = false →
          (∀ e ∈ ok.after, Region.binds md e = true → e.on ≠ i) → oi.apart ops ok = true := fun k ok hk hki hun hno => by
        refine hfree k ok hk hki ?_ hno
        by_cases hjk : j = k
        · subst hjk; exact hjun
        · rw [getD_set_ne true hjk] at hun; exact hun
      refine wpOp_mono (fun a' w' h3 => ⟨fun _ => h3.2.1 hnF, ih (listed.setIfInBounds j true) a' w' (inv.set hj) hFi hfree' (ready_mono hr (Ne.symm hji)) h3.1 (h3.2.1 hnF) ?_⟩) h2
      rw [Array.setIfInBounds_comm _ _ hji]
      exact h3.2.2
def runSeq (P : Program) (ops : Array Oper) (Q : Exit → Act → World → Prop) (S : World → Prop) : List Turn → Act → World → Prop
  | [], a, w => Q .normal a w
  | .take i :: r, a, w => ∃ o v, ops[i]? = some o ∧ YieldsIf P ops S o v a ∧ S w ∧ runSeq P ops Q S r (a.put o.dst v) w
  | .op i :: r, a, w => wpOp P ops Q i (fun a' w' => S w' ∧ runSeq P ops Q S r a' w') a w
  | .fin i :: r, a, w => wpOp P ops Q i (fun a' w' => runSeq P ops Q S r a' w') a w
def okSeq (md : Region.Mode) (ops : Array Oper) (F : List Nat) : List Turn → Array Bool → Bool
  | [], listed => (Region.ready md ops listed).isEmpty
  | .take i :: r, listed => (Region.ready md ops listed).contains i && Region.free md ops listed i && blocks md ops F i && !F.contains i && okSeq md ops F r (listed.setIfInBounds i true)
  | .op i :: r, listed => (Region.ready md ops listed == [i]) && okSeq md ops F r (listed.setIfInBounds i true)
  | .fin i :: r, listed => (Region.ready md ops listed == [i]) && F.contains i && okSeq md ops F r (listed.setIfInBounds i true)
theorem wpAnyF_seq (hs : Region.noSelect ops = true) (hQ : ∀ o ∈ ops.toList, ∀ c a v w, Q (.panic c) (a.put o.dst v) w → Q (.panic c) a w) :
    ∀ (l : List Turn) (listed : Array Bool) (a : Act) (w : World), Closed md ops listed → okSeq md ops F l listed = true → runSeq P ops Q S l a w → wpAnyF P md ops Q S F l.length listed a w
  | [], listed, a, w, _, hk, h => ⟨by simpa [okSeq] using hk, h⟩
  | .take i :: r, listed, a, w, inv, hk, h => by
    simp only [okSeq, Bool.and_eq_true, Bool.not_eq_true'] at hk
    obtain ⟨o, v, ho, hy, hS, hr⟩ := h
    have hi : i ∈ Region.ready md ops listed := by simpa using hk.1.1.1.1
    exact wpAnyF_first ho (Region.noSelect_spec hs) (fun c a w => hQ o (Array.mem_toList_iff.2 (Array.mem_of_getElem? ho)) c a v w) hk.1.1.2 r.length listed a w inv hk.1.2
      (Region.free_spec ho hk.1.1.1.2) hi hy hS (wpAnyF_seq hs hQ r _ _ _ (inv.set hi) hk.2 hr)
  | .op i :: r, listed, a, w, inv, hk, h => by
    simp only [okSeq, Bool.and_eq_true, beq_iff_eq] at hk
    refine ⟨fun h0 => (by rw [hk.1] at h0; cases h0), fun j hj => ?_⟩
    have hji : j = i := by rw [hk.1] at hj; simpa using hj
    subst hji
    exact wpOp_mono (fun a' w' h' => ⟨fun _ => h'.1, wpAnyF_seq hs hQ r _ _ _ (inv.set hj) hk.2 h'.2⟩) h
  | .fin i :: r, listed, a, w, inv, hk, h => by
    simp only [okSeq, Bool.and_eq_true, beq_iff_eq] at hk
    refine ⟨fun h0 => (by rw [hk.1.1] at h0; cases h0), fun j hj => ?_⟩
    have hji : j = i := by rw [hk.1.1] at hj; simpa using hj
    subst hji
    exact wpOp_mono (fun a' w' h' => ⟨fun hc => (by rw [hk.1.2] at hc; cases hc), wpAnyF_seq hs hQ r _ _ _ (inv.set hj) hk.2 h'⟩) h
theorem wp_region_seq {id : Nat} {a : Act} {w : World} (S : World → Prop) (F : List Nat) (l : List Turn) (hm : P.follows .mixedOrders = true) (hs : Region.noSelect ops = true) (hl : l.length = ops.size)
    (hk : okSeq .any ops F l (Array.replicate ops.size false) = true)
    (hQ : ∀ o ∈ ops.toList, ∀ c a v w, Q (.panic c) (a.put o.dst v) w → Q (.panic c) a w)
    (h : runSeq P ops Q S l a w.drew) : (Code.region id ops true).wp P Q a w :=
  wp_region_any hm (wpAny_of_F _ _ _ _ (hl ▸ wpAnyF_seq hs hQ l _ _ _ Closed.start hk h))
theorem runSeq_nil {a : Act} {w : World} (h : Q .normal a w) : runSeq P ops Q S [] a w := h
theorem runSeq_take {i : Nat} {o : Oper} {v : Value} {r : List Turn} {a : Act} {w : World} (ho' : ops.toList[i]? = some o) (hw : Region.wanted o (yielded ops a.tmps) = true)
    (hy : ∀ w', S w' → (execOp a.eval o).run P w' = .ok (.value v) w') (hS : S w) (h : runSeq P ops Q S r (a.put o.dst v) w) : runSeq P ops Q S (.take i :: r) a w :=
  ⟨o, v, by simpa using ho', .inl ⟨hw, hy⟩, hS, h⟩
theorem runSeq_skip {i : Nat} {o : Oper} {r : List Turn} {a : Act} {w : World} (ho' : ops.toList[i]? = some o) (hw : Region.wanted o (yielded ops a.tmps) = false)
    (hS : S w) (h : runSeq P ops Q S r (a.put o.dst undef) w) : runSeq P ops Q S (.take i :: r) a w :=
  ⟨o, undef, by simpa using ho', .inr ⟨hw, rfl⟩, hS, h⟩
theorem runSeq_op {i : Nat} {o : Oper} {r : List Turn} {a : Act} {w : World} (ho' : ops.toList[i]? = some o) (hw : Region.wanted o (yielded ops a.tmps) = true)
    (h : ∀ K : Act → World → Prop, (∀ a' w', S w' → runSeq P ops Q S r a' w' → K a' w') → o.wp P a w K Q) : runSeq P ops Q S (.op i :: r) a w := by
  have ho : ops[i]? = some o := by simpa using ho'
  show wpOp _ _ _ _ _ _ _
  unfold wpOp
  simp only [ho, hw, if_true]
  exact .inl (h _ fun a' w' hS hr => ⟨hS, hr⟩)
theorem runSeq_fin {i : Nat} {o : Oper} {r : List Turn} {a : Act} {w : World} (ho' : ops.toList[i]? = some o) (hw : Region.wanted o (yielded ops a.tmps) = true)
    (h : ∀ K : Act → World → Prop, (∀ a' w', runSeq P ops Q S r a' w' → K a' w') → o.wp P a w K Q) : runSeq P ops Q S (.fin i :: r) a w := by
  have ho : ops[i]? = some o := by simpa using ho'
  show wpOp _ _ _ _ _ _ _
  unfold wpOp
  simp only [ho, hw, if_true]
  exact .inl (h _ fun a' w' hr => hr)
end
/-! ### what the region's post asks of a frame at a panic -/
theorem put_getD {a : Act} {d : Option Tmp} {v : Value} {t : Nat} (h : d ≠ some t) : (a.put d v).tmps.getD t undef = a.tmps.getD t undef := by
  cases d with
  | none => rfl
  | some k =>
    have hk : k ≠ t := fun e => h (by rw [e])
    simp [Act.put, Array.getD_eq_getD_getElem?, Array.getElem?_setIfInBounds_ne hk]
theorem results_cells2 {fn : Func} {x y : Nat} {t u : TypeId} (hr : fn.results = #[.cell x t, .cell y u]) {a a' : Array Value} (hx : a.getD x undef = a'.getD x undef) (hy : a.getD y undef = a'.getD y undef) :
    results fn a = results fn a' := by
  simp only [Array.getD_eq_getD_getElem?] at hx hy
  simp [results, hr, hx, hy]
theorem panic_put2 {P : Program} {fn : Func} {R : Ending → World → Prop} {x y : Nat} {t u : TypeId} (hr : fn.results = #[.cell x t, .cell y u]) {ops : Array Oper}
    (hk : (ops.toList.all fun o => !(o.dst == some x) && !(o.dst == some y)) = true) :
    ∀ o ∈ ops.toList, ∀ c a v w, bodyPostD P fn R (.panic c) (a.put o.dst v) w → bodyPostD P fn R (.panic c) a w := by
  intro o ho c a v w h
  have h1 := List.all_eq_true.1 hk o ho
  simp only [Bool.and_eq_true, Bool.not_eq_true', beq_eq_false_iff_ne] at h1
  have hd : (a.put o.dst v).defers = a.defers := by cases o.dst <;> rfl
  have e := results_cells2 hr (put_getD (v := v) (a := a) h1.1) (put_getD (v := v) (a := a) h1.2)
  have h' : Leaves P fn (a.put o.dst v).tmps R (a.put o.dst v).defers (.panicking c) w := h
  rw [hd] at h'
  exact leaves_congr (fun w => by rw [e]) _ _ _ h'
theorem panic_put {P : Program} {fn : Func} {R : Ending → World → Prop} {ops : Array Oper} :
    ∀ o ∈ ops.toList, ∀ c a v w, bodyPost P fn R (.panic c) (a.put o.dst v) w → bodyPost P fn R (.panic c) a w := by
  intro o ho c a v w h
  have hd : (a.put o.dst v).defers = a.defers := by cases o.dst <;> rfl
  exact ⟨hd ▸ h.1, h.2⟩
end Go.Hay

set_option linter.unusedVariables false
set_option linter.unusedSimpArgs false
namespace Go.Hay
open Go.RowKit Go.Proofs.YtnhipdniceoigaaW.PrintWords Go.Proofs.YtnhipdniceoigaaW.PrintLast Go.Proofs.YtnhipdniceoigaaW.PrintMore

theorem reads_cells {α : Type} {R : α → List Value → Prop} {size : Nat} {W : World} {b : Nat} {C : Array Value} {t : TypeId} {fr : Nat × Nat} {ps : List α} (h : W.heap[b]? = some (.cells C t fr)) (hr : Reps R size ps C.toList)
    (hm : ps.length ≤ 9223372036854775807) : ReadsRow R size W (some ⟨b, 0, none⟩) ps.length ps := by
  refine ⟨rfl, hm, fun _ => ⟨_, rfl, fun j p hj => ?_⟩⟩
  have hlt : j < ps.length := (List.getElem?_eq_some_iff.1 hj).1
  have hle : (j + 1) * size ≤ ps.length * size := Nat.mul_le_mul_right _ hlt
  rw [Nat.add_mul, Nat.one_mul] at hle
  refine ⟨_, ?_, hr.2 j p hj, fun i u hu => ?_⟩
  · have := hr.1
    simp only [List.length_take, List.length_drop]
    omega
  · rw [add_plain]
    have hi : i < size := by
      have := (List.getElem?_eq_some_iff.1 hu).1
      simp only [List.length_take] at this
      omega
    rw [cell_of_row W b _ C t fr h]
    rw [List.getElem?_take_of_lt hi, List.getElem?_drop] at hu
    simpa using hu

theorem alloc_blk (w : World) (o : Obj) : (w.alloc o).heap[w.heap.size]? = some o := by
  show (w.heap.push o)[_]? = _
  rw [Array.getElem?_push_size]

/-- A literal of numbers. -/
theorem reads_nums {W : World} {b : Nat} {t : TypeId} {fr : Nat × Nat} {k : IntKind} (ys : List Int) (h : W.heap[b]? = some (.cells (ys.map (Value.int k)).toArray t fr)) (hm : ys.length ≤ 9223372036854775807) :
    ReadsRow ((Kd.int k).K W) 1 W (some ⟨b, 0, none⟩) ys.length ys := by
  refine reads_cells h ⟨by simp, fun j p hj => ?_⟩ hm
  show _ = [Value.int k p]
  have hlt : j < ys.length := (List.getElem?_eq_some_iff.1 hj).1
  simp only [Nat.mul_one, ← List.map_drop, ← List.map_take]
  rw [List.drop_eq_getElem_cons hlt]
  have : ys[j] = p := by rw [List.getElem?_eq_getElem hlt] at hj; exact Option.some.inj hj
  simp [this]

/-- A literal of one element. -/
theorem reads_one {α : Type} {R : α → List Value → Prop} {W : World} {b : Nat} {C : Array Value} {t : TypeId} {fr : Nat × Nat} {x : α} (h : W.heap[b]? = some (.cells C t fr)) (hR : R x C.toList) : ReadsRow R C.size W (some ⟨b, 0, none⟩) 1 [x] := by
  refine reads_cells (ps := [x]) h ⟨by simp, fun j p hj => ?_⟩ (by simp)
  cases j with
  | zero =>
    obtain rfl : x = p := by simpa using hj
    rw [Nat.zero_mul, List.drop_zero, List.take_of_length_le (by simp)]
    exact hR
  | succ j => simp at hj
/-- append(v, ys...) at the operation. -/
theorem wp_append_rows {P : Program} {o : Oper} {a : Act} {K : Act → World → Prop} {Q : Exit → Act → World → Prop} {α : Type} (d : Kd α) {Rr : α → List Value → Prop} {W : World} (base : Nat) (hgd : o.guard = none) (s x : Operand) (t e : TypeId) (z : Value) (bytes : Nat)
    (ho : o.op = .call { callee := .builtin .append, args := #[s, x], argTypes := #[t, t] })
    (ht : P.underlying t = some (.slice e)) (hinfo : (P.info? e).map (fun i => (i.zero, i.size, i.bytes)) = some (some z, d.sz, bytes)) (hz : z.cells.size = d.sz) (hs0 : 0 < d.sz) (hb0 : 0 < bytes)
    (v : Value) (xs ys : List α) (A : Option Addr) (m c : Nat) (ok okp : Nat → Prop) (hs : a.eval s = v) (hx : a.eval x = .slice A m c)
    (HO : d.R e W base ok v xs) (HR : ReadsRow Rr d.sz W A m ys) (hKM : ∀ x cs, Rr x cs → d.M W base okp x cs) (hokp : ∀ k, okp k → ok k ∧ some k ≠ v.ownBlock) (hfresh : ∀ k, W.heap.size ≤ k → ok k)
    (hbase : base ≤ W.heap.size) (hl : (xs.length + m) * bytes ≤ 140737488355328)
    (h : ∀ v1 w1, d.R e w1 base ok v1 (xs ++ ys) → Below base W w1 → W.grownBy w1 v.ownBlock → (v1.ownBlock = v.ownBlock ∨ ∃ b, v1.ownBlock = some b ∧ W.heap.size ≤ b) → K (a.put o.dst v1) w1) :
    o.wp P a W K Q := by
  have hw : Region.wanted o (yielded #[] a.tmps) = true := by simp [Region.wanted, hgd]
  have := Kd.R_append_rows_step (P := P) (ops := #[]) (Kc := K) (Q := Q) d (w0 := W) base hw s x t e z bytes ho ht hinfo hz hs0 hb0 v xs ys A m c ok okp hs hx HO HR hKM hokp hfresh (Below.refl _ _) hbase hl h
  rwa [if_pos hw] at this
/-- append(v, literal of numbers...) at the operation. -/
theorem wp_append_nums {P : Program} {o : Oper} {a : Act} {K : Act → World → Prop} {Q : Exit → Act → World → Prop} (k : IntKind) {W : World} (base : Nat) (hgd : o.guard = none) (s x : Operand) (t e : TypeId) (bytes : Nat)
    (ho : o.op = .call { callee := .builtin .append, args := #[s, x], argTypes := #[t, t] })
    (ht : P.underlying t = some (.slice e)) (hinfo : (P.info? e).map (fun i => (i.zero, i.size, i.bytes)) = some (some (.int k 0), 1, bytes)) (hb0 : 0 < bytes)
    (v : Value) (xs ys : List Int) (A : Option Addr) (m c : Nat) (hs : a.eval s = v) (hx : a.eval x = .slice A m c)
    (HO : (Kd.int k).R e W base (fun _ => True) v xs) (HR : ReadsRow ((Kd.int k).K W) 1 W A m ys)
    (hbase : base ≤ W.heap.size) (hl : (xs.length + m) * bytes ≤ 140737488355328)
    (h : ∀ v1 w1, (Kd.int k).R e w1 base (fun _ => True) v1 (xs ++ ys) → Below base W w1 → W.grownBy w1 v.ownBlock → (v1.ownBlock = v.ownBlock ∨ ∃ b, v1.ownBlock = some b ∧ W.heap.size ≤ b) → K (a.put o.dst v1) w1) :
    o.wp P a W K Q :=
  wp_append_rows (Kd.int k) base hgd s x t e (.int k 0) bytes ho ht hinfo rfl Nat.one_pos hb0 v xs ys A m c (fun _ => True) (fun _ => False) hs hx HO HR (fun x cs h => h) (fun _ h => h.elim) (fun _ _ => trivial) hbase hl h
/-! ### a frame: all that was there is as_ it was, but the blocks of S -/
structure Keep (S : Nat → Prop) (w w' : World) : Prop where
  os : w'.os = w.os
  tape : w'.tape = w.tape
  output : w'.output = w.output
  size : w.heap.size ≤ w'.heap.size
  block : ∀ k, k < w.heap.size → ¬ S k → w'.heap[k]? = w.heap[k]?
section
variable {S T : Nat → Prop} {w w1 w2 W : World}
theorem Keep.refl (S : Nat → Prop) (w : World) : Keep S w w := ⟨rfl, rfl, rfl, Nat.le_refl _, fun _ _ _ => rfl⟩
theorem Keep.trans (h : Keep S w w1) (k : Keep S w1 w2) : Keep S w w2 :=
  ⟨k.os.trans h.os, k.tape.trans h.tape, k.output.trans h.output, Nat.le_trans h.size k.size, fun i hi hS => (k.block i (Nat.lt_of_lt_of_le hi h.size) hS).trans (h.block i hi hS)⟩
theorem Keep.mono (h : Keep S w w1) (hST : ∀ k, k < w.heap.size → S k → T k) : Keep T w w1 := ⟨h.os, h.tape, h.output, h.size, fun k hk hT => h.block k hk (fun hS => hT (hST k hk hS))⟩
/-- what is written behind the first step's blocks does not matter. -/
theorem Keep.then (h : Keep S w w1) (k : Keep T w1 w2) (hT : ∀ i, i < w.heap.size → T i → S i) : Keep S w w2 :=
  ⟨k.os.trans h.os, k.tape.trans h.tape, k.output.trans h.output, Nat.le_trans h.size k.size, fun i hi hS => (k.block i (Nat.lt_of_lt_of_le hi h.size) (fun hTi => hS (hT i hi hTi))).trans (h.block i hi hS)⟩
theorem Keep.of_below (h : Below w.heap.size w w1) (S : Nat → Prop) : Keep S w w1 := ⟨h.os, h.tape, h.output, h.size, fun k hk _ => h.block k hk⟩
theorem Keep.below {B : Nat} (h : Keep S w w1) (hB : B ≤ w.heap.size) (hS : ∀ k, k < B → ¬ S k) : Below B w w1 := ⟨h.os, h.tape, h.output, h.size, fun k hk => h.block k (Nat.lt_of_lt_of_le hk hB) (hS k hk)⟩
theorem Keep.of_belowB {B : Nat} (h : Below B w w1) : Keep (fun k => B ≤ k) w w1 := ⟨h.os, h.tape, h.output, h.size, fun k hk hS => h.block k (Nat.lt_of_not_le hS)⟩
theorem Keep.grown {row : Option Nat} (h : w.grownBy w1 row) : Keep (fun k => some k = row) w w1 := ⟨h.os, h.tape, h.output, h.size, fun k hk hS => h.block k hk hS⟩
theorem Keep.alloc (h : Keep S w w1) (o : Obj) : Keep S w (w1.alloc o) := h.then (Keep.of_below (below_alloc (Below.refl _ _) o) (fun _ => False)) (fun _ _ h => h.elim)
theorem Keep.drew (h : Keep S w w1) : Keep S w w1.drew := h.then (Keep.of_below (below_drew (Below.refl _ _)) (fun _ => False)) (fun _ _ h => h.elim)
theorem Keep.drewN (h : Keep S w w1) (n : Nat) : Keep S w (w1.drewN n) := h.then (Keep.of_below (pw_below_drewN (Below.refl _ _) n) (fun _ => False)) (fun _ _ h => h.elim)
theorem Keep.set {p : Addr} (h : Keep S w w1) (hp : w.heap.size ≤ p.block ∨ S p.block) (v : Value) : Keep S w (w1.setCell p v) :=
  ⟨h.os, h.tape, h.output, by simpa [World.setCell] using h.size, fun k hk hS => (Below.heap_setCell w1 p v k (fun e => by subst e; exact hp.elim (fun hp => absurd hk (by omega)) (fun hp => hS hp))).trans (h.block k hk hS)⟩
theorem Keep.blk {g : Nat} {o : Obj} (h : Keep S w w1) (hb : w.heap[g]? = some o) (hg : ¬ S g) : w1.heap[g]? = some o := (h.block g (blk_lt hb) hg).trans hb
theorem Keep.cell {a : Addr} {v : Value} (h : Keep S w w1) (hc : w.cell? a = some v) (hg : ¬ S a.block) : w1.cell? a = some v := by
  rw [← hc]; exact World.cell?_of_block (w := w) (h.block a.block (World.block_lt_of_cell? w a hc) hg)
end
namespace Kd
section
variable {α : Type} {d : Go.Proofs.YtnhipdniceoigaaW.PrintWords.Kd α} {e : Nat} {w w1 : World} {base : Nat} {ok : Nat → Prop} {v : Value} {xs : List α} {S : Nat → Prop}
end
end Kd
end Go.Hay

set_option linter.unusedVariables false
set_option linter.unusedSimpArgs false
namespace Go.Proofs.Ytnhipdniceoigaa.H
open Go.RowKit Go.Hay Go.Proofs.YtnhipdniceoigaaW.PrintWords Go.Proofs.YtnhipdniceoigaaW.PrintLast Go.Proofs.YtnhipdniceoigaaW.PrintMore
/-- all that is told and noted, and how many instructions may be done yet. -/
structure Gs where
  left : Nat
  told : List Int
  log : List (List Int × Int)
/-- a task. -/
structure Ts where
  regs : List Int
  hands : List (Bool × Int)
  wait : List (Int × Int)
  kids : Nat
  at_ : Int
inductive Out where
  | val (v : Int)
  | fail (why : Int)
  | long
def rg (T : Ts) (i : Int) : Int := T.regs.getD i.toNat 0
def hd (T : Ts) (i : Int) : Bool × Int := T.hands.getD i.toNat (false, 0)
def setR (T : Ts) (i v : Int) : Ts := { T with regs := T.regs.set i.toNat v }
def syncP (T : Ts) : Ts := { T with regs := T.wait.foldl (fun r s => r.set s.1.toNat s.2) T.regs, wait := [] }
inductive Sm where
  | go (T : Ts)
  | stop (why : Int)
def lessV (a b : Int) : Int := if a < b then 1 else 0
def sameV (a b : Int) : Int := if a = b then 1 else 0
/-- an instruction that concerns the task alone. -/
def simple (x : S55) (T : Ts) : Sm :=
  if x.f0 = 1 then .go (setR T x.f1 x.f4)
  else if x.f0 = 2 then .go (setR T x.f1 (rg T x.f2))
  else if x.f0 = 3 then .go (setR T x.f1 (wrap64 (rg T x.f2 + rg T x.f3)))
  else if x.f0 = 4 then .go (setR T x.f1 (wrap64 (rg T x.f2 - rg T x.f3)))
  else if x.f0 = 5 then .go (setR T x.f1 (wrap64 (rg T x.f2 * rg T x.f3)))
  else if x.f0 = 6 then (if rg T x.f3 = 0 then .stop 1 else .go (setR T x.f1 (wrap64 ((rg T x.f2).tdiv (rg T x.f3)))))
  else if x.f0 = 7 then .go (setR T x.f1 (lessV (rg T x.f2) (rg T x.f3)))
  else if x.f0 = 8 then .go (setR T x.f1 (sameV (rg T x.f2) (rg T x.f3)))
  else if x.f0 = 9 then .go { T with at_ := x.f4 }
  else if x.f0 = 10 then .go (if rg T x.f1 = 0 then { T with at_ := x.f4 } else T)
  else if x.f0 = 12 then .go (syncP T)
  else if x.f0 = 14 then (if (hd T x.f2).1 = true then .go (setR T x.f1 (hd T x.f2).2) else .stop 2)
  else .stop x.f4
def bump (log : List (List Int × Int)) (me : Nat) : List (List Int × Int) := log.set me ((log.getD me ([], 0)).1, (log.getD me ([], 0)).2 + 1)
def newRegs (args : List Int) : List Int := args.take 8 ++ List.replicate (8 - args.length) 0
def newTask (args : List Int) (hands : List (Bool × Int)) : Ts := ⟨newRegs args, hands, [], 0, 0⟩
def argsOf (l : List S58) (x : S55) (T : Ts) : List Int := (T.regs.drop x.f2.toNat).take (rd_T58 l x.f3).f0.toNat
inductive SR where
  | go (T : Ts) (G : Gs)
  | stop (o : Out) (G : Gs)
/-- one instruction, but ret; rec: how the tasks end that it begins. -/
def stepP (l : List S58) (depth : Int) (rec : Gs → List Int → List S55 → Nat → Ts → Out × Gs) (path : List Int) (x : S55) (T : Ts) (G : Gs) : SR :=
  if x.f0 = 11 ∨ x.f0 = 13 then
    if (path.length : Int) = depth then .stop (.fail 4) G
    else match rec { G with log := G.log ++ [(path ++ [(T.kids : Int)], 0)] } (path ++ [(T.kids : Int)]) (rd_T58 l x.f3).f1 G.log.length (newTask (argsOf l x T) T.hands) with
      | (.val v, G2) => .go (if x.f0 = 11 then { T with kids := T.kids + 1, wait := T.wait ++ [(x.f1, v)] } else { T with kids := T.kids + 1, hands := T.hands.set x.f1.toNat (true, v) }) G2
      | (o, G2) => .stop o G2
  else if x.f0 = 15 then .go T { G with told := G.told ++ [rg T x.f1] }
  else match simple x T with
    | .go T' => .go T' G
    | .stop why => .stop (.fail why) G
/-- a task's run. -/
def runP (l : List S58) (budget depth : Int) : Nat → Gs → List Int → List S55 → Nat → Ts → Out × Gs
  | 0, G, _, _, _, _ => (.long, G)
  | k + 1, G, path, code, me, T =>
    if (G.log.getD me ([], 0)).2 = budget then (.fail 3, G)
    else if G.left = 0 then (.long, G)
    else if (rd_T55 code T.at_).f0 = 17 then (.val (rg (syncP { T with at_ := T.at_ + 1 }) (rd_T55 code T.at_).f1), { G with left := G.left - 1, log := bump G.log me })
    else match stepP l depth (runP l budget depth k) path (rd_T55 code T.at_) { T with at_ := T.at_ + 1 } { G with left := G.left - 1, log := bump G.log me } with
      | .go T' G' => runP l budget depth k G' path code me T'
      | .stop o G' => (o, G')
def beginP (l : List S58) (budget depth : Int) (k : Nat) (G : Gs) (f : Int) (path args : List Int) (hands : List (Bool × Int)) : Out × Gs :=
  runP l budget depth k { G with log := G.log ++ [(path, 0)] } path (rd_T58 l f).f1 G.log.length (newTask args hands)
def noHands : List (Bool × Int) := [(false, 0), (false, 0), (false, 0), (false, 0)]
/-- a program's end: value, failure, what was told, what was noted; none: too many instructions. -/
def evalP (l : List S58) (args : List Int) (budget depth : Int) (most : Nat) : Option (Int × Int × List Int × List (List Int × Int)) :=
  match beginP l budget depth (most + 1) ⟨most, [], []⟩ 0 [] args noHands with
  | (.val v, G) => some (v, 0, G.told, G.log)
  | (.fail why, G) => some (0, why, G.told, G.log)
  | (.long, _) => none
/-! ### a program that may run -/
/-- what an instruction's numbers may be. -/
structure IOk (l : List S58) (lc : Nat) (x : S55) : Prop where
  op : 1 ≤ x.f0 ∧ x.f0 ≤ 17
  a : x.f0 ≠ 9 → x.f0 ≠ 12 → x.f0 ≠ 13 → x.f0 ≠ 16 → 0 ≤ x.f1 ∧ x.f1 < 8
  a13 : x.f0 = 13 → 0 ≤ x.f1 ∧ x.f1 < 4
  b : (2 ≤ x.f0 ∧ x.f0 ≤ 8) ∨ x.f0 = 11 ∨ x.f0 = 13 → 0 ≤ x.f2 ∧ x.f2 < 8
  b14 : x.f0 = 14 → 0 ≤ x.f2 ∧ x.f2 < 4
  c : 3 ≤ x.f0 ∧ x.f0 ≤ 8 → 0 ≤ x.f3 ∧ x.f3 < 8
  cf : x.f0 = 11 ∨ x.f0 = 13 → 0 ≤ x.f3 ∧ x.f3 < l.length ∧ (rd_T58 l x.f3).f0 ≤ 8 - x.f2
  k : x.f0 = 9 ∨ x.f0 = 10 → 0 ≤ x.f4 ∧ x.f4 < lc
  kb : -2147483648 ≤ x.f4 ∧ x.f4 < 2147483648
structure POk (l : List S58) : Prop where
  len : 1 ≤ l.length ∧ l.length ≤ 16
  fn : ∀ f (h : f < l.length), (0 ≤ l[f].f0 ∧ l[f].f0 ≤ 4) ∧ (1 ≤ l[f].f1.length ∧ l[f].f1.length ≤ 64) ∧ (∀ k (hk : k < l[f].f1.length), IOk l l[f].f1.length l[f].f1[k]) ∧
    ((rd_T55 l[f].f1 ((l[f].f1.length : Int) - 1)).f0 = 9 ∨ (rd_T55 l[f].f1 ((l[f].f1.length : Int) - 1)).f0 = 16 ∨ (rd_T55 l[f].f1 ((l[f].f1.length : Int) - 1)).f0 = 17)
theorem fieldE_none {np lc : Nat} {n p : Int} (h : fieldE np lc n p = none) : (p = 1 → 0 ≤ n ∧ n < 8) ∧ (p = 2 → 0 ≤ n ∧ n < 4) ∧ (p = 3 → 0 ≤ n ∧ n < np) ∧ (p = 5 → 0 ≤ n ∧ n < lc) ∧ (p = 6 → 16 ≤ n ∧ n < 2147483648) ∧ (p = 4 → -2147483648 ≤ n ∧ n < 2147483648) := by
  unfold fieldE at h
  refine ⟨fun e => ?_, fun e => ?_, fun e => ?_, fun e => ?_, fun e => ?_, fun e => ?_⟩
  all_goals
    subst e
    simp [inB] at h
    omega
theorem instrE_ok {l : List S58} {lc : Nat} {x : S55} (hlc : lc ≤ 1000) (h : instrE lc l x = none) : IOk l lc x := by
  obtain ⟨a, b, c, k, is, hsh⟩ : ∃ a b c k is, shapeP x.f0 = (a, b, c, k, is) := ⟨_, _, _, _, _, rfl⟩
  rw [instrE_eq hsh] at h
  by_cases his : is = false
  · rw [if_pos his] at h; cases h
  rw [if_neg his] at h
  by_cases h1 : a = 0 ∧ x.f1 ≠ 0
  · rw [if_pos h1] at h; cases h
  by_cases h2 : b = 0 ∧ x.f2 ≠ 0
  · rw [if_neg h1, if_pos h2] at h; cases h
  by_cases h3 : c = 0 ∧ x.f3 ≠ 0
  · rw [if_neg h1, if_neg h2, if_pos h3] at h; cases h
  by_cases h4 : k = 0 ∧ x.f4 ≠ 0
  · rw [if_neg h1, if_neg h2, if_neg h3, if_pos h4] at h; cases h
  rw [if_neg h1, if_neg h2, if_neg h3, if_neg h4] at h
  simp only [Option.or_eq_none_iff] at h
  obtain ⟨ha, hb, hc, hk, har⟩ := h
  have fa := fieldE_none ha
  have fb := fieldE_none hb
  have fc := fieldE_none hc
  have fk := fieldE_none hk
  clear ha hb hc hk
  have hop : 1 ≤ x.f0 ∧ x.f0 ≤ 17 := by
    by_cases ho : 1 ≤ x.f0 ∧ x.f0 ≤ 17
    · exact ho
    · exfalso
      have : shapeP x.f0 = (0, 0, 0, 0, false) := by
        unfold shapeP
        repeat (first | rw [if_neg (by omega)])
      rw [this] at hsh; cases hsh; exact his rfl
  have hcases : x.f0 = 1 ∨ x.f0 = 2 ∨ x.f0 = 3 ∨ x.f0 = 4 ∨ x.f0 = 5 ∨ x.f0 = 6 ∨ x.f0 = 7 ∨ x.f0 = 8 ∨ x.f0 = 9 ∨ x.f0 = 10 ∨ x.f0 = 11 ∨ x.f0 = 12 ∨ x.f0 = 13 ∨ x.f0 = 14 ∨ x.f0 = 15 ∨ x.f0 = 16 ∨ x.f0 = 17 := by omega
  have hari : c = 3 → (rd_T58 l x.f3).f0 ≤ 8 - x.f2 := by
    intro e
    unfold arityE at har
    rw [if_pos e] at har
    split at har
    · assumption
    · cases har
  clear har his
  rcases hcases with e | e | e | e | e | e | e | e | e | e | e | e | e | e | e | e | e
  all_goals
    rw [e] at hsh
    simp [shapeP] at hsh
    obtain ⟨rfl, rfl, rfl, rfl, _⟩ := hsh
    simp at fa fb fc fk h1 h2 h3 h4 hari
    refine ⟨by omega, fun _ _ _ _ => ?_, fun _ => ?_, fun _ => ?_, fun _ => ?_, fun _ => ?_, fun _ => ?_, fun _ => ?_, ?_⟩
    all_goals first | omega | (refine ⟨?_, ?_, ?_⟩ <;> omega)
theorem instrsE_none {lc : Nat} {l : List S58} {xs : List S55} : ∀ {k : Nat}, instrsE lc l k xs = none → ∀ j (h : j < xs.length), instrE lc l xs[j] = none := by
  induction xs with
  | nil => intro k _ j h; simp at h
  | cons x r ih =>
    intro k h j hj
    simp only [instrsE] at h
    cases hx : instrE lc l x with
    | some e => rw [hx] at h; cases h
    | none =>
      rw [hx] at h
      cases j with
      | zero => exact hx
      | succ j => exact ih h j (by simpa using hj)
theorem funcE_ok {l : List S58} {g : S58} (h : funcE l g = none) : (0 ≤ g.f0 ∧ g.f0 ≤ 4) ∧ (1 ≤ g.f1.length ∧ g.f1.length ≤ 64) ∧ (∀ k (hk : k < g.f1.length), IOk l g.f1.length g.f1[k]) ∧
    ((rd_T55 g.f1 ((g.f1.length : Int) - 1)).f0 = 9 ∨ (rd_T55 g.f1 ((g.f1.length : Int) - 1)).f0 = 16 ∨ (rd_T55 g.f1 ((g.f1.length : Int) - 1)).f0 = 17) := by
  unfold funcE at h
  split at h
  · rename_i h1
    split at h
    · rename_i h2
      rw [Option.or_eq_none_iff] at h
      refine ⟨h1, h2, fun k hk => instrE_ok (by omega) (instrsE_none h.1 k hk), ?_⟩
      have h3 := h.2
      unfold lastE at h3
      simp only at h3
      split at h3
      · assumption
      · cases h3
    · cases h
  · cases h
theorem funcsE_none {l : List S58} {gs : List S58} : ∀ {f : Nat}, funcsE l f gs = none → ∀ j (h : j < gs.length), funcE l gs[j] = none := by
  induction gs with
  | nil => intro f _ j h; simp at h
  | cons g r ih =>
    intro f h j hj
    simp only [funcsE] at h
    cases hx : funcE l g with
    | some e => rw [hx] at h; cases h
    | none =>
      rw [hx] at h
      cases j with
      | zero => exact hx
      | succ j => exact ih h j (by simpa using hj)
theorem fieldE_code {np lc : Nat} {n p e : Int} (h : fieldE np lc n p = some e) : e ≠ 0 := by
  unfold fieldE at h
  repeat' split at h
  all_goals first | (cases h; done) | (injection h with h; omega)
theorem instrE_code {l : List S58} {lc : Nat} {x : S55} {e : Int} (h : instrE lc l x = some e) : e ≠ 0 := by
  obtain ⟨a, b, c, k, is, hsh⟩ : ∃ a b c k is, shapeP x.f0 = (a, b, c, k, is) := ⟨_, _, _, _, _, rfl⟩
  rw [instrE_eq hsh] at h
  repeat' split at h
  all_goals try (injection h with h; omega)
  cases ha : fieldE l.length lc x.f1 a with
  | some y => rw [ha] at h; injection h with h; rw [← h]; exact fieldE_code ha
  | none =>
    cases hb : fieldE l.length lc x.f2 b with
    | some y => rw [ha, hb] at h; injection h with h; rw [← h]; exact fieldE_code hb
    | none =>
      cases hc : fieldE l.length lc x.f3 c with
      | some y => rw [ha, hb, hc] at h; injection h with h; rw [← h]; exact fieldE_code hc
      | none =>
        cases hk : fieldE l.length lc x.f4 k with
        | some y => rw [ha, hb, hc, hk] at h; injection h with h; rw [← h]; exact fieldE_code hk
        | none =>
          rw [ha, hb, hc, hk] at h
          have h : arityE l x c = some e := h
          unfold arityE at h
          repeat' split at h
          all_goals first | (cases h; done) | (injection h with h; omega)
theorem instrsE_code {lc : Nat} {l : List S58} {xs : List S55} : ∀ {k : Nat} {e : Int × Int}, instrsE lc l k xs = some e → e.2 ≠ 0 := by
  induction xs with
  | nil => intro k e h; simp [instrsE] at h
  | cons x r ih =>
    intro k e h
    simp only [instrsE] at h
    cases hx : instrE lc l x with
    | some y => rw [hx] at h; injection h with h; rw [← h]; exact instrE_code hx
    | none => rw [hx] at h; exact ih h
theorem funcE_code {l : List S58} {g : S58} {e : Int × Int} (h : funcE l g = some e) : e.2 ≠ 0 := by
  unfold funcE at h
  split at h
  · split at h
    · cases hi : instrsE g.f1.length l 0 g.f1 with
      | some y => rw [hi] at h; injection h with h; rw [← h]; exact instrsE_code hi
      | none =>
        rw [hi] at h
        have h : lastE g = some e := h
        unfold lastE at h
        simp only at h
        split at h
        · cases h
        · injection h with h; rw [← h]; show (11 : Int) ≠ 0; decide
    · injection h with h; rw [← h]; decide
  · injection h with h; rw [← h]; decide
theorem funcsE_code {l : List S58} {gs : List S58} : ∀ {f : Nat} {e : Int × Int × Int}, funcsE l f gs = some e → e.2.2 ≠ 0 := by
  induction gs with
  | nil => intro f e h; simp [funcsE] at h
  | cons g r ih =>
    intro f e h
    simp only [funcsE] at h
    cases hx : funcE l g with
    | some y => rw [hx] at h; injection h with h; rw [← h]; exact funcE_code hx
    | none => rw [hx] at h; exact ih h
/-- what the check passes may run. -/
theorem check_ok {l : List S58} (h : (checkP l).2.2 = 0) : POk l := by
  unfold checkP at h
  split at h
  · rename_i hl
    cases hf : funcsE l 0 l with
    | some e => rw [hf] at h; exact absurd h (funcsE_code hf)
    | none => exact ⟨hl, fun f hfl => funcE_ok (funcsE_none hf f hfl)⟩
  · cases h
end Go.Proofs.Ytnhipdniceoigaa.H

set_option linter.unusedVariables false
set_option linter.unusedSimpArgs false
namespace Go.Hay
open Go.RowKit
inductive Turn2 where
  | take (i : Nat)
  | op (i : Nat)
  | fin (i : Nat)
  | pair (i j : Nat)
  | tri (i k j : Nat)
  | rooms (l : List Nat)
def Turn2.many : Turn2 → Nat
  | .pair _ _ => 2
  | .tri _ _ _ => 3
  | .rooms l => l.length
  | _ => 1
def many2 : List Turn2 → Nat
  | [] => 0
  | t :: r => many2 r + t.many
/-! ### rooms: operations that come in any order, each with what it yields and the blocks that it owns -/
def dstOf (ops : Array Oper) (i : Nat) : Option Tmp := (ops[i]?).bind (·.dst)
theorem put_put {a : Act} {d e : Option Tmp} (h : d ≠ e) (x y : Value) : (a.put d x).put e y = (a.put e y).put d x := by
  cases d with
  | none => rfl
  | some d =>
    cases e with
    | none => rfl
    | some e =>
      simp only [Act.put]
      rw [Array.setIfInBounds_comm _ _ (fun he => h (congrArg some he))]
def putE (ops : Array Oper) : List Nat → (Nat → Bool) → (Nat → Value) → Act → Act
  | [], _, _, a => a
  | i :: l, ex, vals, a => putE ops l ex vals (if ex i = true then a.put (dstOf ops i) (vals i) else a)
theorem putE_put (ops : Array Oper) (ex : Nat → Bool) (vals : Nat → Value) (d : Option Tmp) (v : Value) : ∀ (l : List Nat) (a : Act), (∀ i ∈ l, dstOf ops i ≠ d) → (putE ops l ex vals a).put d v = putE ops l ex vals (a.put d v)
  | [], _, _ => rfl
  | i :: l, a, h => by
    rw [putE, putE, putE_put ops ex vals d v l _ (fun j hj => h j (List.mem_cons_of_mem _ hj))]
    congr 1
    split
    · exact put_put (h i (List.mem_cons_self ..)) _ _
    · rfl
theorem putE_congr (ops : Array Oper) {ex ex' : Nat → Bool} {vals vals' : Nat → Value} : ∀ (l : List Nat) (a : Act), (∀ i ∈ l, ex i = ex' i ∧ (ex i = true → vals i = vals' i)) → putE ops l ex vals a = putE ops l ex' vals' a
  | [], _, _ => rfl
  | i :: l, a, h => by
    have h1 := h i (List.mem_cons_self ..)
    rw [putE, putE, ← h1.1]
    rw [putE_congr ops l _ (fun j hj => h j (List.mem_cons_of_mem _ hj))]
    congr 1
    split
    · rename_i he; rw [h1.2 he]
    · rfl
def upd {α : Type} (f : Nat → α) (i : Nat) (x : α) : Nat → α := fun j => if j = i then x else f j
theorem upd_same {α : Type} (f : Nat → α) (i : Nat) (x : α) : upd f i x i = x := by simp [upd]
theorem upd_ne {α : Type} (f : Nat → α) {i j : Nat} (x : α) (h : j ≠ i) : upd f i x j = f j := by simp [upd, h]
theorem putE_set (ops : Array Oper) (ex : Nat → Bool) (vals : Nat → Value) (i : Nat) (v : Value) : ∀ (l : List Nat) (a : Act), (l.map (dstOf ops)).Nodup → i ∈ l → ex i = false → (putE ops l ex vals a).put (dstOf ops i) v = putE ops l (upd ex i true) (upd vals i v) a
  | [], _, _, h, _ => by cases h
  | j :: l, a, hn, h, he => by
    rw [List.map_cons, List.nodup_cons] at hn
    by_cases hij : i = j
    · subst hij
      have hni : ∀ k ∈ l, k ≠ i := fun k hk e => hn.1 (by rw [← e]; exact List.mem_map_of_mem hk)
      rw [putE, putE, he, upd_same, upd_same, if_neg (by simp), if_pos rfl, putE_put ops ex vals _ v l a (fun k hk e => hn.1 (by rw [← e]; exact List.mem_map_of_mem hk))]
      exact putE_congr ops l _ (fun k hk => ⟨(upd_ne _ _ (hni k hk)).symm, fun _ => (upd_ne _ _ (hni k hk)).symm⟩)
    · have hi : i ∈ l := by
        rcases List.mem_cons.1 h with h | h
        · exact absurd h hij
        · exact h
      rw [putE, putE, upd_ne _ _ (Ne.symm hij), upd_ne _ _ (Ne.symm hij)]
      exact putE_set ops ex vals i v l _ hn.2 hi he
theorem put_size (a : Act) (d : Option Tmp) (v : Value) : (a.put d v).tmps.size = a.tmps.size := by cases d <;> simp [Act.put]
theorem putE_other (ops : Array Oper) (ex : Nat → Bool) (vals : Nat → Value) (t : Nat) : ∀ (l : List Nat) (a : Act), (∀ j ∈ l, dstOf ops j ≠ some t) → (putE ops l ex vals a).tmps.getD t undef = a.tmps.getD t undef
  | [], _, _ => rfl
  | i :: l, a, h => by
    rw [putE, putE_other ops ex vals t l _ (fun j hj => h j (List.mem_cons_of_mem _ hj))]
    split
    · exact put_getD (h i (List.mem_cons_self ..))
    · rfl
theorem putE_at (ops : Array Oper) (ex : Nat → Bool) (vals : Nat → Value) (i t : Nat) : ∀ (l : List Nat) (a : Act), (l.map (dstOf ops)).Nodup → i ∈ l → ex i = true → dstOf ops i = some t → t < a.tmps.size → (putE ops l ex vals a).tmps.getD t undef = vals i
  | [], _, _, h, _, _, _ => by cases h
  | j :: l, a, hn, h, he, hd, ht => by
    rw [List.map_cons, List.nodup_cons] at hn
    rw [putE]
    by_cases hij : i = j
    · subst hij
      rw [putE_other ops ex vals t l _ (fun k hk e => hn.1 (by rw [hd, ← e]; exact List.mem_map_of_mem hk)), if_pos he, hd]
      simp [Act.put, ht]
    · have hi : i ∈ l := by
        rcases List.mem_cons.1 h with h | h
        · exact absurd h hij
        · exact h
      exact putE_at ops ex vals i t l _ hn.2 hi he hd (by split <;> simpa [put_size] using ht)
structure Rooms (P : Program) (ops : Array Oper) (Q : Exit → Act → World → Prop) (S : World → Prop) (l : List Nat) (a : Act) (F : Nat → Value → (Nat → Prop) → World → Prop) : Prop where
  stable : ∀ (i : Nat) (v : Value) (B : Nat → Prop) (w w' : World), F i v B w → S w' → w.heap.size ≤ w'.heap.size → (∀ k, B k → w'.heap[k]? = w.heap[k]?) → F i v B w'
  step : ∀ i ∈ l, ∀ (vals : Nat → Value) (B : Nat → Nat → Prop) (w : World) (a' : Act), S w →
    (∀ d, d ∈ l → d ∈ depsAt .any ops i → F d (vals d) (B d) w ∧ ∀ k, B d k → k < w.heap.size) →
    (∀ d d', d ∈ l → d' ∈ l → d ∈ depsAt .any ops i → d' ∈ depsAt .any ops i → d ≠ d' → ∀ k, B d k → ¬ B d' k) →
    (∀ t, (∀ j ∈ l, dstOf ops j ≠ some t) → a'.tmps.getD t undef = a.tmps.getD t undef) →
    (∀ d, d ∈ l → d ∈ depsAt .any ops i → ∀ t, dstOf ops d = some t → t < a.tmps.size → a'.tmps.getD t undef = vals d) →
    wpOp P ops Q i (fun a'' w'' => ∃ v B', a'' = a'.put (dstOf ops i) v ∧ S w'' ∧ w.heap.size ≤ w''.heap.size ∧ F i v B' w'' ∧ (∀ k, B' k → k < w''.heap.size ∧ (w.heap.size ≤ k ∨ ∃ d, d ∈ l ∧ d ∈ depsAt .any ops i ∧ B d k)) ∧
      ∀ k, k < w.heap.size → (∀ d, d ∈ l → d ∈ depsAt .any ops i → ¬ B d k) → w''.heap[k]? = w.heap[k]?) a' w
/-- the same, with what a closed reckoning decides. -/
def isDep (ops : Array Oper) (l : List Nat) (i d : Nat) : Bool := l.contains d && (depsAt .any ops i).contains d
theorem isDep_iff {ops : Array Oper} {l : List Nat} {i d : Nat} : isDep ops l i d = true ↔ d ∈ l ∧ d ∈ depsAt .any ops i := by simp [isDep]
theorem Rooms.of {P : Program} {ops : Array Oper} {Q : Exit → Act → World → Prop} {S : World → Prop} {l : List Nat} {a : Act} {F : Nat → Value → (Nat → Prop) → World → Prop}
    (stable : ∀ (i : Nat) (v : Value) (B : Nat → Prop) (w w' : World), F i v B w → S w' → w.heap.size ≤ w'.heap.size → (∀ k, B k → w'.heap[k]? = w.heap[k]?) → F i v B w')
    (step : ∀ i ∈ l, ∀ (vals : Nat → Value) (B : Nat → Nat → Prop) (w : World) (a' : Act), S w →
      (∀ d, isDep ops l i d = true → F d (vals d) (B d) w ∧ ∀ k, B d k → k < w.heap.size) →
      (∀ d d', isDep ops l i d = true → isDep ops l i d' = true → d ≠ d' → ∀ k, B d k → ¬ B d' k) →
      (∀ t, (l.all fun j => dstOf ops j != some t) = true → a'.tmps.getD t undef = a.tmps.getD t undef) →
      (∀ d t, isDep ops l i d = true → (dstOf ops d == some t && Nat.ble (t + 1) a.tmps.size) = true → a'.tmps.getD t undef = vals d) →
      wpOp P ops Q i (fun a'' w'' => ∃ v B', a'' = a'.put (dstOf ops i) v ∧ S w'' ∧ w.heap.size ≤ w''.heap.size ∧ F i v B' w'' ∧ (∀ k, B' k → k < w''.heap.size ∧ (w.heap.size ≤ k ∨ ∃ d, isDep ops l i d = true ∧ B d k)) ∧
        ∀ k, k < w.heap.size → (∀ d, isDep ops l i d = true → ¬ B d k) → w''.heap[k]? = w.heap[k]?) a' w) : Rooms P ops Q S l a F := by
  refine ⟨stable, fun i hi vals B w a' hS h1 h2 h3 h4 => ?_⟩
  refine wpOp_mono (fun a'' w'' hx => ?_) (step i hi vals B w a' hS (fun d hd => h1 d (isDep_iff.1 hd).1 (isDep_iff.1 hd).2) (fun d d' hd hd' => h2 d d' (isDep_iff.1 hd).1 (isDep_iff.1 hd').1 (isDep_iff.1 hd).2 (isDep_iff.1 hd').2)
    (fun t ht => h3 t (fun j hj => by simpa using List.all_eq_true.1 ht j hj)) (fun d t hd ht => by
      simp only [Bool.and_eq_true, beq_iff_eq] at ht
      exact h4 d (isDep_iff.1 hd).1 (isDep_iff.1 hd).2 t ht.1 (Nat.le_of_ble_eq_true ht.2)))
  obtain ⟨v, B', e, q1, q2, q3, q4, q5⟩ := hx
  exact ⟨v, B', e, q1, q2, q3, fun k hk => ⟨(q4 k hk).1, (q4 k hk).2.imp id (fun ⟨d, hd, hb⟩ => ⟨d, (isDep_iff.1 hd).1, (isDep_iff.1 hd).2, hb⟩)⟩, fun k hk hn => q5 k hk (fun d hd => hn d (isDep_iff.1 hd).1 (isDep_iff.1 hd).2)⟩
/-- what is left behind them all. -/
structure Left (ops : Array Oper) (l : List Nat) (F : Nat → Value → (Nat → Prop) → World → Prop) (w0 : World) (vals : Nat → Value) (B : Nat → Nat → Prop) (w : World) : Prop where
  size : w0.heap.size ≤ w.heap.size
  fact : ∀ i ∈ l, (∀ j ∈ l, i ∉ depsAt .any ops j) → F i (vals i) (B i) w ∧ ∀ k, B i k → k < w.heap.size
  apart : ∀ i i', i ∈ l → i' ∈ l → (∀ j ∈ l, i ∉ depsAt .any ops j) → (∀ j ∈ l, i' ∉ depsAt .any ops j) → i ≠ i' → ∀ k, B i k → ¬ B i' k
def okRooms (ops : Array Oper) (l : List Nat) (listed : Array Bool) : Bool :=
  decide ((l.map (dstOf ops)).Nodup) &&
  l.all (fun i => decide (i < ops.size) && !listed.getD i true && (depsAt .any ops i).all (fun d => decide (d < i) && (listed.getD d false || l.contains d))) &&
  l.all (fun i => l.all fun i' => i == i' || (depsAt .any ops i).all fun d => !(l.contains d) || !((depsAt .any ops i').contains d)) &&
  (List.range ops.size).all (fun j => listed.getD j true || l.contains j || l.all fun i => (depsAt .any ops j).contains i)
section
variable {P : Program} {md : Region.Mode} {ops : Array Oper} {Q : Exit → Act → World → Prop} {S : World → Prop} {F : List Nat}
def runSeq2 (P : Program) (ops : Array Oper) (Q : Exit → Act → World → Prop) (S : World → Prop) : List Turn2 → Act → World → Prop
  | [], a, w => Q .normal a w
  | .take i :: r, a, w => ∃ o v, ops[i]? = some o ∧ YieldsIf P ops S o v a ∧ S w ∧ runSeq2 P ops Q S r (a.put o.dst v) w
  | .op i :: r, a, w => wpOp P ops Q i (fun a' w' => S w' ∧ runSeq2 P ops Q S r a' w') a w
  | .fin i :: r, a, w => wpOp P ops Q i (fun a' w' => runSeq2 P ops Q S r a' w') a w
  | .pair i j :: r, a, w => wpOp P ops Q i (fun a' w' => S w' ∧ wpOp P ops Q j (fun a' w' => S w' ∧ runSeq2 P ops Q S r a' w') a' w') a w ∧
      wpOp P ops Q j (fun a' w' => S w' ∧ wpOp P ops Q i (fun a' w' => S w' ∧ runSeq2 P ops Q S r a' w') a' w') a w
  | .tri i k j :: r, a, w => wpOp P ops Q i (fun a' w' => S w' ∧ (wpOp P ops Q k (fun a' w' => S w' ∧ wpOp P ops Q j (fun a' w' => S w' ∧ runSeq2 P ops Q S r a' w') a' w') a' w' ∧
        wpOp P ops Q j (fun a' w' => S w' ∧ wpOp P ops Q k (fun a' w' => S w' ∧ runSeq2 P ops Q S r a' w') a' w') a' w')) a w ∧
      wpOp P ops Q j (fun a' w' => S w' ∧ wpOp P ops Q i (fun a' w' => S w' ∧ wpOp P ops Q k (fun a' w' => S w' ∧ runSeq2 P ops Q S r a' w') a' w') a' w') a w
  | .rooms l :: r, a, w => ∃ F, Rooms P ops Q S l a F ∧ S w ∧ ∀ vals B w', S w' → Left ops l F w vals B w' → runSeq2 P ops Q S r (putE ops l (fun _ => true) vals a) w'
def okSeq2 (md : Region.Mode) (ops : Array Oper) (F : List Nat) : List Turn2 → Array Bool → Bool
  | [], listed => (Region.ready md ops listed).isEmpty
  | .take i :: r, listed => (Region.ready md ops listed).contains i && Region.free md ops listed i && blocks md ops F i && !F.contains i && okSeq2 md ops F r (listed.setIfInBounds i true)
  | .op i :: r, listed => (Region.ready md ops listed == [i]) && okSeq2 md ops F r (listed.setIfInBounds i true)
  | .fin i :: r, listed => (Region.ready md ops listed == [i]) && F.contains i && okSeq2 md ops F r (listed.setIfInBounds i true)
  | .pair i j :: r, listed => (Region.ready md ops listed == [i, j]) && i != j && (Region.ready md ops (listed.setIfInBounds i true) == [j]) && (Region.ready md ops (listed.setIfInBounds j true) == [i]) &&
      okSeq2 md ops F r ((listed.setIfInBounds i true).setIfInBounds j true)
  | .tri i k j :: r, listed => (Region.ready md ops listed == [i, j]) && i != j && k != j && (Region.ready md ops (listed.setIfInBounds i true) == [k, j]) && (Region.ready md ops (listed.setIfInBounds j true) == [i]) &&
      (Region.ready md ops ((listed.setIfInBounds i true).setIfInBounds k true) == [j]) && (Region.ready md ops ((listed.setIfInBounds i true).setIfInBounds j true) == [k]) &&
      okSeq2 md ops F r (((listed.setIfInBounds i true).setIfInBounds k true).setIfInBounds j true)
  | .rooms l :: r, listed => (md == .any) && okRooms ops l listed && okSeq2 md ops F r (l.foldl (fun x i => x.setIfInBounds i true) listed)
theorem wpAnyF_one {i : Nat} {fuel : Nat} {listed : Array Bool} {a : Act} {w : World} (hr : Region.ready md ops listed = [i])
    (h : wpOp P ops Q i (fun a' w' => S w' ∧ wpAnyF P md ops Q S F fuel (listed.setIfInBounds i true) a' w') a w) : wpAnyF P md ops Q S F (fuel + 1) listed a w := by
  refine ⟨fun h0 => (by rw [hr] at h0; cases h0), fun k hk => ?_⟩
  have hki : k = i := by rw [hr] at hk; simpa using hk
  subst hki
  exact wpOp_mono (fun a' w' h' => ⟨fun _ => h'.1, h'.2⟩) h
theorem foldl_getD : ∀ (l : List Nat) (listed : Array Bool) (j : Nat) (d : Bool), (∀ i ∈ l, i < listed.size) → (l.foldl (fun x i => x.setIfInBounds i true) listed).getD j d = if j ∈ l then true else listed.getD j d
  | [], listed, j, d, _ => by simp
  | i :: l, listed, j, d, h => by
    rw [List.foldl_cons, foldl_getD l _ j d (fun k hk => by rw [Array.size_setIfInBounds]; exact h k (List.mem_cons_of_mem _ hk))]
    have hi := h i (List.mem_cons_self ..)
    by_cases hj : j ∈ l
    · rw [if_pos hj, if_pos (List.mem_cons_of_mem _ hj)]
    · rw [if_neg hj]
      by_cases e : j = i
      · subst e
        rw [if_pos (List.mem_cons_self ..)]
        simp [Array.getD, hi]
      · rw [if_neg (by simp [e, hj]), getD_set_ne d (Ne.symm e)]
theorem foldl_size : ∀ (l : List Nat) (listed : Array Bool), (l.foldl (fun x i => x.setIfInBounds i true) listed).size = listed.size
  | [], _ => rfl
  | i :: l, listed => by rw [List.foldl_cons, foldl_size l]; simp
theorem wpAnyF_rooms {l : List Nat} {listed0 : Array Bool} {a0 : Act} {w0 : World} {n : Nat} {Fc : Nat → Value → (Nat → Prop) → World → Prop} (hok : okRooms ops l listed0 = true) (R : Rooms P ops Q S l a0 Fc)
    (fin : ∀ vals B w', S w' → Left ops l Fc w0 vals B w' → wpAnyF P .any ops Q S F n (l.foldl (fun x i => x.setIfInBounds i true) listed0) (putE ops l (fun _ => true) vals a0) w') :
    ∀ (m : Nat) (listed : Array Bool) (ex : Nat → Bool) (vals : Nat → Value) (B : Nat → Nat → Prop) (w : World), (l.filter fun i => !ex i).length = m → Closed .any ops listed → listed.size = listed0.size →
      (∀ j d, listed.getD j d = if j ∈ l then (if ex j = true then true else listed0.getD j d) else listed0.getD j d) → S w → w0.heap.size ≤ w.heap.size →
      (∀ i ∈ l, ex i = true → (∀ j ∈ l, ex j = true → i ∉ depsAt .any ops j) → Fc i (vals i) (B i) w ∧ ∀ k, B i k → k < w.heap.size) →
      (∀ i i', i ∈ l → i' ∈ l → ex i = true → ex i' = true → (∀ j ∈ l, ex j = true → i ∉ depsAt .any ops j) → (∀ j ∈ l, ex j = true → i' ∉ depsAt .any ops j) → i ≠ i' → ∀ k, B i k → ¬ B i' k) →
      wpAnyF P .any ops Q S F (m + n) listed (putE ops l ex vals a0) w := by
  have hok' := hok
  simp only [okRooms, Bool.and_eq_true, decide_eq_true_eq] at hok'
  obtain ⟨⟨⟨hnd, h1⟩, h2⟩, h3⟩ := hok'
  have hin : ∀ i ∈ l, i < ops.size ∧ listed0.getD i true = false ∧ ∀ d ∈ depsAt .any ops i, d < i ∧ (listed0.getD d false = true ∨ d ∈ l) := fun i hi => by
    have := List.all_eq_true.1 h1 i hi
    simp only [Bool.and_eq_true, decide_eq_true_eq, Bool.not_eq_true'] at this
    exact ⟨this.1.1, this.1.2, fun d hd => by have := List.all_eq_true.1 this.2 d hd; simpa using this⟩
  have hone : ∀ i ∈ l, ∀ i' ∈ l, i ≠ i' → ∀ d ∈ l, d ∈ depsAt .any ops i → d ∉ depsAt .any ops i' := fun i hi i' hi' hne d hd hdi => by
    have := List.all_eq_true.1 (List.all_eq_true.1 h2 i hi) i' hi'
    simp only [Bool.or_eq_true, beq_iff_eq] at this
    rcases this with h | h
    · exact absurd h hne
    · have := List.all_eq_true.1 h d hdi
      simpa [hd] using this
  have hout : ∀ j, j < ops.size → listed0.getD j true = false → j ∉ l → ∀ i ∈ l, i ∈ depsAt .any ops j := fun j hj hl hn i hi => by
    have := List.all_eq_true.1 h3 j (List.mem_range.2 hj)
    simp only [Bool.or_eq_true] at this
    rcases this with (h | h) | h
    · rw [hl] at h; cases h
    · exact absurd (by simpa using h) hn
    · simpa using List.all_eq_true.1 h i hi
  have hln : l.Nodup := by
    have := List.pairwise_map.1 hnd
    exact this.imp (fun h e => h (by rw [e]))
  intro m
  induction m with
  | zero =>
    intro listed ex vals B w hm hcl hsz hlst hS hw hF hB
    have hall : ∀ i ∈ l, ex i = true := fun i hi => by
      cases he : ex i with
      | true => rfl
      | false => have : i ∈ l.filter (fun i => !ex i) := List.mem_filter.2 ⟨hi, by simp [he]⟩
                 rw [List.length_eq_zero_iff.1 hm] at this; cases this
    have e1 : listed = l.foldl (fun x i => x.setIfInBounds i true) listed0 := by
      apply Array.ext
      · rw [foldl_size, hsz]
      · intro j hj hj'
        have hd : ∀ (A : Array Bool) (h : j < A.size), A[j] = A.getD j false := fun A h => by simp [Array.getD, h]
        rw [hd _ hj, hd _ hj', hlst j false]
        have hb : ∀ i ∈ l, i < listed0.size := fun i hi => by
          have := (hin i hi).2.1
          by_cases hlt : i < listed0.size
          · exact hlt
          · simp [Array.getD, hlt] at this
        rw [foldl_getD l listed0 j false hb]
        by_cases hjl : j ∈ l
        · rw [if_pos hjl, if_pos (hall j hjl), if_pos hjl]
        · rw [if_neg hjl, if_neg hjl]
    have e2 : putE ops l ex vals a0 = putE ops l (fun _ => true) vals a0 := putE_congr ops l a0 (fun i hi => ⟨hall i hi, fun _ => rfl⟩)
    rw [e1, e2, Nat.zero_add]
    exact fin vals B w hS ⟨hw, fun i hi hn => hF i hi (hall i hi) (fun j hj _ => hn j hj), fun i i' hi hi' hn hn' => hB i i' hi hi' (hall i hi) (hall i' hi') (fun j hj _ => hn j hj) (fun j hj _ => hn' j hj)⟩
  | succ m ih =>
    intro listed ex vals B w hm hcl hsz hlst hS hw hF hB
    rw [show m + 1 + n = (m + n) + 1 by omega]
    have hex : ∃ i, i ∈ l ∧ ex i = false := by
      cases hf : l.filter (fun i => !ex i) with
      | nil => rw [hf] at hm; cases hm
      | cons i r =>
        have : i ∈ l.filter (fun i => !ex i) := by rw [hf]; exact List.mem_cons_self ..
        exact ⟨i, (List.mem_filter.1 this).1, by simpa using (List.mem_filter.1 this).2⟩
    have hready : ∀ i ∈ Region.ready .any ops listed, i ∈ l ∧ ex i = false := fun i hi => by
      have hun := (mem_ready.1 hi).1
      obtain ⟨_, o, ho, _⟩ := mem_ready.1 hi
      have hlt : i < ops.size := (Array.getElem?_eq_some_iff.1 ho).1
      rw [hlst i true] at hun
      by_cases hil : i ∈ l
      · rw [if_pos hil] at hun
        refine ⟨hil, ?_⟩
        cases he : ex i with
        | false => rfl
        | true => rw [he] at hun; simp at hun
      · rw [if_neg hil] at hun
        obtain ⟨j, hj, hje⟩ := hex
        have := Closed.ready_dep hi (hout i hlt hun hil j hj)
        rw [hlst j false, if_pos hj, hje] at this
        have h0 := getD_both (hin j hj).2.1
        simp [h0] at this
    refine ⟨fun h0 => ?_, fun i hi => ?_⟩
    · exfalso
      have key : ∀ (q : Nat) (i : Nat), i ≤ q → i ∈ l → ex i = false → ∃ i, i ∈ Region.ready .any ops listed := by
        intro q
        induction q with
        | zero =>
          intro i hq hi he
          obtain ⟨h4, h5, h6⟩ := hin i hi
          refine ⟨i, mem_ready.2 ⟨by rw [hlst i true, if_pos hi, he]; simpa using h5, ops[i], by simp [h4], fun e he2 hb => ?_⟩⟩
          have hd : e.on ∈ depsAt .any ops i := by
            unfold depsAt; rw [Array.getElem?_eq_getElem h4]
            exact List.mem_map.2 ⟨e, List.mem_filter.2 ⟨Array.mem_toList_iff.2 he2, hb⟩, rfl⟩
          have := (h6 _ hd).1
          omega
        | succ q ihq =>
          intro i hq hi he
          obtain ⟨h4, h5, h6⟩ := hin i hi
          by_cases hx : ∃ d, d ∈ depsAt .any ops i ∧ d ∈ l ∧ ex d = false
          · obtain ⟨d, hd, hdl, hde⟩ := hx
            have := (h6 d hd).1
            exact ihq d (by omega) hdl hde
          · refine ⟨i, mem_ready.2 ⟨by rw [hlst i true, if_pos hi, he]; simpa using h5, ops[i], by simp [h4], fun e he2 hb => ?_⟩⟩
            have hd : e.on ∈ depsAt .any ops i := by
              unfold depsAt; rw [Array.getElem?_eq_getElem h4]
              exact List.mem_map.2 ⟨e, List.mem_filter.2 ⟨Array.mem_toList_iff.2 he2, hb⟩, rfl⟩
            rw [hlst e.on false]
            by_cases hl : e.on ∈ l
            · rw [if_pos hl]
              cases hee : ex e.on with
              | true => simp
              | false => exact absurd ⟨_, hd, hl, hee⟩ hx
            · rw [if_neg hl]
              rcases (h6 _ hd).2 with h7 | h7
              · exact h7
              · exact absurd h7 hl
      obtain ⟨i, hi, he⟩ := hex
      obtain ⟨j, hj⟩ := key i i (Nat.le_refl _) hi he
      rw [h0] at hj; cases hj
    · obtain ⟨hil, hie⟩ := hready i hi
      have hdx : ∀ d, d ∈ l → d ∈ depsAt .any ops i → ex d = true := fun d hd hdi => by
        have := Closed.ready_dep hi hdi
        rw [hlst d false, if_pos hd] at this
        cases he : ex d with
        | true => rfl
        | false =>
          rw [he] at this
          have h0 := getD_both (hin d hd).2.1
          simp [h0] at this
      have hdu : ∀ d, d ∈ l → d ∈ depsAt .any ops i → ∀ j ∈ l, ex j = true → d ∉ depsAt .any ops j := fun d hd hdi j hj hje =>
        hone i hil j hj (fun e => by rw [e, hje] at hie; cases hie) d hd hdi
      have hst := R.step i hil vals B w (putE ops l ex vals a0) hS (fun d hd hdi => hF d hd (hdx d hd hdi) (hdu d hd hdi))
        (fun d d' hd hd' hdi hdi' hne => hB d d' hd hd' (hdx d hd hdi) (hdx d' hd' hdi') (hdu d hd hdi) (hdu d' hd' hdi') hne)
        (fun t ht => putE_other ops ex vals t l a0 ht)
        (fun d hd hdi t hdt htl => putE_at ops ex vals d t l a0 hnd hd (hdx d hd hdi) hdt htl)
      refine wpOp_mono (fun a'' w'' hx => ?_) hst
      obtain ⟨v, B', rfl, hS', hsz', hFi, hBi, hkeep⟩ := hx
      refine ⟨fun _ => hS', ?_⟩
      rw [putE_set ops ex vals i v l a0 hnd hil hie]
      have hexi : ∀ j, upd ex i true j = true → j ≠ i → ex j = true := fun j h hne => by rwa [upd_ne _ _ hne] at h
      refine ih (listed.setIfInBounds i true) (upd ex i true) (upd vals i v) (upd B i B') w'' ?_ (hcl.set hi) (by simp [hsz]) (fun j d => ?_) hS' (Nat.le_trans hw hsz') (fun j hj hje hjn => ?_) (fun j j' hj hj' hje hje' hjn hjn' hne => ?_)
      · have hcnt : ∀ (l : List Nat), l.Nodup → i ∈ l → (l.filter fun j => !(upd ex i true j)).length + 1 = (l.filter fun j => !ex j).length := by
          intro l
          induction l with
          | nil => intro _ h; cases h
          | cons x l ihl =>
            intro hnl hx
            rw [List.nodup_cons] at hnl
            by_cases hxi : x = i
            · subst hxi
              have : (l.filter fun j => !(upd ex x true j)) = l.filter fun j => !ex j := List.filter_congr (fun j hj => by rw [upd_ne _ _ (fun e => hnl.1 (by rw [← e]; exact hj))])
              rw [List.filter_cons, List.filter_cons, upd_same, hie, this]; simp
            · have hxl : i ∈ l := by
                rcases List.mem_cons.1 hx with h | h
                · exact absurd h.symm hxi
                · exact h
              have := ihl hnl.2 hxl
              rw [List.filter_cons, List.filter_cons, upd_ne _ _ hxi]
              split
              · simp only [List.length_cons]; omega
              · exact this
        have := hcnt l hln hil
        omega
      · by_cases hji : j = i
        · subst hji
          rw [if_pos hil, upd_same, if_pos rfl]
          have hlt : j < listed.size := by
            have := (hin j hil).1
            rw [hcl.size]; exact this
          simp [Array.getD, hlt]
        · rw [getD_set_ne d (Ne.symm hji), hlst j d, upd_ne _ _ hji]
      · by_cases hji : j = i
        · subst hji
          rw [upd_same, upd_same]
          exact ⟨hFi, fun k hk => (hBi k hk).1⟩
        · rw [upd_ne _ _ hji, upd_ne _ _ hji]
          have hjx := hexi j hje hji
          have hjd : j ∉ depsAt .any ops i := hjn i hil (upd_same _ _ _)
          have hju : ∀ j' ∈ l, ex j' = true → j ∉ depsAt .any ops j' := fun j' hj' he => hjn j' hj' (by
            by_cases e : j' = i
            · rw [e, upd_same]
            · rw [upd_ne _ _ e]; exact he)
          obtain ⟨hf, hb⟩ := hF j hj hjx hju
          refine ⟨R.stable j _ _ w w'' hf hS' hsz' (fun k hk => hkeep k (hb k hk) (fun d hd hdi hbd => hB j d hj hd hjx (hdx d hd hdi) hju (hdu d hd hdi) (fun e => hjd (e ▸ hdi)) k hk hbd)), fun k hk => Nat.lt_of_lt_of_le (hb k hk) hsz'⟩
      · have hold : ∀ j, j ∈ l → upd ex i true j = true → (∀ q ∈ l, upd ex i true q = true → j ∉ depsAt .any ops q) → j ≠ i → ex j = true ∧ (∀ q ∈ l, ex q = true → j ∉ depsAt .any ops q) ∧ j ∉ depsAt .any ops i := fun j hj hje hjn hji =>
          ⟨hexi j hje hji, fun q hq he => hjn q hq (by
            by_cases e : q = i
            · rw [e, upd_same]
            · rw [upd_ne _ _ e]; exact he), hjn i hil (upd_same _ _ _)⟩
        have hnew : ∀ j, j ∈ l → upd ex i true j = true → (∀ q ∈ l, upd ex i true q = true → j ∉ depsAt .any ops q) → j ≠ i → ∀ k, B' k → ¬ B j k := fun j hj hje hjn hji k hk hbj => by
          obtain ⟨h4, h5, h6⟩ := hold j hj hje hjn hji
          rcases (hBi k hk).2 with h7 | ⟨d, hd, hdi, hbd⟩
          · have := (hF j hj h4 h5).2 k hbj; omega
          · exact hB d j hd hj (hdx d hd hdi) h4 (hdu d hd hdi) h5 (fun e => h6 (e ▸ hdi)) k hbd hbj
        by_cases hji : j = i
        · subst hji
          intro k hk
          rw [upd_same] at hk
          rw [upd_ne _ _ (Ne.symm hne)]
          exact hnew j' hj' hje' hjn' (Ne.symm hne) k hk
        · intro k hk
          rw [upd_ne _ _ hji] at hk
          by_cases hji' : j' = i
          · subst hji'
            rw [upd_same]
            exact fun hk' => hnew j hj hje hjn hji k hk' hk
          · rw [upd_ne _ _ hji']
            obtain ⟨h4, h5, _⟩ := hold j hj hje hjn hji
            obtain ⟨h6, h7, _⟩ := hold j' hj' hje' hjn' hji'
            exact hB j j' hj hj' h4 h6 h5 h7 hne k hk
theorem wpAnyF_seq2 (hs : Region.noSelect ops = true) (hQ : ∀ o ∈ ops.toList, ∀ c a v w, Q (.panic c) (a.put o.dst v) w → Q (.panic c) a w) :
    ∀ (l : List Turn2) (listed : Array Bool) (a : Act) (w : World), Closed md ops listed → okSeq2 md ops F l listed = true → runSeq2 P ops Q S l a w → wpAnyF P md ops Q S F (many2 l) listed a w
  | [], listed, a, w, _, hk, h => ⟨by simpa [okSeq2] using hk, h⟩
  | .take i :: r, listed, a, w, inv, hk, h => by
    simp only [okSeq2, Bool.and_eq_true, Bool.not_eq_true'] at hk
    obtain ⟨o, v, ho, hy, hS, hr⟩ := h
    have hi : i ∈ Region.ready md ops listed := by simpa using hk.1.1.1.1
    exact wpAnyF_first ho (Region.noSelect_spec hs) (fun c a w => hQ o (Array.mem_toList_iff.2 (Array.mem_of_getElem? ho)) c a v w) hk.1.1.2 (many2 r) listed a w inv hk.1.2
      (Region.free_spec ho hk.1.1.1.2) hi hy hS (wpAnyF_seq2 hs hQ r _ _ _ (inv.set hi) hk.2 hr)
  | .op i :: r, listed, a, w, inv, hk, h => by
    simp only [okSeq2, Bool.and_eq_true, beq_iff_eq] at hk
    have hi : i ∈ Region.ready md ops listed := by rw [hk.1]; simp
    exact wpAnyF_one hk.1 (wpOp_mono (fun a' w' h' => ⟨h'.1, wpAnyF_seq2 hs hQ r _ _ _ (inv.set hi) hk.2 h'.2⟩) h)
  | .fin i :: r, listed, a, w, inv, hk, h => by
    simp only [okSeq2, Bool.and_eq_true, beq_iff_eq] at hk
    refine ⟨fun h0 => (by rw [hk.1.1] at h0; cases h0), fun j hj => ?_⟩
    have hji : j = i := by rw [hk.1.1] at hj; simpa using hj
    subst hji
    exact wpOp_mono (fun a' w' h' => ⟨fun hc => (by rw [hk.1.2] at hc; cases hc), wpAnyF_seq2 hs hQ r _ _ _ (inv.set hj) hk.2 h'⟩) h
  | .pair i j :: r, listed, a, w, inv, hk, h => by
    simp only [okSeq2, Bool.and_eq_true, beq_iff_eq, bne_iff_ne, ne_eq] at hk
    obtain ⟨⟨⟨⟨h1, hij⟩, h2⟩, h3⟩, h4⟩ := hk
    have hi : i ∈ Region.ready md ops listed := by rw [h1]; simp
    have hj : j ∈ Region.ready md ops listed := by rw [h1]; simp
    have hj2 : j ∈ Region.ready md ops (listed.setIfInBounds i true) := by rw [h2]; simp
    refine ⟨fun h0 => (by rw [h1] at h0; cases h0), fun k hk => ?_⟩
    have hk2 : k = i ∨ k = j := by rw [h1] at hk; simpa using hk
    rcases hk2 with rfl | rfl
    · exact wpOp_mono (fun a' w' h' => ⟨fun _ => h'.1, wpAnyF_one h2 (wpOp_mono (fun a' w' h' => ⟨h'.1, wpAnyF_seq2 hs hQ r _ _ _ ((inv.set hi).set hj2) h4 h'.2⟩) h'.2)⟩) h.1
    · refine wpOp_mono (fun a' w' h' => ⟨fun _ => h'.1, wpAnyF_one h3 (wpOp_mono (fun a' w' h' => ⟨h'.1, ?_⟩) h'.2)⟩) h.2
      rw [Array.setIfInBounds_comm _ _ (Ne.symm hij)]
      exact wpAnyF_seq2 hs hQ r _ _ _ ((inv.set hi).set hj2) h4 h'.2
  | .tri i k j :: r, listed, a, w, inv, hk, h => by
    simp only [okSeq2, Bool.and_eq_true, beq_iff_eq, bne_iff_ne, ne_eq] at hk
    obtain ⟨⟨⟨⟨⟨⟨⟨h1, hij⟩, hkj⟩, h2⟩, h3⟩, h4⟩, h5⟩, h6⟩ := hk
    have hi : i ∈ Region.ready md ops listed := by rw [h1]; simp
    have hk2 : k ∈ Region.ready md ops (listed.setIfInBounds i true) := by rw [h2]; simp
    have hj3 : j ∈ Region.ready md ops ((listed.setIfInBounds i true).setIfInBounds k true) := by rw [h4]; simp
    have inv3 := ((inv.set hi).set hk2).set hj3
    have e1 : ((listed.setIfInBounds i true).setIfInBounds j true).setIfInBounds k true = ((listed.setIfInBounds i true).setIfInBounds k true).setIfInBounds j true := Array.setIfInBounds_comm _ _ (Ne.symm hkj)
    have e2 : (listed.setIfInBounds j true).setIfInBounds i true = (listed.setIfInBounds i true).setIfInBounds j true := Array.setIfInBounds_comm _ _ (Ne.symm hij)
    refine ⟨fun h0 => (by rw [h1] at h0; cases h0), fun q hq => ?_⟩
    have hq2 : q = i ∨ q = j := by rw [h1] at hq; simpa using hq
    rcases hq2 with rfl | rfl
    · refine wpOp_mono (fun a' w' h' => ⟨fun _ => h'.1, ⟨fun h0 => (by rw [h2] at h0; cases h0), fun q2 hq2 => ?_⟩⟩) h.1
      have hq3 : q2 = k ∨ q2 = j := by rw [h2] at hq2; simpa using hq2
      rcases hq3 with rfl | rfl
      · exact wpOp_mono (fun a' w' h' => ⟨fun _ => h'.1, wpAnyF_one h4 (wpOp_mono (fun a' w' h' => ⟨h'.1, wpAnyF_seq2 hs hQ r _ _ _ inv3 h6 h'.2⟩) h'.2)⟩) h'.2.1
      · refine wpOp_mono (fun a' w' h' => ⟨fun _ => h'.1, wpAnyF_one h5 (wpOp_mono (fun a' w' h' => ⟨h'.1, ?_⟩) h'.2)⟩) h'.2.2
        rw [e1]
        exact wpAnyF_seq2 hs hQ r _ _ _ inv3 h6 h'.2
    · refine wpOp_mono (fun a' w' h' => ⟨fun _ => h'.1, wpAnyF_one h3 (wpOp_mono (fun a' w' h' => ⟨h'.1, ?_⟩) h'.2)⟩) h.2
      rw [e2]
      refine wpAnyF_one h5 (wpOp_mono (fun a' w' h' => ⟨h'.1, ?_⟩) h'.2)
      rw [e1]
      exact wpAnyF_seq2 hs hQ r _ _ _ inv3 h6 h'.2
  | .rooms l :: r, listed, a, w, inv, hk, h => by
    simp only [okSeq2, Bool.and_eq_true] at hk
    obtain ⟨⟨hmd, hok⟩, hr⟩ := hk
    have hmd : md = .any := by cases md <;> first | rfl | cases hmd
    obtain ⟨Fc, hR, hS, hfin⟩ := h
    have hgo : Closed md ops (l.foldl (fun x i => x.setIfInBounds i true) listed) → ∀ vals B w', S w' → Left ops l Fc w vals B w' → wpAnyF P md ops Q S F (many2 r) (l.foldl (fun x i => x.setIfInBounds i true) listed) (putE ops l (fun _ => true) vals a) w' :=
      fun hc vals B w' hS' hl => wpAnyF_seq2 hs hQ r _ _ _ hc hr (hfin vals B w' hS' hl)
    clear hfin
    subst hmd
    have hin : ∀ i ∈ l, listed.getD i true = false := fun i hi => by
      simp only [okRooms, Bool.and_eq_true] at hok
      have := List.all_eq_true.1 hok.1.1.2 i hi
      simp only [Bool.and_eq_true, Bool.not_eq_true'] at this
      exact this.1.2
    have hinv : Closed .any ops (l.foldl (fun x i => x.setIfInBounds i true) listed) := by
      have hok' := hok
      simp only [okRooms, Bool.and_eq_true] at hok'
      refine ⟨by rw [foldl_size, inv.size], fun j oj hj hl e he hb => ?_⟩
      have hbd : ∀ i ∈ l, i < listed.size := fun i hi => by
        have := List.all_eq_true.1 hok'.1.1.2 i hi
        simp only [Bool.and_eq_true, decide_eq_true_eq] at this
        rw [inv.size]; exact this.1.1
      rw [foldl_getD l listed _ _ hbd] at hl ⊢
      have hd : e.on ∈ depsAt .any ops j := by
        unfold depsAt; rw [hj]
        exact List.mem_map.2 ⟨e, List.mem_filter.2 ⟨Array.mem_toList_iff.2 he, hb⟩, rfl⟩
      by_cases hjl : j ∈ l
      · have := List.all_eq_true.1 hok'.1.1.2 j hjl
        simp only [Bool.and_eq_true, decide_eq_true_eq] at this
        have h2 := List.all_eq_true.1 this.2 e.on hd
        simp only [Bool.and_eq_true, decide_eq_true_eq, Bool.or_eq_true] at h2
        split
        · rfl
        · rename_i hn
          rcases h2.2 with h3 | h3
          · exact h3
          · exact absurd (by simpa using h3) hn
      · rw [if_neg hjl] at hl
        have := inv.closed j oj hj hl e he hb
        split
        · rfl
        · exact this
    have := wpAnyF_rooms (Fc := Fc) (n := many2 r) (w0 := w) hok hR (hgo hinv) l.length listed (fun _ => false) (fun _ => undef) (fun _ _ => False) w (by simp) inv rfl
      (fun j d => by simp) hS (Nat.le_refl _) (fun i hi he => by cases he) (fun i i' hi hi' he => by cases he)
    have e : putE ops l (fun _ => false) (fun _ => undef) a = a := by
      have : ∀ (l : List Nat) (a : Act), putE ops l (fun _ => false) (fun _ => undef) a = a := by
        intro l
        induction l with
        | nil => intro a; rfl
        | cons i l ih => intro a; rw [putE, if_neg (by simp)]; exact ih a
      exact this l a
    rw [e] at this
    rw [many2, Turn2.many, Nat.add_comm]
    exact this
theorem wp_region_seq2 {id : Nat} {a : Act} {w : World} (S : World → Prop) (F : List Nat) (l : List Turn2) (hm : P.follows .mixedOrders = true) (hs : Region.noSelect ops = true) (hl : many2 l = ops.size)
    (hk : okSeq2 .any ops F l (Array.replicate ops.size false) = true)
    (hQ : ∀ o ∈ ops.toList, ∀ c a v w, Q (.panic c) (a.put o.dst v) w → Q (.panic c) a w)
    (h : runSeq2 P ops Q S l a w.drew) : (Code.region id ops true).wp P Q a w :=
  wp_region_any hm (wpAny_of_F _ _ _ _ (hl ▸ wpAnyF_seq2 hs hQ l _ _ _ Closed.start hk h))
theorem runSeq2_nil {a : Act} {w : World} (h : Q .normal a w) : runSeq2 P ops Q S [] a w := h
theorem runSeq2_take {i : Nat} {o : Oper} {v : Value} {r : List Turn2} {a : Act} {w : World} (ho' : ops.toList[i]? = some o) (hw : Region.wanted o (yielded ops a.tmps) = true)
    (hy : ∀ w', S w' → (execOp a.eval o).run P w' = .ok (.value v) w') (hS : S w) (h : runSeq2 P ops Q S r (a.put o.dst v) w) : runSeq2 P ops Q S (.take i :: r) a w :=
  ⟨o, v, by simpa using ho', .inl ⟨hw, hy⟩, hS, h⟩
theorem runSeq2_skip {i : Nat} {o : Oper} {r : List Turn2} {a : Act} {w : World} (ho' : ops.toList[i]? = some o) (hw : Region.wanted o (yielded ops a.tmps) = false)
    (hS : S w) (h : runSeq2 P ops Q S r (a.put o.dst undef) w) : runSeq2 P ops Q S (.take i :: r) a w :=
  ⟨o, undef, by simpa using ho', .inr ⟨hw, rfl⟩, hS, h⟩
theorem wpOp_at {i : Nat} {o : Oper} {a : Act} {w : World} {R : Act → World → Prop} (ho' : ops.toList[i]? = some o) (hw : Region.wanted o (yielded ops a.tmps) = true)
    (h : ∀ K : Act → World → Prop, (∀ a' w', R a' w' → K a' w') → o.wp P a w K Q) : wpOp P ops Q i R a w := by
  have ho : ops[i]? = some o := by simpa using ho'
  unfold wpOp
  simp only [ho, hw, if_true]
  exact .inl (h _ fun a' w' hR => hR)
theorem runSeq2_op {i : Nat} {o : Oper} {r : List Turn2} {a : Act} {w : World} (ho' : ops.toList[i]? = some o) (hw : Region.wanted o (yielded ops a.tmps) = true)
    (h : ∀ K : Act → World → Prop, (∀ a' w', S w' → runSeq2 P ops Q S r a' w' → K a' w') → o.wp P a w K Q) : runSeq2 P ops Q S (.op i :: r) a w :=
  wpOp_at (R := fun a' w' => S w' ∧ runSeq2 P ops Q S r a' w') ho' hw fun K hK => h K fun a' w' hS hr => hK a' w' ⟨hS, hr⟩
theorem runSeq2_fin {i : Nat} {o : Oper} {r : List Turn2} {a : Act} {w : World} (ho' : ops.toList[i]? = some o) (hw : Region.wanted o (yielded ops a.tmps) = true)
    (h : ∀ K : Act → World → Prop, (∀ a' w', runSeq2 P ops Q S r a' w' → K a' w') → o.wp P a w K Q) : runSeq2 P ops Q S (.fin i :: r) a w :=
  wpOp_at (R := fun a' w' => runSeq2 P ops Q S r a' w') ho' hw h
theorem put_comm {a : Act} {i j : Nat} (h : i ≠ j) (x y : Value) : (a.put (some j) y).put (some i) x = (a.put (some i) x).put (some j) y := by
  simp only [Act.put]
  rw [Array.setIfInBounds_comm _ _ (Ne.symm h)]
theorem wanted_free {o : Oper} (hg : o.guard = none) (ys : Nat → Option Bool) : Region.wanted o ys = true := by simp [Region.wanted, hg]
/-- Two rooms are made, in either order: what is gone on with knows that they are new, and not the same. -/
theorem runSeq2_two {i j di dj : Nat} {oi oj : Oper} {Zi Zj : Obj} {r : List Turn2} {a : Act} {w : World} (hoi : ops.toList[i]? = some oi) (hoj : ops.toList[j]? = some oj) (hgi : oi.guard = none) (hgj : oj.guard = none)
    (hi : ∀ (a : Act) (w : World) (K : Act → World → Prop), K (a.put (some di) (.pointer (some ⟨w.heap.size, 0, none⟩))) (w.alloc Zi) → oi.wp P a w K Q)
    (hj : ∀ (a : Act) (w : World) (K : Act → World → Prop), K (a.put (some dj) (.pointer (some ⟨w.heap.size, 0, none⟩))) (w.alloc Zj) → oj.wp P a w K Q)
    (hd : di ≠ dj) (hS : ∀ w', S w' → ∀ o, S (w'.alloc o)) (hs : S w)
    (h : ∀ bi bj w', S w' → bi ≠ bj → w.heap.size ≤ bi → w.heap.size ≤ bj → w'.heap[bi]? = some Zi → w'.heap[bj]? = some Zj →
      runSeq2 P ops Q S r ((a.put (some di) (.pointer (some ⟨bi, 0, none⟩))).put (some dj) (.pointer (some ⟨bj, 0, none⟩))) w') : runSeq2 P ops Q S (.pair i j :: r) a w := by
  have hsz : ∀ (w : World) (o : Obj), (w.alloc o).heap.size = w.heap.size + 1 := fun w o => Array.size_push _
  have hnew : ∀ (w : World) (o : Obj), (w.alloc o).heap[w.heap.size]? = some o := fun w o => by show (w.heap.push o)[_]? = _; rw [Array.getElem?_push_size]
  have hold : ∀ (w : World) (o o' : Obj), ((w.alloc o).alloc o').heap[w.heap.size]? = some o := fun w o o' => by
    show ((w.heap.push o).push o')[_]? = _
    rw [Array.getElem?_push, if_neg (by simp), Array.getElem?_push_size]
  refine ⟨wpOp_at hoi (wanted_free hgi _) fun K hK => hi _ _ _ (hK _ _ ⟨hS _ hs _, wpOp_at hoj (wanted_free hgj _) fun K hK => hj _ _ _ (hK _ _ ⟨hS _ (hS _ hs _) _, ?_⟩)⟩),
    wpOp_at hoj (wanted_free hgj _) fun K hK => hj _ _ _ (hK _ _ ⟨hS _ hs _, wpOp_at hoi (wanted_free hgi _) fun K hK => hi _ _ _ (hK _ _ ⟨hS _ (hS _ hs _) _, ?_⟩)⟩)⟩
  · have := hsz w Zi
    exact h _ _ _ (hS _ (hS _ hs _) _) (by omega) (Nat.le_refl _) (by omega) (hold _ _ _) (hnew _ _)
  · have := hsz w Zj
    rw [put_comm hd]
    exact h _ _ _ (hS _ (hS _ hs _) _) (by omega) (by omega) (Nat.le_refl _) (hnew _ _) (hold _ _ _)
/-- Two in either order, each with a value: what is gone on with knows both. -/
theorem runSeq2_pairM {i j di dj : Nat} {r : List Turn2} {a : Act} {w : World} (N : Value → Value → World → Prop) (hd : di ≠ dj)
    (h1 : wpOp P ops Q i (fun a1 w1 => ∃ v, a1 = a.put (some di) v ∧ S w1 ∧ wpOp P ops Q j (fun a2 w2 => ∃ u, a2 = a1.put (some dj) u ∧ S w2 ∧ N v u w2) a1 w1) a w)
    (h2 : wpOp P ops Q j (fun a1 w1 => ∃ u, a1 = a.put (some dj) u ∧ S w1 ∧ wpOp P ops Q i (fun a2 w2 => ∃ v, a2 = a1.put (some di) v ∧ S w2 ∧ N v u w2) a1 w1) a w)
    (h : ∀ v u w', S w' → N v u w' → runSeq2 P ops Q S r ((a.put (some di) v).put (some dj) u) w') : runSeq2 P ops Q S (.pair i j :: r) a w := by
  refine ⟨wpOp_mono (fun a1 w1 x => ?_) h1, wpOp_mono (fun a1 w1 x => ?_) h2⟩
  · obtain ⟨v, rfl, hs, hx⟩ := x
    refine ⟨hs, wpOp_mono (fun a2 w2 y => ?_) hx⟩
    obtain ⟨u, rfl, hs2, hn⟩ := y
    exact ⟨hs2, h v u w2 hs2 hn⟩
  · obtain ⟨u, rfl, hs, hx⟩ := x
    refine ⟨hs, wpOp_mono (fun a2 w2 y => ?_) hx⟩
    obtain ⟨v, rfl, hs2, hn⟩ := y
    rw [put_comm hd]
    exact ⟨hs2, h v u w2 hs2 hn⟩
end
end Go.Hay

set_option linter.unusedVariables false
set_option linter.unusedSimpArgs false
namespace Go.Hay
open Go.RowKit Go.Proofs.YtnhipdniceoigaaW.PrintWords Go.Proofs.YtnhipdniceoigaaW.PrintLast Go.Proofs.YtnhipdniceoigaaW.PrintMore
/-- Rows of numbers hang on their own block alone. -/
theorem nums_flat {k : IntKind} {e base : Nat} {w w1 : World} {ok ok' : Nat → Prop} {v : Value} {xs : List Int} (h : (Kd.int k).R e w base ok v xs) (ho : ∀ b, v.ownBlock = some b → ok' b) (hag : ∀ b, v.ownBlock = some b → w1.heap[b]? = w.heap[b]?) : (Kd.int k).R e w1 base ok' v xs := by
  obtain ⟨_, inner, ⟨h1, h2⟩, h3, h4⟩ := h
  refine ⟨ho, inner, ⟨h1, ?_⟩, h3, fun j p hj => h4 j p hj⟩
  rcases h2 with h2 | ⟨g, cap, cur, rfl, q2, q3, q4⟩
  · exact .inl h2
  · exact .inr ⟨g, cap, cur, rfl, q2, (hag g rfl).trans q3, q4⟩
theorem nums_own {k : IntKind} {e base : Nat} {w : World} {ok : Nat → Prop} {v : Value} {xs : List Int} (h : (Kd.int k).R e w base ok v xs) : ∀ b, v.ownBlock = some b → ok b ∧ base ≤ b ∧ b < w.heap.size :=
  fun b hb => ⟨h.1 b hb, Go.Proofs.YtnhipdniceoigaaW.PrintWords.Kd.R_base h b hb, Go.Proofs.YtnhipdniceoigaaW.PrintWords.Kd.R_lt h b hb⟩
section
variable {P : Program} {ops : Array Oper} {Q : Exit → Act → World → Prop} {S : World → Prop}
theorem Left.ne {l : List Nat} {F : Nat → Value → (Nat → Prop) → World → Prop} {w0 w : World} {vals : Nat → Value} {B : Nat → Nat → Prop} (h : Left ops l F w0 vals B w) (i i' : Nat) (hb : (l.contains i && l.all fun j => !((depsAt .any ops j).contains i)) = true) (hb' : (l.contains i' && l.all fun j => !((depsAt .any ops j).contains i')) = true) (hne : i ≠ i') :
    ∀ k, B i k → ¬ B i' k := by
  simp only [Bool.and_eq_true] at hb hb'
  exact h.apart i i' (by simpa using hb.1) (by simpa using hb'.1) (fun j hj => by simpa using List.all_eq_true.1 hb.2 j hj) (fun j hj => by simpa using List.all_eq_true.1 hb'.2 j hj) hne
end
end Go.Hay

set_option linter.unusedVariables false
set_option linter.unusedSimpArgs false
namespace Go.Proofs.Ytnhipdniceoigaa.H
open Go.RowKit Go.Hay Go.Proofs.YtnhipdniceoigaaW.PrintWords Go.Proofs.YtnhipdniceoigaaW.PrintLast Go.Proofs.YtnhipdniceoigaaW.PrintMore
/-- rows whose elements lead nowhere. -/
theorem R_flat {α : Type} {d : Kd α} (hf : ∀ {w w1 : World} {base : Nat} {ok ok' : Nat → Prop} {x : α} {cs : List Value}, d.M w base ok x cs → d.M w1 base ok' x cs) {e base : Nat} {w w1 : World} {ok ok' : Nat → Prop} {v : Value} {xs : List α} (h : d.R e w base ok v xs) (ho : ∀ b, v.ownBlock = some b → ok' b) (hag : ∀ b, v.ownBlock = some b → w1.heap[b]? = w.heap[b]?) : d.R e w1 base ok' v xs := by
  obtain ⟨_, inner, ⟨h1, h2⟩, h3, h4⟩ := h
  refine ⟨ho, inner, ⟨h1, ?_⟩, h3, fun j p hj => hf (h4 j p hj)⟩
  rcases h2 with h2 | ⟨g, cap, cur, rfl, q2, q3, q4⟩
  · exact .inl h2
  · exact .inr ⟨g, cap, cur, rfl, q2, (hag g rfl).trans q3, q4⟩
theorem R_own {α : Type} {d : Kd α} {e base : Nat} {w : World} {ok : Nat → Prop} {v : Value} {xs : List α} (h : d.R e w base ok v xs) : ∀ b, v.ownBlock = some b → ok b ∧ base ≤ b ∧ b < w.heap.size :=
  fun b hb => ⟨h.1 b hb, Kd.R_base h b hb, Kd.R_lt h b hb⟩
/-- a path's row: written once. -/
def PathAt (w : World) (A : Option Addr) (path : List Int) : Prop :=
  (path = [] ∧ A = none) ∨ ∃ q cs, A = some ⟨q, 0, none⟩ ∧ w.heap[q]? = some (.cells cs 3 (0, 0)) ∧ cs.toList.take path.length = path.map (Value.int .i64)
theorem PathAt.nil (w : World) : PathAt w none [] := .inl ⟨rfl, rfl⟩
theorem PathAt.keep {w w1 : World} {A : Option Addr} {path : List Int} {S : Nat → Prop} (h : PathAt w A path) (hk : Keep S w w1) (hS : ∀ q cs, w.heap[q]? = some (.cells cs 3 (0, 0)) → ¬ S q) : PathAt w1 A path := by
  rcases h with h | ⟨q, cs, h1, h2, h3⟩
  · exact .inl h
  · exact .inr ⟨q, cs, h1, hk.blk h2 (hS q cs h2), h3⟩
theorem PathAt.below {w w1 : World} {A : Option Addr} {path : List Int} (h : PathAt w A path) (hb : Below w.heap.size w w1) : PathAt w1 A path :=
  h.keep (Keep.of_below hb (fun _ => False)) (fun _ _ _ => id)
theorem PathAt.C {w : World} {A : Option Addr} {path : List Int} (h : PathAt w A path) (hl : path.length ≤ 1000) : (Kd.int .i64).C w A path.length path := by
  rcases h with ⟨rfl, rfl⟩ | ⟨q, cs, rfl, h2, h3⟩
  · exact Kd.C_nil _ _
  · refine ⟨rfl, by omega, fun _ => ⟨_, rfl, fun j p hj => ⟨[.int .i64 p], rfl, rfl, fun i u hu => ?_⟩⟩⟩
    have hlt := (List.getElem?_eq_some_iff.1 hj).1
    match i, hu with
    | 0, hu =>
      cases hu
      rw [add_plain, blk_cell h2]
      have e : (cs.toList.take path.length)[j]? = some (.int .i64 p) := by rw [h3, List.getElem?_map, hj]; rfl
      rw [List.getElem?_take_of_lt hlt] at e
      have e2 : j * (Kd.int .i64).sz + 0 = j := Nat.mul_one j
      rw [e2]
      simpa using e
/-- an entry of the log. -/
structure Ent where
  A : Option Addr
  n : Nat
  c : Nat
  s : Int
def kEnt : Kd Ent := Kd.iso (Kd.pair (Kd.scalar (fun p : Option Addr × Nat × Nat => .slice p.1 p.2.1 p.2.2) (fun _ => rfl)) (Kd.int .i64)) (fun x : Ent => ((x.A, x.n, x.c), x.s))
theorem kEnt_open {w : World} {x : Ent} {cs : List Value} (h : kEnt.K w x cs) : cs = [.slice x.A x.n x.c, .int .i64 x.s] := by
  obtain ⟨_, _, rfl, rfl, rfl⟩ := h; rfl
theorem kEnt_openM {w : World} {base : Nat} {ok : Nat → Prop} {x : Ent} {cs : List Value} (h : kEnt.M w base ok x cs) : cs = [.slice x.A x.n x.c, .int .i64 x.s] := by
  obtain ⟨_, _, rfl, rfl, rfl⟩ := h; rfl
theorem kEnt_mkM (w : World) (base : Nat) (ok : Nat → Prop) (x : Ent) : kEnt.M w base ok x [.slice x.A x.n x.c, .int .i64 x.s] := ⟨_, _, rfl, rfl, rfl⟩
theorem kEnt_flat {w w1 : World} {base : Nat} {ok ok' : Nat → Prop} {x : Ent} {cs : List Value} (h : kEnt.M w base ok x cs) : kEnt.M w1 base ok' x cs := by rw [kEnt_openM h]; exact kEnt_mkM _ _ _ _
def kSt : Kd (Int × Int) := Kd.pair (Kd.int .i64) (Kd.int .i64)
theorem kSt_open {w : World} {x : Int × Int} {cs : List Value} (h : kSt.K w x cs) : cs = [.int .i64 x.1, .int .i64 x.2] := by
  obtain ⟨_, _, rfl, rfl, rfl⟩ := h; rfl
theorem kSt_openM {w : World} {base : Nat} {ok : Nat → Prop} {x : Int × Int} {cs : List Value} (h : kSt.M w base ok x cs) : cs = [.int .i64 x.1, .int .i64 x.2] := by
  obtain ⟨_, _, rfl, rfl, rfl⟩ := h; rfl
theorem kSt_mkM (w : World) (base : Nat) (ok : Nat → Prop) (x : Int × Int) : kSt.M w base ok x [.int .i64 x.1, .int .i64 x.2] := ⟨_, _, rfl, rfl, rfl⟩
theorem kSt_flat {w w1 : World} {base : Nat} {ok ok' : Nat → Prop} {x : Int × Int} {cs : List Value} (h : kSt.M w base ok x cs) : kSt.M w1 base ok' x cs := by rw [kSt_openM h]; exact kSt_mkM _ _ _ _
def EntsOk (w : World) (ents : List Ent) (log : List (List Int × Int)) : Prop :=
  ents.length = log.length ∧ ∀ j (h : j < ents.length) (h' : j < log.length), ents[j].s = log[j].2 ∧ ents[j].n = log[j].1.length ∧ ents[j].n ≤ ents[j].c ∧ log[j].1.length ≤ 1000 ∧ PathAt w ents[j].A log[j].1
structure EG (B wb : Nat) (Ap : Option Addr) (np cp : Nat) (budget depth : Int) (G : Gs) (ents : List Ent) (vt vl : Value) (w : World) : Prop where
  node : w.heap[wb]? = some (.cells #[.slice Ap np cp, .int .i64 budget, .int .i64 depth, .int .i64 G.left, .int .i64 0, .int .i64 0, vt, vl] 71 (0, 0))
  told : (Kd.int .i64).R 2 w B (fun _ => True) vt G.told
  log : kEnt.R 49 w B (fun _ => True) vl ents
  ok : EntsOk w ents G.log
  lo : B ≤ wb
def PG (wb : Nat) (vt vl : Value) (q : Nat) : Prop := q = wb ∨ vt.ownBlock = some q ∨ vl.ownBlock = some q
section
variable {B wb : Nat} {Ap : Option Addr} {np cp : Nat} {budget depth : Int} {G : Gs} {ents : List Ent} {vt vl : Value} {w w1 : World}
theorem EG.pB (h : EG B wb Ap np cp budget depth G ents vt vl w) : ∀ q, PG wb vt vl q → B ≤ q ∧ q < w.heap.size := by
  intro q hq
  rcases hq with rfl | hq | hq
  · exact ⟨h.lo, blk_lt h.node⟩
  · exact (nums_own h.told q hq).2
  · exact (R_own h.log q hq).2
/-- what is written bears other types than a path, a task, or what waits. -/
theorem EG.typed (h : EG B wb Ap np cp budget depth G ents vt vl w) : ∀ q, PG wb vt vl q → ∃ cs t, w.heap[q]? = some (.cells cs t (0, 0)) ∧ (t = 71 ∨ t = 2 ∨ t = 49) := by
  intro q hq
  rcases hq with rfl | hq | hq
  · exact ⟨_, _, h.node, .inl rfl⟩
  · obtain ⟨cs, h1⟩ := Kd.R_typed h.told q hq
    exact ⟨cs, _, h1, .inr (.inl rfl)⟩
  · obtain ⟨cs, h1⟩ := Kd.R_typed h.log q hq
    exact ⟨cs, _, h1, .inr (.inr rfl)⟩
theorem EG.not (h : EG B wb Ap np cp budget depth G ents vt vl w) {q t : Nat} {cs : Array Value} (hq : w.heap[q]? = some (.cells cs t (0, 0))) (ht : t ≠ 71 ∧ t ≠ 2 ∧ t ≠ 49) : ¬ PG wb vt vl q := by
  intro hp
  obtain ⟨cs', t', h1, h2⟩ := h.typed q hp
  rw [hq] at h1
  cases h1
  rcases h2 with e | e | e
  · exact ht.1 e
  · exact ht.2.1 e
  · exact ht.2.2 e
theorem EG.notPath (h : EG B wb Ap np cp budget depth G ents vt vl w) : ∀ q cs, w.heap[q]? = some (.cells cs 3 (0, 0)) → ¬ PG wb vt vl q := fun q cs hq => h.not hq (by decide)
theorem EntsOk.keep {w w1 : World} {ents : List Ent} {log : List (List Int × Int)} {S : Nat → Prop} (h : EntsOk w ents log) (hk : Keep S w w1) (hS : ∀ q cs, w.heap[q]? = some (.cells cs 3 (0, 0)) → ¬ S q) : EntsOk w1 ents log :=
  ⟨h.1, fun j h1 h2 => by obtain ⟨a, b, c, d, e⟩ := h.2 j h1 h2; exact ⟨a, b, c, d, e.keep hk hS⟩⟩
/-- where nothing of it is written, it stays. -/
theorem EG.keep {S : Nat → Prop} (h : EG B wb Ap np cp budget depth G ents vt vl w) (hk : Keep S w w1) (hS : ∀ q, PG wb vt vl q → ¬ S q) (hP : ∀ q cs, w.heap[q]? = some (.cells cs 3 (0, 0)) → ¬ S q) : EG B wb Ap np cp budget depth G ents vt vl w1 :=
  ⟨hk.blk h.node (hS wb (.inl rfl)), nums_flat h.told (fun _ _ => trivial) (fun q hq => hk.block q (nums_own h.told q hq).2.2 (hS q (.inr (.inl hq)))), R_flat kEnt_flat h.log (fun _ _ => trivial) (fun q hq => hk.block q (R_own h.log q hq).2.2 (hS q (.inr (.inr hq)))), h.ok.keep hk hP, h.lo⟩
theorem EG.below (h : EG B wb Ap np cp budget depth G ents vt vl w) (hb : Below w.heap.size w w1) : EG B wb Ap np cp budget depth G ents vt vl w1 :=
  h.keep (Keep.of_below hb (fun _ => False)) (fun _ _ => id) (fun _ _ _ => id)
theorem EG.ne1 (h : EG B wb Ap np cp budget depth G ents vt vl w) : ∀ q, vt.ownBlock = some q → q ≠ wb := by
  intro q hq e
  obtain ⟨cs, h1⟩ := Kd.R_typed h.told q hq
  rw [e, h.node] at h1; cases h1
theorem EG.ne2 (h : EG B wb Ap np cp budget depth G ents vt vl w) : ∀ q, vl.ownBlock = some q → q ≠ wb := by
  intro q hq e
  obtain ⟨cs, h1⟩ := Kd.R_typed h.log q hq
  rw [e, h.node] at h1; cases h1
theorem EG.ne12 (h : EG B wb Ap np cp budget depth G ents vt vl w) : ∀ q, vt.ownBlock = some q → vl.ownBlock ≠ some q := by
  intro q hq e
  obtain ⟨cs, h1⟩ := Kd.R_typed h.told q hq
  obtain ⟨cs2, h2⟩ := Kd.R_typed h.log q e
  rw [h1] at h2; cases h2
/-- one instruction less. -/
theorem EG.setLeft (h : EG B wb Ap np cp budget depth G ents vt vl w) (n : Nat) (x : Int) (hx : x = n) : EG B wb Ap np cp budget depth { G with left := n } ents vt vl (w.setCell ⟨wb, 3, none⟩ (.int .i64 x)) := by
  subst hx
  have hs : ∀ q, q ≠ wb → (w.setCell ⟨wb, 3, none⟩ (.int .i64 n)).heap[q]? = w.heap[q]? := fun q hq => Below.heap_setCell w ⟨wb, 3, none⟩ _ q hq
  have hk : Keep (PG wb vt vl) w (w.setCell ⟨wb, 3, none⟩ (.int .i64 n)) := (Keep.refl _ _).set (.inr (.inl rfl)) _
  exact ⟨blk_set h.node 3 _, nums_flat h.told (fun _ _ => trivial) (fun q hq => hs q (h.ne1 q hq)), R_flat kEnt_flat h.log (fun _ _ => trivial) (fun q hq => hs q (h.ne2 q hq)), h.ok.keep hk h.notPath, h.lo⟩
theorem ent_at {e B g n cap : Nat} {ok : Nat → Prop} {W : World} {xs : List Ent} (h : kEnt.R e W B ok (.slice (some ⟨g, 0, none⟩) n cap) xs) {i : Nat} (hi : i < xs.length) : W.cell? ⟨g, i * 2, none⟩ = some (.slice xs[i].A xs[i].n xs[i].c) ∧ W.cell? ⟨g, i * 2 + 1, none⟩ = some (.int .i64 xs[i].s) ∧ W.frozen? ⟨g, i * 2, none⟩ = false ∧ W.frozen? ⟨g, i * 2 + 1, none⟩ = false := by
  have hq := Kd.R_reads' h
  obtain ⟨ad, e1, hc⟩ := hq.2.2.2.2 (by omega)
  cases e1
  obtain ⟨cs, h1, h2, h3⟩ := hc i _ (List.getElem?_eq_getElem hi)
  obtain rfl := kEnt_open h2
  have q0 := h3 0 _ rfl
  have q1 := h3 1 _ rfl
  rw [add_plain] at q0 q1
  obtain ⟨g', cp, hv, _, _, C, hC⟩ := Kd.R_form h (by omega)
  injection hv with hA _ _
  cases hA
  exact ⟨q0, q1, blk_frozen hC _, blk_frozen hC _⟩
theorem ent_set {e B g n cap : Nat} {ok : Nat → Prop} {W : World} {xs : List Ent} (h : kEnt.R e W B ok (.slice (some ⟨g, 0, none⟩) n cap) xs) {i : Nat} (hi : i < xs.length) (s : Int) :
    kEnt.R e (W.setCell ⟨g, i * 2 + 1, none⟩ (.int .i64 s)) B ok (.slice (some ⟨g, 0, none⟩) n cap) (xs.set i { xs[i] with s := s }) := by
  have hq := ent_at h hi
  have hn := (Kd.R_reads' h).1
  have := (Kd.R_seg h (i : Int) (by omega) (by omega) (c := [.slice xs[i].A xs[i].n xs[i].c, .int .i64 xs[i].s]) (seg := [.int .i64 s]) (j := 1) rfl (fun j u hj => by
    rw [Int.toNat_natCast]
    match j, hj with
    | 0, hj => cases hj; exact hq.1
    | 1, hj => cases hj; exact hq.2.1) (by show 1 + 1 ≤ 2; decide) (x' := { xs[i] with s := s }) (okp := fun _ => False) (kEnt_mkM _ _ _ { xs[i] with s := s }) (fun _ h => h.elim)).1
  rw [Int.toNat_natCast] at this
  exact this
/-- the log's row lies at the head of a block. -/
theorem EG.row (h : EG B wb Ap np cp budget depth G ents vt vl w) (hp : 0 < ents.length) : ∃ g c, vl = .slice (some ⟨g, 0, none⟩) ents.length c ∧ vl.ownBlock = some g := by
  obtain ⟨g, cp, hv, _⟩ := Kd.R_form h.log hp
  exact ⟨g, cp, hv, by rw [hv]; rfl⟩
theorem bump_len (log : List (List Int × Int)) (me : Nat) : (Proofs.Ytnhipdniceoigaa.H.bump log me).length = log.length := by unfold Proofs.Ytnhipdniceoigaa.H.bump; rw [List.length_set]
theorem bump_get {log : List (List Int × Int)} {me j : Nat} (hme : me < log.length) (hj : j < log.length) : (Proofs.Ytnhipdniceoigaa.H.bump log me)[j]'(by rw [bump_len]; exact hj) = if me = j then (log[me].1, log[me].2 + 1) else log[j] := by
  have hg : log.getD me ([], 0) = log[me] := by rw [List.getD_eq_getElem?_getD, List.getElem?_eq_getElem hme]; rfl
  have e : Proofs.Ytnhipdniceoigaa.H.bump log me = log.set me (log[me].1, log[me].2 + 1) := by unfold Proofs.Ytnhipdniceoigaa.H.bump; rw [hg]
  exact (List.getElem_of_eq e _).trans (List.getElem_set (by rw [List.length_set]; exact hj))
/-- an instruction is counted. -/
theorem EG.bump (h : EG B wb Ap np cp budget depth G ents vt vl w) {me g c : Nat} (hv : vl = .slice (some ⟨g, 0, none⟩) ents.length c) (hme : me < ents.length) (x : Int) (hx : x = (G.log.getD me ([], 0)).2 + 1) :
    ∃ ents', ents'.length = ents.length ∧ EG B wb Ap np cp budget depth { G with log := bump G.log me } ents' vt vl (w.setCell ⟨g, me * 2 + 1, none⟩ (.int .i64 x)) := by
  subst hv
  have hne : g ≠ wb := h.ne2 g rfl
  have hs : ∀ q, q ≠ g → (w.setCell ⟨g, me * 2 + 1, none⟩ (.int .i64 x)).heap[q]? = w.heap[q]? := fun q hq => Below.heap_setCell w ⟨g, me * 2 + 1, none⟩ _ q hq
  have hk : Keep (PG wb vt (.slice (some ⟨g, 0, none⟩) ents.length c)) w (w.setCell ⟨g, me * 2 + 1, none⟩ (.int .i64 x)) := (Keep.refl _ _).set (.inr (.inr (.inr rfl))) _
  have hle := h.ok.1
  have hme2 : me < G.log.length := by omega
  have hg : G.log.getD me ([], 0) = G.log[me] := by rw [List.getD_eq_getElem?_getD, List.getElem?_eq_getElem hme2]; rfl
  have hok : EntsOk (w.setCell ⟨g, me * 2 + 1, none⟩ (.int .i64 x)) (ents.set me { ents[me] with s := x }) (Proofs.Ytnhipdniceoigaa.H.bump G.log me) := by
    refine ⟨by rw [List.length_set, bump_len]; exact hle, fun j h1 h2 => ?_⟩
    have h1' : j < ents.length := by rwa [List.length_set] at h1
    have h2' : j < G.log.length := by rwa [bump_len] at h2
    obtain ⟨a, b, c1, d, e⟩ := h.ok.2 j h1' h2'
    have e' := e.keep hk h.notPath
    rw [bump_get hme2 h2', List.getElem_set]
    by_cases ej : me = j
    · subst ej
      rw [if_pos rfl, if_pos rfl]
      exact ⟨by rw [hx, hg], b, c1, d, e'⟩
    · rw [if_neg ej, if_neg ej]
      exact ⟨a, b, c1, d, e'⟩
  exact ⟨ents.set me { ents[me] with s := x }, List.length_set .., ⟨(hs wb (Ne.symm hne)).trans h.node, nums_flat h.told (fun _ _ => trivial) (fun q hq => hs q (fun e => h.ne12 q hq (by rw [e]; rfl))), ent_set h.log hme x, hok, h.lo⟩⟩
/-- a number more is told. -/
theorem EG.tell (h : EG B wb Ap np cp budget depth G ents vt vl w) {W w9 : World} {y : Int} {v9 : Value} (hW : Below w.heap.size w W) (hR : (Kd.int .i64).R 2 w9 B (fun _ => True) v9 (G.told ++ [y])) (hg : W.grownBy w9 vt.ownBlock) (hat : v9.ownBlock = vt.ownBlock ∨ ∃ q, v9.ownBlock = some q ∧ W.heap.size ≤ q) :
    EG B wb Ap np cp budget depth { G with told := G.told ++ [y] } ents v9 vl (w9.setCell ⟨wb, 6, none⟩ v9) ∧ Keep (PG wb vt vl) w (w9.setCell ⟨wb, 6, none⟩ v9) ∧ (∀ q, PG wb v9 vl q → PG wb vt vl q ∨ w.heap.size ≤ q) ∧ w9.heap[wb]? = w.heap[wb]? := by
  have hwb := blk_lt h.node
  have hk9 : Keep (PG wb vt vl) w w9 := (Keep.of_below hW _).trans ((Keep.grown hg).mono (fun k hk h2 => .inr (.inl h2.symm)))
  have hk : Keep (PG wb vt vl) w (w9.setCell ⟨wb, 6, none⟩ v9) := hk9.set (.inr (.inl rfl)) _
  have e1 : w9.heap[wb]? = w.heap[wb]? := (hg.block wb (Nat.lt_of_lt_of_le hwb hW.size) (fun e => h.ne1 wb e.symm rfl)).trans (hW.block wb hwb)
  have hs : ∀ q, q ≠ wb → (w9.setCell ⟨wb, 6, none⟩ v9).heap[q]? = w9.heap[q]? := fun q hq => Below.heap_setCell w9 ⟨wb, 6, none⟩ _ q hq
  have h9 : ∀ q, v9.ownBlock = some q → q ≠ wb ∧ (vt.ownBlock = some q ∨ w.heap.size ≤ q) := by
    intro q hq
    rcases hat with e | ⟨q', e, hq'⟩
    · rw [e] at hq; exact ⟨h.ne1 q hq, .inl hq⟩
    · rw [e] at hq; cases hq
      have := hW.size
      exact ⟨by omega, .inr (by omega)⟩
  refine ⟨⟨blk_set (e1.trans h.node) 6 v9, nums_flat hR (fun _ _ => trivial) (fun q hq => hs q (h9 q hq).1), R_flat kEnt_flat h.log (fun _ _ => trivial) (fun q hq => (hs q (h.ne2 q hq)).trans ((hg.block q (Nat.lt_of_lt_of_le (R_own h.log q hq).2.2 hW.size) (fun e => h.ne12 q e.symm hq)).trans (hW.block q (R_own h.log q hq).2.2))), h.ok.keep hk h.notPath, h.lo⟩, hk, fun q hq => ?_, e1⟩
  rcases hq with rfl | hq | hq
  · exact .inl (.inl rfl)
  · rcases (h9 q hq).2 with e | e
    · exact .inl (.inr (.inl e))
    · exact .inr e
  · exact .inl (.inr (.inr hq))
/-- a task more is noted. -/
theorem EG.note (h : EG B wb Ap np cp budget depth G ents vt vl w) {W w9 : World} {y : Ent} {path : List Int} {v9 : Value} (hW : Below w.heap.size w W) (hR : kEnt.R 49 w9 B (fun _ => True) v9 (ents ++ [y])) (hy : y.s = 0 ∧ y.n = path.length ∧ y.n ≤ y.c ∧ path.length ≤ 1000 ∧ PathAt w y.A path) (hg : W.grownBy w9 vl.ownBlock) (hat : v9.ownBlock = vl.ownBlock ∨ ∃ q, v9.ownBlock = some q ∧ W.heap.size ≤ q) :
    EG B wb Ap np cp budget depth { G with log := G.log ++ [(path, 0)] } (ents ++ [y]) vt v9 (w9.setCell ⟨wb, 7, none⟩ v9) ∧ Keep (PG wb vt vl) w (w9.setCell ⟨wb, 7, none⟩ v9) ∧ (∀ q, PG wb vt v9 q → PG wb vt vl q ∨ w.heap.size ≤ q) ∧ w9.heap[wb]? = w.heap[wb]? := by
  have hwb := blk_lt h.node
  have hk9 : Keep (PG wb vt vl) w w9 := (Keep.of_below hW _).trans ((Keep.grown hg).mono (fun k hk h2 => .inr (.inr h2.symm)))
  have hk : Keep (PG wb vt vl) w (w9.setCell ⟨wb, 7, none⟩ v9) := hk9.set (.inr (.inl rfl)) _
  have e1 : w9.heap[wb]? = w.heap[wb]? := (hg.block wb (Nat.lt_of_lt_of_le hwb hW.size) (fun e => h.ne2 wb e.symm rfl)).trans (hW.block wb hwb)
  have hs : ∀ q, q ≠ wb → (w9.setCell ⟨wb, 7, none⟩ v9).heap[q]? = w9.heap[q]? := fun q hq => Below.heap_setCell w9 ⟨wb, 7, none⟩ _ q hq
  have h9 : ∀ q, v9.ownBlock = some q → q ≠ wb ∧ (vl.ownBlock = some q ∨ w.heap.size ≤ q) := by
    intro q hq
    rcases hat with e | ⟨q', e, hq'⟩
    · rw [e] at hq; exact ⟨h.ne2 q hq, .inl hq⟩
    · rw [e] at hq; cases hq
      have := hW.size
      exact ⟨by omega, .inr (by omega)⟩
  have hok := h.ok.keep hk h.notPath
  refine ⟨⟨blk_set (e1.trans h.node) 7 v9, nums_flat h.told (fun _ _ => trivial) (fun q hq => (hs q (h.ne1 q hq)).trans ((hg.block q (Nat.lt_of_lt_of_le (nums_own h.told q hq).2.2 hW.size) (fun e => h.ne12 q hq e.symm)).trans (hW.block q (nums_own h.told q hq).2.2))), R_flat kEnt_flat hR (fun _ _ => trivial) (fun q hq => hs q (h9 q hq).1), ⟨by simp [hok.1], fun j h1 h2 => ?_⟩, h.lo⟩, hk, fun q hq => ?_, e1⟩
  · by_cases hj : j < ents.length
    · rw [List.getElem_append_left hj, List.getElem_append_left (by rw [← hok.1]; exact hj)]
      exact hok.2 j hj _
    · have hj2 : j = ents.length := by simp at h1; omega
      subst hj2
      rw [List.getElem_append_right (Nat.le_refl _), List.getElem_append_right (by rw [← hok.1]; exact Nat.le_refl _)]
      simp only [Nat.sub_self, hok.1, List.getElem_singleton]
      exact ⟨hy.1, hy.2.1, hy.2.2.1, hy.2.2.2.1, hy.2.2.2.2.keep hk h.notPath⟩
  · rcases hq with rfl | hq | hq
    · exact .inl (.inl rfl)
    · exact .inl (.inr (.inl hq))
    · rcases (h9 q hq).2 with e | e
      · exact .inl (.inr (.inr e))
      · exact .inr e
end
/-! ### a task -/
def hcells (hs : List (Bool × Int)) : List Value := hs.flatMap fun h => [.bool h.1, .int .i64 h.2]
def tcells (wb : Nat) (vp : Value) (T : Ts) (vw : Value) (me : Nat) : List Value :=
  [.pointer (some ⟨wb, 0, none⟩), vp] ++ (T.regs.map (Value.int .i64) ++ (hcells T.hands ++ [vw, .int .i64 T.kids, .int .i64 T.at_, .int .i64 me]))
structure TB (tb wb : Nat) (vp : Value) (T : Ts) (vw : Value) (me B : Nat) (w : World) : Prop where
  node : w.heap[tb]? = some (.cells (tcells wb vp T vw me).toArray 97 (0, 0))
  wait : kSt.R 122 w B (fun _ => True) vw T.wait
  rl : T.regs.length = 8
  hl : T.hands.length = 4
def PT (tb : Nat) (vw : Value) (q : Nat) : Prop := q = tb ∨ vw.ownBlock = some q
theorem eight {α : Type} {l : List α} (h : l.length = 8) : ∃ a b c d e f g i, l = [a, b, c, d, e, f, g, i] := by
  match l, h with
  | [a, b, c, d, e, f, g, i], _ => exact ⟨a, b, c, d, e, f, g, i, rfl⟩
theorem four {α : Type} {l : List α} (h : l.length = 4) : ∃ a b c d, l = [a, b, c, d] := by
  match l, h with
  | [a, b, c, d], _ => exact ⟨a, b, c, d, rfl⟩
section
variable {tb wb me B : Nat} {vp vw : Value} {T : Ts} {w w1 : World}
theorem TB.cells (h : TB tb wb vp T vw me B w) : ∃ r0 r1 r2 r3 r4 r5 r6 r7 h0 h1 h2 h3, T.regs = [r0, r1, r2, r3, r4, r5, r6, r7] ∧ T.hands = [h0, h1, h2, h3] ∧
    (tcells wb vp T vw me).toArray = #[.pointer (some ⟨wb, 0, none⟩), vp, .int .i64 r0, .int .i64 r1, .int .i64 r2, .int .i64 r3, .int .i64 r4, .int .i64 r5, .int .i64 r6, .int .i64 r7, .bool h0.1, .int .i64 h0.2, .bool h1.1, .int .i64 h1.2, .bool h2.1, .int .i64 h2.2, .bool h3.1, .int .i64 h3.2, vw, .int .i64 T.kids, .int .i64 T.at_, .int .i64 me] := by
  obtain ⟨r0, r1, r2, r3, r4, r5, r6, r7, hr⟩ := eight h.rl
  obtain ⟨h0, h1, h2, h3, hh⟩ := four h.hl
  refine ⟨r0, r1, r2, r3, r4, r5, r6, r7, h0, h1, h2, h3, hr, hh, ?_⟩
  unfold tcells
  rw [hr, hh]
  rfl
theorem TB.frozen (h : TB tb wb vp T vw me B w) (i : Nat) : w.frozen? ⟨tb, i, none⟩ = false := blk_frozen h.node i
theorem TB.fix (h : TB tb wb vp T vw me B w) : w.cell? ⟨tb, 0, none⟩ = some (.pointer (some ⟨wb, 0, none⟩)) ∧ w.cell? ⟨tb, 1, none⟩ = some vp ∧ w.cell? ⟨tb, 18, none⟩ = some vw ∧ w.cell? ⟨tb, 19, none⟩ = some (.int .i64 T.kids) ∧ w.cell? ⟨tb, 20, none⟩ = some (.int .i64 T.at_) ∧ w.cell? ⟨tb, 21, none⟩ = some (.int .i64 me) := by
  obtain ⟨r0, r1, r2, r3, r4, r5, r6, r7, h0, h1, h2, h3, hr, hh, hc⟩ := h.cells
  have hn := h.node
  rw [hc] at hn
  exact ⟨blk_cell hn 0, blk_cell hn 1, blk_cell hn 18, blk_cell hn 19, blk_cell hn 20, blk_cell hn 21⟩
theorem TB.reg (h : TB tb wb vp T vw me B w) (i : Nat) (hi : i < 8) : w.cell? ⟨tb, 2 + i, none⟩ = some (.int .i64 (T.regs.getD i 0)) := by
  obtain ⟨r0, r1, r2, r3, r4, r5, r6, r7, h0, h1, h2, h3, hr, hh, hc⟩ := h.cells
  have hn := h.node
  rw [hc] at hn
  rw [hr]
  have : i = 0 ∨ i = 1 ∨ i = 2 ∨ i = 3 ∨ i = 4 ∨ i = 5 ∨ i = 6 ∨ i = 7 := by omega
  rcases this with rfl | rfl | rfl | rfl | rfl | rfl | rfl | rfl <;> exact blk_cell hn _
theorem TB.hand (h : TB tb wb vp T vw me B w) (i : Nat) (hi : i < 4) : w.cell? ⟨tb, 10 + i * 2, none⟩ = some (.bool (T.hands.getD i (false, 0)).1) ∧ w.cell? ⟨tb, 10 + i * 2 + 1, none⟩ = some (.int .i64 (T.hands.getD i (false, 0)).2) := by
  obtain ⟨r0, r1, r2, r3, r4, r5, r6, r7, h0, h1, h2, h3, hr, hh, hc⟩ := h.cells
  have hn := h.node
  rw [hc] at hn
  rw [hh]
  have : i = 0 ∨ i = 1 ∨ i = 2 ∨ i = 3 := by omega
  rcases this with rfl | rfl | rfl | rfl <;> exact ⟨blk_cell hn _, blk_cell hn _⟩
theorem TB.keep {S : Nat → Prop} (h : TB tb wb vp T vw me B w) (hk : Keep S w w1) (hS : ∀ q, PT tb vw q → ¬ S q) : TB tb wb vp T vw me B w1 :=
  ⟨hk.blk h.node (hS tb (.inl rfl)), R_flat kSt_flat h.wait (fun _ _ => trivial) (fun q hq => hk.block q (R_own h.wait q hq).2.2 (hS q (.inr hq))), h.rl, h.hl⟩
theorem TB.below (h : TB tb wb vp T vw me B w) (hb : Below w.heap.size w w1) : TB tb wb vp T vw me B w1 := h.keep (Keep.of_below hb (fun _ => False)) (fun _ _ => id)
theorem TB.lt (h : TB tb wb vp T vw me B w) : ∀ q, PT tb vw q → q < w.heap.size := by
  intro q hq
  rcases hq with rfl | hq
  · exact blk_lt h.node
  · exact (R_own h.wait q hq).2.2
theorem TB.typed (h : TB tb wb vp T vw me B w) : ∀ q, PT tb vw q → ∃ cs t, w.heap[q]? = some (.cells cs t (0, 0)) ∧ (t = 97 ∨ t = 122) := by
  intro q hq
  rcases hq with rfl | hq
  · exact ⟨_, _, h.node, .inl rfl⟩
  · obtain ⟨cs, h1⟩ := Kd.R_typed h.wait q hq
    exact ⟨cs, _, h1, .inr rfl⟩
theorem TB.notPath (h : TB tb wb vp T vw me B w) : ∀ q cs, w.heap[q]? = some (.cells cs 3 (0, 0)) → ¬ PT tb vw q := by
  intro q cs hq hp
  obtain ⟨cs', t, h1, h2⟩ := h.typed q hp
  rw [hq] at h1; cases h1
  rcases h2 with e | e <;> exact absurd e (by decide)
theorem TB.new (h : TB tb wb vp T vw me B w) : vw.ownBlock ≠ some tb := by
  intro e
  obtain ⟨cs, h1⟩ := Kd.R_typed h.wait tb e
  rw [h.node] at h1; cases h1
/-- the whole and the task are apart. -/
theorem apart {Ap : Option Addr} {np cp B' : Nat} {budget depth : Int} {G : Gs} {ents : List Ent} {vt vl : Value} (hg : EG B' wb Ap np cp budget depth G ents vt vl w) (h : TB tb wb vp T vw me B w) : ∀ q, PG wb vt vl q → ¬ PT tb vw q := by
  intro q hq hp
  obtain ⟨cs, t, h1, h2⟩ := h.typed q hp
  exact hg.not h1 (by rcases h2 with e | e <;> (subst e; decide)) hq
theorem TB.far (h : TB tb wb vp T vw me B w) (i : Nat) (v : Value) : kSt.R 122 (w.setCell ⟨tb, i, none⟩ v) B (fun _ => True) vw T.wait :=
  R_flat kSt_flat h.wait (fun _ _ => trivial) (fun q hq => Below.heap_setCell w ⟨tb, i, none⟩ v q (fun e => h.new (by rw [← show q = tb from e]; exact hq)))
theorem TB.setAt (h : TB tb wb vp T vw me B w) (x : Int) : TB tb wb vp { T with at_ := x } vw me B (w.setCell ⟨tb, 20, none⟩ (.int .i64 x)) := by
  obtain ⟨r0, r1, r2, r3, r4, r5, r6, r7, h0, h1, h2, h3, hr, hh, hc⟩ := h.cells
  refine ⟨?_, h.far 20 _, h.rl, h.hl⟩
  have := blk_set h.node 20 (.int .i64 x)
  rw [this, hc]
  unfold tcells
  simp only [hr, hh]
  rfl
theorem TB.setKids (h : TB tb wb vp T vw me B w) (n : Nat) (x : Int) (hx : x = n) : TB tb wb vp { T with kids := n } vw me B (w.setCell ⟨tb, 19, none⟩ (.int .i64 x)) := by
  subst hx
  obtain ⟨r0, r1, r2, r3, r4, r5, r6, r7, h0, h1, h2, h3, hr, hh, hc⟩ := h.cells
  refine ⟨?_, h.far 19 _, h.rl, h.hl⟩
  have := blk_set h.node 19 (.int .i64 n)
  rw [this, hc]
  unfold tcells
  simp only [hr, hh]
  rfl
theorem TB.setReg (h : TB tb wb vp T vw me B w) (i : Nat) (hi : i < 8) (x : Int) : TB tb wb vp { T with regs := T.regs.set i x } vw me B (w.setCell ⟨tb, 2 + i, none⟩ (.int .i64 x)) := by
  obtain ⟨r0, r1, r2, r3, r4, r5, r6, r7, h0, h1, h2, h3, hr, hh, hc⟩ := h.cells
  refine ⟨?_, h.far _ _, by rw [List.length_set]; exact h.rl, h.hl⟩
  have := blk_set h.node (2 + i) (.int .i64 x)
  rw [this, hc]
  unfold tcells
  simp only [hr, hh]
  have : i = 0 ∨ i = 1 ∨ i = 2 ∨ i = 3 ∨ i = 4 ∨ i = 5 ∨ i = 6 ∨ i = 7 := by omega
  rcases this with rfl | rfl | rfl | rfl | rfl | rfl | rfl | rfl <;> rfl
theorem TB.setHand (h : TB tb wb vp T vw me B w) (i : Nat) (hi : i < 4) (b : Bool) (x : Int) : TB tb wb vp { T with hands := T.hands.set i (b, x) } vw me B ((w.setCell ⟨tb, 10 + i * 2, none⟩ (.bool b)).setCell ⟨tb, 10 + i * 2 + 1, none⟩ (.int .i64 x)) := by
  obtain ⟨r0, r1, r2, r3, r4, r5, r6, r7, h0, h1, h2, h3, hr, hh, hc⟩ := h.cells
  have hf : kSt.R 122 ((w.setCell ⟨tb, 10 + i * 2, none⟩ (.bool b)).setCell ⟨tb, 10 + i * 2 + 1, none⟩ (.int .i64 x)) B (fun _ => True) vw T.wait :=
    R_flat kSt_flat h.wait (fun _ _ => trivial) (fun q hq => by
      have e : q ≠ tb := fun e => h.new (by rw [← e]; exact hq)
      exact (Below.heap_setCell _ ⟨tb, 10 + i * 2 + 1, none⟩ _ q e).trans (Below.heap_setCell w ⟨tb, 10 + i * 2, none⟩ _ q e))
  refine ⟨?_, hf, h.rl, by rw [List.length_set]; exact h.hl⟩
  have := blk_set (blk_set h.node (10 + i * 2) (.bool b)) (10 + i * 2 + 1) (.int .i64 x)
  rw [this, hc]
  unfold tcells
  simp only [hr, hh]
  have : i = 0 ∨ i = 1 ∨ i = 2 ∨ i = 3 := by omega
  rcases this with rfl | rfl | rfl | rfl <;> rfl
theorem TB.setWait (h : TB tb wb vp T vw me B w) {w9 : World} {xs : List (Int × Int)} {v9 : Value} (hn : w9.heap[tb]? = w.heap[tb]?) (hR : kSt.R 122 w9 B (fun _ => True) v9 xs) (hv : v9.ownBlock ≠ some tb) : TB tb wb vp { T with wait := xs } v9 me B (w9.setCell ⟨tb, 18, none⟩ v9) := by
  obtain ⟨r0, r1, r2, r3, r4, r5, r6, r7, h0, h1, h2, h3, hr, hh, hc⟩ := h.cells
  refine ⟨?_, R_flat kSt_flat hR (fun _ _ => trivial) (fun q hq => Below.heap_setCell w9 ⟨tb, 18, none⟩ _ q (fun e => hv (by rw [← show q = tb from e]; exact hq))), h.rl, h.hl⟩
  have := blk_set (hn.trans h.node) 18 v9
  rw [this, hc]
  unfold tcells
  simp only [hr, hh]
  rfl
end
end Go.Proofs.Ytnhipdniceoigaa.H

set_option linter.unusedVariables false
set_option linter.unusedSimpArgs false
namespace Go.Proofs.Ytnhipdniceoigaa.H
open Go.RowKit Go.Hay Go.Proofs.YtnhipdniceoigaaW.PrintWords Go.Proofs.YtnhipdniceoigaaW.PrintLast Go.Proofs.YtnhipdniceoigaaW.PrintMore
theorem panic_viaE {P : Program} {fn : Func} {R : Ending → World → Prop} {ops : Array Oper} {Q : Exit → Act → World → Prop} (hQ : ∀ c a w, Q (.panic c) a w = bodyPost P fn R (.panic c) a w) :
    ∀ o ∈ ops.toList, ∀ c a v w, Q (.panic c) (a.put o.dst v) w → Q (.panic c) a w := by
  intro o ho c a v w h
  rw [hQ] at h ⊢
  exact panic_put (P := P) (fn := fn) (R := R) o ho c a v w h
def xv (x : S55) : Value := .agg #[.int .i64 x.f0, .int .i64 x.f1, .int .i64 x.f2, .int .i64 x.f3, .int .i64 x.f4]
def failV (why : Int) : Value := .iface 73 (.agg #[.int .i64 why])
/-- the task goes on. -/
def GoP (tb wb : Nat) (vp : Value) (T' : Ts) (vw : Value) (me B : Nat) (w : World) (e : Ending) (w' : World) : Prop := e = .returned (.tuple #[]) ∧ TB tb wb vp T' vw me B w' ∧ Keep (fun q => q = tb) w w'
/-- the task fails. -/
def StopP (why : Int) (w : World) (e : Ending) (w' : World) : Prop := e = .panicked [{ v := failV why, recovered := false }] ∧ Below w.heap.size w w'
set_option maxRecDepth 100000 in
theorem fail_any (why : Int) (w : World) : Calls Try.prog 33 #[.int .i64 why] w fun e w' => e = .panicked [{ v := failV why, recovered := false }] ∧ Below w.heap.size w w' := by
  have hu := Try.underlying73
  go_enter Try.func33, Try.ntmps33
  go_wp2
  exact ⟨rfl, rfl, by first | exact Below.refl _ _ | exact (Below.refl _ _).alloc (Nat.le_refl _) _⟩
def truthV (b : Bool) : Int := if b = true then 1 else 0
set_option maxRecDepth 100000 in
theorem truth_any (b : Bool) (w : World) : Calls Try.prog 53 #[.bool b] w fun e w' => e = .returned (.int .i64 (truthV b)) ∧ w = w' := by
  cases b with
  | true =>
    go_enter Try.func53, Try.ntmps53
    go_wp2_with fail
    go_ret
    exact ⟨rfl, rfl⟩
  | false =>
    go_enter Try.func53, Try.ntmps53
    go_wp2_with fail
    go_ret
    exact ⟨rfl, rfl⟩
section
variable {tb wb me B : Nat} {vp vw : Value} {T : Ts} {w : World}
theorem TB.drewN {tb wb me B : Nat} {vp vw : Value} {T : Ts} {w : World} (h : TB tb wb vp T vw me B w) (n : Nat) : TB tb wb vp T vw me B (w.drewN n) := h.below (pw_below_drewN (Below.refl _ _) n)
theorem goP_reg {W : World} (h1 : TB tb wb vp T vw me B W) (hb1 : Below w.heap.size w W) (a : Nat) (ha : (a : Int) < 8) (y y' : Int) (hy : y = y') : GoP tb wb vp (setR T a y') vw me B w (.returned (.tuple #[])) (W.setCell ⟨tb, 2 + a, none⟩ (.int .i64 y)).drew := by
  subst hy
  exact ⟨rfl, (h1.setReg a (by omega) y).drewN 1, ((Keep.of_below hb1 (fun q => q = tb)).set (p := ⟨tb, 2 + a, none⟩) (.inr rfl) _).drew⟩
theorem wrap_i64 (x : Int) : IntKind.i64.wrap x = wrap64 x := IntWalk.i64_left x
set_option maxRecDepth 100000 in
set_option maxHeartbeats 4000000 in
theorem tset_any (h : TB tb wb vp T vw me B w) (x : S55) (ha : 0 ≤ x.f1 ∧ x.f1 < 8) : Calls Try.prog 38 #[.pointer (some ⟨tb, 0, none⟩), xv x] w (GoP tb wb vp (setR T x.f1 x.f4) vw me B w) := by
  obtain ⟨x0, x1, x2, x3, x4⟩ := x
  try simp only at *
  obtain ⟨a, rfl⟩ : ∃ a : Nat, x1 = a := ⟨x1.toNat, by omega⟩
  obtain ⟨W, hW⟩ : ∃ W, W = w.alloc (.cells #[.int .i64 x0, .int .i64 (a), .int .i64 (x2), .int .i64 (x3), .int .i64 x4] 55) := ⟨_, rfl⟩
  have hb1 : Below w.heap.size w W := by rw [hW]; exact (Below.refl w.heap.size w).alloc (Nat.le_refl _) _
  have hbx : W.heap[w.heap.size]? = some (.cells #[.int .i64 x0, .int .i64 (a), .int .i64 (x2), .int .i64 (x3), .int .i64 x4] 55 (0, 0)) := by rw [hW]; exact alloc_blk w _
  have h1 := h.below hb1
  have c0 := blk_cell hbx 0
  have c1 := blk_cell hbx 1
  have c2 := blk_cell hbx 2
  have c3 := blk_cell hbx 3
  have c4 := blk_cell hbx 4
  have t0 := h1.fix.1
  have H := Aside0.mk (And.intro h1 hb1)
  have HWW := Aside0.mk hW
  have ha8 : ((a : Int) < 8) = True := eq_true ha.2
  have z := h1.frozen (2 + a)
  have r := h1.reg a (by omega)
  have HA := Aside0.mk ha.2
  clear ha
  unfold xv
  clear h h1 hb1 hbx hW
  go_enter Try.func38, Try.ntmps38
  go_wp2_with fail
  rw [← HWW.out]
  refine wp_region_seq2 (fun w' => Drawn0 W w') [8] [.take 0, .take 1, .take 2, .take 3, .take 4, .take 5, .take 6, .take 7, .fin 8] (by kernel_rfl) (by kernel_rfl) rfl (by kernel_rfl) (panic_viaE (P := Try.prog) (fn := Try.f38) (R := GoP tb wb vp (setR T a x4) vw me B w) (fun _ _ _ => rfl)) ?_
  have hs : Drawn0 W W.drew := (Drawn0.refl W).step 1
  repeat (
    (first
      | (refine runSeq2_take (v := ?_) (by rfl) (by rfl) (fun w' hS => ?_) hs ?_
         rotate_left
         · (obtain ⟨n, rfl⟩ := hS; go_simp; exact rfl))
      | refine runSeq2_skip (by rfl) (by rfl) hs ?_)
    (try simp only [Act.put, List.setIfInBounds_toArray, List.set_cons_zero, List.set_cons_succ]))
  refine runSeq2_fin (by rfl) (by rfl) (fun K hK => ?_)
  go_simp
  refine hK _ _ ?_
  refine runSeq2_nil ?_
  clear hK K hs
  go_wp2_with fail
  go_end0
  exact goP_reg H.out.1 H.out.2 a HA.out _ _ rfl
set_option maxRecDepth 100000 in
set_option maxHeartbeats 4000000 in
theorem tmove_any (h : TB tb wb vp T vw me B w) (x : S55) (ha : 0 ≤ x.f1 ∧ x.f1 < 8) (hb : 0 ≤ x.f2 ∧ x.f2 < 8) : Calls Try.prog 39 #[.pointer (some ⟨tb, 0, none⟩), xv x] w (GoP tb wb vp (setR T x.f1 (rg T x.f2)) vw me B w) := by
  obtain ⟨x0, x1, x2, x3, x4⟩ := x
  try simp only at *
  obtain ⟨a, rfl⟩ : ∃ a : Nat, x1 = a := ⟨x1.toNat, by omega⟩
  obtain ⟨b, rfl⟩ : ∃ b : Nat, x2 = b := ⟨x2.toNat, by omega⟩
  obtain ⟨W, hW⟩ : ∃ W, W = w.alloc (.cells #[.int .i64 x0, .int .i64 (a), .int .i64 (b), .int .i64 (x3), .int .i64 x4] 55) := ⟨_, rfl⟩
  have hb1 : Below w.heap.size w W := by rw [hW]; exact (Below.refl w.heap.size w).alloc (Nat.le_refl _) _
  have hbx : W.heap[w.heap.size]? = some (.cells #[.int .i64 x0, .int .i64 (a), .int .i64 (b), .int .i64 (x3), .int .i64 x4] 55 (0, 0)) := by rw [hW]; exact alloc_blk w _
  have h1 := h.below hb1
  have c0 := blk_cell hbx 0
  have c1 := blk_cell hbx 1
  have c2 := blk_cell hbx 2
  have c3 := blk_cell hbx 3
  have c4 := blk_cell hbx 4
  have t0 := h1.fix.1
  have H := Aside0.mk (And.intro h1 hb1)
  have HWW := Aside0.mk hW
  have ha8 : ((a : Int) < 8) = True := eq_true ha.2
  have hb8 : ((b : Int) < 8) = True := eq_true hb.2
  have z := h1.frozen (2 + a)
  have r := h1.reg a (by omega)
  have r2 := h1.reg b (by omega)
  have HA := Aside0.mk ha.2
  clear ha hb
  unfold xv
  clear h h1 hb1 hbx hW
  go_enter Try.func39, Try.ntmps39
  go_wp2_with fail
  rw [← HWW.out]
  refine wp_region_seq2 (fun w' => Drawn0 W w') [13] [.take 0, .take 1, .take 2, .take 3, .take 4, .take 5, .take 6, .take 7, .take 8, .take 9, .take 10, .take 11, .take 12, .fin 13] (by kernel_rfl) (by kernel_rfl) rfl (by kernel_rfl) (panic_viaE (P := Try.prog) (fn := Try.f39) (R := GoP tb wb vp (setR T a (rg T b)) vw me B w) (fun _ _ _ => rfl)) ?_
  have hs : Drawn0 W W.drew := (Drawn0.refl W).step 1
  repeat (
    (first
      | (refine runSeq2_take (v := ?_) (by rfl) (by rfl) (fun w' hS => ?_) hs ?_
         rotate_left
         · (obtain ⟨n, rfl⟩ := hS; go_simp; exact rfl))
      | refine runSeq2_skip (by rfl) (by rfl) hs ?_)
    (try simp only [Act.put, List.setIfInBounds_toArray, List.set_cons_zero, List.set_cons_succ]))
  refine runSeq2_fin (by rfl) (by rfl) (fun K hK => ?_)
  go_simp
  refine hK _ _ ?_
  refine runSeq2_nil ?_
  clear hK K hs
  go_wp2_with fail
  go_end0
  exact goP_reg H.out.1 H.out.2 a HA.out _ _ rfl
set_option maxRecDepth 100000 in
set_option maxHeartbeats 4000000 in
theorem tadd_any (h : TB tb wb vp T vw me B w) (x : S55) (ha : 0 ≤ x.f1 ∧ x.f1 < 8) (hb : 0 ≤ x.f2 ∧ x.f2 < 8) (hc : 0 ≤ x.f3 ∧ x.f3 < 8) : Calls Try.prog 40 #[.pointer (some ⟨tb, 0, none⟩), xv x] w (GoP tb wb vp (setR T x.f1 (wrap64 (rg T x.f2 + rg T x.f3))) vw me B w) := by
  obtain ⟨x0, x1, x2, x3, x4⟩ := x
  try simp only at *
  obtain ⟨a, rfl⟩ : ∃ a : Nat, x1 = a := ⟨x1.toNat, by omega⟩
  obtain ⟨b, rfl⟩ : ∃ b : Nat, x2 = b := ⟨x2.toNat, by omega⟩
  obtain ⟨c, rfl⟩ : ∃ c : Nat, x3 = c := ⟨x3.toNat, by omega⟩
  obtain ⟨W, hW⟩ : ∃ W, W = w.alloc (.cells #[.int .i64 x0, .int .i64 (a), .int .i64 (b), .int .i64 (c), .int .i64 x4] 55) := ⟨_, rfl⟩
  have hb1 : Below w.heap.size w W := by rw [hW]; exact (Below.refl w.heap.size w).alloc (Nat.le_refl _) _
  have hbx : W.heap[w.heap.size]? = some (.cells #[.int .i64 x0, .int .i64 (a), .int .i64 (b), .int .i64 (c), .int .i64 x4] 55 (0, 0)) := by rw [hW]; exact alloc_blk w _
  have h1 := h.below hb1
  have c0 := blk_cell hbx 0
  have c1 := blk_cell hbx 1
  have c2 := blk_cell hbx 2
  have c3 := blk_cell hbx 3
  have c4 := blk_cell hbx 4
  have t0 := h1.fix.1
  have H := Aside0.mk (And.intro h1 hb1)
  have HWW := Aside0.mk hW
  have ha8 : ((a : Int) < 8) = True := eq_true ha.2
  have hb8 : ((b : Int) < 8) = True := eq_true hb.2
  have hc8 : ((c : Int) < 8) = True := eq_true hc.2
  have z := h1.frozen (2 + a)
  have r := h1.reg a (by omega)
  have r2 := h1.reg b (by omega)
  have r3 := h1.reg c (by omega)
  have HA := Aside0.mk ha.2
  clear ha hb hc
  unfold xv
  clear h h1 hb1 hbx hW
  go_enter Try.func40, Try.ntmps40
  go_wp2_with fail
  rw [← HWW.out]
  refine wp_region_seq2 (fun w' => Drawn0 W w') [21] [.take 0, .take 1, .take 2, .take 3, .take 4, .take 5, .take 6, .take 7, .take 8, .take 9, .take 10, .take 11, .take 12, .take 13, .take 14, .take 15, .take 16, .take 17, .take 18, .take 19, .take 20, .fin 21] (by kernel_rfl) (by kernel_rfl) rfl (by kernel_rfl) (panic_viaE (P := Try.prog) (fn := Try.f40) (R := GoP tb wb vp (setR T a (wrap64 (rg T b + rg T c))) vw me B w) (fun _ _ _ => rfl)) ?_
  have hs : Drawn0 W W.drew := (Drawn0.refl W).step 1
  repeat (
    (first
      | (refine runSeq2_take (v := ?_) (by rfl) (by rfl) (fun w' hS => ?_) hs ?_
         rotate_left
         · (obtain ⟨n, rfl⟩ := hS; go_simp; exact rfl))
      | refine runSeq2_skip (by rfl) (by rfl) hs ?_)
    (try simp only [Act.put, List.setIfInBounds_toArray, List.set_cons_zero, List.set_cons_succ]))
  refine runSeq2_fin (by rfl) (by rfl) (fun K hK => ?_)
  go_simp
  refine hK _ _ ?_
  refine runSeq2_nil ?_
  clear hK K hs
  go_wp2_with fail
  go_end0
  exact goP_reg H.out.1 H.out.2 a HA.out _ _ (wrap_i64 _)
set_option maxRecDepth 100000 in
set_option maxHeartbeats 4000000 in
theorem tsub_any (h : TB tb wb vp T vw me B w) (x : S55) (ha : 0 ≤ x.f1 ∧ x.f1 < 8) (hb : 0 ≤ x.f2 ∧ x.f2 < 8) (hc : 0 ≤ x.f3 ∧ x.f3 < 8) : Calls Try.prog 41 #[.pointer (some ⟨tb, 0, none⟩), xv x] w (GoP tb wb vp (setR T x.f1 (wrap64 (rg T x.f2 - rg T x.f3))) vw me B w) := by
  obtain ⟨x0, x1, x2, x3, x4⟩ := x
  try simp only at *
  obtain ⟨a, rfl⟩ : ∃ a : Nat, x1 = a := ⟨x1.toNat, by omega⟩
  obtain ⟨b, rfl⟩ : ∃ b : Nat, x2 = b := ⟨x2.toNat, by omega⟩
  obtain ⟨c, rfl⟩ : ∃ c : Nat, x3 = c := ⟨x3.toNat, by omega⟩
  obtain ⟨W, hW⟩ : ∃ W, W = w.alloc (.cells #[.int .i64 x0, .int .i64 (a), .int .i64 (b), .int .i64 (c), .int .i64 x4] 55) := ⟨_, rfl⟩
  have hb1 : Below w.heap.size w W := by rw [hW]; exact (Below.refl w.heap.size w).alloc (Nat.le_refl _) _
  have hbx : W.heap[w.heap.size]? = some (.cells #[.int .i64 x0, .int .i64 (a), .int .i64 (b), .int .i64 (c), .int .i64 x4] 55 (0, 0)) := by rw [hW]; exact alloc_blk w _
  have h1 := h.below hb1
  have c0 := blk_cell hbx 0
  have c1 := blk_cell hbx 1
  have c2 := blk_cell hbx 2
  have c3 := blk_cell hbx 3
  have c4 := blk_cell hbx 4
  have t0 := h1.fix.1
  have H := Aside0.mk (And.intro h1 hb1)
  have HWW := Aside0.mk hW
  have ha8 : ((a : Int) < 8) = True := eq_true ha.2
  have hb8 : ((b : Int) < 8) = True := eq_true hb.2
  have hc8 : ((c : Int) < 8) = True := eq_true hc.2
  have z := h1.frozen (2 + a)
  have r := h1.reg a (by omega)
  have r2 := h1.reg b (by omega)
  have r3 := h1.reg c (by omega)
  have HA := Aside0.mk ha.2
  clear ha hb hc
  unfold xv
  clear h h1 hb1 hbx hW
  go_enter Try.func41, Try.ntmps41
  go_wp2_with fail
  rw [← HWW.out]
  refine wp_region_seq2 (fun w' => Drawn0 W w') [21] [.take 0, .take 1, .take 2, .take 3, .take 4, .take 5, .take 6, .take 7, .take 8, .take 9, .take 10, .take 11, .take 12, .take 13, .take 14, .take 15, .take 16, .take 17, .take 18, .take 19, .take 20, .fin 21] (by kernel_rfl) (by kernel_rfl) rfl (by kernel_rfl) (panic_viaE (P := Try.prog) (fn := Try.f41) (R := GoP tb wb vp (setR T a (wrap64 (rg T b - rg T c))) vw me B w) (fun _ _ _ => rfl)) ?_
  have hs : Drawn0 W W.drew := (Drawn0.refl W).step 1
  repeat (
    (first
      | (refine runSeq2_take (v := ?_) (by rfl) (by rfl) (fun w' hS => ?_) hs ?_
         rotate_left
         · (obtain ⟨n, rfl⟩ := hS; go_simp; exact rfl))
      | refine runSeq2_skip (by rfl) (by rfl) hs ?_)
    (try simp only [Act.put, List.setIfInBounds_toArray, List.set_cons_zero, List.set_cons_succ]))
  refine runSeq2_fin (by rfl) (by rfl) (fun K hK => ?_)
  go_simp
  refine hK _ _ ?_
  refine runSeq2_nil ?_
  clear hK K hs
  go_wp2_with fail
  go_end0
  exact goP_reg H.out.1 H.out.2 a HA.out _ _ (wrap_i64 _)
set_option maxRecDepth 100000 in
set_option maxHeartbeats 4000000 in
theorem tmul_any (h : TB tb wb vp T vw me B w) (x : S55) (ha : 0 ≤ x.f1 ∧ x.f1 < 8) (hb : 0 ≤ x.f2 ∧ x.f2 < 8) (hc : 0 ≤ x.f3 ∧ x.f3 < 8) : Calls Try.prog 42 #[.pointer (some ⟨tb, 0, none⟩), xv x] w (GoP tb wb vp (setR T x.f1 (wrap64 (rg T x.f2 * rg T x.f3))) vw me B w) := by
  obtain ⟨x0, x1, x2, x3, x4⟩ := x
  try simp only at *
  obtain ⟨a, rfl⟩ : ∃ a : Nat, x1 = a := ⟨x1.toNat, by omega⟩
  obtain ⟨b, rfl⟩ : ∃ b : Nat, x2 = b := ⟨x2.toNat, by omega⟩
  obtain ⟨c, rfl⟩ : ∃ c : Nat, x3 = c := ⟨x3.toNat, by omega⟩
  obtain ⟨W, hW⟩ : ∃ W, W = w.alloc (.cells #[.int .i64 x0, .int .i64 (a), .int .i64 (b), .int .i64 (c), .int .i64 x4] 55) := ⟨_, rfl⟩
  have hb1 : Below w.heap.size w W := by rw [hW]; exact (Below.refl w.heap.size w).alloc (Nat.le_refl _) _
  have hbx : W.heap[w.heap.size]? = some (.cells #[.int .i64 x0, .int .i64 (a), .int .i64 (b), .int .i64 (c), .int .i64 x4] 55 (0, 0)) := by rw [hW]; exact alloc_blk w _
  have h1 := h.below hb1
  have c0 := blk_cell hbx 0
  have c1 := blk_cell hbx 1
  have c2 := blk_cell hbx 2
  have c3 := blk_cell hbx 3
  have c4 := blk_cell hbx 4
  have t0 := h1.fix.1
  have H := Aside0.mk (And.intro h1 hb1)
  have HWW := Aside0.mk hW
  have ha8 : ((a : Int) < 8) = True := eq_true ha.2
  have hb8 : ((b : Int) < 8) = True := eq_true hb.2
  have hc8 : ((c : Int) < 8) = True := eq_true hc.2
  have z := h1.frozen (2 + a)
  have r := h1.reg a (by omega)
  have r2 := h1.reg b (by omega)
  have r3 := h1.reg c (by omega)
  have HA := Aside0.mk ha.2
  clear ha hb hc
  unfold xv
  clear h h1 hb1 hbx hW
  go_enter Try.func42, Try.ntmps42
  go_wp2_with fail
  rw [← HWW.out]
  refine wp_region_seq2 (fun w' => Drawn0 W w') [21] [.take 0, .take 1, .take 2, .take 3, .take 4, .take 5, .take 6, .take 7, .take 8, .take 9, .take 10, .take 11, .take 12, .take 13, .take 14, .take 15, .take 16, .take 17, .take 18, .take 19, .take 20, .fin 21] (by kernel_rfl) (by kernel_rfl) rfl (by kernel_rfl) (panic_viaE (P := Try.prog) (fn := Try.f42) (R := GoP tb wb vp (setR T a (wrap64 (rg T b * rg T c))) vw me B w) (fun _ _ _ => rfl)) ?_
  have hs : Drawn0 W W.drew := (Drawn0.refl W).step 1
  repeat (
    (first
      | (refine runSeq2_take (v := ?_) (by rfl) (by rfl) (fun w' hS => ?_) hs ?_
         rotate_left
         · (obtain ⟨n, rfl⟩ := hS; go_simp; exact rfl))
      | refine runSeq2_skip (by rfl) (by rfl) hs ?_)
    (try simp only [Act.put, List.setIfInBounds_toArray, List.set_cons_zero, List.set_cons_succ]))
  refine runSeq2_fin (by rfl) (by rfl) (fun K hK => ?_)
  go_simp
  refine hK _ _ ?_
  refine runSeq2_nil ?_
  clear hK K hs
  go_wp2_with fail
  go_end0
  exact goP_reg H.out.1 H.out.2 a HA.out _ _ (wrap_i64 _)
end
end Go.Proofs.Ytnhipdniceoigaa.H

set_option linter.unusedVariables false
set_option linter.unusedSimpArgs false
namespace Go.Proofs.Ytnhipdniceoigaa.H
open Go.RowKit Go.Hay Go.Proofs.YtnhipdniceoigaaW.PrintWords Go.Proofs.YtnhipdniceoigaaW.PrintLast Go.Proofs.YtnhipdniceoigaaW.PrintMore
section
variable {tb wb me B : Nat} {vp vw : Value} {T : Ts} {w : World}
set_option maxRecDepth 100000 in
set_option maxHeartbeats 4000000 in
theorem tless_any (h : TB tb wb vp T vw me B w) (x : S55) (ha : 0 ≤ x.f1 ∧ x.f1 < 8) (hb : 0 ≤ x.f2 ∧ x.f2 < 8) (hc : 0 ≤ x.f3 ∧ x.f3 < 8) : Calls Try.prog 44 #[.pointer (some ⟨tb, 0, none⟩), xv x] w (GoP tb wb vp (setR T x.f1 (lessV (rg T x.f2) (rg T x.f3))) vw me B w) := by
  obtain ⟨x0, x1, x2, x3, x4⟩ := x
  try simp only at *
  obtain ⟨a, rfl⟩ : ∃ a : Nat, x1 = a := ⟨x1.toNat, by omega⟩
  obtain ⟨b, rfl⟩ : ∃ b : Nat, x2 = b := ⟨x2.toNat, by omega⟩
  obtain ⟨c, rfl⟩ : ∃ c : Nat, x3 = c := ⟨x3.toNat, by omega⟩
  obtain ⟨W, hW⟩ : ∃ W, W = w.alloc (.cells #[.int .i64 x0, .int .i64 (a), .int .i64 (b), .int .i64 (c), .int .i64 x4] 55) := ⟨_, rfl⟩
  have hb1 : Below w.heap.size w W := by rw [hW]; exact (Below.refl w.heap.size w).alloc (Nat.le_refl _) _
  have hbx : W.heap[w.heap.size]? = some (.cells #[.int .i64 x0, .int .i64 (a), .int .i64 (b), .int .i64 (c), .int .i64 x4] 55 (0, 0)) := by rw [hW]; exact alloc_blk w _
  have h1 := h.below hb1
  have c0 := blk_cell hbx 0
  have c1 := blk_cell hbx 1
  have c2 := blk_cell hbx 2
  have c3 := blk_cell hbx 3
  have c4 := blk_cell hbx 4
  have t0 := h1.fix.1
  have H := Aside0.mk (And.intro h1 hb1)
  have HWW := Aside0.mk hW
  have ha8 : ((a : Int) < 8) = True := eq_true ha.2
  have hb8 : ((b : Int) < 8) = True := eq_true hb.2
  have hc8 : ((c : Int) < 8) = True := eq_true hc.2
  have z := h1.frozen (2 + a)
  have r := h1.reg a (by omega)
  have r2 := h1.reg b (by omega)
  have r3 := h1.reg c (by omega)
  have HA := Aside0.mk ha.2
  clear ha hb hc
  unfold xv
  clear h h1 hb1 hbx hW
  go_enter Try.func44, Try.ntmps44
  go_wp2_with fail
  rw [← HWW.out]
  refine wp_region_seq2 (fun w' => Drawn0 W w') [22] [.take 0, .take 1, .take 2, .take 3, .take 4, .take 5, .take 6, .take 7, .take 8, .take 9, .take 10, .take 11, .take 12, .take 13, .take 14, .take 15, .take 16, .take 17, .take 19, .take 20, .op 18, .take 21, .fin 22] (by kernel_rfl) (by kernel_rfl) rfl (by kernel_rfl) (panic_viaE (P := Try.prog) (fn := Try.f44) (R := GoP tb wb vp (setR T a (lessV (rg T b) (rg T c))) vw me B w) (fun _ _ _ => rfl)) ?_
  have hs : Drawn0 W W.drew := (Drawn0.refl W).step 1
  repeat (
    (first
      | (refine runSeq2_take (v := ?_) (by rfl) (by rfl) (fun w' hS => ?_) hs ?_
         rotate_left
         · (obtain ⟨n, rfl⟩ := hS; go_simp; exact rfl))
      | refine runSeq2_skip (by rfl) (by rfl) hs ?_)
    (try simp only [Act.put, List.setIfInBounds_toArray, List.set_cons_zero, List.set_cons_succ]))
  refine runSeq2_op (by rfl) (by rfl) (fun K hK => ?_)
  go_simp
  refine (truth_any _ _).mono ?_
  rintro e w' ⟨rfl, rfl⟩
  refine hK _ _ hs ?_
  clear hK K
  repeat (
    (first
      | (refine runSeq2_take (v := ?_) (by rfl) (by rfl) (fun w' hS => ?_) hs ?_
         rotate_left
         · (obtain ⟨n, rfl⟩ := hS; go_simp; exact rfl))
      | refine runSeq2_skip (by rfl) (by rfl) hs ?_)
    (try simp only [Act.put, List.setIfInBounds_toArray, List.set_cons_zero, List.set_cons_succ]))
  refine runSeq2_fin (by rfl) (by rfl) (fun K hK => ?_)
  go_simp
  refine hK _ _ ?_
  refine runSeq2_nil ?_
  clear hK K hs
  go_wp2_with fail
  go_end0
  exact goP_reg H.out.1 H.out.2 a HA.out _ _ (by unfold lessV truthV; simp only [decide_eq_true_eq]; rfl)
set_option maxRecDepth 100000 in
set_option maxHeartbeats 4000000 in
theorem tsame_any (h : TB tb wb vp T vw me B w) (x : S55) (ha : 0 ≤ x.f1 ∧ x.f1 < 8) (hb : 0 ≤ x.f2 ∧ x.f2 < 8) (hc : 0 ≤ x.f3 ∧ x.f3 < 8) : Calls Try.prog 45 #[.pointer (some ⟨tb, 0, none⟩), xv x] w (GoP tb wb vp (setR T x.f1 (sameV (rg T x.f2) (rg T x.f3))) vw me B w) := by
  obtain ⟨x0, x1, x2, x3, x4⟩ := x
  try simp only at *
  obtain ⟨a, rfl⟩ : ∃ a : Nat, x1 = a := ⟨x1.toNat, by omega⟩
  obtain ⟨b, rfl⟩ : ∃ b : Nat, x2 = b := ⟨x2.toNat, by omega⟩
  obtain ⟨c, rfl⟩ : ∃ c : Nat, x3 = c := ⟨x3.toNat, by omega⟩
  obtain ⟨W, hW⟩ : ∃ W, W = w.alloc (.cells #[.int .i64 x0, .int .i64 (a), .int .i64 (b), .int .i64 (c), .int .i64 x4] 55) := ⟨_, rfl⟩
  have hb1 : Below w.heap.size w W := by rw [hW]; exact (Below.refl w.heap.size w).alloc (Nat.le_refl _) _
  have hbx : W.heap[w.heap.size]? = some (.cells #[.int .i64 x0, .int .i64 (a), .int .i64 (b), .int .i64 (c), .int .i64 x4] 55 (0, 0)) := by rw [hW]; exact alloc_blk w _
  have h1 := h.below hb1
  have c0 := blk_cell hbx 0
  have c1 := blk_cell hbx 1
  have c2 := blk_cell hbx 2
  have c3 := blk_cell hbx 3
  have c4 := blk_cell hbx 4
  have t0 := h1.fix.1
  have H := Aside0.mk (And.intro h1 hb1)
  have HWW := Aside0.mk hW
  have ha8 : ((a : Int) < 8) = True := eq_true ha.2
  have hb8 : ((b : Int) < 8) = True := eq_true hb.2
  have hc8 : ((c : Int) < 8) = True := eq_true hc.2
  have z := h1.frozen (2 + a)
  have r := h1.reg a (by omega)
  have r2 := h1.reg b (by omega)
  have r3 := h1.reg c (by omega)
  have HA := Aside0.mk ha.2
  clear ha hb hc
  unfold xv
  clear h h1 hb1 hbx hW
  go_enter Try.func45, Try.ntmps45
  go_wp2_with fail
  rw [← HWW.out]
  refine wp_region_seq2 (fun w' => Drawn0 W w') [22] [.take 0, .take 1, .take 2, .take 3, .take 4, .take 5, .take 6, .take 7, .take 8, .take 9, .take 10, .take 11, .take 12, .take 13, .take 14, .take 15, .take 16, .take 17, .take 19, .take 20, .op 18, .take 21, .fin 22] (by kernel_rfl) (by kernel_rfl) rfl (by kernel_rfl) (panic_viaE (P := Try.prog) (fn := Try.f45) (R := GoP tb wb vp (setR T a (sameV (rg T b) (rg T c))) vw me B w) (fun _ _ _ => rfl)) ?_
  have hs : Drawn0 W W.drew := (Drawn0.refl W).step 1
  repeat (
    (first
      | (refine runSeq2_take (v := ?_) (by rfl) (by rfl) (fun w' hS => ?_) hs ?_
         rotate_left
         · (obtain ⟨n, rfl⟩ := hS; go_simp; exact rfl))
      | refine runSeq2_skip (by rfl) (by rfl) hs ?_)
    (try simp only [Act.put, List.setIfInBounds_toArray, List.set_cons_zero, List.set_cons_succ]))
  refine runSeq2_op (by rfl) (by rfl) (fun K hK => ?_)
  go_simp
  refine (truth_any _ _).mono ?_
  rintro e w' ⟨rfl, rfl⟩
  refine hK _ _ hs ?_
  clear hK K
  repeat (
    (first
      | (refine runSeq2_take (v := ?_) (by rfl) (by rfl) (fun w' hS => ?_) hs ?_
         rotate_left
         · (obtain ⟨n, rfl⟩ := hS; go_simp; exact rfl))
      | refine runSeq2_skip (by rfl) (by rfl) hs ?_)
    (try simp only [Act.put, List.setIfInBounds_toArray, List.set_cons_zero, List.set_cons_succ]))
  refine runSeq2_fin (by rfl) (by rfl) (fun K hK => ?_)
  go_simp
  refine hK _ _ ?_
  refine runSeq2_nil ?_
  clear hK K hs
  go_wp2_with fail
  go_end0
  exact goP_reg H.out.1 H.out.2 a HA.out _ _ (by unfold sameV truthV; simp only [beq_iff_eq]; rfl)
set_option maxRecDepth 100000 in
set_option maxHeartbeats 4000000 in
theorem tdiv_any (h : TB tb wb vp T vw me B w) (x : S55) (ha : 0 ≤ x.f1 ∧ x.f1 < 8) (hb : 0 ≤ x.f2 ∧ x.f2 < 8) (hc : 0 ≤ x.f3 ∧ x.f3 < 8) (hn : rg T x.f3 ≠ 0) : Calls Try.prog 43 #[.pointer (some ⟨tb, 0, none⟩), xv x] w (GoP tb wb vp (setR T x.f1 (wrap64 ((rg T x.f2).tdiv (rg T x.f3)))) vw me B w) := by
  obtain ⟨x0, x1, x2, x3, x4⟩ := x
  try simp only at *
  obtain ⟨a, rfl⟩ : ∃ a : Nat, x1 = a := ⟨x1.toNat, by omega⟩
  obtain ⟨b, rfl⟩ : ∃ b : Nat, x2 = b := ⟨x2.toNat, by omega⟩
  obtain ⟨c, rfl⟩ : ∃ c : Nat, x3 = c := ⟨x3.toNat, by omega⟩
  have hn' : T.regs.getD c 0 ≠ 0 := hn
  obtain ⟨W, hW⟩ : ∃ W, W = w.alloc (.cells #[.int .i64 x0, .int .i64 (a), .int .i64 (b), .int .i64 (c), .int .i64 x4] 55) := ⟨_, rfl⟩
  have hb1 : Below w.heap.size w W := by rw [hW]; exact (Below.refl w.heap.size w).alloc (Nat.le_refl _) _
  have hbx : W.heap[w.heap.size]? = some (.cells #[.int .i64 x0, .int .i64 (a), .int .i64 (b), .int .i64 (c), .int .i64 x4] 55 (0, 0)) := by rw [hW]; exact alloc_blk w _
  have h1 := h.below hb1
  have c0 := blk_cell hbx 0
  have c1 := blk_cell hbx 1
  have c2 := blk_cell hbx 2
  have c3 := blk_cell hbx 3
  have c4 := blk_cell hbx 4
  have t0 := h1.fix.1
  have H := Aside0.mk (And.intro h1 hb1)
  have HWW := Aside0.mk hW
  have ha8 : ((a : Int) < 8) = True := eq_true ha.2
  have hb8 : ((b : Int) < 8) = True := eq_true hb.2
  have hc8 : ((c : Int) < 8) = True := eq_true hc.2
  have z := h1.frozen (2 + a)
  have r := h1.reg a (by omega)
  have r2 := h1.reg b (by omega)
  have r3 := h1.reg c (by omega)
  have HA := Aside0.mk ha.2
  clear ha hb hc
  have hne : (T.regs.getD c 0 == 0) = false := by simpa using hn'
  have hne3 : (T.regs.getD c 0 = 0) = False := eq_false hn'
  clear hn hn'
  generalize hq : T.regs.getD c 0 = y at r3 hne hne3
  have HQ := Aside0.mk hq
  clear hq
  unfold xv
  clear h h1 hb1 hbx hW
  go_enter Try.func43, Try.ntmps43
  go_wp2_with fail
  rw [← HWW.out]
  have z := H.out.1.frozen (2 + a)
  go_quiet (fail)
  go_wp2_with fail
  have hdz : ∀ n, Drawn0 W (W.drewN n) := fun n => ⟨n, rfl⟩
  refine wp_region_seq2 (fun w' => Drawn0 W w') [21] [.take 0, .take 1, .take 2, .take 3, .take 4, .take 5, .take 6, .take 7, .take 8, .take 9, .take 10, .take 11, .take 12, .take 13, .take 14, .take 15, .take 16, .take 17, .take 18, .take 19, .take 20, .fin 21] (by kernel_rfl) (by kernel_rfl) rfl (by kernel_rfl) (panic_viaE (P := Try.prog) (fn := Try.f43) (R := GoP tb wb vp (setR T a (wrap64 ((rg T b).tdiv (rg T c)))) vw me B w) (fun _ _ _ => rfl)) ?_
  have hs : Drawn0 W (W.drewN nq).drew := (Drawn0.step ⟨_, rfl⟩ 1)
  clear hdz
  repeat (
    (first
      | (refine runSeq2_take (v := ?_) (by rfl) (by rfl) (fun w' hS => ?_) hs ?_
         rotate_left
         · (obtain ⟨n, rfl⟩ := hS; go_simp; exact rfl))
      | refine runSeq2_skip (by rfl) (by rfl) hs ?_)
    (try simp only [Act.put, List.setIfInBounds_toArray, List.set_cons_zero, List.set_cons_succ]))
  refine runSeq2_fin (by rfl) (by rfl) (fun K hK => ?_)
  go_simp
  refine hK _ _ ?_
  refine runSeq2_nil ?_
  clear hK K hs
  go_wp2_with fail
  go_end0
  have e : rg T (c : Int) = y := HQ.out
  rw [e, ← wrap_i64]
  exact ⟨rfl, (H.out.1.drewN _).setReg a (by have := HA.out; omega) _, ((Keep.of_below H.out.2 (fun q => q = tb)).drewN _).set (p := ⟨tb, 2 + a, none⟩) (.inr rfl) _⟩
theorem tdiv_no (h : TB tb wb vp T vw me B w) (x : S55) (ha : 0 ≤ x.f1 ∧ x.f1 < 8) (hb : 0 ≤ x.f2 ∧ x.f2 < 8) (hc : 0 ≤ x.f3 ∧ x.f3 < 8) (hn : rg T x.f3 = 0) : Calls Try.prog 43 #[.pointer (some ⟨tb, 0, none⟩), xv x] w (StopP 1 w) := by
  obtain ⟨x0, x1, x2, x3, x4⟩ := x
  try simp only at *
  obtain ⟨a, rfl⟩ : ∃ a : Nat, x1 = a := ⟨x1.toNat, by omega⟩
  obtain ⟨b, rfl⟩ : ∃ b : Nat, x2 = b := ⟨x2.toNat, by omega⟩
  obtain ⟨c, rfl⟩ : ∃ c : Nat, x3 = c := ⟨x3.toNat, by omega⟩
  have hn' : T.regs.getD c 0 = 0 := hn
  obtain ⟨W, hW⟩ : ∃ W, W = w.alloc (.cells #[.int .i64 x0, .int .i64 (a), .int .i64 (b), .int .i64 (c), .int .i64 x4] 55) := ⟨_, rfl⟩
  have hb1 : Below w.heap.size w W := by rw [hW]; exact (Below.refl w.heap.size w).alloc (Nat.le_refl _) _
  have hbx : W.heap[w.heap.size]? = some (.cells #[.int .i64 x0, .int .i64 (a), .int .i64 (b), .int .i64 (c), .int .i64 x4] 55 (0, 0)) := by rw [hW]; exact alloc_blk w _
  have h1 := h.below hb1
  have c0 := blk_cell hbx 0
  have c1 := blk_cell hbx 1
  have c2 := blk_cell hbx 2
  have c3 := blk_cell hbx 3
  have c4 := blk_cell hbx 4
  have t0 := h1.fix.1
  have H := Aside0.mk (And.intro h1 hb1)
  have HWW := Aside0.mk hW
  have ha8 : ((a : Int) < 8) = True := eq_true ha.2
  have hb8 : ((b : Int) < 8) = True := eq_true hb.2
  have hc8 : ((c : Int) < 8) = True := eq_true hc.2
  have z := h1.frozen (2 + a)
  have r := h1.reg a (by omega)
  have r2 := h1.reg b (by omega)
  have r3 := h1.reg c (by omega)
  have HA := Aside0.mk ha.2
  clear ha hb hc
  rw [hn'] at r3
  clear hn hn'
  unfold xv
  clear h h1 hb1 hbx hW
  go_enter Try.func43, Try.ntmps43
  go_wp2_with fail
  rw [← HWW.out]
  go_quiet (fail)
  go_wp2_with fail
  refine (fail_any 1 _).mono ?_
  rintro e w' ⟨rfl, hb⟩
  exact ⟨rfl, rfl, (pw_below_drewN H.out.2 _).trans (hb.mono (pw_below_drewN H.out.2 _).size)⟩
set_option maxRecDepth 100000 in
set_option maxHeartbeats 4000000 in
theorem tjump_any (h : TB tb wb vp T vw me B w) (x : S55) : Calls Try.prog 46 #[.pointer (some ⟨tb, 0, none⟩), xv x] w (GoP tb wb vp { T with at_ := x.f4 } vw me B w) := by
  obtain ⟨x0, x1, x2, x3, x4⟩ := x
  try simp only at *
  obtain ⟨W, hW⟩ : ∃ W, W = w.alloc (.cells #[.int .i64 x0, .int .i64 (x1), .int .i64 (x2), .int .i64 (x3), .int .i64 x4] 55) := ⟨_, rfl⟩
  have hb1 : Below w.heap.size w W := by rw [hW]; exact (Below.refl w.heap.size w).alloc (Nat.le_refl _) _
  have hbx : W.heap[w.heap.size]? = some (.cells #[.int .i64 x0, .int .i64 (x1), .int .i64 (x2), .int .i64 (x3), .int .i64 x4] 55 (0, 0)) := by rw [hW]; exact alloc_blk w _
  have h1 := h.below hb1
  have c0 := blk_cell hbx 0
  have c1 := blk_cell hbx 1
  have c2 := blk_cell hbx 2
  have c3 := blk_cell hbx 3
  have c4 := blk_cell hbx 4
  have t0 := h1.fix.1
  have H := Aside0.mk (And.intro h1 hb1)
  have HWW := Aside0.mk hW
  have z := h1.frozen 20
  have r := h1.fix.2.2.2.2.1
  clear HWW
  subst hW
  unfold xv
  clear h h1 hb1 hbx
  go_enter Try.func46, Try.ntmps46
  go_wp2_with fail
  go_end0
  exact ⟨rfl, H.out.1.setAt x4, (Keep.of_below H.out.2 (fun q => q = tb)).set (p := ⟨tb, 20, none⟩) (.inr rfl) _⟩
set_option maxRecDepth 100000 in
set_option maxHeartbeats 4000000 in
theorem tzero_any (h : TB tb wb vp T vw me B w) (x : S55) (ha : 0 ≤ x.f1 ∧ x.f1 < 8) : Calls Try.prog 47 #[.pointer (some ⟨tb, 0, none⟩), xv x] w (GoP tb wb vp (if rg T x.f1 = 0 then { T with at_ := x.f4 } else T) vw me B w) := by
  obtain ⟨x0, x1, x2, x3, x4⟩ := x
  try simp only at *
  obtain ⟨a, rfl⟩ : ∃ a : Nat, x1 = a := ⟨x1.toNat, by omega⟩
  have hrg : rg T (a : Int) = T.regs.getD a 0 := rfl
  obtain ⟨W, hW⟩ : ∃ W, W = w.alloc (.cells #[.int .i64 x0, .int .i64 (a), .int .i64 (x2), .int .i64 (x3), .int .i64 x4] 55) := ⟨_, rfl⟩
  have hb1 : Below w.heap.size w W := by rw [hW]; exact (Below.refl w.heap.size w).alloc (Nat.le_refl _) _
  have hbx : W.heap[w.heap.size]? = some (.cells #[.int .i64 x0, .int .i64 (a), .int .i64 (x2), .int .i64 (x3), .int .i64 x4] 55 (0, 0)) := by rw [hW]; exact alloc_blk w _
  have h1 := h.below hb1
  have c0 := blk_cell hbx 0
  have c1 := blk_cell hbx 1
  have c2 := blk_cell hbx 2
  have c3 := blk_cell hbx 3
  have c4 := blk_cell hbx 4
  have t0 := h1.fix.1
  have H := Aside0.mk (And.intro h1 hb1)
  have HWW := Aside0.mk hW
  have ha8 : ((a : Int) < 8) = True := eq_true ha.2
  have z := h1.frozen 20
  have r := h1.reg a (by omega)
  have t20 := h1.fix.2.2.2.2.1
  by_cases hz : T.regs.getD a 0 = 0
  · rw [hrg, if_pos hz]
    rw [hz] at r
    clear ha hrg hz
    unfold xv
    clear h h1 hb1 hbx hW
    go_enter Try.func47, Try.ntmps47
    go_wp2_with fail
    rw [← HWW.out]
    go_quiet (fail)
    go_wp2_with fail
    go_end0
    exact ⟨rfl, (H.out.1.drewN _).setAt x4, ((Keep.of_below H.out.2 (fun q => q = tb)).drewN _).set (p := ⟨tb, 20, none⟩) (.inr rfl) _⟩
  · rw [hrg, if_neg hz]
    have hz1 : (T.regs.getD a 0 == 0) = false := by simpa using hz
    have hz2 : (T.regs.getD a 0 = 0) = False := eq_false hz
    clear ha hrg hz
    generalize T.regs.getD a 0 = y at r hz1 hz2
    unfold xv
    clear h h1 hb1 hbx hW
    go_enter Try.func47, Try.ntmps47
    go_wp2_with fail
    rw [← HWW.out]
    go_quiet (fail)
    go_wp2_with fail
    go_end0
    exact ⟨rfl, H.out.1.drewN _, (Keep.of_below H.out.2 (fun q => q = tb)).drewN _⟩
set_option maxRecDepth 100000 in
set_option maxHeartbeats 4000000 in
theorem tfail_any (h : TB tb wb vp T vw me B w) (x : S55) : Calls Try.prog 52 #[.pointer (some ⟨tb, 0, none⟩), xv x] w (StopP x.f4 w) := by
  obtain ⟨x0, x1, x2, x3, x4⟩ := x
  try simp only at *
  obtain ⟨W, hW⟩ : ∃ W, W = w.alloc (.cells #[.int .i64 x0, .int .i64 (x1), .int .i64 (x2), .int .i64 (x3), .int .i64 x4] 55) := ⟨_, rfl⟩
  have hb1 : Below w.heap.size w W := by rw [hW]; exact (Below.refl w.heap.size w).alloc (Nat.le_refl _) _
  have hbx : W.heap[w.heap.size]? = some (.cells #[.int .i64 x0, .int .i64 (x1), .int .i64 (x2), .int .i64 (x3), .int .i64 x4] 55 (0, 0)) := by rw [hW]; exact alloc_blk w _
  have h1 := h.below hb1
  have c0 := blk_cell hbx 0
  have c1 := blk_cell hbx 1
  have c2 := blk_cell hbx 2
  have c3 := blk_cell hbx 3
  have c4 := blk_cell hbx 4
  have t0 := h1.fix.1
  have H := Aside0.mk (And.intro h1 hb1)
  have HWW := Aside0.mk hW
  unfold xv
  clear h h1 hb1 hbx hW
  go_enter Try.func52, Try.ntmps52
  go_wp2_with fail
  rw [← HWW.out]
  refine (fail_any x4 _).mono ?_
  rintro e w' ⟨rfl, hb⟩
  exact ⟨rfl, rfl, H.out.2.trans (hb.mono H.out.2.size)⟩
end
end Go.Proofs.Ytnhipdniceoigaa.H

set_option linter.unusedVariables false
set_option linter.unusedSimpArgs false
namespace Go.Proofs.Ytnhipdniceoigaa.H
open Go.RowKit Go.Hay Go.Proofs.YtnhipdniceoigaaW.PrintWords Go.Proofs.YtnhipdniceoigaaW.PrintLast Go.Proofs.YtnhipdniceoigaaW.PrintMore
theorem info2 : (Try.prog.info? 2).map (fun i => (i.zero, i.size, i.bytes)) = some (some (.int .i64 0), 1, 8) := by kernel_rfl
theorem info49 : (Try.prog.info? 49).map (fun i => (i.zero, i.size, i.bytes)) = some (some (.agg #[.slice none 0 0, .int .i64 0]), 2, 32) := by kernel_rfl
theorem info122 : (Try.prog.info? 122).map (fun i => (i.zero, i.size, i.bytes)) = some (some (.agg #[.int .i64 0, .int .i64 0]), 2, 16) := by kernel_rfl
section
variable {tb wb me B : Nat} {vp vw : Value} {T : Ts} {w : World}
set_option maxRecDepth 100000 in
set_option maxHeartbeats 4000000 in
theorem ttouch_any (h : TB tb wb vp T vw me B w) (x : S55) (ha : 0 ≤ x.f1 ∧ x.f1 < 8) (hb : 0 ≤ x.f2 ∧ x.f2 < 4) (hn : (hd T x.f2).1 = true) : Calls Try.prog 50 #[.pointer (some ⟨tb, 0, none⟩), xv x] w (GoP tb wb vp (setR T x.f1 (hd T x.f2).2) vw me B w) := by
  obtain ⟨x0, x1, x2, x3, x4⟩ := x
  try simp only at *
  obtain ⟨a, rfl⟩ : ∃ a : Nat, x1 = a := ⟨x1.toNat, by omega⟩
  obtain ⟨b, rfl⟩ : ∃ b : Nat, x2 = b := ⟨x2.toNat, by omega⟩
  have hn' : (T.hands.getD b (false, 0)).1 = true := hn
  have hn2 : (hd T (b : Int)).2 = (T.hands.getD b (false, 0)).2 := rfl
  obtain ⟨W, hW⟩ : ∃ W, W = w.alloc (.cells #[.int .i64 x0, .int .i64 (a), .int .i64 (b), .int .i64 (x3), .int .i64 x4] 55) := ⟨_, rfl⟩
  have hb1 : Below w.heap.size w W := by rw [hW]; exact (Below.refl w.heap.size w).alloc (Nat.le_refl _) _
  have hbx : W.heap[w.heap.size]? = some (.cells #[.int .i64 x0, .int .i64 (a), .int .i64 (b), .int .i64 (x3), .int .i64 x4] 55 (0, 0)) := by rw [hW]; exact alloc_blk w _
  have h1 := h.below hb1
  have c0 := blk_cell hbx 0
  have c1 := blk_cell hbx 1
  have c2 := blk_cell hbx 2
  have c3 := blk_cell hbx 3
  have c4 := blk_cell hbx 4
  have t0 := h1.fix.1
  have H := Aside0.mk (And.intro h1 hb1)
  have HWW := Aside0.mk hW
  have ha8 : ((a : Int) < 8) = True := eq_true ha.2
  have hb4 : ((b : Int) < 4) = True := eq_true hb.2
  have r := h1.reg a (by omega)
  have r1 := (h1.hand b (by omega)).1
  have r2 := (h1.hand b (by omega)).2
  rw [hn'] at r1
  rw [hn2]
  have HA := Aside0.mk ha.2
  clear ha hb hn hn' hn2
  generalize (T.hands.getD b (false, 0)).2 = y at r2
  unfold xv
  clear h h1 hb1 hbx hW
  go_enter Try.func50, Try.ntmps50
  go_wp2_with fail
  rw [← HWW.out]
  have z := H.out.1.frozen (2 + a)
  go_quiet (fail)
  go_wp2_with fail
  refine wp_region_seq2 (fun w' => Drawn0 W w') [14] [.take 0, .take 1, .take 2, .take 3, .take 4, .take 5, .take 6, .take 7, .take 8, .take 9, .take 10, .take 11, .take 12, .take 13, .fin 14] (by kernel_rfl) (by kernel_rfl) rfl (by kernel_rfl) (panic_viaE (P := Try.prog) (fn := Try.f50) (R := GoP tb wb vp (setR T a y) vw me B w) (fun _ _ _ => rfl)) ?_
  have hs : Drawn0 W (W.drewN nq).drew := (Drawn0.step ⟨_, rfl⟩ 1)
  repeat (
    (first
      | (refine runSeq2_take (v := ?_) (by rfl) (by rfl) (fun w' hS => ?_) hs ?_
         rotate_left
         · (obtain ⟨n, rfl⟩ := hS; go_simp; exact rfl))
      | refine runSeq2_skip (by rfl) (by rfl) hs ?_)
    (try simp only [Act.put, List.setIfInBounds_toArray, List.set_cons_zero, List.set_cons_succ]))
  refine runSeq2_fin (by rfl) (by rfl) (fun K hK => ?_)
  go_simp
  refine hK _ _ ?_
  refine runSeq2_nil ?_
  clear hK K hs
  go_wp2_with fail
  go_end0
  exact ⟨rfl, (H.out.1.drewN _).setReg a (by have := HA.out; omega) _, ((Keep.of_below H.out.2 (fun q => q = tb)).drewN _).set (p := ⟨tb, 2 + a, none⟩) (.inr rfl) _⟩
set_option maxRecDepth 100000 in
set_option maxHeartbeats 4000000 in
theorem ttouch_no (h : TB tb wb vp T vw me B w) (x : S55) (hb : 0 ≤ x.f2 ∧ x.f2 < 4) (hn : (hd T x.f2).1 = false) : Calls Try.prog 50 #[.pointer (some ⟨tb, 0, none⟩), xv x] w (StopP 2 w) := by
  obtain ⟨x0, x1, x2, x3, x4⟩ := x
  try simp only at *
  obtain ⟨b, rfl⟩ : ∃ b : Nat, x2 = b := ⟨x2.toNat, by omega⟩
  have hn' : (T.hands.getD b (false, 0)).1 = false := hn
  obtain ⟨W, hW⟩ : ∃ W, W = w.alloc (.cells #[.int .i64 x0, .int .i64 (x1), .int .i64 (b), .int .i64 (x3), .int .i64 x4] 55) := ⟨_, rfl⟩
  have hb1 : Below w.heap.size w W := by rw [hW]; exact (Below.refl w.heap.size w).alloc (Nat.le_refl _) _
  have hbx : W.heap[w.heap.size]? = some (.cells #[.int .i64 x0, .int .i64 (x1), .int .i64 (b), .int .i64 (x3), .int .i64 x4] 55 (0, 0)) := by rw [hW]; exact alloc_blk w _
  have h1 := h.below hb1
  have c0 := blk_cell hbx 0
  have c1 := blk_cell hbx 1
  have c2 := blk_cell hbx 2
  have c3 := blk_cell hbx 3
  have c4 := blk_cell hbx 4
  have t0 := h1.fix.1
  have H := Aside0.mk (And.intro h1 hb1)
  have HWW := Aside0.mk hW
  have hb4 : ((b : Int) < 4) = True := eq_true hb.2
  have r1 := (h1.hand b (by omega)).1
  rw [hn'] at r1
  clear hb hn hn'
  unfold xv
  clear h h1 hb1 hbx hW
  go_enter Try.func50, Try.ntmps50
  go_wp2_with fail
  rw [← HWW.out]
  go_quiet (fail)
  go_wp2_with fail
  refine (fail_any 2 _).mono ?_
  rintro e w' ⟨rfl, hb⟩
  exact ⟨rfl, rfl, (pw_below_drewN H.out.2 _).trans (hb.mono (pw_below_drewN H.out.2 _).size)⟩
theorem st_at {e B g n cap : Nat} {ok : Nat → Prop} {W : World} {xs : List (Int × Int)} (h : kSt.R e W B ok (.slice (some ⟨g, 0, none⟩) n cap) xs) {i : Nat} (hi : i < xs.length) : W.cell? ⟨g, i * 2, none⟩ = some (.int .i64 xs[i].1) ∧ W.cell? ⟨g, i * 2 + 1, none⟩ = some (.int .i64 xs[i].2) := by
  have hq := Kd.R_reads' h
  obtain ⟨ad, e1, hc⟩ := hq.2.2.2.2 (by omega)
  cases e1
  obtain ⟨cs, h1, h2, h3⟩ := hc i _ (List.getElem?_eq_getElem hi)
  obtain rfl := kSt_open h2
  have q0 := h3 0 _ rfl
  have q1 := h3 1 _ rfl
  rw [add_plain] at q0 q1
  exact ⟨q0, q1⟩
/-- the first i that wait are stored. -/
def syncTo (T : Ts) (i : Nat) : Ts := { T with regs := (T.wait.take i).foldl (fun r s => r.set s.1.toNat s.2) T.regs }
theorem syncTo_next {T : Ts} {i : Nat} (h : i < T.wait.length) : syncTo T (i + 1) = { syncTo T i with regs := (syncTo T i).regs.set T.wait[i].1.toNat T.wait[i].2 } := by
  unfold syncTo
  rw [List.take_succ_eq_append_getElem h, List.foldl_append]; rfl
def SyncP (tb wb : Nat) (vp : Value) (T : Ts) (me B : Nat) (w : World) (e : Ending) (w' : World) : Prop := e = .returned (.tuple #[]) ∧ TB tb wb vp (syncP T) (.slice none 0 0) me B w' ∧ Keep (fun q => q = tb) w w'
set_option maxRecDepth 100000 in
set_option maxHeartbeats 4000000 in
theorem sync_any (h : TB tb wb vp T vw me B w) (x : S55) (hw : ∀ s ∈ T.wait, 0 ≤ s.1 ∧ s.1 < 8) (hl : T.wait.length ≤ 1000000) : Calls Try.prog 34 #[.pointer (some ⟨tb, 0, none⟩), xv x] w (SyncP tb wb vp T me B w) := by
  obtain ⟨x0, x1, x2, x3, x4⟩ := x
  try simp only at *
  obtain ⟨A, c, rfl⟩ := Kd.R_slice h.wait
  obtain ⟨W, hW⟩ : ∃ W, W = w.alloc (.cells #[.int .i64 x0, .int .i64 (x1), .int .i64 (x2), .int .i64 (x3), .int .i64 x4] 55) := ⟨_, rfl⟩
  have hb1 : Below w.heap.size w W := by rw [hW]; exact (Below.refl w.heap.size w).alloc (Nat.le_refl _) _
  have hbx : W.heap[w.heap.size]? = some (.cells #[.int .i64 x0, .int .i64 (x1), .int .i64 (x2), .int .i64 (x3), .int .i64 x4] 55 (0, 0)) := by rw [hW]; exact alloc_blk w _
  have h1 := h.below hb1
  have c0 := blk_cell hbx 0
  have c1 := blk_cell hbx 1
  have c2 := blk_cell hbx 2
  have c3 := blk_cell hbx 3
  have c4 := blk_cell hbx 4
  have t0 := h1.fix.1
  have H := Aside0.mk (And.intro h1 hb1)
  have HWW := Aside0.mk hW
  have q0 := h1.fix.2.2.1
  have HB := Aside0.mk (And.intro (show TB tb wb vp (syncTo T 0) (.slice A T.wait.length c) me B W from h1) (Keep.of_below hb1 (fun q => q = tb)))
  have HW := Aside0.mk hw
  clear hw c0 c1 c2 c3 c4
  clear HWW
  subst hW
  unfold xv
  clear h h1 hb1 hbx
  go_enter Try.func34, Try.ntmps34
  go_wp2_with fail
  go_loopw [11] (fun v11 wr => ∃ (i : Nat), v11 = .int .i64 i ∧ i ≤ T.wait.length ∧ Aside0 (TB tb wb vp (syncTo T i) (.slice A T.wait.length c) me B wr ∧ Keep (fun q => q = tb) w wr)) (fun v11 _ => T.wait.length - (intOf v11).toNat)
  case atStart => exact ⟨0, rfl, Nat.zero_le _, HB⟩
  case round =>
    clear HB
    obtain ⟨i, rfl, hi, HB⟩ := hrel
    by_cases hlt : i < T.wait.length
    · obtain ⟨g, cp, hv, _, _, C, hC⟩ := Kd.R_form HB.out.1.wait (show 0 < T.wait.length by omega)
      cases hv
      obtain ⟨p0, p1⟩ := st_at HB.out.1.wait hlt
      replace p0 : wr.cell? ⟨g, i * 2, none⟩ = some (.int .i64 T.wait[i].1) := p0
      replace p1 : wr.cell? ⟨g, i * 2 + 1, none⟩ = some (.int .i64 T.wait[i].2) := p1
      have hx := HW.out T.wait[i] (List.getElem_mem hlt)
      have HN := syncTo_next hlt
      obtain ⟨a, ha⟩ : ∃ a : Nat, T.wait[i].1 = a := ⟨T.wait[i].1.toNat, by omega⟩
      rw [ha] at p0 HN
      rw [Int.toNat_natCast] at HN
      have ha8 : ((a : Int) < 8) = True := eq_true (by omega)
      have HA := Aside0.mk (show a < 8 by omega)
      generalize T.wait[i].2 = y at p1 HN
      have HNN := Aside0.mk HN
      obtain ⟨W2, hW2⟩ : ∃ W2, W2 = wr.alloc (.cells #[.int .i64 a, .int .i64 y] 122) := ⟨_, rfl⟩
      have hb2 : Below wr.heap.size wr W2 := by rw [hW2]; exact (Below.refl wr.heap.size wr).alloc (Nat.le_refl _) _
      have hbx2 : W2.heap[wr.heap.size]? = some (.cells #[.int .i64 a, .int .i64 y] 122 (0, 0)) := by rw [hW2]; exact alloc_blk wr _
      have hT2 := HB.out.1.below hb2
      have s0 := blk_cell hbx2 0
      have s1 := blk_cell hbx2 1
      have z := hT2.frozen (2 + a)
      have r := hT2.reg a (by omega)
      have HB2 := Aside0.mk (And.intro hT2 (HB.out.2.trans (Keep.of_below hb2 _)))
      have HW2 := Aside0.mk hW2
      clear hC ha HN hx hb2 hbx2 hT2 hW2 HB
      go_wp2_with fail
      rw [← HW2.out]
      refine wp_region_seq2 (fun w' => Drawn0 W2 w') [8] [.take 0, .take 1, .take 2, .take 3, .take 4, .take 5, .take 6, .take 7, .fin 8] (by kernel_rfl) (by kernel_rfl) rfl (by kernel_rfl) (panic_viaE (P := Try.prog) (fn := Try.f34) (R := SyncP tb wb vp T me B w) (fun _ _ _ => rfl)) ?_
      have hs : Drawn0 W2 W2.drew := (Drawn0.refl W2).step 1
      repeat (
        (first
          | (refine runSeq2_take (v := ?_) (by rfl) (by rfl) (fun w' hS => ?_) hs ?_
             rotate_left
             · (obtain ⟨n, rfl⟩ := hS; go_simp; exact rfl))
          | refine runSeq2_skip (by rfl) (by rfl) hs ?_)
        (try simp only [Act.put, List.setIfInBounds_toArray, List.set_cons_zero, List.set_cons_succ]))
      refine runSeq2_fin (by rfl) (by rfl) (fun K hK => ?_)
      go_simp
      refine hK _ _ ?_
      refine runSeq2_nil ?_
      clear hK K hs
      have HB3 := Aside0.mk (show TB tb wb vp (syncTo T (i + 1)) (.slice (some ⟨g, 0, none⟩) T.wait.length c) me B (W2.setCell ⟨tb, 2 + a, none⟩ (.int .i64 y)).drew ∧ Keep (fun q => q = tb) w (W2.setCell ⟨tb, 2 + a, none⟩ (.int .i64 y)).drew from ⟨by rw [HNN.out]; exact (HB2.out.1.setReg a HA.out y).drewN 1, (HB2.out.2.set (p := ⟨tb, 2 + a, none⟩) (.inr rfl) _).drew⟩)
      clear HB2 HW2 HNN s0 s1 z r p0 p1
      go_wp2_with fail
      go_roundw
      case rel => exact ⟨i + 1, by go_num, by omega, HB3⟩
      case measure => simp [intOf]; omega
    · obtain rfl : i = T.wait.length := by omega
      have z := HB.out.1.frozen 18
      have q0 := HB.out.1.fix.2.2.1
      go_wp2_with fail
      go_end0
      have h9 := HB.out.1.setWait (xs := []) (v9 := .slice none 0 0) rfl (Kd.R_nil _ _ _ _ _) (by intro e; cases e)
      refine ⟨rfl, ?_, HB.out.2.set (p := ⟨tb, 18, none⟩) (.inr rfl) _⟩
      have e : ({ syncTo T T.wait.length with wait := [] } : Ts) = syncP T := by unfold syncTo syncP; rw [List.take_length]
      rw [← e]; exact h9
end
end Go.Proofs.Ytnhipdniceoigaa.H

set_option linter.unusedVariables false
set_option linter.unusedSimpArgs false
namespace Go.Proofs.Ytnhipdniceoigaa.H
open Go.RowKit Go.Hay Go.Proofs.YtnhipdniceoigaaW.PrintWords Go.Proofs.YtnhipdniceoigaaW.PrintLast Go.Proofs.YtnhipdniceoigaaW.PrintMore
def longV : Value := .iface 75 (.agg #[])
/-- how a task ends. -/
def ends (o : Out) (e : Ending) : Prop :=
  match o with
  | .val v => e = .returned (.int .i64 v)
  | .fail why => e = .panicked [{ v := failV why, recovered := false }]
  | .long => e = .panicked [{ v := longV, recovered := false }]
structure Cn where
  w0 : World
  B : Nat
  wb : Nat
  Ap : Option Addr
  cp : Nat
  budget : Int
  depth : Int
/-- the evaluation's state. -/
structure ES (c : Cn) (l : List S58) (G : Gs) (ents : List Ent) (vt vl : Value) (w : World) : Prop where
  eg : EG c.B c.wb c.Ap l.length c.cp c.budget c.depth G ents vt vl w
  bl : Below c.w0.heap.size c.w0 w
  pr : k58.C c.w0 c.Ap l.length l
  lo : c.w0.heap.size ≤ c.B
def EndP (c : Cn) (l : List S58) (PA : Nat → Prop) (o : Out) (G' : Gs) (w : World) (e : Ending) (w' : World) : Prop :=
  ends o e ∧ Keep PA w w' ∧ ∃ ents' vt' vl', ES c l G' ents' vt' vl' w' ∧ ∀ q, PG c.wb vt' vl' q → PA q ∨ w.heap.size ≤ q
def GoesP (c : Cn) (l : List S58) (tb : Nat) (vp : Value) (me : Nat) (PA : Nat → Prop) (T' : Ts) (G' : Gs) (w : World) (e : Ending) (w' : World) : Prop :=
  e = .returned (.tuple #[]) ∧ Keep PA w w' ∧ ∃ ents' vt' vl' vw', ES c l G' ents' vt' vl' w' ∧ TB tb c.wb vp T' vw' me c.B w' ∧ ∀ q, PG c.wb vt' vl' q ∨ PT tb vw' q → PA q ∨ w.heap.size ≤ q
def StepPost (c : Cn) (l : List S58) (tb : Nat) (vp : Value) (me : Nat) (PA : Nat → Prop) (r : SR) (w : World) (e : Ending) (w' : World) : Prop :=
  match r with
  | .go T' G' => GoesP c l tb vp me PA T' G' w e w'
  | .stop o G' => EndP c l PA o G' w e w'
def PA (c : Cn) (tb : Nat) (vt vl vw : Value) (q : Nat) : Prop := PG c.wb vt vl q ∨ PT tb vw q
section
variable {c : Cn} {l : List S58} {G G' : Gs} {ents : List Ent} {vt vl vw vw' vp : Value} {w w1 : World} {T T' : Ts} {tb me : Nat}
theorem ES.keep {S : Nat → Prop} (h : ES c l G ents vt vl w) (hk : Keep S w w1) (hS : ∀ q, PG c.wb vt vl q → ¬ S q) (hP : ∀ q cs, w.heap[q]? = some (.cells cs 3 (0, 0)) → ¬ S q) (hB : ∀ q, q < c.w0.heap.size → ¬ S q) : ES c l G ents vt vl w1 :=
  ⟨h.eg.keep hk hS hP, h.bl.trans (hk.below h.bl.size hB), h.pr, h.lo⟩
theorem ES.below (h : ES c l G ents vt vl w) (hb : Below w.heap.size w w1) : ES c l G ents vt vl w1 := ⟨h.eg.below hb, h.bl.trans (hb.mono h.bl.size), h.pr, h.lo⟩
theorem ES.turn {ents' : List Ent} {vt' vl' : Value} {S : Nat → Prop} (h : ES c l G ents vt vl w) (he : EG c.B c.wb c.Ap l.length c.cp c.budget c.depth G' ents' vt' vl' w1) (hk : Keep S w w1) (hB : ∀ q, q < c.w0.heap.size → ¬ S q) : ES c l G' ents' vt' vl' w1 :=
  ⟨he, h.bl.trans (hk.below h.bl.size hB), h.pr, h.lo⟩
theorem ES.pLo (h : ES c l G ents vt vl w) : ∀ q, PG c.wb vt vl q → c.w0.heap.size ≤ q := fun q hq => Nat.le_trans h.lo (h.eg.pB q hq).1
theorem ES.code (h : ES c l G ents vt vl w) : k58.C w c.Ap l.length l := Kd.C_below h.pr h.bl
/-- what concerns the task alone leaves the rest. -/
theorem task_go (hg : ES c l G ents vt vl w) (ht : TB tb c.wb vp T vw me c.B w) (hlo : c.w0.heap.size ≤ tb) {e : Ending} (he : e = .returned (.tuple #[])) (h1 : TB tb c.wb vp T' vw' me c.B w1) (hk : Keep (fun q => q = tb) w w1) (hv : vw' = vw ∨ vw' = .slice none 0 0) : GoesP c l tb vp me (PA c tb vt vl vw) T' G w e w1 := by
  have hap := apart hg.eg ht
  have hnp := ht.notPath
  have hg1 : ES c l G ents vt vl w1 := hg.keep hk (fun q hq e2 => hap q hq (.inl e2)) (fun q cs hq e2 => hnp q cs hq (.inl e2)) (fun q hq e2 => by subst e2; omega)
  refine ⟨he, hk.mono (fun q _ e2 => .inr (.inl e2)), ents, vt, vl, vw', hg1, h1, fun q hq => .inl ?_⟩
  rcases hq with hq | hq | hq
  · exact .inl hq
  · exact .inr (.inl hq)
  · rcases hv with e2 | e2
    · rw [e2] at hq; exact .inr (.inr hq)
    · rw [e2] at hq; cases hq
theorem task_stop (hg : ES c l G ents vt vl w) {e : Ending} {why : Int} {S : Nat → Prop} (he : e = .panicked [{ v := failV why, recovered := false }]) (hb : Below w.heap.size w w1) (hS : ∀ q, PG c.wb vt vl q → S q) : EndP c l S (.fail why) G w e w1 :=
  ⟨he, Keep.of_below hb _, ents, vt, vl, hg.below hb, fun q hq => .inl (hS q hq)⟩
end
/-! ### what stays right -/
structure GInv (M : Nat) (budget : Int) (G : Gs) : Prop where
  log : G.log.length + G.left ≤ M
  told : G.told.length + G.left ≤ M
  steps : ∀ e ∈ G.log, 0 ≤ e.2 ∧ e.2 ≤ budget
structure TInv (code : List S55) (depth : Int) (path : List Int) (me : Nat) (T : Ts) (G : Gs) : Prop where
  rl : T.regs.length = 8
  hl : T.hands.length = 4
  wait : ∀ s ∈ T.wait, 0 ≤ s.1 ∧ s.1 < 8
  at_ : 0 ≤ T.at_ ∧ T.at_ < code.length
  kids : T.kids < G.log.length
  wl : T.wait.length ≤ T.kids
  me_ : me < G.log.length
  path_ : (path.length : Int) ≤ depth
/-- how tasks end that are begun: what stays right. -/
def RecOk (M : Nat) (budget : Int) (l : List S58) (depth : Int) (rec : Gs → List Int → List S55 → Nat → Ts → Out × Gs) : Prop :=
  ∀ G path (f : Nat) (hf : f < l.length) me T, GInv M budget G → TInv l[f].f1 depth path me T G → GInv M budget (rec G path l[f].f1 me T).2 ∧ G.log.length ≤ (rec G path l[f].f1 me T).2.log.length ∧ (rec G path l[f].f1 me T).2.left ≤ G.left
theorem setR_len (T : Ts) (i v : Int) : (setR T i v).regs.length = T.regs.length ∧ (setR T i v).hands = T.hands ∧ (setR T i v).wait = T.wait ∧ (setR T i v).kids = T.kids ∧ (setR T i v).at_ = T.at_ := ⟨List.length_set .., rfl, rfl, rfl, rfl⟩
theorem foldl_set_len (ws : List (Int × Int)) : ∀ r : List Int, (ws.foldl (fun r s => r.set s.1.toNat s.2) r).length = r.length := by
  induction ws with
  | nil => intro r; rfl
  | cons s ws ih => intro r; rw [List.foldl_cons, ih, List.length_set]
theorem newRegs_len {args : List Int} (h : args.length ≤ 8) : (newRegs args).length = 8 := by
  unfold newRegs
  rw [List.length_append, List.length_take, List.length_replicate]; omega
/-- the place of the next instruction. -/
theorem simple_inv {code : List S55} {l : List S58} {depth : Int} {path : List Int} {me : Nat} {T T' : Ts} {G : Gs} {x : S55} (hx : IOk l code.length x) (h : TInv code depth path me T G) (he : simple x T = .go T') : TInv code depth path me T' G := by
  have hs : ∀ i v, TInv code depth path me (setR T i v) G := fun i v => ⟨by rw [(setR_len T i v).1]; exact h.rl, h.hl, h.wait, h.at_, h.kids, h.wl, h.me_, h.path_⟩
  have hj : ∀ k : Int, 0 ≤ k ∧ k < code.length → TInv code depth path me { T with at_ := k } G := fun k hk => ⟨h.rl, h.hl, h.wait, hk, h.kids, h.wl, h.me_, h.path_⟩
  unfold simple at he
  by_cases e1 : x.f0 = 1
  · rw [if_pos e1] at he; cases he; exact hs _ _
  rw [if_neg e1] at he
  by_cases e2 : x.f0 = 2
  · rw [if_pos e2] at he; cases he; exact hs _ _
  rw [if_neg e2] at he
  by_cases e3 : x.f0 = 3
  · rw [if_pos e3] at he; cases he; exact hs _ _
  rw [if_neg e3] at he
  by_cases e4 : x.f0 = 4
  · rw [if_pos e4] at he; cases he; exact hs _ _
  rw [if_neg e4] at he
  by_cases e5 : x.f0 = 5
  · rw [if_pos e5] at he; cases he; exact hs _ _
  rw [if_neg e5] at he
  by_cases e6 : x.f0 = 6
  · rw [if_pos e6] at he
    by_cases ez : rg T x.f3 = 0
    · rw [if_pos ez] at he; cases he
    · rw [if_neg ez] at he; cases he; exact hs _ _
  rw [if_neg e6] at he
  by_cases e7 : x.f0 = 7
  · rw [if_pos e7] at he; cases he; exact hs _ _
  rw [if_neg e7] at he
  by_cases e8 : x.f0 = 8
  · rw [if_pos e8] at he; cases he; exact hs _ _
  rw [if_neg e8] at he
  by_cases e9 : x.f0 = 9
  · rw [if_pos e9] at he; cases he; exact hj _ (hx.k (.inl e9))
  rw [if_neg e9] at he
  by_cases e10 : x.f0 = 10
  · rw [if_pos e10] at he
    cases he
    by_cases ez : rg T x.f1 = 0
    · rw [if_pos ez]; exact hj _ (hx.k (.inr e10))
    · rw [if_neg ez]; exact h
  rw [if_neg e10] at he
  by_cases e12 : x.f0 = 12
  · rw [if_pos e12] at he
    cases he
    exact ⟨by unfold syncP; rw [foldl_set_len]; exact h.rl, h.hl, (fun s hs => by cases hs), h.at_, h.kids, Nat.zero_le _, h.me_, h.path_⟩
  rw [if_neg e12] at he
  by_cases e14 : x.f0 = 14
  · rw [if_pos e14] at he
    by_cases ez : (hd T x.f2).1 = true
    · rw [if_pos ez] at he; cases he; exact hs _ _
    · rw [if_neg ez] at he; cases he
  rw [if_neg e14] at he
  cases he
theorem args_len (l : List S58) (x : S55) (T : Ts) (h : T.regs.length = 8) : (argsOf l x T).length ≤ 8 := by
  unfold argsOf
  rw [List.length_take, List.length_drop]; omega
/-- what a task that is begun begins with. -/
theorem begin_inv {l : List S58} (hl : POk l) {M : Nat} {budget depth : Int} {path : List Int} {G : Gs} (hb : 0 ≤ budget) (hg : GInv M budget G) (hleft : G.log.length + 1 + G.left ≤ M) (f : Nat) (hf : f < l.length) (hp : (path.length : Int) ≤ depth) (args : List Int) (ha : args.length ≤ 8) (hands : List (Bool × Int)) (hh : hands.length = 4) :
    GInv M budget { G with log := G.log ++ [(path, 0)] } ∧ TInv l[f].f1 depth path G.log.length (newTask args hands) { G with log := G.log ++ [(path, 0)] } := by
  have hc := (hl.fn f hf).2.1
  refine ⟨⟨by simp; omega, hg.told, fun e he => ?_⟩, ⟨newRegs_len ha, hh, (fun s hs => by cases hs), ⟨by simp [newTask], by show (0 : Int) < l[f].f1.length; omega⟩, by simp [newTask], Nat.le_refl _, by simp, hp⟩⟩
  rcases List.mem_append.1 he with he | he
  · exact hg.steps e he
  · rw [List.mem_singleton.1 he]; exact ⟨Int.le_refl _, hb⟩
theorem step_inv {l : List S58} (hl : POk l) {M : Nat} {budget depth : Int} (hb : 0 ≤ budget) {rec : Gs → List Int → List S55 → Nat → Ts → Out × Gs} (hrec : RecOk M budget l depth rec) {code : List S55} {path : List Int} {me : Nat} {T : Ts} {G : Gs} {x : S55} (hx : IOk l code.length x) (hg : GInv M budget G) (h : TInv code depth path me T G) (hleft : G.log.length + 1 + G.left ≤ M) (htold : G.told.length + 1 + G.left ≤ M) :
    match stepP l depth rec path x T G with
    | .go T' G' => GInv M budget G' ∧ TInv code depth path me T' G' ∧ G.log.length ≤ G'.log.length ∧ G'.left ≤ G.left
    | .stop o G' => GInv M budget G' ∧ G.log.length ≤ G'.log.length ∧ G'.left ≤ G.left := by
  unfold stepP
  by_cases h11 : x.f0 = 11 ∨ x.f0 = 13
  · rw [if_pos h11]
    by_cases hd : (path.length : Int) = depth
    · rw [if_pos hd]
      exact ⟨hg, Nat.le_refl _, Nat.le_refl _⟩
    · rw [if_neg hd]
      have hcf := hx.cf h11
      obtain ⟨f, hf⟩ : ∃ f : Nat, x.f3 = f := ⟨x.f3.toNat, by omega⟩
      have hfl : f < l.length := by omega
      have hrd : rd_T58 l x.f3 = l[f] := by rw [hf]; simp [rd_T58, hfl]
      have hpl := h.path_
      have hbi := begin_inv hl hb hg hleft f hfl (path := path ++ [(T.kids : Int)]) (depth := depth) (by rw [List.length_append]; simp; omega) (argsOf l x T) (args_len l x T h.rl) T.hands h.hl
      have hr := hrec _ _ f hfl _ _ hbi.1 hbi.2
      rw [hrd]
      generalize rec { G with log := G.log ++ [(path ++ [(T.kids : Int)], 0)] } (path ++ [(T.kids : Int)]) l[f].f1 G.log.length (newTask (argsOf l x T) T.hands) = r at hr
      obtain ⟨o, G2⟩ := r
      have hlen : G.log.length + 1 ≤ G2.log.length := by have := hr.2.1; simpa using this
      have hle : G2.left ≤ G.left := hr.2.2
      cases o with
      | val v =>
        have hk := h.kids
        have hw := h.wl
        have hme := h.me_
        refine ⟨hr.1, ?_, by omega, hle⟩
        split
        · rename_i e11
          refine ⟨h.rl, h.hl, fun s hs => ?_, h.at_, by show T.kids + 1 < G2.log.length; omega, by show (T.wait ++ [(x.f1, v)]).length ≤ T.kids + 1; rw [List.length_append]; simp; omega, by omega, h.path_⟩
          rcases List.mem_append.1 hs with hs | hs
          · exact h.wait s hs
          · rw [List.mem_singleton.1 hs]
            exact hx.a (by omega) (by omega) (by omega) (by omega)
        · exact ⟨h.rl, by rw [List.length_set]; exact h.hl, h.wait, h.at_, by show T.kids + 1 < G2.log.length; omega, by show T.wait.length ≤ T.kids + 1; omega, by omega, h.path_⟩
      | fail why => exact ⟨hr.1, by show _ ≤ G2.log.length; omega, hle⟩
      | long => exact ⟨hr.1, by show _ ≤ G2.log.length; omega, hle⟩
  · rw [if_neg h11]
    by_cases h15 : x.f0 = 15
    · rw [if_pos h15]
      exact ⟨⟨hg.log, by simp; omega, hg.steps⟩, ⟨h.rl, h.hl, h.wait, h.at_, h.kids, h.wl, h.me_, h.path_⟩, Nat.le_refl _, Nat.le_refl _⟩
    · rw [if_neg h15]
      cases hs : simple x T with
      | go T' => exact ⟨hg, simple_inv hx h hs, Nat.le_refl _, Nat.le_refl _⟩
      | stop why => exact ⟨hg, Nat.le_refl _, Nat.le_refl _⟩
theorem bump_inv {M : Nat} {budget : Int} {G : Gs} {me : Nat} (hg : GInv M budget G) (hme : me < G.log.length) (hs : (G.log.getD me ([], 0)).2 ≠ budget) (hl : G.left ≠ 0) : GInv M budget { G with left := G.left - 1, log := bump G.log me } ∧ G.log.length + 1 + (G.left - 1) ≤ M ∧ G.told.length + 1 + (G.left - 1) ≤ M := by
  have h1 := hg.log
  have h2 := hg.told
  refine ⟨⟨by rw [bump_len]; show G.log.length + (G.left - 1) ≤ M; omega, by show G.told.length + (G.left - 1) ≤ M; omega, fun e he => ?_⟩, by omega, by omega⟩
  unfold bump at he
  have hg0 : G.log.getD me ([], 0) = G.log[me] := by rw [List.getD_eq_getElem?_getD, List.getElem?_eq_getElem hme]; rfl
  rcases List.mem_or_eq_of_mem_set he with he | he
  · exact hg.steps e he
  · have := hg.steps G.log[me] (List.getElem_mem hme)
    rw [he]
    rw [hg0] at hs ⊢
    show 0 ≤ G.log[me].2 + 1 ∧ G.log[me].2 + 1 ≤ budget
    omega
/-- behind an instruction that is not the last one there is another one. -/
theorem next_at {l : List S58} (hl : POk l) (f : Nat) (hf : f < l.length) {T : Ts} (h0 : 0 ≤ T.at_) (h1 : T.at_ < l[f].f1.length) : IOk l l[f].f1.length (rd_T55 l[f].f1 T.at_) ∧ ((rd_T55 l[f].f1 T.at_).f0 ≠ 9 → (rd_T55 l[f].f1 T.at_).f0 ≠ 16 → (rd_T55 l[f].f1 T.at_).f0 ≠ 17 → T.at_ + 1 < l[f].f1.length) := by
  obtain ⟨_, _, hi, hlast⟩ := hl.fn f hf
  refine ⟨?_, fun a b d => ?_⟩
  · have e : rd_T55 l[f].f1 T.at_ = l[f].f1[T.at_.toNat]'(by omega) := by simp [rd_T55, show T.at_.toNat < l[f].f1.length by omega]
    rw [e]; exact hi _ _
  · by_cases hlt : T.at_ + 1 < l[f].f1.length
    · exact hlt
    · exfalso
      have e : T.at_ = (l[f].f1.length : Int) - 1 := by omega
      rw [e] at a b d
      rcases hlast with h | h | h
      · exact a h
      · exact b h
      · exact d h
/-- the whole of a task's run keeps what is right. -/
theorem run_ok {l : List S58} (hl : POk l) {M : Nat} {budget depth : Int} (hb : 0 ≤ budget) : ∀ k, RecOk M budget l depth (runP l budget depth k) := by
  intro k
  induction k with
  | zero => intro G path f hf me T hg ht; exact ⟨hg, Nat.le_refl _, Nat.le_refl _⟩
  | succ k ih =>
    intro G path f hf me T hg ht
    unfold runP
    by_cases h1 : (G.log.getD me ([], 0)).2 = budget
    · rw [if_pos h1]; exact ⟨hg, Nat.le_refl _, Nat.le_refl _⟩
    rw [if_neg h1]
    by_cases h2 : G.left = 0
    · rw [if_pos h2]; exact ⟨hg, Nat.le_refl _, Nat.le_refl _⟩
    rw [if_neg h2]
    have hbu := bump_inv hg ht.me_ h1 h2
    by_cases h3 : (rd_T55 l[f].f1 T.at_).f0 = 17
    · rw [if_pos h3]
      exact ⟨hbu.1, by rw [bump_len]; exact Nat.le_refl _, Nat.sub_le _ _⟩
    rw [if_neg h3]
    have hna := next_at hl f hf ht.at_.1 ht.at_.2
    have hx := hna.1
    have hlen : (bump G.log me).length = G.log.length := bump_len _ _
    by_cases h9 : (rd_T55 l[f].f1 T.at_).f0 = 9
    · have hs : simple (rd_T55 l[f].f1 T.at_) { T with at_ := T.at_ + 1 } = .go { T with at_ := (rd_T55 l[f].f1 T.at_).f4 } := by
        unfold simple
        repeat (first | rw [if_pos h9] | rw [if_neg (by omega)])
      have hst : stepP l depth (runP l budget depth k) path (rd_T55 l[f].f1 T.at_) { T with at_ := T.at_ + 1 } { G with left := G.left - 1, log := bump G.log me } = .go { T with at_ := (rd_T55 l[f].f1 T.at_).f4 } { G with left := G.left - 1, log := bump G.log me } := by
        unfold stepP
        rw [if_neg (by omega), if_neg (by omega), hs]
      rw [hst]
      have hti : TInv l[f].f1 depth path me { T with at_ := (rd_T55 l[f].f1 T.at_).f4 } { G with left := G.left - 1, log := bump G.log me } := ⟨ht.rl, ht.hl, ht.wait, hx.k (.inl h9), by rw [hlen]; exact ht.kids, ht.wl, by rw [hlen]; exact ht.me_, ht.path_⟩
      have hr := ih _ path f hf me _ hbu.1 hti
      exact ⟨hr.1, by have := hr.2.1; rw [hlen] at this; exact this, by have := hr.2.2; exact Nat.le_trans this (Nat.sub_le _ _)⟩
    · by_cases h16 : (rd_T55 l[f].f1 T.at_).f0 = 16
      · have hst : stepP l depth (runP l budget depth k) path (rd_T55 l[f].f1 T.at_) { T with at_ := T.at_ + 1 } { G with left := G.left - 1, log := bump G.log me } = .stop (.fail (rd_T55 l[f].f1 T.at_).f4) { G with left := G.left - 1, log := bump G.log me } := by
          have hs : simple (rd_T55 l[f].f1 T.at_) { T with at_ := T.at_ + 1 } = .stop (rd_T55 l[f].f1 T.at_).f4 := by
            unfold simple
            repeat (first | rw [if_neg (by omega)])
          unfold stepP
          rw [if_neg (by omega), if_neg (by omega), hs]
        rw [hst]
        exact ⟨hbu.1, by rw [hlen]; exact Nat.le_refl _, Nat.sub_le _ _⟩
      · have hti : TInv l[f].f1 depth path me { T with at_ := T.at_ + 1 } { G with left := G.left - 1, log := bump G.log me } := ⟨ht.rl, ht.hl, ht.wait, ⟨by have := ht.at_.1; show 0 ≤ T.at_ + 1; omega, hna.2 h9 h16 h3⟩, by rw [hlen]; exact ht.kids, ht.wl, by rw [hlen]; exact ht.me_, ht.path_⟩
        have hst := step_inv hl hb ih hx hbu.1 hti (by rw [hlen]; exact hbu.2.1) hbu.2.2
        generalize stepP l depth (runP l budget depth k) path (rd_T55 l[f].f1 T.at_) { T with at_ := T.at_ + 1 } { G with left := G.left - 1, log := bump G.log me } = r at hst
        cases r with
        | stop o G' => exact ⟨hst.1, by have := hst.2.1; rw [hlen] at this; exact this, Nat.le_trans hst.2.2 (Nat.sub_le _ _)⟩
        | go T' G' =>
          have hr := ih _ path f hf me _ hst.1 hst.2.1
          have h4 := hst.2.2.1
          rw [hlen] at h4
          exact ⟨hr.1, Nat.le_trans h4 hr.2.1, Nat.le_trans hr.2.2 (Nat.le_trans hst.2.2.2 (Nat.sub_le _ _))⟩
end Go.Proofs.Ytnhipdniceoigaa.H

set_option linter.unusedVariables false
set_option linter.unusedSimpArgs false
namespace Go.Proofs.Ytnhipdniceoigaa.H
open Go.RowKit Go.Hay Go.Proofs.YtnhipdniceoigaaW.PrintWords Go.Proofs.YtnhipdniceoigaaW.PrintLast Go.Proofs.YtnhipdniceoigaaW.PrintMore
set_option maxRecDepth 100000 in
set_option maxHeartbeats 4000000 in
theorem clonei_any (A : Option Addr) (c : Nat) (xs : List Int) (w : World) (hC : (Kd.int .i64).C w A xs.length xs) (hc : A = none → c = 0 ∧ xs = []) (hl : xs.length ≤ 1000) :
    Calls Try.prog 55 #[.slice A xs.length c] w fun e w' => ∃ v, e = .returned v ∧ (Kd.int .i64).R 3 w' w.heap.size (fun _ => True) v xs ∧ Below w.heap.size w w' := by
  cases A with
  | none =>
    obtain ⟨rfl, rfl⟩ := hc rfl
    have HB := Aside0.mk (Below.refl w.heap.size w)
    have he : ∀ w : World, (binOp .eql 47 (.slice none 0 0) (.slice none 0 0)).run Try.prog w = .ok (.bool true) w := fun _ => rfl
    clear hC
    go_enter Try.func55, Try.ntmps55
    go_wp2_with fail
    go_ret
    exact ⟨_, rfl, Kd.R_nil _ _ _ _ _, HB.out⟩
  | some ad =>
    have HC := Aside0.mk hC
    have HB := Aside0.mk (Below.refl w.heap.size w)
    have he : ∀ w : World, (binOp .eql 47 (.slice (some ad) xs.length c) (.slice none 0 0)).run Try.prog w = .ok (.bool false) w := fun _ => rfl
    have hl8 : (0 + xs.length) * 8 ≤ 140737488355328 := by omega
    clear hC
    go_enter Try.func55, Try.ntmps55
    have hnew : (Kd.int .i64).R 3 (w.alloc (.cells #[] 3)) w.heap.size (fun _ => True) (.slice (some ⟨w.heap.size, 0, none⟩) 0 0) [] :=
      ⟨fun _ _ => trivial, [], ⟨rfl, .inr ⟨w.heap.size, 0, #[], rfl, Nat.le_refl _, alloc_blk _ _, Nat.le_refl _, by decide, rfl, rfl⟩⟩, Reps.none _ _⟩
    go_wp2_with (first | ((with_reducible refine gate_builtin (b := .append) (xs := #[.tmp 5, .tmp 6]) rfl ?_); refine Kd.R_append_rows (Kd.int .i64) (w0 := w) w.heap.size rfl (.tmp 5) (.tmp 6) 47 3 (.int .i64 0) 8 rfl Try.underlying47 info3 rfl (by decide) (by omega) _ [] xs _ _ _ (fun _ => True) (fun _ => False) rfl rfl ?aO ?aR (fun _ _ h => h) (fun _ h => h.elim) ?aF ?aB ?aS ?aL ?_))
    case aO => exact hnew
    case aR => exact Kd.C_alloc HC.out _
    case aF => exact fun _ _ => trivial
    case aB => exact HB.out.alloc (Nat.le_refl _) _
    case aS => simp
    case aL => simpa using hl8
    intro v1 w1 hR hb1 _ _
    have HR1 := Aside0.mk hR
    have HB1 := Aside0.mk hb1
    clear hR hb1 hnew
    go_wp2_with fail
    go_ret
    exact ⟨v1, rfl, HR1.out, HB1.out⟩
set_option maxRecDepth 100000 in
set_option maxHeartbeats 4000000 in
theorem clone64_any (A : Option Addr) (c : Nat) (xs : List Int) (w : World) (hC : (Kd.int .i64).C w A xs.length xs) (hc : A = none → c = 0 ∧ xs = []) (hl : xs.length ≤ 1000) :
    Calls Try.prog 56 #[.slice A xs.length c] w fun e w' => ∃ v, e = .returned v ∧ (Kd.int .i64).R 2 w' w.heap.size (fun _ => True) v xs ∧ Below w.heap.size w w' := by
  cases A with
  | none =>
    obtain ⟨rfl, rfl⟩ := hc rfl
    have HB := Aside0.mk (Below.refl w.heap.size w)
    have he : ∀ w : World, (binOp .eql 23 (.slice none 0 0) (.slice none 0 0)).run Try.prog w = .ok (.bool true) w := fun _ => rfl
    clear hC
    go_enter Try.func56, Try.ntmps56
    go_wp2_with fail
    go_ret
    exact ⟨_, rfl, Kd.R_nil _ _ _ _ _, HB.out⟩
  | some ad =>
    have HC := Aside0.mk hC
    have HB := Aside0.mk (Below.refl w.heap.size w)
    have he : ∀ w : World, (binOp .eql 23 (.slice (some ad) xs.length c) (.slice none 0 0)).run Try.prog w = .ok (.bool false) w := fun _ => rfl
    have hl8 : (0 + xs.length) * 8 ≤ 140737488355328 := by omega
    clear hC
    go_enter Try.func56, Try.ntmps56
    have hnew : (Kd.int .i64).R 2 (w.alloc (.cells #[] 2)) w.heap.size (fun _ => True) (.slice (some ⟨w.heap.size, 0, none⟩) 0 0) [] :=
      ⟨fun _ _ => trivial, [], ⟨rfl, .inr ⟨w.heap.size, 0, #[], rfl, Nat.le_refl _, alloc_blk _ _, Nat.le_refl _, by decide, rfl, rfl⟩⟩, Reps.none _ _⟩
    go_wp2_with (first | ((with_reducible refine gate_builtin (b := .append) (xs := #[.tmp 5, .tmp 6]) rfl ?_); refine Kd.R_append_rows (Kd.int .i64) (w0 := w) w.heap.size rfl (.tmp 5) (.tmp 6) 23 2 (.int .i64 0) 8 rfl Try.underlying23 info2 rfl (by decide) (by omega) _ [] xs _ _ _ (fun _ => True) (fun _ => False) rfl rfl ?aO ?aR (fun _ _ h => h) (fun _ h => h.elim) ?aF ?aB ?aS ?aL ?_))
    case aO => exact hnew
    case aR => exact Kd.C_alloc HC.out _
    case aF => exact fun _ _ => trivial
    case aB => exact HB.out.alloc (Nat.le_refl _) _
    case aS => simp
    case aL => simpa using hl8
    intro v1 w1 hR hb1 _ _
    have HR1 := Aside0.mk hR
    have HB1 := Aside0.mk hb1
    clear hR hb1 hnew
    go_wp2_with fail
    go_ret
    exact ⟨v1, rfl, HR1.out, HB1.out⟩
section
variable {c : Cn} {l : List S58} {G : Gs} {ents : List Ent} {vt vl vw vp : Value} {w : World} {T : Ts} {tb me : Nat}
set_option maxRecDepth 100000 in
set_option maxHeartbeats 4000000 in
theorem temit_any (hg : ES c l G ents vt vl w) (h : TB tb c.wb vp T vw me c.B w) (hlo : c.w0.heap.size ≤ tb) (x : S55) (ha : 0 ≤ x.f1 ∧ x.f1 < 8) (htl : G.told.length ≤ 1000000) : Calls Try.prog 51 #[.pointer (some ⟨tb, 0, none⟩), xv x] w (GoesP c l tb vp me (PA c tb vt vl vw) T { G with told := G.told ++ [rg T x.f1] } w) := by
  obtain ⟨x0, x1, x2, x3, x4⟩ := x
  try simp only at *
  obtain ⟨a, rfl⟩ : ∃ a : Nat, x1 = a := ⟨x1.toNat, by omega⟩
  have hrg : rg T (a : Int) = T.regs.getD a 0 := rfl
  obtain ⟨At, ct, rfl⟩ := Kd.R_slice hg.eg.told
  obtain ⟨W, hW⟩ : ∃ W, W = w.alloc (.cells #[.int .i64 x0, .int .i64 (a), .int .i64 (x2), .int .i64 (x3), .int .i64 x4] 55) := ⟨_, rfl⟩
  have hb1 : Below w.heap.size w W := by rw [hW]; exact (Below.refl w.heap.size w).alloc (Nat.le_refl _) _
  have hbx : W.heap[w.heap.size]? = some (.cells #[.int .i64 x0, .int .i64 (a), .int .i64 (x2), .int .i64 (x3), .int .i64 x4] 55 (0, 0)) := by rw [hW]; exact alloc_blk w _
  have h1 := h.below hb1
  have c0 := blk_cell hbx 0
  have c1 := blk_cell hbx 1
  have c2 := blk_cell hbx 2
  have c3 := blk_cell hbx 3
  have c4 := blk_cell hbx 4
  have t0 := h1.fix.1
  have H := Aside0.mk (And.intro h1 hb1)
  have HWW := Aside0.mk hW
  have hg1 := hg.below hb1
  have ha8 : ((a : Int) < 8) = True := eq_true ha.2
  have r := h1.reg a (by omega)
  rw [hrg]
  generalize T.regs.getD a 0 = y at r
  have HG := Aside0.mk (And.intro hg1 (And.intro (And.intro r t0) (And.intro hbx (And.intro htl hlo))))
  clear hg hg1 ha r hrg htl hlo
  unfold xv
  clear h h1 hb1 hbx hW
  go_enter Try.func51, Try.ntmps51
  go_wp2_with fail
  rw [← HWW.out]
  refine wp_region_seq2 (fun w' => w'.heap[tb]? = W.heap[tb]? ∧ w'.heap[c.wb]? = W.heap[c.wb]? ∧ w'.heap[w.heap.size]? = W.heap[w.heap.size]?) [24] [.take 0, .take 1, .take 2, .take 3, .take 4, .take 5, .take 6, .take 7, .take 8, .take 9, .take 10, .take 11, .take 12, .take 13, .take 14, .take 15, .take 16, .take 17, .take 18, .op 19, .op 20, .op 21, .op 22, .op 23, .fin 24] (by kernel_rfl) (by kernel_rfl) rfl (by kernel_rfl) (panic_viaE (P := Try.prog) (fn := Try.f51) (R := GoesP c l tb vp me (PA c tb (.slice At G.told.length ct) vl vw) T { G with told := G.told ++ [y] } w) (fun _ _ _ => rfl)) ?_
  have hs : W.drew.heap[tb]? = W.heap[tb]? ∧ W.drew.heap[c.wb]? = W.heap[c.wb]? ∧ W.drew.heap[w.heap.size]? = W.heap[w.heap.size]? := ⟨rfl, rfl, rfl⟩
  clear c0 c1 c2 c3 c4 t0
  repeat (
    (first
      | (refine runSeq2_take (v := ?_) (by rfl) (by rfl) (fun w' hS => ?_) hs ?_
         rotate_left
         · (have t0 := (World.cell?_of_block (w := W) (a := ⟨tb, 0, none⟩) hS.1).trans HG.out.2.1.2; have r := (World.cell?_of_block (w := W) (a := ⟨tb, 2 + a, none⟩) hS.1).trans HG.out.2.1.1; have c1 := (World.cell?_of_block (w := W) (a := ⟨w.heap.size, 1, none⟩) hS.2.2).trans (blk_cell HG.out.2.2.1 1); have q6 := (World.cell?_of_block (w := W) (a := ⟨c.wb, 6, none⟩) hS.2.1).trans (blk_cell HG.out.1.eg.node 6); go_simp; exact rfl))
      | refine runSeq2_skip (by rfl) (by rfl) hs ?_)
    (try simp only [Act.put, List.setIfInBounds_toArray, List.set_cons_zero, List.set_cons_succ]))
  refine runSeq2_op (by rfl) (by rfl) (fun K hK => ?_)
  go_simp
  have hb2 : Below W.heap.size W (W.drew.alloc (.cells #[.int .i64 y] 2)) := (Below.refl _ _).drew.alloc (by exact Nat.le_refl _) _
  refine hK _ _ ⟨hb2.block _ (HG.out.1.eg.pB _ (.inl rfl) |>.2 |> fun _ => blk_lt H.out.1.node), hb2.block _ (blk_lt HG.out.1.eg.node), hb2.block _ (blk_lt HG.out.2.2.1)⟩ ?_
  clear hK K
  refine runSeq2_op (by rfl) (by rfl) (fun K hK => ?_)
  have htold := (HG.out.1.eg.below hb2).told
  have hBs : c.B ≤ (W.drew.alloc (.cells #[.int .i64 y] 2)).heap.size := Nat.le_trans (Nat.le_trans HG.out.1.eg.lo (Nat.le_of_lt (blk_lt HG.out.1.eg.node))) hb2.size
  refine wp_append_nums .i64 c.B rfl (.tmp 15) (.tmp 23) 23 2 8 rfl Try.underlying23 info2 (by decide) (.slice At G.told.length ct) G.told [y] _ _ _ rfl rfl htold (reads_nums [y] (alloc_blk _ _) (by simp)) hBs (by have := HG.out.2.2.2.1; omega) ?_
  intro v9 w9 hR9 hbw hgr hat
  have hP := HG.out.1.eg.tell hb2 hR9 hgr hat
  have hne1 : ∀ q, q < W.heap.size → (Value.slice At G.told.length ct).ownBlock ≠ some q → w9.heap[q]? = W.heap[q]? := fun q hq hn => (hgr.block q (Nat.lt_of_lt_of_le hq hb2.size) (fun e => hn e.symm)).trans (hb2.block q hq)
  have hnt : ∀ q cs t, W.heap[q]? = some (.cells cs t (0, 0)) → t ≠ 2 → (Value.slice At G.told.length ct).ownBlock ≠ some q := by
    intro q cs t hq ht e
    obtain ⟨cs', h2⟩ := Kd.R_typed HG.out.1.eg.told q e
    rw [hq] at h2; cases h2; exact ht rfl
  have hE9 : w9.heap[tb]? = W.heap[tb]? ∧ w9.heap[c.wb]? = W.heap[c.wb]? ∧ w9.heap[w.heap.size]? = W.heap[w.heap.size]? := ⟨hne1 tb (blk_lt H.out.1.node) (hnt _ _ _ H.out.1.node (by decide)), hP.2.2.2, hne1 _ (blk_lt HG.out.2.2.1) (hnt _ _ _ HG.out.2.2.1 (by decide))⟩
  obtain ⟨A9, c9, rfl⟩ := Kd.R_slice hR9
  have q6 := (World.cell?_of_block (a := ⟨c.wb, 6, none⟩) hE9.2.1).trans (blk_cell HG.out.1.eg.node 6)
  have z6 := blk_frozen (hE9.2.1.trans HG.out.1.eg.node) 6
  generalize (G.told ++ [y]).length = L9 at hP ⊢
  have HP := Aside0.mk hP
  clear hP hR9 hbw hgr hat hne1 hnt htold hb2 hs
  refine hK _ _ hE9 ?_
  clear hK K
  refine runSeq2_op (by rfl) (by rfl) (fun K hK => ?_)
  go_simp
  refine hK _ _ hE9 ?_
  clear hK K
  refine runSeq2_op (by rfl) (by rfl) (fun K hK => ?_)
  go_simp
  refine hK _ _ hE9 ?_
  clear hK K
  refine runSeq2_op (by rfl) (by rfl) (fun K hK => ?_)
  go_simp
  refine hK _ _ hE9 ?_
  clear hK K
  refine runSeq2_fin (by rfl) (by rfl) (fun K hK => ?_)
  go_simp
  refine hK _ _ ?_
  refine runSeq2_nil ?_
  clear hK K hE9 z6 q6
  go_wp2_with fail
  go_end0
  have hlo := HG.out.2.2.2.2
  have hap := apart HG.out.1.eg H.out.1
  have hB0 : ∀ q, q < c.w0.heap.size → ¬ PG c.wb (.slice At G.told.length ct) vl q := fun q hq hp => by have := HG.out.1.pLo q hp; omega
  have hkw : Keep (PA c tb (.slice At G.told.length ct) vl vw) w (w9.setCell ⟨c.wb, 6, none⟩ (.slice A9 L9 c9)) := (Keep.of_below H.out.2 _).trans (HP.out.2.1.mono (fun q _ h => .inl h))
  refine ⟨rfl, hkw, ents, .slice A9 L9 c9, vl, vw, HG.out.1.turn HP.out.1 HP.out.2.1 hB0, H.out.1.keep HP.out.2.1 (fun q hq hp => hap q hp hq), fun q hq => ?_⟩
  rcases hq with hq | hq
  · rcases HP.out.2.2.1 q hq with h2 | h2
    · exact .inl (.inl h2)
    · exact .inr (Nat.le_trans H.out.2.size h2)
  · exact .inl (.inr hq)
end
end Go.Proofs.Ytnhipdniceoigaa.H

