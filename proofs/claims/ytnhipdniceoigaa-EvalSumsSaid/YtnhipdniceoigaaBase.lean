/- General lemmas for this session's walks: deferred closures that recover; a region that draws its order, walked in one order. No conditions of a program. -/
import Derived.WalkKit
import Derived.KernelRfl
import Derived.WalkLawsBesides
import Derived.Defers
import Derived.Recover
import Derived.OrdersHeld
import Derived.StillTail
import Derived.Outline
set_option linter.unusedVariables false
set_option linter.unusedSimpArgs false
namespace Go.Hay
open Go.RowKit

/-! ### a deferred closure that recovers -/
theorem wpS_body {P : Program} {fn : Func} {c : Code} {c₀ : Frame} {cs : List Frame} {R : Ending → FrameMode → World → Prop} {a : Act} {w : World} {u : FrameMode}
    (h : c.wp P (bodyPost P fn fun e w' => R e u w') a w) : c.wpS P (bodyPostS P fn c₀ cs R) a ({ c₀ with mode := u } :: cs) w := by
  refine wpS_of_wp (Code.wp_mono ?_ h)
  intro e a w' q
  cases e with
  | normal => obtain ⟨hd, v, hr, hR⟩ := q; exact ⟨hd, u, rfl, v, hr, hR⟩
  | ret => obtain ⟨hd, v, hr, hR⟩ := q; exact ⟨hd, u, rfl, v, hr, hR⟩
  | panic ch => obtain ⟨hd, hR⟩ := q; exact ⟨hd, u, rfl, hR⟩
  | outgrown => exact ⟨u, q⟩
  | exit id => exact q.elim
  | goto l => exact q.elim
theorem wpS_body_same {P : Program} {fn : Func} {c : Code} {c₀ : Frame} {cs : List Frame} {R : Ending → FrameMode → World → Prop} {a : Act} {w : World} {u : FrameMode} (hu : c₀.mode = u)
    (h : c.wp P (bodyPost P fn fun e w' => R e u w') a w) : c.wpS P (bodyPostS P fn c₀ cs R) a (c₀ :: cs) w := by
  have h2 := wpS_body (c₀ := c₀) (cs := cs) h
  subst hu
  exact h2

/-- What is left behind a panic hangs on the frame through the results alone. -/
theorem leaves_congr {P : Program} {fn : Func} {t t' : Array Value} {R : Ending → World → Prop} (hr : ∀ w, (results fn t).run P w = (results fn t').run P w) :
    ∀ (ds : List Deferred) (u : FrameMode) (w : World), Leaves P fn t R ds u w → Leaves P fn t' R ds u w
  | [], .returning, w, h => by obtain ⟨v, hv, hR⟩ := h; exact ⟨v, by rw [← hr]; exact hv, hR⟩
  | [], .panicking _, _, h => h
  | [], .run, _, h => h.elim
  | d :: ds, u, w, h => by
    obtain ⟨h1, fv, cap, f, args, h2, h3, h4⟩ := h
    refine ⟨h1, fv, cap, f, args, h2, h3, ?_⟩
    intro c cs hc
    obtain ⟨e, u', w', fr, hR, hrest⟩ := h4 c cs hc
    refine ⟨e, u', w', fr, ?_, hrest⟩
    cases e with
    | returned v => exact leaves_congr hr ds _ _ hR
    | panicked ch => exact leaves_congr hr ds _ _ hR
    | outgrown => exact hR

/-! ### a region that draws its order, walked in one order: what yields in every world that meets S is taken first (.take); the others come one by one (.op); behind those of the last kind (.fin) S is not asked: they wait for all that were taken -/
inductive Turn where
  | take (i : Nat)
  | op (i : Nat)
  | fin (i : Nat)
def Turn.at : Turn → Nat
  | .take i | .op i | .fin i => i
section
variable {P : Program} {md : Region.Mode} {ops : Array Oper} {Q : Exit → Act → World → Prop} {S : World → Prop} {F : List Nat}
def depsAt (md : Region.Mode) (ops : Array Oper) (k : Nat) : List Nat :=
  match ops[k]? with
  | some o => (o.after.toList.filter (Region.binds md)).map (·.on)
  | none => []
/-- Those that wait for i, one behind the other. -/
def upset (md : Region.Mode) (ops : Array Oper) (i : Nat) : List Nat :=
  (List.range ops.size).foldl (fun acc k => if (depsAt md ops k).any acc.contains then k :: acc else acc) [i]
structure Closed (md : Region.Mode) (ops : Array Oper) (listed : Array Bool) : Prop where
  size : listed.size = ops.size
  closed : ∀ j oj, ops[j]? = some oj → listed.getD j false = true → ∀ e ∈ oj.after, Region.binds md e = true → listed.getD e.on false = true
theorem Closed.set {i : Nat} {listed : Array Bool} (inv : Closed md ops listed) (hi : i ∈ Region.ready md ops listed) : Closed md ops (listed.setIfInBounds i true) := by
  obtain ⟨_, oi, hoi, hall⟩ := mem_ready.1 hi
  refine ⟨by simp [inv.size], fun j oj hj hl e he hb => ?_⟩
  by_cases hij : i = j
  · subst hij
    have : oj = oi := Option.some.inj (hj.symm.trans hoi)
    subst this
    exact getD_set_true (hall e he hb)
  · rw [getD_set_ne false hij] at hl
    exact getD_set_true (inv.closed j oj hj hl e he hb)
theorem Closed.start : Closed md ops (Array.replicate ops.size false) :=
  ⟨by simp, fun j oj hj hl => by rw [getD_replicate_false] at hl; cases hl⟩
theorem Closed.dep {listed : Array Bool} (inv : Closed md ops listed) {k d : Nat} (hk : listed.getD k false = true) (hd : d ∈ depsAt md ops k) : listed.getD d false = true := by
  unfold depsAt at hd
  split at hd
  · rename_i o ho
    simp only [List.mem_map, List.mem_filter] at hd
    obtain ⟨e, ⟨he, hb⟩, rfl⟩ := hd
    exact inv.closed k o ho hk e (Array.mem_toList_iff.1 he) hb
  · cases hd
theorem Closed.ready_dep {listed : Array Bool} {k d : Nat} (hk : k ∈ Region.ready md ops listed) (hd : d ∈ depsAt md ops k) : listed.getD d false = true := by
  obtain ⟨_, ok, hok, hall⟩ := mem_ready.1 hk
  unfold depsAt at hd
  rw [hok] at hd
  simp only [List.mem_map, List.mem_filter] at hd
  obtain ⟨e, ⟨he, hb⟩, rfl⟩ := hd
  exact hall e (Array.mem_toList_iff.1 he) hb
theorem upset_unlisted {listed : Array Bool} (inv : Closed md ops listed) {i : Nat} (hi : listed.getD i false = false) : ∀ k ∈ upset md ops i, listed.getD k false = false := by
  unfold upset
  generalize List.range ops.size = l
  have key : ∀ (l acc : List Nat), (∀ k ∈ acc, listed.getD k false = false) → ∀ k ∈ l.foldl (fun acc k => if (depsAt md ops k).any acc.contains then k :: acc else acc) acc, listed.getD k false = false := by
    intro l
    induction l with
    | nil => intro acc h; simpa using h
    | cons x l ih =>
      intro acc h
      rw [List.foldl_cons]
      apply ih
      split
      · rename_i hany
        intro k hk
        rcases List.mem_cons.1 hk with rfl | hk
        · obtain ⟨d, hd, hc⟩ := List.any_eq_true.1 hany
          have hd0 := h d (by simpa using hc)
          cases hx : listed.getD k false with
          | false => rfl
          | true => rw [inv.dep hx hd] at hd0; cases hd0
        · exact h k hk
      · exact h
  exact key l [i] (by intro k hk; rw [List.mem_singleton.1 hk]; exact hi)
def wpAnyF (P : Program) (md : Region.Mode) (ops : Array Oper) (Q : Exit → Act → World → Prop) (S : World → Prop) (F : List Nat) : Nat → Array Bool → Act → World → Prop
  | 0, listed, a, w => Region.ready md ops listed = [] ∧ Q .normal a w
  | fuel + 1, listed, a, w =>
    (Region.ready md ops listed = [] → Q .normal a w) ∧
    ∀ i ∈ Region.ready md ops listed, wpOp P ops Q i (fun a' w' => (F.contains i = false → S w') ∧ wpAnyF P md ops Q S F fuel (listed.setIfInBounds i true) a' w') a w
theorem wpAny_of_F : ∀ (fuel : Nat) (listed : Array Bool) (a : Act) (w : World), wpAnyF P md ops Q S F fuel listed a w → wpAny P md ops Q fuel listed a w
  | 0, _, _, _, h => h
  | fuel + 1, _, _, _, h => ⟨h.1, fun i hi => wpOp_mono (fun a' w' h' => wpAny_of_F fuel _ a' w' h'.2) (h.2 i hi)⟩
/-- those of F wait for i. -/
def blocks (md : Region.Mode) (ops : Array Oper) (F : List Nat) (i : Nat) : Bool := let u := upset md ops i; F.all fun j => (depsAt md ops j).any u.contains
theorem not_last {listed : Array Bool} (inv : Closed md ops listed) {i j : Nat} (hb : blocks md ops F i = true) (hi : listed.getD i true = false) (hj : j ∈ Region.ready md ops listed) : F.contains j = false := by
  cases hF : F.contains j with
  | false => rfl
  | true =>
    have h1 := List.all_eq_true.1 hb j (by simpa using hF)
    obtain ⟨d, hd, hc⟩ := List.any_eq_true.1 h1
    have h2 := upset_unlisted inv (getD_both hi) d (by simpa using hc)
    rw [Closed.ready_dep hj hd] at h2; cases h2
theorem wpAnyF_first {i : Nat} {oi : Oper} {v : Value} (hi : ops[i]? = some oi) (hsel : ∀ (j : Nat) (o : Oper) cs b, ops[j]? = some o → o.op ≠ .select cs b)
    (hQ : ∀ c a w, Q (.panic c) (a.put oi.dst v) w → Q (.panic c) a w) (hb : blocks md ops F i = true) :
    ∀ (fuel : Nat) (listed : Array Bool) (a : Act) (w : World), Closed md ops listed → F.contains i = false →
      (∀ j oj, ops[j]? = some oj → j ≠ i → listed.getD j true = false → (∀ e ∈ oj.after, Region.binds md e = true → e.on ≠ i) → oi.apart ops oj = true) →
      i ∈ Region.ready md ops listed → YieldsIf P ops S oi v a → S w →
      wpAnyF P md ops Q S F fuel (listed.setIfInBounds i true) (a.put oi.dst v) w → wpAnyF P md ops Q S F (fuel + 1) listed a w := by
  intro fuel
  induction fuel with
  | zero =>
    intro listed a w _ _ _ hr hy hS H
    refine ⟨fun h => (by rw [h] at hr; cases hr), fun j hj => ?_⟩
    by_cases hji : j = i
    · subst hji; exact hy.wpOp hi hS ⟨fun _ => hS, H⟩
    · have := ready_mono hj hji
      rw [H.1] at this
      cases this
  | succ fuel ih =>
    intro listed a w inv hFi hfree hr hy hS H
    refine ⟨fun h => (by rw [h] at hr; cases hr), fun j hj => ?_⟩
    by_cases hji : j = i
    · subst hji; exact hy.wpOp hi hS ⟨fun _ => hS, H⟩
    · have h1 := H.2 j (ready_mono hj hji)
      obtain ⟨hjun, oj, hoj, hall⟩ := mem_ready.1 hj
      have hiun := (mem_ready.1 hr).1
      have hnF := not_last inv hb hiun hj
      have hnot : ∀ e ∈ oj.after, Region.binds md e = true → e.on ≠ i := fun e he hb heq => by
        have h1 := hall e he hb
        rw [heq] at h1
        have h0 := getD_both hiun
        rw [h1] at h0; cases h0
      have h2 := wpOp_putIf hoj (hfree j oj hoj hji hjun hnot) (fun cs b => hsel i oi cs b hi) (fun cs b => hsel j oj cs b hoj) hQ hy h1
      have hfree' : ∀ k ok, ops[k]? = some ok → k ≠ i → (listed.setIfInBounds j true).getD k true = false →
          (∀ e ∈ ok.after, Region.binds md e = true → e.on ≠ i) → oi.apart ops ok = true := fun k ok hk hki hun hno => by
        refine hfree k ok hk hki ?_ hno
        by_cases hjk : j = k
        · subst hjk; exact hjun
        · rw [getD_set_ne true hjk] at hun; exact hun
      refine wpOp_mono (fun a' w' h3 => ⟨fun _ => h3.2.1 hnF, ih (listed.setIfInBounds j true) a' w' (inv.set hj) hFi hfree' (ready_mono hr (Ne.symm hji)) h3.1 (h3.2.1 hnF) ?_⟩) h2
      rw [Array.setIfInBounds_comm _ _ hji]
      exact h3.2.2
def runSeq (P : Program) (ops : Array Oper) (Q : Exit → Act → World → Prop) (S : World → Prop) : List Turn → Act → World → Prop
  | [], a, w => Q .normal a w
  | .take i :: r, a, w => ∃ o v, ops[i]? = some o ∧ YieldsIf P ops S o v a ∧ S w ∧ runSeq P ops Q S r (a.put o.dst v) w
  | .op i :: r, a, w => wpOp P ops Q i (fun a' w' => S w' ∧ runSeq P ops Q S r a' w') a w
  | .fin i :: r, a, w => wpOp P ops Q i (fun a' w' => runSeq P ops Q S r a' w') a w
def okSeq (md : Region.Mode) (ops : Array Oper) (F : List Nat) : List Turn → Array Bool → Bool
  | [], listed => (Region.ready md ops listed).isEmpty
  | .take i :: r, listed => (Region.ready md ops listed).contains i && Region.free md ops listed i && blocks md ops F i && !F.contains i && okSeq md ops F r (listed.setIfInBounds i true)
  | .op i :: r, listed => (Region.ready md ops listed == [i]) && okSeq md ops F r (listed.setIfInBounds i true)
  | .fin i :: r, listed => (Region.ready md ops listed == [i]) && F.contains i && okSeq md ops F r (listed.setIfInBounds i true)
theorem wpAnyF_seq (hs : Region.noSelect ops = true) (hQ : ∀ o ∈ ops.toList, ∀ c a v w, Q (.panic c) (a.put o.dst v) w → Q (.panic c) a w) :
    ∀ (l : List Turn) (listed : Array Bool) (a : Act) (w : World), Closed md ops listed → okSeq md ops F l listed = true → runSeq P ops Q S l a w → wpAnyF P md ops Q S F l.length listed a w
  | [], listed, a, w, _, hk, h => ⟨by simpa [okSeq] using hk, h⟩
  | .take i :: r, listed, a, w, inv, hk, h => by
    simp only [okSeq, Bool.and_eq_true, Bool.not_eq_true'] at hk
    obtain ⟨o, v, ho, hy, hS, hr⟩ := h
    have hi : i ∈ Region.ready md ops listed := by simpa using hk.1.1.1.1
    exact wpAnyF_first ho (Region.noSelect_spec hs) (fun c a w => hQ o (Array.mem_toList_iff.2 (Array.mem_of_getElem? ho)) c a v w) hk.1.1.2 r.length listed a w inv hk.1.2
      (Region.free_spec ho hk.1.1.1.2) hi hy hS (wpAnyF_seq hs hQ r _ _ _ (inv.set hi) hk.2 hr)
  | .op i :: r, listed, a, w, inv, hk, h => by
    simp only [okSeq, Bool.and_eq_true, beq_iff_eq] at hk
    refine ⟨fun h0 => (by rw [hk.1] at h0; cases h0), fun j hj => ?_⟩
    have hji : j = i := by rw [hk.1] at hj; simpa using hj
    subst hji
    exact wpOp_mono (fun a' w' h' => ⟨fun _ => h'.1, wpAnyF_seq hs hQ r _ _ _ (inv.set hj) hk.2 h'.2⟩) h
  | .fin i :: r, listed, a, w, inv, hk, h => by
    simp only [okSeq, Bool.and_eq_true, beq_iff_eq] at hk
    refine ⟨fun h0 => (by rw [hk.1.1] at h0; cases h0), fun j hj => ?_⟩
    have hji : j = i := by rw [hk.1.1] at hj; simpa using hj
    subst hji
    exact wpOp_mono (fun a' w' h' => ⟨fun hc => (by rw [hk.1.2] at hc; cases hc), wpAnyF_seq hs hQ r _ _ _ (inv.set hj) hk.2 h'⟩) h
theorem wp_region_seq {id : Nat} {a : Act} {w : World} (S : World → Prop) (F : List Nat) (l : List Turn) (hm : P.follows .mixedOrders = true) (hs : Region.noSelect ops = true) (hl : l.length = ops.size)
    (hk : okSeq .any ops F l (Array.replicate ops.size false) = true)
    (hQ : ∀ o ∈ ops.toList, ∀ c a v w, Q (.panic c) (a.put o.dst v) w → Q (.panic c) a w)
    (h : runSeq P ops Q S l a w.drew) : (Code.region id ops true).wp P Q a w :=
  wp_region_any hm (wpAny_of_F _ _ _ _ (hl ▸ wpAnyF_seq hs hQ l _ _ _ Closed.start hk h))
theorem runSeq_nil {a : Act} {w : World} (h : Q .normal a w) : runSeq P ops Q S [] a w := h
theorem runSeq_take {i : Nat} {o : Oper} {v : Value} {r : List Turn} {a : Act} {w : World} (ho' : ops.toList[i]? = some o) (hw : Region.wanted o (yielded ops a.tmps) = true)
    (hy : ∀ w', S w' → (execOp a.eval o).run P w' = .ok (.value v) w') (hS : S w) (h : runSeq P ops Q S r (a.put o.dst v) w) : runSeq P ops Q S (.take i :: r) a w :=
  ⟨o, v, by simpa using ho', .inl ⟨hw, hy⟩, hS, h⟩
theorem runSeq_skip {i : Nat} {o : Oper} {r : List Turn} {a : Act} {w : World} (ho' : ops.toList[i]? = some o) (hw : Region.wanted o (yielded ops a.tmps) = false)
    (hS : S w) (h : runSeq P ops Q S r (a.put o.dst undef) w) : runSeq P ops Q S (.take i :: r) a w :=
  ⟨o, undef, by simpa using ho', .inr ⟨hw, rfl⟩, hS, h⟩
theorem runSeq_op {i : Nat} {o : Oper} {r : List Turn} {a : Act} {w : World} (ho' : ops.toList[i]? = some o) (hw : Region.wanted o (yielded ops a.tmps) = true)
    (h : ∀ K : Act → World → Prop, (∀ a' w', S w' → runSeq P ops Q S r a' w' → K a' w') → o.wp P a w K Q) : runSeq P ops Q S (.op i :: r) a w := by
  have ho : ops[i]? = some o := by simpa using ho'
  show wpOp _ _ _ _ _ _ _
  unfold wpOp
  simp only [ho, hw, if_true]
  exact .inl (h _ fun a' w' hS hr => ⟨hS, hr⟩)
theorem runSeq_fin {i : Nat} {o : Oper} {r : List Turn} {a : Act} {w : World} (ho' : ops.toList[i]? = some o) (hw : Region.wanted o (yielded ops a.tmps) = true)
    (h : ∀ K : Act → World → Prop, (∀ a' w', runSeq P ops Q S r a' w' → K a' w') → o.wp P a w K Q) : runSeq P ops Q S (.fin i :: r) a w := by
  have ho : ops[i]? = some o := by simpa using ho'
  show wpOp _ _ _ _ _ _ _
  unfold wpOp
  simp only [ho, hw, if_true]
  exact .inl (h _ fun a' w' hr => hr)
end
/-! ### what the region's post asks of a frame at a panic -/
theorem put_getD {a : Act} {d : Option Tmp} {v : Value} {t : Nat} (h : d ≠ some t) : (a.put d v).tmps.getD t undef = a.tmps.getD t undef := by
  cases d with
  | none => rfl
  | some k =>
    have hk : k ≠ t := fun e => h (by rw [e])
    simp [Act.put, Array.getD_eq_getD_getElem?, Array.getElem?_setIfInBounds_ne hk]
theorem results_cells2 {fn : Func} {x y : Nat} {t u : TypeId} (hr : fn.results = #[.cell x t, .cell y u]) {a a' : Array Value} (hx : a.getD x undef = a'.getD x undef) (hy : a.getD y undef = a'.getD y undef) :
    results fn a = results fn a' := by
  simp only [Array.getD_eq_getD_getElem?] at hx hy
  simp [results, hr, hx, hy]
theorem results_cells3 {fn : Func} {x y z : Nat} {t u q : TypeId} (hr : fn.results = #[.cell x t, .cell y u, .cell z q]) {a a' : Array Value} (hx : a.getD x undef = a'.getD x undef) (hy : a.getD y undef = a'.getD y undef) (hz : a.getD z undef = a'.getD z undef) :
    results fn a = results fn a' := by
  simp only [Array.getD_eq_getD_getElem?] at hx hy hz
  simp [results, hr, hx, hy, hz]
theorem panic_put2 {P : Program} {fn : Func} {R : Ending → World → Prop} {x y : Nat} {t u : TypeId} (hr : fn.results = #[.cell x t, .cell y u]) {ops : Array Oper}
    (hk : (ops.toList.all fun o => !(o.dst == some x) && !(o.dst == some y)) = true) :
    ∀ o ∈ ops.toList, ∀ c a v w, bodyPostD P fn R (.panic c) (a.put o.dst v) w → bodyPostD P fn R (.panic c) a w := by
  intro o ho c a v w h
  have h1 := List.all_eq_true.1 hk o ho
  simp only [Bool.and_eq_true, Bool.not_eq_true', beq_eq_false_iff_ne] at h1
  have hd : (a.put o.dst v).defers = a.defers := by cases o.dst <;> rfl
  have e := results_cells2 hr (put_getD (v := v) (a := a) h1.1) (put_getD (v := v) (a := a) h1.2)
  have h' : Leaves P fn (a.put o.dst v).tmps R (a.put o.dst v).defers (.panicking c) w := h
  rw [hd] at h'
  exact leaves_congr (fun w => by rw [e]) _ _ _ h'
theorem panic_put3 {P : Program} {fn : Func} {R : Ending → World → Prop} {x y z : Nat} {t u q : TypeId} (hr : fn.results = #[.cell x t, .cell y u, .cell z q]) {ops : Array Oper}
    (hk : (ops.toList.all fun o => !(o.dst == some x) && !(o.dst == some y) && !(o.dst == some z)) = true) :
    ∀ o ∈ ops.toList, ∀ c a v w, bodyPostD P fn R (.panic c) (a.put o.dst v) w → bodyPostD P fn R (.panic c) a w := by
  intro o ho c a v w h
  have h1 := List.all_eq_true.1 hk o ho
  simp only [Bool.and_eq_true, Bool.not_eq_true', beq_eq_false_iff_ne] at h1
  have hd : (a.put o.dst v).defers = a.defers := by cases o.dst <;> rfl
  have e := results_cells3 hr (put_getD (v := v) (a := a) h1.1.1) (put_getD (v := v) (a := a) h1.1.2) (put_getD (v := v) (a := a) h1.2)
  have h' : Leaves P fn (a.put o.dst v).tmps R (a.put o.dst v).defers (.panicking c) w := h
  rw [hd] at h'
  exact leaves_congr (fun w => by rw [e]) _ _ _ h'
theorem panic_put {P : Program} {fn : Func} {R : Ending → World → Prop} {ops : Array Oper} :
    ∀ o ∈ ops.toList, ∀ c a v w, bodyPost P fn R (.panic c) (a.put o.dst v) w → bodyPost P fn R (.panic c) a w := by
  intro o ho c a v w h
  have hd : (a.put o.dst v).defers = a.defers := by cases o.dst <;> rfl
  exact ⟨hd ▸ h.1, h.2⟩
end Go.Hay
