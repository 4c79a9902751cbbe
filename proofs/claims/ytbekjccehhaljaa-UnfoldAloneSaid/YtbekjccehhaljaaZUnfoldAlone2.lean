/- What the proof of UnfoldAlone stands on, part 2: this session's own texts and the words that the kit's print lays, those that are used. -/
import Derived.Test.YtbekjccehhaljaaZUnfoldAlone1
import Derived.WalkKit
import Derived.KernelRfl
import Derived.WalkLawsBesides
import Derived.Defers
import Derived.Recover
import Derived.OrdersHeld
import Derived.StillTail
import Derived.Outline
import Derived.Deep.RegionHeld3
import Derived.BigQuiet
import Derived.Deep.QuietTactic
set_option linter.unusedVariables false
set_option linter.unusedSimpArgs false
namespace Go.Hay
open Go.RowKit

/-! ### a deferred closure that recovers -/
theorem wpS_body {P : Program} {fn : Func} {c : Code} {c₀ : Frame} {cs : List Frame} {R : Ending → FrameMode → World → Prop} {a : Act} {w : World} {u : FrameMode}
    (h : c.wp P (bodyPost P fn fun e w' => R e u w') a w) : c.wpS P (bodyPostS P fn c₀ cs R) a ({ c₀ with mode := u } :: cs) w := by
  refine wpS_of_wp (Code.wp_mono ?_ h)
  intro e a w' q
  cases e with
  | normal => obtain ⟨hd, v, hr, hR⟩ := q; exact ⟨hd, u, rfl, v, hr, hR⟩
  | ret => obtain ⟨hd, v, hr, hR⟩ := q; exact ⟨hd, u, rfl, v, hr, hR⟩
  | panic ch => obtain ⟨hd, hR⟩ := q; exact ⟨hd, u, rfl, hR⟩
  | outgrown => exact ⟨u, q⟩
  | exit id => exact q.elim
  | goto l => exact q.elim
theorem wpS_body_same {P : Program} {fn : Func} {c : Code} {c₀ : Frame} {cs : List Frame} {R : Ending → FrameMode → World → Prop} {a : Act} {w : World} {u : FrameMode} (hu : c₀.mode = u)
    (h : c.wp P (bodyPost P fn fun e w' => R e u w') a w) : c.wpS P (bodyPostS P fn c₀ cs R) a (c₀ :: cs) w := by
  have h2 := wpS_body (c₀ := c₀) (cs := cs) h
  subst hu
  exact h2

/-- What is left behind a panic hangs on the frame through the results alone. -/
theorem leaves_congr {P : Program} {fn : Func} {t t' : Array Value} {R : Ending → World → Prop} (hr : ∀ w, (results fn t).run P w = (results fn t').run P w) :
    ∀ (ds : List Deferred) (u : FrameMode) (w : World), Leaves P fn t R ds u w → Leaves P fn t' R ds u w
  | [], .returning, w, h => by obtain ⟨v, hv, hR⟩ := h; exact ⟨v, by rw [← hr]; exact hv, hR⟩
  | [], .panicking _, _, h => h
  | [], .run, _, h => h.elim
  | d :: ds, u, w, h => by
    obtain ⟨h1, fv, cap, f, args, h2, h3, h4⟩ := h
    refine ⟨h1, fv, cap, f, args, h2, h3, ?_⟩
    intro c cs hc
    obtain ⟨e, u', w', fr, hR, hrest⟩ := h4 c cs hc
    refine ⟨e, u', w', fr, ?_, hrest⟩
    cases e with
    | returned v => exact leaves_congr hr ds _ _ hR
    | panicked ch => exact leaves_congr hr ds _ _ hR
    | outgrown => exact hR

/-! ### a region that draws its order, walked in one order: what yields in every world that meets S is taken first (.take); the others come one by one (.op); behind those of the last kind (.fin) S is not asked: they wait for all that were taken -/
inductive Turn where
  | take (i : Nat)
  | op (i : Nat)
  | fin (i : Nat)
def Turn.at : Turn → Nat
  | .take i | .op i | .fin i => i
section
variable {P : Program} {md : Region.Mode} {ops : Array Oper} {Q : Exit → Act → World → Prop} {S : World → Prop} {F : List Nat}
def depsAt (md : Region.Mode) (ops : Array Oper) (k : Nat) : List Nat :=
  match ops[k]? with
  | some o => (o.after.toList.filter (Region.binds md)).map (·.on)
  | none => []
/-- Those that wait for i, one behind the other. -/
def upset (md : Region.Mode) (ops : Array Oper) (i : Nat) : List Nat :=
  (List.range ops.size).foldl (fun acc k => if (depsAt md ops k).any acc.contains then k :: acc else acc) [i]
structure Closed (md : Region.Mode) (ops : Array Oper) (listed : Array Bool) : Prop where
  size : listed.size = ops.size
  closed : ∀ j oj, ops[j]? = some oj → listed.getD j false = true → ∀ e ∈ oj.after, Region.binds md e = true → listed.getD e.on false = true
theorem Closed.set {i : Nat} {listed : Array Bool} (inv : Closed md ops listed) (hi : i ∈ Region.ready md ops listed) : Closed md ops (listed.setIfInBounds i true) := by
  obtain ⟨_, oi, hoi, hall⟩ := mem_ready.1 hi
  refine ⟨by simp [inv.size], fun j oj hj hl e he hb => ?_⟩
  by_cases hij : i = j
  · subst hij
    have : oj = oi := Option.some.inj (hj.symm.trans hoi)
    subst this
    exact getD_set_true (hall e he hb)
  · rw [getD_set_ne false hij] at hl
    exact getD_set_true (inv.closed j oj hj hl e he hb)
theorem Closed.start : Closed md ops (Array.replicate ops.size false) :=
  ⟨by simp, fun j oj hj hl => by rw [getD_replicate_false] at hl; cases hl⟩
theorem Closed.dep {listed : Array Bool} (inv : Closed md ops listed) {k d : Nat} (hk : listed.getD k false = true) (hd : d ∈ depsAt md ops k) : listed.getD d false = true := by
  unfold depsAt at hd
  split at hd
  · rename_i o ho
    simp only [List.mem_map, List.mem_filter] at hd
    obtain ⟨e, ⟨he, hb⟩, rfl⟩ := hd
    exact inv.closed k o ho hk e (Array.mem_toList_iff.1 he) hb
  · cases hd
theorem Closed.ready_dep {listed : Array Bool} {k d : Nat} (hk : k ∈ Region.ready md ops listed) (hd : d ∈ depsAt md ops k) : listed.getD d false = true := by
  obtain ⟨_, ok, hok, hall⟩ := mem_ready.1 hk
  unfold depsAt at hd
  rw [hok] at hd
  simp only [List.mem_map, List.mem_filter] at hd
  obtain ⟨e, ⟨he, hb⟩, rfl⟩ := hd
  exact hall e (Array.mem_toList_iff.1 he) hb
theorem upset_unlisted {listed : Array Bool} (inv : Closed md ops listed) {i : Nat} (hi : listed.getD i false = false) : ∀ k ∈ upset md ops i, listed.getD k false = false := by
  unfold upset
  generalize List.range ops.size = l
  have key : ∀ (l acc : List Nat), (∀ k ∈ acc, listed.getD k false = false) → ∀ k ∈ l.foldl (fun acc k => if (depsAt md ops k).any acc.contains then k :: acc else acc) acc, listed.getD k false = false := by
    intro l
    induction l with
    | nil => intro acc h; simpa using h
    | cons x l ih =>
      intro acc h
      rw [List.foldl_cons]
      apply ih
      split
      · rename_i hany
        intro k hk
        rcases List.mem_cons.1 hk with rfl | hk
        · obtain ⟨d, hd, hc⟩ := List.any_eq_true.1 hany
          have hd0 := h d (by simpa using hc)
          cases hx : listed.getD k false with
          | false => rfl
          | true => rw [inv.dep hx hd] at hd0; cases hd0
        · exact h k hk
      · exact h
  exact key l [i] (by intro k hk; rw [List.mem_singleton.1 hk]; exact hi)
def wpAnyF (P : Program) (md : Region.Mode) (ops : Array Oper) (Q : Exit → Act → World → Prop) (S : World → Prop) (F : List Nat) : Nat → Array Bool → Act → World → Prop
  | 0, listed, a, w => Region.ready md ops listed = [] ∧ Q .normal a w
  | fuel + 1, listed, a, w =>
    (Region.ready md ops listed = [] → Q .normal a w) ∧
    ∀ i ∈ Region.ready md ops listed, wpOp P ops Q i (fun a' w' => (F.contains i = false → S w') ∧ wpAnyF P md ops Q S F fuel (listed.setIfInBounds i true) a' w') a w
theorem wpAny_of_F : ∀ (fuel : Nat) (listed : Array Bool) (a : Act) (w : World), wpAnyF P md ops Q S F fuel listed a w → wpAny P md ops Q fuel listed a w
  | 0, _, _, _, h => h
  | fuel + 1, _, _, _, h => ⟨h.1, fun i hi => wpOp_mono (fun a' w' h' => wpAny_of_F fuel _ a' w' h'.2) (h.2 i hi)⟩
/-- those of F wait for i. -/
def blocks (md : Region.Mode) (ops : Array Oper) (F : List Nat) (i : Nat) : Bool := let u := upset md ops i; F.all fun j => (depsAt md ops j).any u.contains
theorem not_last {listed : Array Bool} (inv : Closed md ops listed) {i j : Nat} (hb : blocks md ops F i = true) (hi : listed.getD i true = false) (hj : j ∈ Region.ready md ops listed) : F.contains j = false := by
  cases hF : F.contains j with
  | false => rfl
  | true =>
    have h1 := List.all_eq_true.1 hb j (by simpa using hF)
    obtain ⟨d, hd, hc⟩ := List.any_eq_true.1 h1
    have h2 := upset_unlisted inv (getD_both hi) d (by simpa using hc)
    rw [Closed.ready_dep hj hd] at h2; cases h2
theorem wpAnyF_first {i : Nat} {oi : Oper} {v : Value} (hi : ops[i]? = some oi) (hsel : ∀ (j : Nat) (o : Oper) cs b, ops[j]? = some o → o.op ≠ .select cs b)
    (hQ : ∀ c a w, Q (.panic c) (a.put oi.dst v) w → Q (.panic c) a w) (hb : blocks md ops F i = true) :
    ∀ (fuel : Nat) (listed : Array Bool) (a : Act) (w : World), Closed md ops listed → F.contains i = false →
      (∀ j oj, ops[j]? = some oj → j ≠ i → listed.getD j true = false → (∀ e ∈ oj.after, Region.binds md e = true → e.on ≠ i) → oi.apart ops oj = true) →
      i ∈ Region.ready md ops listed → YieldsIf P ops S oi v a → S w →
      wpAnyF P md ops Q S F fuel (listed.setIfInBounds i true) (a.put oi.dst v) w → wpAnyF P md ops Q S F (fuel + 1) listed a w := by
  intro fuel
  induction fuel with
  | zero =>
    intro listed a w _ _ _ hr hy hS H
    refine ⟨fun h => (by rw [h] at hr; cases hr), fun j hj => ?_⟩
    by_cases hji : j = i
    · subst hji; exact hy.wpOp hi hS ⟨fun _ => hS, H⟩
    · have := ready_mono hj hji
      rw [H.1] at this
      cases this
  | succ fuel ih =>
    intro listed a w inv hFi hfree hr hy hS H
    refine ⟨fun h => (by rw [h] at hr; cases hr), fun j hj => ?_⟩
    by_cases hji : j = i
    · subst hji; exact hy.wpOp hi hS ⟨fun _ => hS, H⟩
    · have h1 := H.2 j (ready_mono hj hji)
      obtain ⟨hjun, oj, hoj, hall⟩ := mem_ready.1 hj
      have hiun := (mem_ready.1 hr).1
      have hnF := not_last inv hb hiun hj
      have hnot : ∀ e ∈ oj.after, Region.binds md e = true → e.on ≠ i := fun e he hb heq => by
        have h1 := hall e he hb
        rw [heq] at h1
        have h0 := getD_both hiun
        rw [h1] at h0; cases h0
      have h2 := wpOp_putIf hoj (hfree j oj hoj hji hjun hnot) (fun cs b => hsel i oi cs b hi) (fun cs b => hsel j oj cs b hoj) hQ hy h1
      have hfree' : ∀ k ok, ops[k]? = some ok → k ≠ i → (listed.setIfInBounds j true).getD k true = false →
          (∀ e ∈ ok.after, Region.binds md e = true → e.on ≠ i) → oi.apart ops ok = true := fun k ok hk hki hun hno => by
        refine hfree k ok hk hki ?_ hno
        by_cases hjk : j = k
        · subst hjk; exact hjun
        · rw [getD_set_ne true hjk] at hun; exact hun
      refine wpOp_mono (fun a' w' h3 => ⟨fun _ => h3.2.1 hnF, ih (listed.setIfInBounds j true) a' w' (inv.set hj) hFi hfree' (ready_mono hr (Ne.symm hji)) h3.1 (h3.2.1 hnF) ?_⟩) h2
      rw [Array.setIfInBounds_comm _ _ hji]
      exact h3.2.2
def runSeq (P : Program) (ops : Array Oper) (Q : Exit → Act → World → Prop) (S : World → Prop) : List Turn → Act → World → Prop
  | [], a, w => Q .normal a w
  | .take i :: r, a, w => ∃ o v, ops[i]? = some o ∧ YieldsIf P ops S o v a ∧ S w ∧ runSeq P ops Q S r (a.put o.dst v) w
  | .op i :: r, a, w => wpOp P ops Q i (fun a' w' => S w' ∧ runSeq P ops Q S r a' w') a w
  | .fin i :: r, a, w => wpOp P ops Q i (fun a' w' => runSeq P ops Q S r a' w') a w
def okSeq (md : Region.Mode) (ops : Array Oper) (F : List Nat) : List Turn → Array Bool → Bool
  | [], listed => (Region.ready md ops listed).isEmpty
  | .take i :: r, listed => (Region.ready md ops listed).contains i && Region.free md ops listed i && blocks md ops F i && !F.contains i && okSeq md ops F r (listed.setIfInBounds i true)
  | .op i :: r, listed => (Region.ready md ops listed == [i]) && okSeq md ops F r (listed.setIfInBounds i true)
  | .fin i :: r, listed => (Region.ready md ops listed == [i]) && F.contains i && okSeq md ops F r (listed.setIfInBounds i true)
theorem wpAnyF_seq (hs : Region.noSelect ops = true) (hQ : ∀ o ∈ ops.toList, ∀ c a v w, Q (.panic c) (a.put o.dst v) w → Q (.panic c) a w) :
    ∀ (l : List Turn) (listed : Array Bool) (a : Act) (w : World), Closed md ops listed → okSeq md ops F l listed = true → runSeq P ops Q S l a w → wpAnyF P md ops Q S F l.length listed a w
  | [], listed, a, w, _, hk, h => ⟨by simpa [okSeq] using hk, h⟩
  | .take i :: r, listed, a, w, inv, hk, h => by
    simp only [okSeq, Bool.and_eq_true, Bool.not_eq_true'] at hk
    obtain ⟨o, v, ho, hy, hS, hr⟩ := h
    have hi : i ∈ Region.ready md ops listed := by simpa using hk.1.1.1.1
    exact wpAnyF_first ho (Region.noSelect_spec hs) (fun c a w => hQ o (Array.mem_toList_iff.2 (Array.mem_of_getElem? ho)) c a v w) hk.1.1.2 r.length listed a w inv hk.1.2
      (Region.free_spec ho hk.1.1.1.2) hi hy hS (wpAnyF_seq hs hQ r _ _ _ (inv.set hi) hk.2 hr)
  | .op i :: r, listed, a, w, inv, hk, h => by
    simp only [okSeq, Bool.and_eq_true, beq_iff_eq] at hk
    refine ⟨fun h0 => (by rw [hk.1] at h0; cases h0), fun j hj => ?_⟩
    have hji : j = i := by rw [hk.1] at hj; simpa using hj
    subst hji
    exact wpOp_mono (fun a' w' h' => ⟨fun _ => h'.1, wpAnyF_seq hs hQ r _ _ _ (inv.set hj) hk.2 h'.2⟩) h
  | .fin i :: r, listed, a, w, inv, hk, h => by
    simp only [okSeq, Bool.and_eq_true, beq_iff_eq] at hk
    refine ⟨fun h0 => (by rw [hk.1.1] at h0; cases h0), fun j hj => ?_⟩
    have hji : j = i := by rw [hk.1.1] at hj; simpa using hj
    subst hji
    exact wpOp_mono (fun a' w' h' => ⟨fun hc => (by rw [hk.1.2] at hc; cases hc), wpAnyF_seq hs hQ r _ _ _ (inv.set hj) hk.2 h'⟩) h
theorem wp_region_seq {id : Nat} {a : Act} {w : World} (S : World → Prop) (F : List Nat) (l : List Turn) (hm : P.follows .mixedOrders = true) (hs : Region.noSelect ops = true) (hl : l.length = ops.size)
    (hk : okSeq .any ops F l (Array.replicate ops.size false) = true)
    (hQ : ∀ o ∈ ops.toList, ∀ c a v w, Q (.panic c) (a.put o.dst v) w → Q (.panic c) a w)
    (h : runSeq P ops Q S l a w.drew) : (Code.region id ops true).wp P Q a w :=
  wp_region_any hm (wpAny_of_F _ _ _ _ (hl ▸ wpAnyF_seq hs hQ l _ _ _ Closed.start hk h))
theorem runSeq_nil {a : Act} {w : World} (h : Q .normal a w) : runSeq P ops Q S [] a w := h
theorem runSeq_take {i : Nat} {o : Oper} {v : Value} {r : List Turn} {a : Act} {w : World} (ho' : ops.toList[i]? = some o) (hw : Region.wanted o (yielded ops a.tmps) = true)
    (hy : ∀ w', S w' → (execOp a.eval o).run P w' = .ok (.value v) w') (hS : S w) (h : runSeq P ops Q S r (a.put o.dst v) w) : runSeq P ops Q S (.take i :: r) a w :=
  ⟨o, v, by simpa using ho', .inl ⟨hw, hy⟩, hS, h⟩
theorem runSeq_skip {i : Nat} {o : Oper} {r : List Turn} {a : Act} {w : World} (ho' : ops.toList[i]? = some o) (hw : Region.wanted o (yielded ops a.tmps) = false)
    (hS : S w) (h : runSeq P ops Q S r (a.put o.dst undef) w) : runSeq P ops Q S (.take i :: r) a w :=
  ⟨o, undef, by simpa using ho', .inr ⟨hw, rfl⟩, hS, h⟩
theorem runSeq_op {i : Nat} {o : Oper} {r : List Turn} {a : Act} {w : World} (ho' : ops.toList[i]? = some o) (hw : Region.wanted o (yielded ops a.tmps) = true)
    (h : ∀ K : Act → World → Prop, (∀ a' w', S w' → runSeq P ops Q S r a' w' → K a' w') → o.wp P a w K Q) : runSeq P ops Q S (.op i :: r) a w := by
  have ho : ops[i]? = some o := by simpa using ho'
  show wpOp _ _ _ _ _ _ _
  unfold wpOp
  simp only [ho, hw, if_true]
  exact .inl (h _ fun a' w' hS hr => ⟨hS, hr⟩)
theorem runSeq_fin {i : Nat} {o : Oper} {r : List Turn} {a : Act} {w : World} (ho' : ops.toList[i]? = some o) (hw : Region.wanted o (yielded ops a.tmps) = true)
    (h : ∀ K : Act → World → Prop, (∀ a' w', runSeq P ops Q S r a' w' → K a' w') → o.wp P a w K Q) : runSeq P ops Q S (.fin i :: r) a w := by
  have ho : ops[i]? = some o := by simpa using ho'
  show wpOp _ _ _ _ _ _ _
  unfold wpOp
  simp only [ho, hw, if_true]
  exact .inl (h _ fun a' w' hr => hr)
end
/-! ### what the region's post asks of a frame at a panic -/
theorem put_getD {a : Act} {d : Option Tmp} {v : Value} {t : Nat} (h : d ≠ some t) : (a.put d v).tmps.getD t undef = a.tmps.getD t undef := by
  cases d with
  | none => rfl
  | some k =>
    have hk : k ≠ t := fun e => h (by rw [e])
    simp [Act.put, Array.getD_eq_getD_getElem?, Array.getElem?_setIfInBounds_ne hk]
theorem results_cells2 {fn : Func} {x y : Nat} {t u : TypeId} (hr : fn.results = #[.cell x t, .cell y u]) {a a' : Array Value} (hx : a.getD x undef = a'.getD x undef) (hy : a.getD y undef = a'.getD y undef) :
    results fn a = results fn a' := by
  simp only [Array.getD_eq_getD_getElem?] at hx hy
  simp [results, hr, hx, hy]
theorem panic_put2 {P : Program} {fn : Func} {R : Ending → World → Prop} {x y : Nat} {t u : TypeId} (hr : fn.results = #[.cell x t, .cell y u]) {ops : Array Oper}
    (hk : (ops.toList.all fun o => !(o.dst == some x) && !(o.dst == some y)) = true) :
    ∀ o ∈ ops.toList, ∀ c a v w, bodyPostD P fn R (.panic c) (a.put o.dst v) w → bodyPostD P fn R (.panic c) a w := by
  intro o ho c a v w h
  have h1 := List.all_eq_true.1 hk o ho
  simp only [Bool.and_eq_true, Bool.not_eq_true', beq_eq_false_iff_ne] at h1
  have hd : (a.put o.dst v).defers = a.defers := by cases o.dst <;> rfl
  have e := results_cells2 hr (put_getD (v := v) (a := a) h1.1) (put_getD (v := v) (a := a) h1.2)
  have h' : Leaves P fn (a.put o.dst v).tmps R (a.put o.dst v).defers (.panicking c) w := h
  rw [hd] at h'
  exact leaves_congr (fun w => by rw [e]) _ _ _ h'
theorem panic_put {P : Program} {fn : Func} {R : Ending → World → Prop} {ops : Array Oper} :
    ∀ o ∈ ops.toList, ∀ c a v w, bodyPost P fn R (.panic c) (a.put o.dst v) w → bodyPost P fn R (.panic c) a w := by
  intro o ho c a v w h
  have hd : (a.put o.dst v).defers = a.defers := by cases o.dst <;> rfl
  exact ⟨hd ▸ h.1, h.2⟩
end Go.Hay

set_option linter.unusedVariables false
set_option linter.unusedSimpArgs false
namespace Go.Hay
open Go.RowKit Go.Proofs.YtbekjccehhaljaaW.PrintWords Go.Proofs.YtbekjccehhaljaaW.PrintLast Go.Proofs.YtbekjccehhaljaaW.PrintMore

theorem reads_cells {α : Type} {R : α → List Value → Prop} {size : Nat} {W : World} {b : Nat} {C : Array Value} {t : TypeId} {fr : Nat × Nat} {ps : List α} (h : W.heap[b]? = some (.cells C t fr)) (hr : Reps R size ps C.toList)
    (hm : ps.length ≤ 9223372036854775807) : ReadsRow R size W (some ⟨b, 0, none⟩) ps.length ps := by
  refine ⟨rfl, hm, fun _ => ⟨_, rfl, fun j p hj => ?_⟩⟩
  have hlt : j < ps.length := (List.getElem?_eq_some_iff.1 hj).1
  have hle : (j + 1) * size ≤ ps.length * size := Nat.mul_le_mul_right _ hlt
  rw [Nat.add_mul, Nat.one_mul] at hle
  refine ⟨_, ?_, hr.2 j p hj, fun i u hu => ?_⟩
  · have := hr.1
    simp only [List.length_take, List.length_drop]
    omega
  · rw [add_plain]
    have hi : i < size := by
      have := (List.getElem?_eq_some_iff.1 hu).1
      simp only [List.length_take] at this
      omega
    rw [cell_of_row W b _ C t fr h]
    rw [List.getElem?_take_of_lt hi, List.getElem?_drop] at hu
    simpa using hu

theorem alloc_blk (w : World) (o : Obj) : (w.alloc o).heap[w.heap.size]? = some o := by
  show (w.heap.push o)[_]? = _
  rw [Array.getElem?_push_size]

/-- A literal of numbers. -/
theorem reads_nums {W : World} {b : Nat} {t : TypeId} {fr : Nat × Nat} {k : IntKind} (ys : List Int) (h : W.heap[b]? = some (.cells (ys.map (Value.int k)).toArray t fr)) (hm : ys.length ≤ 9223372036854775807) :
    ReadsRow ((Kd.int k).K W) 1 W (some ⟨b, 0, none⟩) ys.length ys := by
  refine reads_cells h ⟨by simp, fun j p hj => ?_⟩ hm
  show _ = [Value.int k p]
  have hlt : j < ys.length := (List.getElem?_eq_some_iff.1 hj).1
  simp only [Nat.mul_one, ← List.map_drop, ← List.map_take]
  rw [List.drop_eq_getElem_cons hlt]
  have : ys[j] = p := by rw [List.getElem?_eq_getElem hlt] at hj; exact Option.some.inj hj
  simp [this]

/-- A literal of one element. -/
theorem reads_one {α : Type} {R : α → List Value → Prop} {W : World} {b : Nat} {C : Array Value} {t : TypeId} {fr : Nat × Nat} {x : α} (h : W.heap[b]? = some (.cells C t fr)) (hR : R x C.toList) : ReadsRow R C.size W (some ⟨b, 0, none⟩) 1 [x] := by
  refine reads_cells (ps := [x]) h ⟨by simp, fun j p hj => ?_⟩ (by simp)
  cases j with
  | zero =>
    obtain rfl : x = p := by simpa using hj
    rw [Nat.zero_mul, List.drop_zero, List.take_of_length_le (by simp)]
    exact hR
  | succ j => simp at hj
/-- append(v, ys...) at the operation. -/
theorem wp_append_rows {P : Program} {o : Oper} {a : Act} {K : Act → World → Prop} {Q : Exit → Act → World → Prop} {α : Type} (d : Kd α) {Rr : α → List Value → Prop} {W : World} (base : Nat) (hgd : o.guard = none) (s x : Operand) (t e : TypeId) (z : Value) (bytes : Nat)
    (ho : o.op = .call { callee := .builtin .append, args := #[s, x], argTypes := #[t, t] })
    (ht : P.underlying t = some (.slice e)) (hinfo : (P.info? e).map (fun i => (i.zero, i.size, i.bytes)) = some (some z, d.sz, bytes)) (hz : z.cells.size = d.sz) (hs0 : 0 < d.sz) (hb0 : 0 < bytes)
    (v : Value) (xs ys : List α) (A : Option Addr) (m c : Nat) (ok okp : Nat → Prop) (hs : a.eval s = v) (hx : a.eval x = .slice A m c)
    (HO : d.R e W base ok v xs) (HR : ReadsRow Rr d.sz W A m ys) (hKM : ∀ x cs, Rr x cs → d.M W base okp x cs) (hokp : ∀ k, okp k → ok k ∧ some k ≠ v.ownBlock) (hfresh : ∀ k, W.heap.size ≤ k → ok k)
    (hbase : base ≤ W.heap.size) (hl : (xs.length + m) * bytes ≤ 140737488355328)
    (h : ∀ v1 w1, d.R e w1 base ok v1 (xs ++ ys) → Below base W w1 → W.grownBy w1 v.ownBlock → (v1.ownBlock = v.ownBlock ∨ ∃ b, v1.ownBlock = some b ∧ W.heap.size ≤ b) → K (a.put o.dst v1) w1) :
    o.wp P a W K Q := by
  have hw : Region.wanted o (yielded #[] a.tmps) = true := by simp [Region.wanted, hgd]
  have := Kd.R_append_rows_step (P := P) (ops := #[]) (Kc := K) (Q := Q) d (w0 := W) base hw s x t e z bytes ho ht hinfo hz hs0 hb0 v xs ys A m c ok okp hs hx HO HR hKM hokp hfresh (Below.refl _ _) hbase hl h
  rwa [if_pos hw] at this
/-- append(v, literal of numbers...) at the operation. -/
theorem wp_append_nums {P : Program} {o : Oper} {a : Act} {K : Act → World → Prop} {Q : Exit → Act → World → Prop} (k : IntKind) {W : World} (base : Nat) (hgd : o.guard = none) (s x : Operand) (t e : TypeId) (bytes : Nat)
    (ho : o.op = .call { callee := .builtin .append, args := #[s, x], argTypes := #[t, t] })
    (ht : P.underlying t = some (.slice e)) (hinfo : (P.info? e).map (fun i => (i.zero, i.size, i.bytes)) = some (some (.int k 0), 1, bytes)) (hb0 : 0 < bytes)
    (v : Value) (xs ys : List Int) (A : Option Addr) (m c : Nat) (hs : a.eval s = v) (hx : a.eval x = .slice A m c)
    (HO : (Kd.int k).R e W base (fun _ => True) v xs) (HR : ReadsRow ((Kd.int k).K W) 1 W A m ys)
    (hbase : base ≤ W.heap.size) (hl : (xs.length + m) * bytes ≤ 140737488355328)
    (h : ∀ v1 w1, (Kd.int k).R e w1 base (fun _ => True) v1 (xs ++ ys) → Below base W w1 → W.grownBy w1 v.ownBlock → (v1.ownBlock = v.ownBlock ∨ ∃ b, v1.ownBlock = some b ∧ W.heap.size ≤ b) → K (a.put o.dst v1) w1) :
    o.wp P a W K Q :=
  wp_append_rows (Kd.int k) base hgd s x t e (.int k 0) bytes ho ht hinfo rfl Nat.one_pos hb0 v xs ys A m c (fun _ => True) (fun _ => False) hs hx HO HR (fun x cs h => h) (fun _ h => h.elim) (fun _ _ => trivial) hbase hl h
/-! ### a frame: all that was there is as_ it was, but the blocks of S -/
structure Keep (S : Nat → Prop) (w w' : World) : Prop where
  os : w'.os = w.os
  tape : w'.tape = w.tape
  output : w'.output = w.output
  size : w.heap.size ≤ w'.heap.size
  block : ∀ k, k < w.heap.size → ¬ S k → w'.heap[k]? = w.heap[k]?
section
variable {S T : Nat → Prop} {w w1 w2 W : World}
theorem Keep.refl (S : Nat → Prop) (w : World) : Keep S w w := ⟨rfl, rfl, rfl, Nat.le_refl _, fun _ _ _ => rfl⟩
theorem Keep.trans (h : Keep S w w1) (k : Keep S w1 w2) : Keep S w w2 :=
  ⟨k.os.trans h.os, k.tape.trans h.tape, k.output.trans h.output, Nat.le_trans h.size k.size, fun i hi hS => (k.block i (Nat.lt_of_lt_of_le hi h.size) hS).trans (h.block i hi hS)⟩
theorem Keep.mono (h : Keep S w w1) (hST : ∀ k, k < w.heap.size → S k → T k) : Keep T w w1 := ⟨h.os, h.tape, h.output, h.size, fun k hk hT => h.block k hk (fun hS => hT (hST k hk hS))⟩
/-- what is written behind the first step's blocks does not matter. -/
theorem Keep.then (h : Keep S w w1) (k : Keep T w1 w2) (hT : ∀ i, i < w.heap.size → T i → S i) : Keep S w w2 :=
  ⟨k.os.trans h.os, k.tape.trans h.tape, k.output.trans h.output, Nat.le_trans h.size k.size, fun i hi hS => (k.block i (Nat.lt_of_lt_of_le hi h.size) (fun hTi => hS (hT i hi hTi))).trans (h.block i hi hS)⟩
theorem Keep.of_below (h : Below w.heap.size w w1) (S : Nat → Prop) : Keep S w w1 := ⟨h.os, h.tape, h.output, h.size, fun k hk _ => h.block k hk⟩
theorem Keep.below {B : Nat} (h : Keep S w w1) (hB : B ≤ w.heap.size) (hS : ∀ k, k < B → ¬ S k) : Below B w w1 := ⟨h.os, h.tape, h.output, h.size, fun k hk => h.block k (Nat.lt_of_lt_of_le hk hB) (hS k hk)⟩
theorem Keep.of_belowB {B : Nat} (h : Below B w w1) : Keep (fun k => B ≤ k) w w1 := ⟨h.os, h.tape, h.output, h.size, fun k hk hS => h.block k (Nat.lt_of_not_le hS)⟩
theorem Keep.grown {row : Option Nat} (h : w.grownBy w1 row) : Keep (fun k => some k = row) w w1 := ⟨h.os, h.tape, h.output, h.size, fun k hk hS => h.block k hk hS⟩
theorem Keep.alloc (h : Keep S w w1) (o : Obj) : Keep S w (w1.alloc o) := h.then (Keep.of_below (below_alloc (Below.refl _ _) o) (fun _ => False)) (fun _ _ h => h.elim)
theorem Keep.drew (h : Keep S w w1) : Keep S w w1.drew := h.then (Keep.of_below (below_drew (Below.refl _ _)) (fun _ => False)) (fun _ _ h => h.elim)
theorem Keep.drewN (h : Keep S w w1) (n : Nat) : Keep S w (w1.drewN n) := h.then (Keep.of_below (pw_below_drewN (Below.refl _ _) n) (fun _ => False)) (fun _ _ h => h.elim)
theorem Keep.set {p : Addr} (h : Keep S w w1) (hp : w.heap.size ≤ p.block ∨ S p.block) (v : Value) : Keep S w (w1.setCell p v) :=
  ⟨h.os, h.tape, h.output, by simpa [World.setCell] using h.size, fun k hk hS => (Below.heap_setCell w1 p v k (fun e => by subst e; exact hp.elim (fun hp => absurd hk (by omega)) (fun hp => hS hp))).trans (h.block k hk hS)⟩
theorem Keep.blk {g : Nat} {o : Obj} (h : Keep S w w1) (hb : w.heap[g]? = some o) (hg : ¬ S g) : w1.heap[g]? = some o := (h.block g (blk_lt hb) hg).trans hb
theorem Keep.cell {a : Addr} {v : Value} (h : Keep S w w1) (hc : w.cell? a = some v) (hg : ¬ S a.block) : w1.cell? a = some v := by
  rw [← hc]; exact World.cell?_of_block (w := w) (h.block a.block (World.block_lt_of_cell? w a hc) hg)
end
namespace Kd
section
variable {α : Type} {d : Go.Proofs.YtbekjccehhaljaaW.PrintWords.Kd α} {e : Nat} {w w1 : World} {base : Nat} {ok : Nat → Prop} {v : Value} {xs : List α} {S : Nat → Prop}
theorem R_keep (h : d.R e w base ok v xs) (hk : Keep S w w1) (hS : ∀ k, ok k → base ≤ k → k < w.heap.size → ¬ S k) : d.R e w1 base ok v xs :=
  Go.Proofs.YtbekjccehhaljaaW.PrintWords.Kd.R_mono (Go.Proofs.YtbekjccehhaljaaW.PrintWords.Kd.R_step (Go.Proofs.YtbekjccehhaljaaW.PrintWords.Kd.R_bound h) (fun k ho hl => hk.block k hl (hS k ho.1 ho.2.1 hl))) (fun _ h => h.1)
end
end Kd
end Go.Hay

set_option linter.unusedVariables false
set_option linter.unusedSimpArgs false
namespace Go.Proofs.Ytbekjccehhaljaa.H
open Go.RowKit Go.Hay Go.Proofs.YtbekjccehhaljaaW.PrintWords Go.Proofs.YtbekjccehhaljaaW.PrintLast Go.Proofs.YtbekjccehhaljaaW.PrintMore
/-- all that is told and noted, and how many instructions may be done yet. -/
structure Gs where
  left : Nat
  told : List Int
  log : List (List Int × Int)
/-- a task. -/
structure Ts where
  regs : List Int
  hands : List (Bool × Int)
  wait : List (Int × Int)
  kids : Nat
  at_ : Int
inductive Out where
  | val (v : Int)
  | fail (why : Int)
  | long
def rg (T : Ts) (i : Int) : Int := T.regs.getD i.toNat 0
def hd (T : Ts) (i : Int) : Bool × Int := T.hands.getD i.toNat (false, 0)
def setR (T : Ts) (i v : Int) : Ts := { T with regs := T.regs.set i.toNat v }
def syncP (T : Ts) : Ts := { T with regs := T.wait.foldl (fun r s => r.set s.1.toNat s.2) T.regs, wait := [] }
inductive Sm where
  | go (T : Ts)
  | stop (why : Int)
def lessV (a b : Int) : Int := if a < b then 1 else 0
def sameV (a b : Int) : Int := if a = b then 1 else 0
/-- an instruction that concerns the task alone. -/
def simple (x : S61) (T : Ts) : Sm :=
  if x.f0 = 1 then .go (setR T x.f1 x.f4)
  else if x.f0 = 2 then .go (setR T x.f1 (rg T x.f2))
  else if x.f0 = 3 then .go (setR T x.f1 (wrap64 (rg T x.f2 + rg T x.f3)))
  else if x.f0 = 4 then .go (setR T x.f1 (wrap64 (rg T x.f2 - rg T x.f3)))
  else if x.f0 = 5 then .go (setR T x.f1 (wrap64 (rg T x.f2 * rg T x.f3)))
  else if x.f0 = 6 then (if rg T x.f3 = 0 then .stop 1 else .go (setR T x.f1 (wrap64 ((rg T x.f2).tdiv (rg T x.f3)))))
  else if x.f0 = 7 then .go (setR T x.f1 (lessV (rg T x.f2) (rg T x.f3)))
  else if x.f0 = 8 then .go (setR T x.f1 (sameV (rg T x.f2) (rg T x.f3)))
  else if x.f0 = 9 then .go { T with at_ := x.f4 }
  else if x.f0 = 10 then .go (if rg T x.f1 = 0 then { T with at_ := x.f4 } else T)
  else if x.f0 = 12 then .go (syncP T)
  else if x.f0 = 14 then (if (hd T x.f2).1 = true then .go (setR T x.f1 (hd T x.f2).2) else .stop 2)
  else .stop x.f4
def bump (log : List (List Int × Int)) (me : Nat) : List (List Int × Int) := log.set me ((log.getD me ([], 0)).1, (log.getD me ([], 0)).2 + 1)
def newRegs (args : List Int) : List Int := args.take 8 ++ List.replicate (8 - args.length) 0
def newTask (args : List Int) (hands : List (Bool × Int)) : Ts := ⟨newRegs args, hands, [], 0, 0⟩
def argsOf (l : List S64) (x : S61) (T : Ts) : List Int := (T.regs.drop x.f2.toNat).take (rd_T64 l x.f3).f0.toNat
inductive SR where
  | go (T : Ts) (G : Gs)
  | stop (o : Out) (G : Gs)
/-- one instruction, but ret; rec: how the tasks end that it begins. -/
def stepP (l : List S64) (depth : Int) (rec : Gs → List Int → List S61 → Nat → Ts → Out × Gs) (path : List Int) (x : S61) (T : Ts) (G : Gs) : SR :=
  if x.f0 = 11 ∨ x.f0 = 13 then
    if (path.length : Int) = depth then .stop (.fail 4) G
    else match rec { G with log := G.log ++ [(path ++ [(T.kids : Int)], 0)] } (path ++ [(T.kids : Int)]) (rd_T64 l x.f3).f1 G.log.length (newTask (argsOf l x T) T.hands) with
      | (.val v, G2) => .go (if x.f0 = 11 then { T with kids := T.kids + 1, wait := T.wait ++ [(x.f1, v)] } else { T with kids := T.kids + 1, hands := T.hands.set x.f1.toNat (true, v) }) G2
      | (o, G2) => .stop o G2
  else if x.f0 = 15 then .go T { G with told := G.told ++ [rg T x.f1] }
  else match simple x T with
    | .go T' => .go T' G
    | .stop why => .stop (.fail why) G
/-- a task's run. -/
def runP (l : List S64) (budget depth : Int) : Nat → Gs → List Int → List S61 → Nat → Ts → Out × Gs
  | 0, G, _, _, _, _ => (.long, G)
  | k + 1, G, path, code, me, T =>
    if (G.log.getD me ([], 0)).2 = budget then (.fail 3, G)
    else if G.left = 0 then (.long, G)
    else if (rd_T61 code T.at_).f0 = 17 then (.val (rg (syncP { T with at_ := T.at_ + 1 }) (rd_T61 code T.at_).f1), { G with left := G.left - 1, log := bump G.log me })
    else match stepP l depth (runP l budget depth k) path (rd_T61 code T.at_) { T with at_ := T.at_ + 1 } { G with left := G.left - 1, log := bump G.log me } with
      | .go T' G' => runP l budget depth k G' path code me T'
      | .stop o G' => (o, G')
def beginP (l : List S64) (budget depth : Int) (k : Nat) (G : Gs) (f : Int) (path args : List Int) (hands : List (Bool × Int)) : Out × Gs :=
  runP l budget depth k { G with log := G.log ++ [(path, 0)] } path (rd_T64 l f).f1 G.log.length (newTask args hands)
def noHands : List (Bool × Int) := [(false, 0), (false, 0), (false, 0), (false, 0)]
/-- a program's end: value, failure, what was told, what was noted; none: too many instructions. -/
def evalP (l : List S64) (args : List Int) (budget depth : Int) (most : Nat) : Option (Int × Int × List Int × List (List Int × Int)) :=
  match beginP l budget depth (most + 1) ⟨most, [], []⟩ 0 [] args noHands with
  | (.val v, G) => some (v, 0, G.told, G.log)
  | (.fail why, G) => some (0, why, G.told, G.log)
  | (.long, _) => none
/-! ### a program that may run -/
/-- what an instruction's numbers may be. -/
structure IOk (l : List S64) (lc : Nat) (x : S61) : Prop where
  op : 1 ≤ x.f0 ∧ x.f0 ≤ 17
  a : x.f0 ≠ 9 → x.f0 ≠ 12 → x.f0 ≠ 13 → x.f0 ≠ 16 → 0 ≤ x.f1 ∧ x.f1 < 8
  a13 : x.f0 = 13 → 0 ≤ x.f1 ∧ x.f1 < 4
  b : (2 ≤ x.f0 ∧ x.f0 ≤ 8) ∨ x.f0 = 11 ∨ x.f0 = 13 → 0 ≤ x.f2 ∧ x.f2 < 8
  b14 : x.f0 = 14 → 0 ≤ x.f2 ∧ x.f2 < 4
  c : 3 ≤ x.f0 ∧ x.f0 ≤ 8 → 0 ≤ x.f3 ∧ x.f3 < 8
  cf : x.f0 = 11 ∨ x.f0 = 13 → 0 ≤ x.f3 ∧ x.f3 < l.length ∧ (rd_T64 l x.f3).f0 ≤ 8 - x.f2
  k : x.f0 = 9 ∨ x.f0 = 10 → 0 ≤ x.f4 ∧ x.f4 < lc
  kb : -2147483648 ≤ x.f4 ∧ x.f4 < 2147483648
structure POk (l : List S64) : Prop where
  len : 1 ≤ l.length ∧ l.length ≤ 16
  fn : ∀ f (h : f < l.length), (0 ≤ l[f].f0 ∧ l[f].f0 ≤ 4) ∧ (1 ≤ l[f].f1.length ∧ l[f].f1.length ≤ 64) ∧ (∀ k (hk : k < l[f].f1.length), IOk l l[f].f1.length l[f].f1[k]) ∧
    ((rd_T61 l[f].f1 ((l[f].f1.length : Int) - 1)).f0 = 9 ∨ (rd_T61 l[f].f1 ((l[f].f1.length : Int) - 1)).f0 = 16 ∨ (rd_T61 l[f].f1 ((l[f].f1.length : Int) - 1)).f0 = 17)
theorem fieldE_none {np lc : Nat} {n p : Int} (h : fieldE np lc n p = none) : (p = 1 → 0 ≤ n ∧ n < 8) ∧ (p = 2 → 0 ≤ n ∧ n < 4) ∧ (p = 3 → 0 ≤ n ∧ n < np) ∧ (p = 5 → 0 ≤ n ∧ n < lc) ∧ (p = 6 → 16 ≤ n ∧ n < 2147483648) ∧ (p = 4 → -2147483648 ≤ n ∧ n < 2147483648) := by
  unfold fieldE at h
  refine ⟨fun e => ?_, fun e => ?_, fun e => ?_, fun e => ?_, fun e => ?_, fun e => ?_⟩
  all_goals
    subst e
    simp [inB] at h
    omega
theorem instrE_ok {l : List S64} {lc : Nat} {x : S61} (hlc : lc ≤ 1000) (h : instrE lc l x = none) : IOk l lc x := by
  obtain ⟨a, b, c, k, is, hsh⟩ : ∃ a b c k is, shapeP x.f0 = (a, b, c, k, is) := ⟨_, _, _, _, _, rfl⟩
  rw [instrE_eq hsh] at h
  by_cases his : is = false
  · rw [if_pos his] at h; cases h
  rw [if_neg his] at h
  by_cases h1 : a = 0 ∧ x.f1 ≠ 0
  · rw [if_pos h1] at h; cases h
  by_cases h2 : b = 0 ∧ x.f2 ≠ 0
  · rw [if_neg h1, if_pos h2] at h; cases h
  by_cases h3 : c = 0 ∧ x.f3 ≠ 0
  · rw [if_neg h1, if_neg h2, if_pos h3] at h; cases h
  by_cases h4 : k = 0 ∧ x.f4 ≠ 0
  · rw [if_neg h1, if_neg h2, if_neg h3, if_pos h4] at h; cases h
  rw [if_neg h1, if_neg h2, if_neg h3, if_neg h4] at h
  simp only [Option.or_eq_none_iff] at h
  obtain ⟨ha, hb, hc, hk, har⟩ := h
  have fa := fieldE_none ha
  have fb := fieldE_none hb
  have fc := fieldE_none hc
  have fk := fieldE_none hk
  clear ha hb hc hk
  have hop : 1 ≤ x.f0 ∧ x.f0 ≤ 17 := by
    by_cases ho : 1 ≤ x.f0 ∧ x.f0 ≤ 17
    · exact ho
    · exfalso
      have : shapeP x.f0 = (0, 0, 0, 0, false) := by
        unfold shapeP
        repeat (first | rw [if_neg (by omega)])
      rw [this] at hsh; cases hsh; exact his rfl
  have hcases : x.f0 = 1 ∨ x.f0 = 2 ∨ x.f0 = 3 ∨ x.f0 = 4 ∨ x.f0 = 5 ∨ x.f0 = 6 ∨ x.f0 = 7 ∨ x.f0 = 8 ∨ x.f0 = 9 ∨ x.f0 = 10 ∨ x.f0 = 11 ∨ x.f0 = 12 ∨ x.f0 = 13 ∨ x.f0 = 14 ∨ x.f0 = 15 ∨ x.f0 = 16 ∨ x.f0 = 17 := by omega
  have hari : c = 3 → (rd_T64 l x.f3).f0 ≤ 8 - x.f2 := by
    intro e
    unfold arityE at har
    rw [if_pos e] at har
    split at har
    · assumption
    · cases har
  clear har his
  rcases hcases with e | e | e | e | e | e | e | e | e | e | e | e | e | e | e | e | e
  all_goals
    rw [e] at hsh
    simp [shapeP] at hsh
    obtain ⟨rfl, rfl, rfl, rfl, _⟩ := hsh
    simp at fa fb fc fk h1 h2 h3 h4 hari
    refine ⟨by omega, fun _ _ _ _ => ?_, fun _ => ?_, fun _ => ?_, fun _ => ?_, fun _ => ?_, fun _ => ?_, fun _ => ?_, ?_⟩
    all_goals first | omega | (refine ⟨?_, ?_, ?_⟩ <;> omega)
theorem instrsE_none {lc : Nat} {l : List S64} {xs : List S61} : ∀ {k : Nat}, instrsE lc l k xs = none → ∀ j (h : j < xs.length), instrE lc l xs[j] = none := by
  induction xs with
  | nil => intro k _ j h; simp at h
  | cons x r ih =>
    intro k h j hj
    simp only [instrsE] at h
    cases hx : instrE lc l x with
    | some e => rw [hx] at h; cases h
    | none =>
      rw [hx] at h
      cases j with
      | zero => exact hx
      | succ j => exact ih h j (by simpa using hj)
theorem funcE_ok {l : List S64} {g : S64} (h : funcE l g = none) : (0 ≤ g.f0 ∧ g.f0 ≤ 4) ∧ (1 ≤ g.f1.length ∧ g.f1.length ≤ 64) ∧ (∀ k (hk : k < g.f1.length), IOk l g.f1.length g.f1[k]) ∧
    ((rd_T61 g.f1 ((g.f1.length : Int) - 1)).f0 = 9 ∨ (rd_T61 g.f1 ((g.f1.length : Int) - 1)).f0 = 16 ∨ (rd_T61 g.f1 ((g.f1.length : Int) - 1)).f0 = 17) := by
  unfold funcE at h
  split at h
  · rename_i h1
    split at h
    · rename_i h2
      rw [Option.or_eq_none_iff] at h
      refine ⟨h1, h2, fun k hk => instrE_ok (by omega) (instrsE_none h.1 k hk), ?_⟩
      have h3 := h.2
      unfold lastE at h3
      simp only at h3
      split at h3
      · assumption
      · cases h3
    · cases h
  · cases h
theorem funcsE_none {l : List S64} {gs : List S64} : ∀ {f : Nat}, funcsE l f gs = none → ∀ j (h : j < gs.length), funcE l gs[j] = none := by
  induction gs with
  | nil => intro f _ j h; simp at h
  | cons g r ih =>
    intro f h j hj
    simp only [funcsE] at h
    cases hx : funcE l g with
    | some e => rw [hx] at h; cases h
    | none =>
      rw [hx] at h
      cases j with
      | zero => exact hx
      | succ j => exact ih h j (by simpa using hj)
theorem fieldE_code {np lc : Nat} {n p e : Int} (h : fieldE np lc n p = some e) : e ≠ 0 := by
  unfold fieldE at h
  repeat' split at h
  all_goals first | (cases h; done) | (injection h with h; omega)
theorem instrE_code {l : List S64} {lc : Nat} {x : S61} {e : Int} (h : instrE lc l x = some e) : e ≠ 0 := by
  obtain ⟨a, b, c, k, is, hsh⟩ : ∃ a b c k is, shapeP x.f0 = (a, b, c, k, is) := ⟨_, _, _, _, _, rfl⟩
  rw [instrE_eq hsh] at h
  repeat' split at h
  all_goals try (injection h with h; omega)
  cases ha : fieldE l.length lc x.f1 a with
  | some y => rw [ha] at h; injection h with h; rw [← h]; exact fieldE_code ha
  | none =>
    cases hb : fieldE l.length lc x.f2 b with
    | some y => rw [ha, hb] at h; injection h with h; rw [← h]; exact fieldE_code hb
    | none =>
      cases hc : fieldE l.length lc x.f3 c with
      | some y => rw [ha, hb, hc] at h; injection h with h; rw [← h]; exact fieldE_code hc
      | none =>
        cases hk : fieldE l.length lc x.f4 k with
        | some y => rw [ha, hb, hc, hk] at h; injection h with h; rw [← h]; exact fieldE_code hk
        | none =>
          rw [ha, hb, hc, hk] at h
          have h : arityE l x c = some e := h
          unfold arityE at h
          repeat' split at h
          all_goals first | (cases h; done) | (injection h with h; omega)
theorem instrsE_code {lc : Nat} {l : List S64} {xs : List S61} : ∀ {k : Nat} {e : Int × Int}, instrsE lc l k xs = some e → e.2 ≠ 0 := by
  induction xs with
  | nil => intro k e h; simp [instrsE] at h
  | cons x r ih =>
    intro k e h
    simp only [instrsE] at h
    cases hx : instrE lc l x with
    | some y => rw [hx] at h; injection h with h; rw [← h]; exact instrE_code hx
    | none => rw [hx] at h; exact ih h
theorem funcE_code {l : List S64} {g : S64} {e : Int × Int} (h : funcE l g = some e) : e.2 ≠ 0 := by
  unfold funcE at h
  split at h
  · split at h
    · cases hi : instrsE g.f1.length l 0 g.f1 with
      | some y => rw [hi] at h; injection h with h; rw [← h]; exact instrsE_code hi
      | none =>
        rw [hi] at h
        have h : lastE g = some e := h
        unfold lastE at h
        simp only at h
        split at h
        · cases h
        · injection h with h; rw [← h]; show (11 : Int) ≠ 0; decide
    · injection h with h; rw [← h]; decide
  · injection h with h; rw [← h]; decide
theorem funcsE_code {l : List S64} {gs : List S64} : ∀ {f : Nat} {e : Int × Int × Int}, funcsE l f gs = some e → e.2.2 ≠ 0 := by
  induction gs with
  | nil => intro f e h; simp [funcsE] at h
  | cons g r ih =>
    intro f e h
    simp only [funcsE] at h
    cases hx : funcE l g with
    | some y => rw [hx] at h; injection h with h; rw [← h]; exact funcE_code hx
    | none => rw [hx] at h; exact ih h
/-- what the check passes may run. -/
theorem check_ok {l : List S64} (h : (checkP l).2.2 = 0) : POk l := by
  unfold checkP at h
  split at h
  · rename_i hl
    cases hf : funcsE l 0 l with
    | some e => rw [hf] at h; exact absurd h (funcsE_code hf)
    | none => exact ⟨hl, fun f hfl => funcE_ok (funcsE_none hf f hfl)⟩
  · cases h
end Go.Proofs.Ytbekjccehhaljaa.H

set_option linter.unusedVariables false
set_option linter.unusedSimpArgs false
namespace Go.Hay
open Go.RowKit
inductive Turn2 where
  | take (i : Nat)
  | op (i : Nat)
  | fin (i : Nat)
  | pair (i j : Nat)
  | tri (i k j : Nat)
  | rooms (l : List Nat)
def Turn2.many : Turn2 → Nat
  | .pair _ _ => 2
  | .tri _ _ _ => 3
  | .rooms l => l.length
  | _ => 1
def many2 : List Turn2 → Nat
  | [] => 0
  | t :: r => many2 r + t.many
/-! ### rooms: operations that come in any order, each with what it yields and the blocks that it owns -/
def dstOf (ops : Array Oper) (i : Nat) : Option Tmp := (ops[i]?).bind (·.dst)
theorem put_put {a : Act} {d e : Option Tmp} (h : d ≠ e) (x y : Value) : (a.put d x).put e y = (a.put e y).put d x := by
  cases d with
  | none => rfl
  | some d =>
    cases e with
    | none => rfl
    | some e =>
      simp only [Act.put]
      rw [Array.setIfInBounds_comm _ _ (fun he => h (congrArg some he))]
def putE (ops : Array Oper) : List Nat → (Nat → Bool) → (Nat → Value) → Act → Act
  | [], _, _, a => a
  | i :: l, ex, vals, a => putE ops l ex vals (if ex i = true then a.put (dstOf ops i) (vals i) else a)
theorem putE_put (ops : Array Oper) (ex : Nat → Bool) (vals : Nat → Value) (d : Option Tmp) (v : Value) : ∀ (l : List Nat) (a : Act), (∀ i ∈ l, dstOf ops i ≠ d) → (putE ops l ex vals a).put d v = putE ops l ex vals (a.put d v)
  | [], _, _ => rfl
  | i :: l, a, h => by
    rw [putE, putE, putE_put ops ex vals d v l _ (fun j hj => h j (List.mem_cons_of_mem _ hj))]
    congr 1
    split
    · exact put_put (h i (List.mem_cons_self ..)) _ _
    · rfl
theorem putE_congr (ops : Array Oper) {ex ex' : Nat → Bool} {vals vals' : Nat → Value} : ∀ (l : List Nat) (a : Act), (∀ i ∈ l, ex i = ex' i ∧ (ex i = true → vals i = vals' i)) → putE ops l ex vals a = putE ops l ex' vals' a
  | [], _, _ => rfl
  | i :: l, a, h => by
    have h1 := h i (List.mem_cons_self ..)
    rw [putE, putE, ← h1.1]
    rw [putE_congr ops l _ (fun j hj => h j (List.mem_cons_of_mem _ hj))]
    congr 1
    split
    · rename_i he; rw [h1.2 he]
    · rfl
def upd {α : Type} (f : Nat → α) (i : Nat) (x : α) : Nat → α := fun j => if j = i then x else f j
theorem upd_same {α : Type} (f : Nat → α) (i : Nat) (x : α) : upd f i x i = x := by simp [upd]
theorem upd_ne {α : Type} (f : Nat → α) {i j : Nat} (x : α) (h : j ≠ i) : upd f i x j = f j := by simp [upd, h]
theorem putE_set (ops : Array Oper) (ex : Nat → Bool) (vals : Nat → Value) (i : Nat) (v : Value) : ∀ (l : List Nat) (a : Act), (l.map (dstOf ops)).Nodup → i ∈ l → ex i = false → (putE ops l ex vals a).put (dstOf ops i) v = putE ops l (upd ex i true) (upd vals i v) a
  | [], _, _, h, _ => by cases h
  | j :: l, a, hn, h, he => by
    rw [List.map_cons, List.nodup_cons] at hn
    by_cases hij : i = j
    · subst hij
      have hni : ∀ k ∈ l, k ≠ i := fun k hk e => hn.1 (by rw [← e]; exact List.mem_map_of_mem hk)
      rw [putE, putE, he, upd_same, upd_same, if_neg (by simp), if_pos rfl, putE_put ops ex vals _ v l a (fun k hk e => hn.1 (by rw [← e]; exact List.mem_map_of_mem hk))]
      exact putE_congr ops l _ (fun k hk => ⟨(upd_ne _ _ (hni k hk)).symm, fun _ => (upd_ne _ _ (hni k hk)).symm⟩)
    · have hi : i ∈ l := by
        rcases List.mem_cons.1 h with h | h
        · exact absurd h hij
        · exact h
      rw [putE, putE, upd_ne _ _ (Ne.symm hij), upd_ne _ _ (Ne.symm hij)]
      exact putE_set ops ex vals i v l _ hn.2 hi he
theorem put_size (a : Act) (d : Option Tmp) (v : Value) : (a.put d v).tmps.size = a.tmps.size := by cases d <;> simp [Act.put]
theorem putE_other (ops : Array Oper) (ex : Nat → Bool) (vals : Nat → Value) (t : Nat) : ∀ (l : List Nat) (a : Act), (∀ j ∈ l, dstOf ops j ≠ some t) → (putE ops l ex vals a).tmps.getD t undef = a.tmps.getD t undef
  | [], _, _ => rfl
  | i :: l, a, h => by
    rw [putE, putE_other ops ex vals t l _ (fun j hj => h j (List.mem_cons_of_mem _ hj))]
    split
    · exact put_getD (h i (List.mem_cons_self ..))
    · rfl
theorem putE_at (ops : Array Oper) (ex : Nat → Bool) (vals : Nat → Value) (i t : Nat) : ∀ (l : List Nat) (a : Act), (l.map (dstOf ops)).Nodup → i ∈ l → ex i = true → dstOf ops i = some t → t < a.tmps.size → (putE ops l ex vals a).tmps.getD t undef = vals i
  | [], _, _, h, _, _, _ => by cases h
  | j :: l, a, hn, h, he, hd, ht => by
    rw [List.map_cons, List.nodup_cons] at hn
    rw [putE]
    by_cases hij : i = j
    · subst hij
      rw [putE_other ops ex vals t l _ (fun k hk e => hn.1 (by rw [hd, ← e]; exact List.mem_map_of_mem hk)), if_pos he, hd]
      simp [Act.put, ht]
    · have hi : i ∈ l := by
        rcases List.mem_cons.1 h with h | h
        · exact absurd h hij
        · exact h
      exact putE_at ops ex vals i t l _ hn.2 hi he hd (by split <;> simpa [put_size] using ht)
structure Rooms (P : Program) (ops : Array Oper) (Q : Exit → Act → World → Prop) (S : World → Prop) (l : List Nat) (a : Act) (F : Nat → Value → (Nat → Prop) → World → Prop) : Prop where
  stable : ∀ (i : Nat) (v : Value) (B : Nat → Prop) (w w' : World), F i v B w → S w' → w.heap.size ≤ w'.heap.size → (∀ k, B k → w'.heap[k]? = w.heap[k]?) → F i v B w'
  step : ∀ i ∈ l, ∀ (vals : Nat → Value) (B : Nat → Nat → Prop) (w : World) (a' : Act), S w →
    (∀ d, d ∈ l → d ∈ depsAt .any ops i → F d (vals d) (B d) w ∧ ∀ k, B d k → k < w.heap.size) →
    (∀ d d', d ∈ l → d' ∈ l → d ∈ depsAt .any ops i → d' ∈ depsAt .any ops i → d ≠ d' → ∀ k, B d k → ¬ B d' k) →
    (∀ t, (∀ j ∈ l, dstOf ops j ≠ some t) → a'.tmps.getD t undef = a.tmps.getD t undef) →
    (∀ d, d ∈ l → d ∈ depsAt .any ops i → ∀ t, dstOf ops d = some t → t < a.tmps.size → a'.tmps.getD t undef = vals d) →
    wpOp P ops Q i (fun a'' w'' => ∃ v B', a'' = a'.put (dstOf ops i) v ∧ S w'' ∧ w.heap.size ≤ w''.heap.size ∧ F i v B' w'' ∧ (∀ k, B' k → k < w''.heap.size ∧ (w.heap.size ≤ k ∨ ∃ d, d ∈ l ∧ d ∈ depsAt .any ops i ∧ B d k)) ∧
      ∀ k, k < w.heap.size → (∀ d, d ∈ l → d ∈ depsAt .any ops i → ¬ B d k) → w''.heap[k]? = w.heap[k]?) a' w
/-- the same, with what a closed reckoning decides. -/
def isDep (ops : Array Oper) (l : List Nat) (i d : Nat) : Bool := l.contains d && (depsAt .any ops i).contains d
theorem isDep_iff {ops : Array Oper} {l : List Nat} {i d : Nat} : isDep ops l i d = true ↔ d ∈ l ∧ d ∈ depsAt .any ops i := by simp [isDep]
theorem Rooms.of {P : Program} {ops : Array Oper} {Q : Exit → Act → World → Prop} {S : World → Prop} {l : List Nat} {a : Act} {F : Nat → Value → (Nat → Prop) → World → Prop}
    (stable : ∀ (i : Nat) (v : Value) (B : Nat → Prop) (w w' : World), F i v B w → S w' → w.heap.size ≤ w'.heap.size → (∀ k, B k → w'.heap[k]? = w.heap[k]?) → F i v B w')
    (step : ∀ i ∈ l, ∀ (vals : Nat → Value) (B : Nat → Nat → Prop) (w : World) (a' : Act), S w →
      (∀ d, isDep ops l i d = true → F d (vals d) (B d) w ∧ ∀ k, B d k → k < w.heap.size) →
      (∀ d d', isDep ops l i d = true → isDep ops l i d' = true → d ≠ d' → ∀ k, B d k → ¬ B d' k) →
      (∀ t, (l.all fun j => dstOf ops j != some t) = true → a'.tmps.getD t undef = a.tmps.getD t undef) →
      (∀ d t, isDep ops l i d = true → (dstOf ops d == some t && Nat.ble (t + 1) a.tmps.size) = true → a'.tmps.getD t undef = vals d) →
      wpOp P ops Q i (fun a'' w'' => ∃ v B', a'' = a'.put (dstOf ops i) v ∧ S w'' ∧ w.heap.size ≤ w''.heap.size ∧ F i v B' w'' ∧ (∀ k, B' k → k < w''.heap.size ∧ (w.heap.size ≤ k ∨ ∃ d, isDep ops l i d = true ∧ B d k)) ∧
        ∀ k, k < w.heap.size → (∀ d, isDep ops l i d = true → ¬ B d k) → w''.heap[k]? = w.heap[k]?) a' w) : Rooms P ops Q S l a F := by
  refine ⟨stable, fun i hi vals B w a' hS h1 h2 h3 h4 => ?_⟩
  refine wpOp_mono (fun a'' w'' hx => ?_) (step i hi vals B w a' hS (fun d hd => h1 d (isDep_iff.1 hd).1 (isDep_iff.1 hd).2) (fun d d' hd hd' => h2 d d' (isDep_iff.1 hd).1 (isDep_iff.1 hd').1 (isDep_iff.1 hd).2 (isDep_iff.1 hd').2)
    (fun t ht => h3 t (fun j hj => by simpa using List.all_eq_true.1 ht j hj)) (fun d t hd ht => by
      simp only [Bool.and_eq_true, beq_iff_eq] at ht
      exact h4 d (isDep_iff.1 hd).1 (isDep_iff.1 hd).2 t ht.1 (Nat.le_of_ble_eq_true ht.2)))
  obtain ⟨v, B', e, q1, q2, q3, q4, q5⟩ := hx
  exact ⟨v, B', e, q1, q2, q3, fun k hk => ⟨(q4 k hk).1, (q4 k hk).2.imp id (fun ⟨d, hd, hb⟩ => ⟨d, (isDep_iff.1 hd).1, (isDep_iff.1 hd).2, hb⟩)⟩, fun k hk hn => q5 k hk (fun d hd => hn d (isDep_iff.1 hd).1 (isDep_iff.1 hd).2)⟩
/-- what is left behind them all. -/
structure Left (ops : Array Oper) (l : List Nat) (F : Nat → Value → (Nat → Prop) → World → Prop) (w0 : World) (vals : Nat → Value) (B : Nat → Nat → Prop) (w : World) : Prop where
  size : w0.heap.size ≤ w.heap.size
  fact : ∀ i ∈ l, (∀ j ∈ l, i ∉ depsAt .any ops j) → F i (vals i) (B i) w ∧ ∀ k, B i k → k < w.heap.size
  apart : ∀ i i', i ∈ l → i' ∈ l → (∀ j ∈ l, i ∉ depsAt .any ops j) → (∀ j ∈ l, i' ∉ depsAt .any ops j) → i ≠ i' → ∀ k, B i k → ¬ B i' k
def okRooms (ops : Array Oper) (l : List Nat) (listed : Array Bool) : Bool :=
  decide ((l.map (dstOf ops)).Nodup) &&
  l.all (fun i => decide (i < ops.size) && !listed.getD i true && (depsAt .any ops i).all (fun d => decide (d < i) && (listed.getD d false || l.contains d))) &&
  l.all (fun i => l.all fun i' => i == i' || (depsAt .any ops i).all fun d => !(l.contains d) || !((depsAt .any ops i').contains d)) &&
  (List.range ops.size).all (fun j => listed.getD j true || l.contains j || l.all fun i => (depsAt .any ops j).contains i)
section
variable {P : Program} {md : Region.Mode} {ops : Array Oper} {Q : Exit → Act → World → Prop} {S : World → Prop} {F : List Nat}
def runSeq2 (P : Program) (ops : Array Oper) (Q : Exit → Act → World → Prop) (S : World → Prop) : List Turn2 → Act → World → Prop
  | [], a, w => Q .normal a w
  | .take i :: r, a, w => ∃ o v, ops[i]? = some o ∧ YieldsIf P ops S o v a ∧ S w ∧ runSeq2 P ops Q S r (a.put o.dst v) w
  | .op i :: r, a, w => wpOp P ops Q i (fun a' w' => S w' ∧ runSeq2 P ops Q S r a' w') a w
  | .fin i :: r, a, w => wpOp P ops Q i (fun a' w' => runSeq2 P ops Q S r a' w') a w
  | .pair i j :: r, a, w => wpOp P ops Q i (fun a' w' => S w' ∧ wpOp P ops Q j (fun a' w' => S w' ∧ runSeq2 P ops Q S r a' w') a' w') a w ∧
      wpOp P ops Q j (fun a' w' => S w' ∧ wpOp P ops Q i (fun a' w' => S w' ∧ runSeq2 P ops Q S r a' w') a' w') a w
  | .tri i k j :: r, a, w => wpOp P ops Q i (fun a' w' => S w' ∧ (wpOp P ops Q k (fun a' w' => S w' ∧ wpOp P ops Q j (fun a' w' => S w' ∧ runSeq2 P ops Q S r a' w') a' w') a' w' ∧
        wpOp P ops Q j (fun a' w' => S w' ∧ wpOp P ops Q k (fun a' w' => S w' ∧ runSeq2 P ops Q S r a' w') a' w') a' w')) a w ∧
      wpOp P ops Q j (fun a' w' => S w' ∧ wpOp P ops Q i (fun a' w' => S w' ∧ wpOp P ops Q k (fun a' w' => S w' ∧ runSeq2 P ops Q S r a' w') a' w') a' w') a w
  | .rooms l :: r, a, w => ∃ F, Rooms P ops Q S l a F ∧ S w ∧ ∀ vals B w', S w' → Left ops l F w vals B w' → runSeq2 P ops Q S r (putE ops l (fun _ => true) vals a) w'
def okSeq2 (md : Region.Mode) (ops : Array Oper) (F : List Nat) : List Turn2 → Array Bool → Bool
  | [], listed => (Region.ready md ops listed).isEmpty
  | .take i :: r, listed => (Region.ready md ops listed).contains i && Region.free md ops listed i && blocks md ops F i && !F.contains i && okSeq2 md ops F r (listed.setIfInBounds i true)
  | .op i :: r, listed => (Region.ready md ops listed == [i]) && okSeq2 md ops F r (listed.setIfInBounds i true)
  | .fin i :: r, listed => (Region.ready md ops listed == [i]) && F.contains i && okSeq2 md ops F r (listed.setIfInBounds i true)
  | .pair i j :: r, listed => (Region.ready md ops listed == [i, j]) && i != j && (Region.ready md ops (listed.setIfInBounds i true) == [j]) && (Region.ready md ops (listed.setIfInBounds j true) == [i]) &&
      okSeq2 md ops F r ((listed.setIfInBounds i true).setIfInBounds j true)
  | .tri i k j :: r, listed => (Region.ready md ops listed == [i, j]) && i != j && k != j && (Region.ready md ops (listed.setIfInBounds i true) == [k, j]) && (Region.ready md ops (listed.setIfInBounds j true) == [i]) &&
      (Region.ready md ops ((listed.setIfInBounds i true).setIfInBounds k true) == [j]) && (Region.ready md ops ((listed.setIfInBounds i true).setIfInBounds j true) == [k]) &&
      okSeq2 md ops F r (((listed.setIfInBounds i true).setIfInBounds k true).setIfInBounds j true)
  | .rooms l :: r, listed => (md == .any) && okRooms ops l listed && okSeq2 md ops F r (l.foldl (fun x i => x.setIfInBounds i true) listed)
theorem wpAnyF_one {i : Nat} {fuel : Nat} {listed : Array Bool} {a : Act} {w : World} (hr : Region.ready md ops listed = [i])
    (h : wpOp P ops Q i (fun a' w' => S w' ∧ wpAnyF P md ops Q S F fuel (listed.setIfInBounds i true) a' w') a w) : wpAnyF P md ops Q S F (fuel + 1) listed a w := by
  refine ⟨fun h0 => (by rw [hr] at h0; cases h0), fun k hk => ?_⟩
  have hki : k = i := by rw [hr] at hk; simpa using hk
  subst hki
  exact wpOp_mono (fun a' w' h' => ⟨fun _ => h'.1, h'.2⟩) h
theorem foldl_getD : ∀ (l : List Nat) (listed : Array Bool) (j : Nat) (d : Bool), (∀ i ∈ l, i < listed.size) → (l.foldl (fun x i => x.setIfInBounds i true) listed).getD j d = if j ∈ l then true else listed.getD j d
  | [], listed, j, d, _ => by simp
  | i :: l, listed, j, d, h => by
    rw [List.foldl_cons, foldl_getD l _ j d (fun k hk => by rw [Array.size_setIfInBounds]; exact h k (List.mem_cons_of_mem _ hk))]
    have hi := h i (List.mem_cons_self ..)
    by_cases hj : j ∈ l
    · rw [if_pos hj, if_pos (List.mem_cons_of_mem _ hj)]
    · rw [if_neg hj]
      by_cases e : j = i
      · subst e
        rw [if_pos (List.mem_cons_self ..)]
        simp [Array.getD, hi]
      · rw [if_neg (by simp [e, hj]), getD_set_ne d (Ne.symm e)]
theorem foldl_size : ∀ (l : List Nat) (listed : Array Bool), (l.foldl (fun x i => x.setIfInBounds i true) listed).size = listed.size
  | [], _ => rfl
  | i :: l, listed => by rw [List.foldl_cons, foldl_size l]; simp
theorem wpAnyF_rooms {l : List Nat} {listed0 : Array Bool} {a0 : Act} {w0 : World} {n : Nat} {Fc : Nat → Value → (Nat → Prop) → World → Prop} (hok : okRooms ops l listed0 = true) (R : Rooms P ops Q S l a0 Fc)
    (fin : ∀ vals B w', S w' → Left ops l Fc w0 vals B w' → wpAnyF P .any ops Q S F n (l.foldl (fun x i => x.setIfInBounds i true) listed0) (putE ops l (fun _ => true) vals a0) w') :
    ∀ (m : Nat) (listed : Array Bool) (ex : Nat → Bool) (vals : Nat → Value) (B : Nat → Nat → Prop) (w : World), (l.filter fun i => !ex i).length = m → Closed .any ops listed → listed.size = listed0.size →
      (∀ j d, listed.getD j d = if j ∈ l then (if ex j = true then true else listed0.getD j d) else listed0.getD j d) → S w → w0.heap.size ≤ w.heap.size →
      (∀ i ∈ l, ex i = true → (∀ j ∈ l, ex j = true → i ∉ depsAt .any ops j) → Fc i (vals i) (B i) w ∧ ∀ k, B i k → k < w.heap.size) →
      (∀ i i', i ∈ l → i' ∈ l → ex i = true → ex i' = true → (∀ j ∈ l, ex j = true → i ∉ depsAt .any ops j) → (∀ j ∈ l, ex j = true → i' ∉ depsAt .any ops j) → i ≠ i' → ∀ k, B i k → ¬ B i' k) →
      wpAnyF P .any ops Q S F (m + n) listed (putE ops l ex vals a0) w := by
  have hok' := hok
  simp only [okRooms, Bool.and_eq_true, decide_eq_true_eq] at hok'
  obtain ⟨⟨⟨hnd, h1⟩, h2⟩, h3⟩ := hok'
  have hin : ∀ i ∈ l, i < ops.size ∧ listed0.getD i true = false ∧ ∀ d ∈ depsAt .any ops i, d < i ∧ (listed0.getD d false = true ∨ d ∈ l) := fun i hi => by
    have := List.all_eq_true.1 h1 i hi
    simp only [Bool.and_eq_true, decide_eq_true_eq, Bool.not_eq_true'] at this
    exact ⟨this.1.1, this.1.2, fun d hd => by have := List.all_eq_true.1 this.2 d hd; simpa using this⟩
  have hone : ∀ i ∈ l, ∀ i' ∈ l, i ≠ i' → ∀ d ∈ l, d ∈ depsAt .any ops i → d ∉ depsAt .any ops i' := fun i hi i' hi' hne d hd hdi => by
    have := List.all_eq_true.1 (List.all_eq_true.1 h2 i hi) i' hi'
    simp only [Bool.or_eq_true, beq_iff_eq] at this
    rcases this with h | h
    · exact absurd h hne
    · have := List.all_eq_true.1 h d hdi
      simpa [hd] using this
  have hout : ∀ j, j < ops.size → listed0.getD j true = false → j ∉ l → ∀ i ∈ l, i ∈ depsAt .any ops j := fun j hj hl hn i hi => by
    have := List.all_eq_true.1 h3 j (List.mem_range.2 hj)
    simp only [Bool.or_eq_true] at this
    rcases this with (h | h) | h
    · rw [hl] at h; cases h
    · exact absurd (by simpa using h) hn
    · simpa using List.all_eq_true.1 h i hi
  have hln : l.Nodup := by
    have := List.pairwise_map.1 hnd
    exact this.imp (fun h e => h (by rw [e]))
  intro m
  induction m with
  | zero =>
    intro listed ex vals B w hm hcl hsz hlst hS hw hF hB
    have hall : ∀ i ∈ l, ex i = true := fun i hi => by
      cases he : ex i with
      | true => rfl
      | false => have : i ∈ l.filter (fun i => !ex i) := List.mem_filter.2 ⟨hi, by simp [he]⟩
                 rw [List.length_eq_zero_iff.1 hm] at this; cases this
    have e1 : listed = l.foldl (fun x i => x.setIfInBounds i true) listed0 := by
      apply Array.ext
      · rw [foldl_size, hsz]
      · intro j hj hj'
        have hd : ∀ (A : Array Bool) (h : j < A.size), A[j] = A.getD j false := fun A h => by simp [Array.getD, h]
        rw [hd _ hj, hd _ hj', hlst j false]
        have hb : ∀ i ∈ l, i < listed0.size := fun i hi => by
          have := (hin i hi).2.1
          by_cases hlt : i < listed0.size
          · exact hlt
          · simp [Array.getD, hlt] at this
        rw [foldl_getD l listed0 j false hb]
        by_cases hjl : j ∈ l
        · rw [if_pos hjl, if_pos (hall j hjl), if_pos hjl]
        · rw [if_neg hjl, if_neg hjl]
    have e2 : putE ops l ex vals a0 = putE ops l (fun _ => true) vals a0 := putE_congr ops l a0 (fun i hi => ⟨hall i hi, fun _ => rfl⟩)
    rw [e1, e2, Nat.zero_add]
    exact fin vals B w hS ⟨hw, fun i hi hn => hF i hi (hall i hi) (fun j hj _ => hn j hj), fun i i' hi hi' hn hn' => hB i i' hi hi' (hall i hi) (hall i' hi') (fun j hj _ => hn j hj) (fun j hj _ => hn' j hj)⟩
  | succ m ih =>
    intro listed ex vals B w hm hcl hsz hlst hS hw hF hB
    rw [show m + 1 + n = (m + n) + 1 by omega]
    have hex : ∃ i, i ∈ l ∧ ex i = false := by
      cases hf : l.filter (fun i => !ex i) with
      | nil => rw [hf] at hm; cases hm
      | cons i r =>
        have : i ∈ l.filter (fun i => !ex i) := by rw [hf]; exact List.mem_cons_self ..
        exact ⟨i, (List.mem_filter.1 this).1, by simpa using (List.mem_filter.1 this).2⟩
    have hready : ∀ i ∈ Region.ready .any ops listed, i ∈ l ∧ ex i = false := fun i hi => by
      have hun := (mem_ready.1 hi).1
      obtain ⟨_, o, ho, _⟩ := mem_ready.1 hi
      have hlt : i < ops.size := (Array.getElem?_eq_some_iff.1 ho).1
      rw [hlst i true] at hun
      by_cases hil : i ∈ l
      · rw [if_pos hil] at hun
        refine ⟨hil, ?_⟩
        cases he : ex i with
        | false => rfl
        | true => rw [he] at hun; simp at hun
      · rw [if_neg hil] at hun
        obtain ⟨j, hj, hje⟩ := hex
        have := Closed.ready_dep hi (hout i hlt hun hil j hj)
        rw [hlst j false, if_pos hj, hje] at this
        have h0 := getD_both (hin j hj).2.1
        simp [h0] at this
    refine ⟨fun h0 => ?_, fun i hi => ?_⟩
    · exfalso
      have key : ∀ (q : Nat) (i : Nat), i ≤ q → i ∈ l → ex i = false → ∃ i, i ∈ Region.ready .any ops listed := by
        intro q
        induction q with
        | zero =>
          intro i hq hi he
          obtain ⟨h4, h5, h6⟩ := hin i hi
          refine ⟨i, mem_ready.2 ⟨by rw [hlst i true, if_pos hi, he]; simpa using h5, ops[i], by simp [h4], fun e he2 hb => ?_⟩⟩
          have hd : e.on ∈ depsAt .any ops i := by
            unfold depsAt; rw [Array.getElem?_eq_getElem h4]
            exact List.mem_map.2 ⟨e, List.mem_filter.2 ⟨Array.mem_toList_iff.2 he2, hb⟩, rfl⟩
          have := (h6 _ hd).1
          omega
        | succ q ihq =>
          intro i hq hi he
          obtain ⟨h4, h5, h6⟩ := hin i hi
          by_cases hx : ∃ d, d ∈ depsAt .any ops i ∧ d ∈ l ∧ ex d = false
          · obtain ⟨d, hd, hdl, hde⟩ := hx
            have := (h6 d hd).1
            exact ihq d (by omega) hdl hde
          · refine ⟨i, mem_ready.2 ⟨by rw [hlst i true, if_pos hi, he]; simpa using h5, ops[i], by simp [h4], fun e he2 hb => ?_⟩⟩
            have hd : e.on ∈ depsAt .any ops i := by
              unfold depsAt; rw [Array.getElem?_eq_getElem h4]
              exact List.mem_map.2 ⟨e, List.mem_filter.2 ⟨Array.mem_toList_iff.2 he2, hb⟩, rfl⟩
            rw [hlst e.on false]
            by_cases hl : e.on ∈ l
            · rw [if_pos hl]
              cases hee : ex e.on with
              | true => simp
              | false => exact absurd ⟨_, hd, hl, hee⟩ hx
            · rw [if_neg hl]
              rcases (h6 _ hd).2 with h7 | h7
              · exact h7
              · exact absurd h7 hl
      obtain ⟨i, hi, he⟩ := hex
      obtain ⟨j, hj⟩ := key i i (Nat.le_refl _) hi he
      rw [h0] at hj; cases hj
    · obtain ⟨hil, hie⟩ := hready i hi
      have hdx : ∀ d, d ∈ l → d ∈ depsAt .any ops i → ex d = true := fun d hd hdi => by
        have := Closed.ready_dep hi hdi
        rw [hlst d false, if_pos hd] at this
        cases he : ex d with
        | true => rfl
        | false =>
          rw [he] at this
          have h0 := getD_both (hin d hd).2.1
          simp [h0] at this
      have hdu : ∀ d, d ∈ l → d ∈ depsAt .any ops i → ∀ j ∈ l, ex j = true → d ∉ depsAt .any ops j := fun d hd hdi j hj hje =>
        hone i hil j hj (fun e => by rw [e, hje] at hie; cases hie) d hd hdi
      have hst := R.step i hil vals B w (putE ops l ex vals a0) hS (fun d hd hdi => hF d hd (hdx d hd hdi) (hdu d hd hdi))
        (fun d d' hd hd' hdi hdi' hne => hB d d' hd hd' (hdx d hd hdi) (hdx d' hd' hdi') (hdu d hd hdi) (hdu d' hd' hdi') hne)
        (fun t ht => putE_other ops ex vals t l a0 ht)
        (fun d hd hdi t hdt htl => putE_at ops ex vals d t l a0 hnd hd (hdx d hd hdi) hdt htl)
      refine wpOp_mono (fun a'' w'' hx => ?_) hst
      obtain ⟨v, B', rfl, hS', hsz', hFi, hBi, hkeep⟩ := hx
      refine ⟨fun _ => hS', ?_⟩
      rw [putE_set ops ex vals i v l a0 hnd hil hie]
      have hexi : ∀ j, upd ex i true j = true → j ≠ i → ex j = true := fun j h hne => by rwa [upd_ne _ _ hne] at h
      refine ih (listed.setIfInBounds i true) (upd ex i true) (upd vals i v) (upd B i B') w'' ?_ (hcl.set hi) (by simp [hsz]) (fun j d => ?_) hS' (Nat.le_trans hw hsz') (fun j hj hje hjn => ?_) (fun j j' hj hj' hje hje' hjn hjn' hne => ?_)
      · have hcnt : ∀ (l : List Nat), l.Nodup → i ∈ l → (l.filter fun j => !(upd ex i true j)).length + 1 = (l.filter fun j => !ex j).length := by
          intro l
          induction l with
          | nil => intro _ h; cases h
          | cons x l ihl =>
            intro hnl hx
            rw [List.nodup_cons] at hnl
            by_cases hxi : x = i
            · subst hxi
              have : (l.filter fun j => !(upd ex x true j)) = l.filter fun j => !ex j := List.filter_congr (fun j hj => by rw [upd_ne _ _ (fun e => hnl.1 (by rw [← e]; exact hj))])
              rw [List.filter_cons, List.filter_cons, upd_same, hie, this]; simp
            · have hxl : i ∈ l := by
                rcases List.mem_cons.1 hx with h | h
                · exact absurd h.symm hxi
                · exact h
              have := ihl hnl.2 hxl
              rw [List.filter_cons, List.filter_cons, upd_ne _ _ hxi]
              split
              · simp only [List.length_cons]; omega
              · exact this
        have := hcnt l hln hil
        omega
      · by_cases hji : j = i
        · subst hji
          rw [if_pos hil, upd_same, if_pos rfl]
          have hlt : j < listed.size := by
            have := (hin j hil).1
            rw [hcl.size]; exact this
          simp [Array.getD, hlt]
        · rw [getD_set_ne d (Ne.symm hji), hlst j d, upd_ne _ _ hji]
      · by_cases hji : j = i
        · subst hji
          rw [upd_same, upd_same]
          exact ⟨hFi, fun k hk => (hBi k hk).1⟩
        · rw [upd_ne _ _ hji, upd_ne _ _ hji]
          have hjx := hexi j hje hji
          have hjd : j ∉ depsAt .any ops i := hjn i hil (upd_same _ _ _)
          have hju : ∀ j' ∈ l, ex j' = true → j ∉ depsAt .any ops j' := fun j' hj' he => hjn j' hj' (by
            by_cases e : j' = i
            · rw [e, upd_same]
            · rw [upd_ne _ _ e]; exact he)
          obtain ⟨hf, hb⟩ := hF j hj hjx hju
          refine ⟨R.stable j _ _ w w'' hf hS' hsz' (fun k hk => hkeep k (hb k hk) (fun d hd hdi hbd => hB j d hj hd hjx (hdx d hd hdi) hju (hdu d hd hdi) (fun e => hjd (e ▸ hdi)) k hk hbd)), fun k hk => Nat.lt_of_lt_of_le (hb k hk) hsz'⟩
      · have hold : ∀ j, j ∈ l → upd ex i true j = true → (∀ q ∈ l, upd ex i true q = true → j ∉ depsAt .any ops q) → j ≠ i → ex j = true ∧ (∀ q ∈ l, ex q = true → j ∉ depsAt .any ops q) ∧ j ∉ depsAt .any ops i := fun j hj hje hjn hji =>
          ⟨hexi j hje hji, fun q hq he => hjn q hq (by
            by_cases e : q = i
            · rw [e, upd_same]
            · rw [upd_ne _ _ e]; exact he), hjn i hil (upd_same _ _ _)⟩
        have hnew : ∀ j, j ∈ l → upd ex i true j = true → (∀ q ∈ l, upd ex i true q = true → j ∉ depsAt .any ops q) → j ≠ i → ∀ k, B' k → ¬ B j k := fun j hj hje hjn hji k hk hbj => by
          obtain ⟨h4, h5, h6⟩ := hold j hj hje hjn hji
          rcases (hBi k hk).2 with h7 | ⟨d, hd, hdi, hbd⟩
          · have := (hF j hj h4 h5).2 k hbj; omega
          · exact hB d j hd hj (hdx d hd hdi) h4 (hdu d hd hdi) h5 (fun e => h6 (e ▸ hdi)) k hbd hbj
        by_cases hji : j = i
        · subst hji
          intro k hk
          rw [upd_same] at hk
          rw [upd_ne _ _ (Ne.symm hne)]
          exact hnew j' hj' hje' hjn' (Ne.symm hne) k hk
        · intro k hk
          rw [upd_ne _ _ hji] at hk
          by_cases hji' : j' = i
          · subst hji'
            rw [upd_same]
            exact fun hk' => hnew j hj hje hjn hji k hk' hk
          · rw [upd_ne _ _ hji']
            obtain ⟨h4, h5, _⟩ := hold j hj hje hjn hji
            obtain ⟨h6, h7, _⟩ := hold j' hj' hje' hjn' hji'
            exact hB j j' hj hj' h4 h6 h5 h7 hne k hk
theorem wpAnyF_seq2 (hs : Region.noSelect ops = true) (hQ : ∀ o ∈ ops.toList, ∀ c a v w, Q (.panic c) (a.put o.dst v) w → Q (.panic c) a w) :
    ∀ (l : List Turn2) (listed : Array Bool) (a : Act) (w : World), Closed md ops listed → okSeq2 md ops F l listed = true → runSeq2 P ops Q S l a w → wpAnyF P md ops Q S F (many2 l) listed a w
  | [], listed, a, w, _, hk, h => ⟨by simpa [okSeq2] using hk, h⟩
  | .take i :: r, listed, a, w, inv, hk, h => by
    simp only [okSeq2, Bool.and_eq_true, Bool.not_eq_true'] at hk
    obtain ⟨o, v, ho, hy, hS, hr⟩ := h
    have hi : i ∈ Region.ready md ops listed := by simpa using hk.1.1.1.1
    exact wpAnyF_first ho (Region.noSelect_spec hs) (fun c a w => hQ o (Array.mem_toList_iff.2 (Array.mem_of_getElem? ho)) c a v w) hk.1.1.2 (many2 r) listed a w inv hk.1.2
      (Region.free_spec ho hk.1.1.1.2) hi hy hS (wpAnyF_seq2 hs hQ r _ _ _ (inv.set hi) hk.2 hr)
  | .op i :: r, listed, a, w, inv, hk, h => by
    simp only [okSeq2, Bool.and_eq_true, beq_iff_eq] at hk
    have hi : i ∈ Region.ready md ops listed := by rw [hk.1]; simp
    exact wpAnyF_one hk.1 (wpOp_mono (fun a' w' h' => ⟨h'.1, wpAnyF_seq2 hs hQ r _ _ _ (inv.set hi) hk.2 h'.2⟩) h)
  | .fin i :: r, listed, a, w, inv, hk, h => by
    simp only [okSeq2, Bool.and_eq_true, beq_iff_eq] at hk
    refine ⟨fun h0 => (by rw [hk.1.1] at h0; cases h0), fun j hj => ?_⟩
    have hji : j = i := by rw [hk.1.1] at hj; simpa using hj
    subst hji
    exact wpOp_mono (fun a' w' h' => ⟨fun hc => (by rw [hk.1.2] at hc; cases hc), wpAnyF_seq2 hs hQ r _ _ _ (inv.set hj) hk.2 h'⟩) h
  | .pair i j :: r, listed, a, w, inv, hk, h => by
    simp only [okSeq2, Bool.and_eq_true, beq_iff_eq, bne_iff_ne, ne_eq] at hk
    obtain ⟨⟨⟨⟨h1, hij⟩, h2⟩, h3⟩, h4⟩ := hk
    have hi : i ∈ Region.ready md ops listed := by rw [h1]; simp
    have hj : j ∈ Region.ready md ops listed := by rw [h1]; simp
    have hj2 : j ∈ Region.ready md ops (listed.setIfInBounds i true) := by rw [h2]; simp
    refine ⟨fun h0 => (by rw [h1] at h0; cases h0), fun k hk => ?_⟩
    have hk2 : k = i ∨ k = j := by rw [h1] at hk; simpa using hk
    rcases hk2 with rfl | rfl
    · exact wpOp_mono (fun a' w' h' => ⟨fun _ => h'.1, wpAnyF_one h2 (wpOp_mono (fun a' w' h' => ⟨h'.1, wpAnyF_seq2 hs hQ r _ _ _ ((inv.set hi).set hj2) h4 h'.2⟩) h'.2)⟩) h.1
    · refine wpOp_mono (fun a' w' h' => ⟨fun _ => h'.1, wpAnyF_one h3 (wpOp_mono (fun a' w' h' => ⟨h'.1, ?_⟩) h'.2)⟩) h.2
      rw [Array.setIfInBounds_comm _ _ (Ne.symm hij)]
      exact wpAnyF_seq2 hs hQ r _ _ _ ((inv.set hi).set hj2) h4 h'.2
  | .tri i k j :: r, listed, a, w, inv, hk, h => by
    simp only [okSeq2, Bool.and_eq_true, beq_iff_eq, bne_iff_ne, ne_eq] at hk
    obtain ⟨⟨⟨⟨⟨⟨⟨h1, hij⟩, hkj⟩, h2⟩, h3⟩, h4⟩, h5⟩, h6⟩ := hk
    have hi : i ∈ Region.ready md ops listed := by rw [h1]; simp
    have hk2 : k ∈ Region.ready md ops (listed.setIfInBounds i true) := by rw [h2]; simp
    have hj3 : j ∈ Region.ready md ops ((listed.setIfInBounds i true).setIfInBounds k true) := by rw [h4]; simp
    have inv3 := ((inv.set hi).set hk2).set hj3
    have e1 : ((listed.setIfInBounds i true).setIfInBounds j true).setIfInBounds k true = ((listed.setIfInBounds i true).setIfInBounds k true).setIfInBounds j true := Array.setIfInBounds_comm _ _ (Ne.symm hkj)
    have e2 : (listed.setIfInBounds j true).setIfInBounds i true = (listed.setIfInBounds i true).setIfInBounds j true := Array.setIfInBounds_comm _ _ (Ne.symm hij)
    refine ⟨fun h0 => (by rw [h1] at h0; cases h0), fun q hq => ?_⟩
    have hq2 : q = i ∨ q = j := by rw [h1] at hq; simpa using hq
    rcases hq2 with rfl | rfl
    · refine wpOp_mono (fun a' w' h' => ⟨fun _ => h'.1, ⟨fun h0 => (by rw [h2] at h0; cases h0), fun q2 hq2 => ?_⟩⟩) h.1
      have hq3 : q2 = k ∨ q2 = j := by rw [h2] at hq2; simpa using hq2
      rcases hq3 with rfl | rfl
      · exact wpOp_mono (fun a' w' h' => ⟨fun _ => h'.1, wpAnyF_one h4 (wpOp_mono (fun a' w' h' => ⟨h'.1, wpAnyF_seq2 hs hQ r _ _ _ inv3 h6 h'.2⟩) h'.2)⟩) h'.2.1
      · refine wpOp_mono (fun a' w' h' => ⟨fun _ => h'.1, wpAnyF_one h5 (wpOp_mono (fun a' w' h' => ⟨h'.1, ?_⟩) h'.2)⟩) h'.2.2
        rw [e1]
        exact wpAnyF_seq2 hs hQ r _ _ _ inv3 h6 h'.2
    · refine wpOp_mono (fun a' w' h' => ⟨fun _ => h'.1, wpAnyF_one h3 (wpOp_mono (fun a' w' h' => ⟨h'.1, ?_⟩) h'.2)⟩) h.2
      rw [e2]
      refine wpAnyF_one h5 (wpOp_mono (fun a' w' h' => ⟨h'.1, ?_⟩) h'.2)
      rw [e1]
      exact wpAnyF_seq2 hs hQ r _ _ _ inv3 h6 h'.2
  | .rooms l :: r, listed, a, w, inv, hk, h => by
    simp only [okSeq2, Bool.and_eq_true] at hk
    obtain ⟨⟨hmd, hok⟩, hr⟩ := hk
    have hmd : md = .any := by cases md <;> first | rfl | cases hmd
    obtain ⟨Fc, hR, hS, hfin⟩ := h
    have hgo : Closed md ops (l.foldl (fun x i => x.setIfInBounds i true) listed) → ∀ vals B w', S w' → Left ops l Fc w vals B w' → wpAnyF P md ops Q S F (many2 r) (l.foldl (fun x i => x.setIfInBounds i true) listed) (putE ops l (fun _ => true) vals a) w' :=
      fun hc vals B w' hS' hl => wpAnyF_seq2 hs hQ r _ _ _ hc hr (hfin vals B w' hS' hl)
    clear hfin
    subst hmd
    have hin : ∀ i ∈ l, listed.getD i true = false := fun i hi => by
      simp only [okRooms, Bool.and_eq_true] at hok
      have := List.all_eq_true.1 hok.1.1.2 i hi
      simp only [Bool.and_eq_true, Bool.not_eq_true'] at this
      exact this.1.2
    have hinv : Closed .any ops (l.foldl (fun x i => x.setIfInBounds i true) listed) := by
      have hok' := hok
      simp only [okRooms, Bool.and_eq_true] at hok'
      refine ⟨by rw [foldl_size, inv.size], fun j oj hj hl e he hb => ?_⟩
      have hbd : ∀ i ∈ l, i < listed.size := fun i hi => by
        have := List.all_eq_true.1 hok'.1.1.2 i hi
        simp only [Bool.and_eq_true, decide_eq_true_eq] at this
        rw [inv.size]; exact this.1.1
      rw [foldl_getD l listed _ _ hbd] at hl ⊢
      have hd : e.on ∈ depsAt .any ops j := by
        unfold depsAt; rw [hj]
        exact List.mem_map.2 ⟨e, List.mem_filter.2 ⟨Array.mem_toList_iff.2 he, hb⟩, rfl⟩
      by_cases hjl : j ∈ l
      · have := List.all_eq_true.1 hok'.1.1.2 j hjl
        simp only [Bool.and_eq_true, decide_eq_true_eq] at this
        have h2 := List.all_eq_true.1 this.2 e.on hd
        simp only [Bool.and_eq_true, decide_eq_true_eq, Bool.or_eq_true] at h2
        split
        · rfl
        · rename_i hn
          rcases h2.2 with h3 | h3
          · exact h3
          · exact absurd (by simpa using h3) hn
      · rw [if_neg hjl] at hl
        have := inv.closed j oj hj hl e he hb
        split
        · rfl
        · exact this
    have := wpAnyF_rooms (Fc := Fc) (n := many2 r) (w0 := w) hok hR (hgo hinv) l.length listed (fun _ => false) (fun _ => undef) (fun _ _ => False) w (by simp) inv rfl
      (fun j d => by simp) hS (Nat.le_refl _) (fun i hi he => by cases he) (fun i i' hi hi' he => by cases he)
    have e : putE ops l (fun _ => false) (fun _ => undef) a = a := by
      have : ∀ (l : List Nat) (a : Act), putE ops l (fun _ => false) (fun _ => undef) a = a := by
        intro l
        induction l with
        | nil => intro a; rfl
        | cons i l ih => intro a; rw [putE, if_neg (by simp)]; exact ih a
      exact this l a
    rw [e] at this
    rw [many2, Turn2.many, Nat.add_comm]
    exact this
theorem wp_region_seq2 {id : Nat} {a : Act} {w : World} (S : World → Prop) (F : List Nat) (l : List Turn2) (hm : P.follows .mixedOrders = true) (hs : Region.noSelect ops = true) (hl : many2 l = ops.size)
    (hk : okSeq2 .any ops F l (Array.replicate ops.size false) = true)
    (hQ : ∀ o ∈ ops.toList, ∀ c a v w, Q (.panic c) (a.put o.dst v) w → Q (.panic c) a w)
    (h : runSeq2 P ops Q S l a w.drew) : (Code.region id ops true).wp P Q a w :=
  wp_region_any hm (wpAny_of_F _ _ _ _ (hl ▸ wpAnyF_seq2 hs hQ l _ _ _ Closed.start hk h))
theorem runSeq2_nil {a : Act} {w : World} (h : Q .normal a w) : runSeq2 P ops Q S [] a w := h
theorem runSeq2_take {i : Nat} {o : Oper} {v : Value} {r : List Turn2} {a : Act} {w : World} (ho' : ops.toList[i]? = some o) (hw : Region.wanted o (yielded ops a.tmps) = true)
    (hy : ∀ w', S w' → (execOp a.eval o).run P w' = .ok (.value v) w') (hS : S w) (h : runSeq2 P ops Q S r (a.put o.dst v) w) : runSeq2 P ops Q S (.take i :: r) a w :=
  ⟨o, v, by simpa using ho', .inl ⟨hw, hy⟩, hS, h⟩
theorem runSeq2_skip {i : Nat} {o : Oper} {r : List Turn2} {a : Act} {w : World} (ho' : ops.toList[i]? = some o) (hw : Region.wanted o (yielded ops a.tmps) = false)
    (hS : S w) (h : runSeq2 P ops Q S r (a.put o.dst undef) w) : runSeq2 P ops Q S (.take i :: r) a w :=
  ⟨o, undef, by simpa using ho', .inr ⟨hw, rfl⟩, hS, h⟩
theorem wpOp_at {i : Nat} {o : Oper} {a : Act} {w : World} {R : Act → World → Prop} (ho' : ops.toList[i]? = some o) (hw : Region.wanted o (yielded ops a.tmps) = true)
    (h : ∀ K : Act → World → Prop, (∀ a' w', R a' w' → K a' w') → o.wp P a w K Q) : wpOp P ops Q i R a w := by
  have ho : ops[i]? = some o := by simpa using ho'
  unfold wpOp
  simp only [ho, hw, if_true]
  exact .inl (h _ fun a' w' hR => hR)
theorem runSeq2_op {i : Nat} {o : Oper} {r : List Turn2} {a : Act} {w : World} (ho' : ops.toList[i]? = some o) (hw : Region.wanted o (yielded ops a.tmps) = true)
    (h : ∀ K : Act → World → Prop, (∀ a' w', S w' → runSeq2 P ops Q S r a' w' → K a' w') → o.wp P a w K Q) : runSeq2 P ops Q S (.op i :: r) a w :=
  wpOp_at (R := fun a' w' => S w' ∧ runSeq2 P ops Q S r a' w') ho' hw fun K hK => h K fun a' w' hS hr => hK a' w' ⟨hS, hr⟩
theorem runSeq2_fin {i : Nat} {o : Oper} {r : List Turn2} {a : Act} {w : World} (ho' : ops.toList[i]? = some o) (hw : Region.wanted o (yielded ops a.tmps) = true)
    (h : ∀ K : Act → World → Prop, (∀ a' w', runSeq2 P ops Q S r a' w' → K a' w') → o.wp P a w K Q) : runSeq2 P ops Q S (.fin i :: r) a w :=
  wpOp_at (R := fun a' w' => runSeq2 P ops Q S r a' w') ho' hw h
theorem put_comm {a : Act} {i j : Nat} (h : i ≠ j) (x y : Value) : (a.put (some j) y).put (some i) x = (a.put (some i) x).put (some j) y := by
  simp only [Act.put]
  rw [Array.setIfInBounds_comm _ _ (Ne.symm h)]
theorem wanted_free {o : Oper} (hg : o.guard = none) (ys : Nat → Option Bool) : Region.wanted o ys = true := by simp [Region.wanted, hg]
/-- Two rooms are made, in either order: what is gone on with knows that they are new, and not the same. -/
theorem runSeq2_two {i j di dj : Nat} {oi oj : Oper} {Zi Zj : Obj} {r : List Turn2} {a : Act} {w : World} (hoi : ops.toList[i]? = some oi) (hoj : ops.toList[j]? = some oj) (hgi : oi.guard = none) (hgj : oj.guard = none)
    (hi : ∀ (a : Act) (w : World) (K : Act → World → Prop), K (a.put (some di) (.pointer (some ⟨w.heap.size, 0, none⟩))) (w.alloc Zi) → oi.wp P a w K Q)
    (hj : ∀ (a : Act) (w : World) (K : Act → World → Prop), K (a.put (some dj) (.pointer (some ⟨w.heap.size, 0, none⟩))) (w.alloc Zj) → oj.wp P a w K Q)
    (hd : di ≠ dj) (hS : ∀ w', S w' → ∀ o, S (w'.alloc o)) (hs : S w)
    (h : ∀ bi bj w', S w' → bi ≠ bj → w.heap.size ≤ bi → w.heap.size ≤ bj → w'.heap[bi]? = some Zi → w'.heap[bj]? = some Zj →
      runSeq2 P ops Q S r ((a.put (some di) (.pointer (some ⟨bi, 0, none⟩))).put (some dj) (.pointer (some ⟨bj, 0, none⟩))) w') : runSeq2 P ops Q S (.pair i j :: r) a w := by
  have hsz : ∀ (w : World) (o : Obj), (w.alloc o).heap.size = w.heap.size + 1 := fun w o => Array.size_push _
  have hnew : ∀ (w : World) (o : Obj), (w.alloc o).heap[w.heap.size]? = some o := fun w o => by show (w.heap.push o)[_]? = _; rw [Array.getElem?_push_size]
  have hold : ∀ (w : World) (o o' : Obj), ((w.alloc o).alloc o').heap[w.heap.size]? = some o := fun w o o' => by
    show ((w.heap.push o).push o')[_]? = _
    rw [Array.getElem?_push, if_neg (by simp), Array.getElem?_push_size]
  refine ⟨wpOp_at hoi (wanted_free hgi _) fun K hK => hi _ _ _ (hK _ _ ⟨hS _ hs _, wpOp_at hoj (wanted_free hgj _) fun K hK => hj _ _ _ (hK _ _ ⟨hS _ (hS _ hs _) _, ?_⟩)⟩),
    wpOp_at hoj (wanted_free hgj _) fun K hK => hj _ _ _ (hK _ _ ⟨hS _ hs _, wpOp_at hoi (wanted_free hgi _) fun K hK => hi _ _ _ (hK _ _ ⟨hS _ (hS _ hs _) _, ?_⟩)⟩)⟩
  · have := hsz w Zi
    exact h _ _ _ (hS _ (hS _ hs _) _) (by omega) (Nat.le_refl _) (by omega) (hold _ _ _) (hnew _ _)
  · have := hsz w Zj
    rw [put_comm hd]
    exact h _ _ _ (hS _ (hS _ hs _) _) (by omega) (by omega) (Nat.le_refl _) (hnew _ _) (hold _ _ _)
/-- Two in either order, each with a value: what is gone on with knows both. -/
theorem runSeq2_pairM {i j di dj : Nat} {r : List Turn2} {a : Act} {w : World} (N : Value → Value → World → Prop) (hd : di ≠ dj)
    (h1 : wpOp P ops Q i (fun a1 w1 => ∃ v, a1 = a.put (some di) v ∧ S w1 ∧ wpOp P ops Q j (fun a2 w2 => ∃ u, a2 = a1.put (some dj) u ∧ S w2 ∧ N v u w2) a1 w1) a w)
    (h2 : wpOp P ops Q j (fun a1 w1 => ∃ u, a1 = a.put (some dj) u ∧ S w1 ∧ wpOp P ops Q i (fun a2 w2 => ∃ v, a2 = a1.put (some di) v ∧ S w2 ∧ N v u w2) a1 w1) a w)
    (h : ∀ v u w', S w' → N v u w' → runSeq2 P ops Q S r ((a.put (some di) v).put (some dj) u) w') : runSeq2 P ops Q S (.pair i j :: r) a w := by
  refine ⟨wpOp_mono (fun a1 w1 x => ?_) h1, wpOp_mono (fun a1 w1 x => ?_) h2⟩
  · obtain ⟨v, rfl, hs, hx⟩ := x
    refine ⟨hs, wpOp_mono (fun a2 w2 y => ?_) hx⟩
    obtain ⟨u, rfl, hs2, hn⟩ := y
    exact ⟨hs2, h v u w2 hs2 hn⟩
  · obtain ⟨u, rfl, hs, hx⟩ := x
    refine ⟨hs, wpOp_mono (fun a2 w2 y => ?_) hx⟩
    obtain ⟨v, rfl, hs2, hn⟩ := y
    rw [put_comm hd]
    exact ⟨hs2, h v u w2 hs2 hn⟩
end
end Go.Hay

set_option linter.unusedVariables false
set_option linter.unusedSimpArgs false
namespace Go.Hay
open Go.RowKit Go.Proofs.YtbekjccehhaljaaW.PrintWords Go.Proofs.YtbekjccehhaljaaW.PrintLast Go.Proofs.YtbekjccehhaljaaW.PrintMore
/-- Rows of numbers hang on their own block alone. -/
theorem nums_flat {k : IntKind} {e base : Nat} {w w1 : World} {ok ok' : Nat → Prop} {v : Value} {xs : List Int} (h : (Kd.int k).R e w base ok v xs) (ho : ∀ b, v.ownBlock = some b → ok' b) (hag : ∀ b, v.ownBlock = some b → w1.heap[b]? = w.heap[b]?) : (Kd.int k).R e w1 base ok' v xs := by
  obtain ⟨_, inner, ⟨h1, h2⟩, h3, h4⟩ := h
  refine ⟨ho, inner, ⟨h1, ?_⟩, h3, fun j p hj => h4 j p hj⟩
  rcases h2 with h2 | ⟨g, cap, cur, rfl, q2, q3, q4⟩
  · exact .inl h2
  · exact .inr ⟨g, cap, cur, rfl, q2, (hag g rfl).trans q3, q4⟩
theorem nums_own {k : IntKind} {e base : Nat} {w : World} {ok : Nat → Prop} {v : Value} {xs : List Int} (h : (Kd.int k).R e w base ok v xs) : ∀ b, v.ownBlock = some b → ok b ∧ base ≤ b ∧ b < w.heap.size :=
  fun b hb => ⟨h.1 b hb, Go.Proofs.YtbekjccehhaljaaW.PrintWords.Kd.R_base h b hb, Go.Proofs.YtbekjccehhaljaaW.PrintWords.Kd.R_lt h b hb⟩
section
variable {P : Program} {ops : Array Oper} {Q : Exit → Act → World → Prop} {S : World → Prop}
theorem Left.get {l : List Nat} {F : Nat → Value → (Nat → Prop) → World → Prop} {w0 w : World} {vals : Nat → Value} {B : Nat → Nat → Prop} (h : Left ops l F w0 vals B w) (i : Nat) (hb : (l.contains i && l.all fun j => !((depsAt .any ops j).contains i)) = true) :
    F i (vals i) (B i) w ∧ ∀ k, B i k → k < w.heap.size := by
  simp only [Bool.and_eq_true] at hb
  exact h.fact i (by simpa using hb.1) (fun j hj => by simpa using List.all_eq_true.1 hb.2 j hj)
theorem Left.ne {l : List Nat} {F : Nat → Value → (Nat → Prop) → World → Prop} {w0 w : World} {vals : Nat → Value} {B : Nat → Nat → Prop} (h : Left ops l F w0 vals B w) (i i' : Nat) (hb : (l.contains i && l.all fun j => !((depsAt .any ops j).contains i)) = true) (hb' : (l.contains i' && l.all fun j => !((depsAt .any ops j).contains i')) = true) (hne : i ≠ i') :
    ∀ k, B i k → ¬ B i' k := by
  simp only [Bool.and_eq_true] at hb hb'
  exact h.apart i i' (by simpa using hb.1) (by simpa using hb'.1) (fun j hj => by simpa using List.all_eq_true.1 hb.2 j hj) (fun j hj => by simpa using List.all_eq_true.1 hb'.2 j hj) hne
end
end Go.Hay

set_option linter.unusedVariables false
set_option linter.unusedSimpArgs false
namespace Go.Proofs.Ytbekjccehhaljaa.H
open Go.RowKit Go.Hay Go.Proofs.YtbekjccehhaljaaW.PrintWords Go.Proofs.YtbekjccehhaljaaW.PrintLast Go.Proofs.YtbekjccehhaljaaW.PrintMore
/-- rows whose elements lead nowhere. -/
theorem R_flat {α : Type} {d : Kd α} (hf : ∀ {w w1 : World} {base : Nat} {ok ok' : Nat → Prop} {x : α} {cs : List Value}, d.M w base ok x cs → d.M w1 base ok' x cs) {e base : Nat} {w w1 : World} {ok ok' : Nat → Prop} {v : Value} {xs : List α} (h : d.R e w base ok v xs) (ho : ∀ b, v.ownBlock = some b → ok' b) (hag : ∀ b, v.ownBlock = some b → w1.heap[b]? = w.heap[b]?) : d.R e w1 base ok' v xs := by
  obtain ⟨_, inner, ⟨h1, h2⟩, h3, h4⟩ := h
  refine ⟨ho, inner, ⟨h1, ?_⟩, h3, fun j p hj => hf (h4 j p hj)⟩
  rcases h2 with h2 | ⟨g, cap, cur, rfl, q2, q3, q4⟩
  · exact .inl h2
  · exact .inr ⟨g, cap, cur, rfl, q2, (hag g rfl).trans q3, q4⟩
theorem R_own {α : Type} {d : Kd α} {e base : Nat} {w : World} {ok : Nat → Prop} {v : Value} {xs : List α} (h : d.R e w base ok v xs) : ∀ b, v.ownBlock = some b → ok b ∧ base ≤ b ∧ b < w.heap.size :=
  fun b hb => ⟨h.1 b hb, Kd.R_base h b hb, Kd.R_lt h b hb⟩
/-- a path's row: written once. -/
def PathAt (w : World) (A : Option Addr) (path : List Int) : Prop :=
  (path = [] ∧ A = none) ∨ ∃ q cs, A = some ⟨q, 0, none⟩ ∧ w.heap[q]? = some (.cells cs 3 (0, 0)) ∧ cs.toList.take path.length = path.map (Value.int .i64)
theorem PathAt.nil (w : World) : PathAt w none [] := .inl ⟨rfl, rfl⟩
theorem PathAt.keep {w w1 : World} {A : Option Addr} {path : List Int} {S : Nat → Prop} (h : PathAt w A path) (hk : Keep S w w1) (hS : ∀ q cs, w.heap[q]? = some (.cells cs 3 (0, 0)) → ¬ S q) : PathAt w1 A path := by
  rcases h with h | ⟨q, cs, h1, h2, h3⟩
  · exact .inl h
  · exact .inr ⟨q, cs, h1, hk.blk h2 (hS q cs h2), h3⟩
theorem PathAt.below {w w1 : World} {A : Option Addr} {path : List Int} (h : PathAt w A path) (hb : Below w.heap.size w w1) : PathAt w1 A path :=
  h.keep (Keep.of_below hb (fun _ => False)) (fun _ _ _ => id)
theorem PathAt.C {w : World} {A : Option Addr} {path : List Int} (h : PathAt w A path) (hl : path.length ≤ 1000) : (Kd.int .i64).C w A path.length path := by
  rcases h with ⟨rfl, rfl⟩ | ⟨q, cs, rfl, h2, h3⟩
  · exact Kd.C_nil _ _
  · refine ⟨rfl, by omega, fun _ => ⟨_, rfl, fun j p hj => ⟨[.int .i64 p], rfl, rfl, fun i u hu => ?_⟩⟩⟩
    have hlt := (List.getElem?_eq_some_iff.1 hj).1
    match i, hu with
    | 0, hu =>
      cases hu
      rw [add_plain, blk_cell h2]
      have e : (cs.toList.take path.length)[j]? = some (.int .i64 p) := by rw [h3, List.getElem?_map, hj]; rfl
      rw [List.getElem?_take_of_lt hlt] at e
      have e2 : j * (Kd.int .i64).sz + 0 = j := Nat.mul_one j
      rw [e2]
      simpa using e
/-- an entry of the log. -/
structure Ent where
  A : Option Addr
  n : Nat
  c : Nat
  s : Int
def kEnt : Kd Ent := Kd.iso (Kd.pair (Kd.scalar (fun p : Option Addr × Nat × Nat => .slice p.1 p.2.1 p.2.2) (fun _ => rfl)) (Kd.int .i64)) (fun x : Ent => ((x.A, x.n, x.c), x.s))
theorem kEnt_open {w : World} {x : Ent} {cs : List Value} (h : kEnt.K w x cs) : cs = [.slice x.A x.n x.c, .int .i64 x.s] := by
  obtain ⟨_, _, rfl, rfl, rfl⟩ := h; rfl
theorem kEnt_openM {w : World} {base : Nat} {ok : Nat → Prop} {x : Ent} {cs : List Value} (h : kEnt.M w base ok x cs) : cs = [.slice x.A x.n x.c, .int .i64 x.s] := by
  obtain ⟨_, _, rfl, rfl, rfl⟩ := h; rfl
theorem kEnt_mkM (w : World) (base : Nat) (ok : Nat → Prop) (x : Ent) : kEnt.M w base ok x [.slice x.A x.n x.c, .int .i64 x.s] := ⟨_, _, rfl, rfl, rfl⟩
theorem kEnt_flat {w w1 : World} {base : Nat} {ok ok' : Nat → Prop} {x : Ent} {cs : List Value} (h : kEnt.M w base ok x cs) : kEnt.M w1 base ok' x cs := by rw [kEnt_openM h]; exact kEnt_mkM _ _ _ _
def kSt : Kd (Int × Int) := Kd.pair (Kd.int .i64) (Kd.int .i64)
theorem kSt_open {w : World} {x : Int × Int} {cs : List Value} (h : kSt.K w x cs) : cs = [.int .i64 x.1, .int .i64 x.2] := by
  obtain ⟨_, _, rfl, rfl, rfl⟩ := h; rfl
theorem kSt_openM {w : World} {base : Nat} {ok : Nat → Prop} {x : Int × Int} {cs : List Value} (h : kSt.M w base ok x cs) : cs = [.int .i64 x.1, .int .i64 x.2] := by
  obtain ⟨_, _, rfl, rfl, rfl⟩ := h; rfl
theorem kSt_mkM (w : World) (base : Nat) (ok : Nat → Prop) (x : Int × Int) : kSt.M w base ok x [.int .i64 x.1, .int .i64 x.2] := ⟨_, _, rfl, rfl, rfl⟩
theorem kSt_flat {w w1 : World} {base : Nat} {ok ok' : Nat → Prop} {x : Int × Int} {cs : List Value} (h : kSt.M w base ok x cs) : kSt.M w1 base ok' x cs := by rw [kSt_openM h]; exact kSt_mkM _ _ _ _
def EntsOk (w : World) (ents : List Ent) (log : List (List Int × Int)) : Prop :=
  ents.length = log.length ∧ ∀ j (h : j < ents.length) (h' : j < log.length), ents[j].s = log[j].2 ∧ ents[j].n = log[j].1.length ∧ ents[j].n ≤ ents[j].c ∧ log[j].1.length ≤ 1000 ∧ PathAt w ents[j].A log[j].1
theorem EntsOk.keep {w w1 : World} {ents : List Ent} {log : List (List Int × Int)} {S : Nat → Prop} (h : EntsOk w ents log) (hk : Keep S w w1) (hS : ∀ q cs, w.heap[q]? = some (.cells cs 3 (0, 0)) → ¬ S q) : EntsOk w1 ents log :=
  ⟨h.1, fun j h1 h2 => by obtain ⟨a, b, c, d, e⟩ := h.2 j h1 h2; exact ⟨a, b, c, d, e.keep hk hS⟩⟩
theorem ent_at {e B g n cap : Nat} {ok : Nat → Prop} {W : World} {xs : List Ent} (h : kEnt.R e W B ok (.slice (some ⟨g, 0, none⟩) n cap) xs) {i : Nat} (hi : i < xs.length) : W.cell? ⟨g, i * 2, none⟩ = some (.slice xs[i].A xs[i].n xs[i].c) ∧ W.cell? ⟨g, i * 2 + 1, none⟩ = some (.int .i64 xs[i].s) ∧ W.frozen? ⟨g, i * 2, none⟩ = false ∧ W.frozen? ⟨g, i * 2 + 1, none⟩ = false := by
  have hq := Kd.R_reads' h
  obtain ⟨ad, e1, hc⟩ := hq.2.2.2.2 (by omega)
  cases e1
  obtain ⟨cs, h1, h2, h3⟩ := hc i _ (List.getElem?_eq_getElem hi)
  obtain rfl := kEnt_open h2
  have q0 := h3 0 _ rfl
  have q1 := h3 1 _ rfl
  rw [add_plain] at q0 q1
  obtain ⟨g', cp, hv, _, _, C, hC⟩ := Kd.R_form h (by omega)
  injection hv with hA _ _
  cases hA
  exact ⟨q0, q1, blk_frozen hC _, blk_frozen hC _⟩
theorem ent_set {e B g n cap : Nat} {ok : Nat → Prop} {W : World} {xs : List Ent} (h : kEnt.R e W B ok (.slice (some ⟨g, 0, none⟩) n cap) xs) {i : Nat} (hi : i < xs.length) (s : Int) :
    kEnt.R e (W.setCell ⟨g, i * 2 + 1, none⟩ (.int .i64 s)) B ok (.slice (some ⟨g, 0, none⟩) n cap) (xs.set i { xs[i] with s := s }) := by
  have hq := ent_at h hi
  have hn := (Kd.R_reads' h).1
  have := (Kd.R_seg h (i : Int) (by omega) (by omega) (c := [.slice xs[i].A xs[i].n xs[i].c, .int .i64 xs[i].s]) (seg := [.int .i64 s]) (j := 1) rfl (fun j u hj => by
    rw [Int.toNat_natCast]
    match j, hj with
    | 0, hj => cases hj; exact hq.1
    | 1, hj => cases hj; exact hq.2.1) (by show 1 + 1 ≤ 2; decide) (x' := { xs[i] with s := s }) (okp := fun _ => False) (kEnt_mkM _ _ _ { xs[i] with s := s }) (fun _ h => h.elim)).1
  rw [Int.toNat_natCast] at this
  exact this
theorem eight {α : Type} {l : List α} (h : l.length = 8) : ∃ a b c d e f g i, l = [a, b, c, d, e, f, g, i] := by
  match l, h with
  | [a, b, c, d, e, f, g, i], _ => exact ⟨a, b, c, d, e, f, g, i, rfl⟩
theorem four {α : Type} {l : List α} (h : l.length = 4) : ∃ a b c d, l = [a, b, c, d] := by
  match l, h with
  | [a, b, c, d], _ => exact ⟨a, b, c, d, rfl⟩
theorem newRegs_len {args : List Int} (h : args.length ≤ 8) : (newRegs args).length = 8 := by
  unfold newRegs
  rw [List.length_append, List.length_take, List.length_replicate]; omega
end Go.Proofs.Ytbekjccehhaljaa.H

set_option linter.unusedVariables false
set_option linter.unusedSimpArgs false
namespace Go.Proofs.Ytbekjccehhaljaa.H
open Go.RowKit Go.Hay Go.Proofs.YtbekjccehhaljaaW.PrintWords Go.Proofs.YtbekjccehhaljaaW.PrintLast Go.Proofs.YtbekjccehhaljaaW.PrintMore
/-- a piece: is it a kid; a number. -/
structure Pc where
  f0 : Bool
  f1 : Int
def kPc : Kd Pc := Kd.iso (Kd.pair Kd.bool (Kd.int .i64)) (fun x : Pc => (x.f0, x.f1))
theorem kPc_open {w : World} {x : Pc} {cs : List Value} (h : kPc.K w x cs) : cs = [.bool x.f0, .int .i64 x.f1] := by
  obtain ⟨_, _, rfl, rfl, rfl⟩ := h; rfl
theorem kPc_openM {w : World} {base : Nat} {ok : Nat → Prop} {x : Pc} {cs : List Value} (h : kPc.M w base ok x cs) : cs = [.bool x.f0, .int .i64 x.f1] := by
  obtain ⟨_, _, rfl, rfl, rfl⟩ := h; rfl
theorem kPc_mkM (w : World) (base : Nat) (ok : Nat → Prop) (x : Pc) : kPc.M w base ok x [.bool x.f0, .int .i64 x.f1] := ⟨_, _, rfl, rfl, rfl⟩
theorem kPc_flat {w w1 : World} {base : Nat} {ok ok' : Nat → Prop} {x : Pc} {cs : List Value} (h : kPc.M w base ok x cs) : kPc.M w1 base ok' x cs := by rw [kPc_openM h]; exact kPc_mkM _ _ _ _
/-- A tree: a piece is whether it is a kid, and a number. -/
inductive Tr where
  | nil
  | node (ps : List Pc) (ks : List Tr) (v f : Int)
def kP : Kd (Option Addr) := Kd.scalar Value.pointer (fun _ => rfl)
mutual
def IsT : Tr → World → Option Addr → Prop
  | .nil, _, a => a = none
  | .node ps ks v f, w, a => ∃ b A1 c1 A2 c2 qs, a = some ⟨b, 0, none⟩ ∧ w.heap[b]? = some (.cells #[.slice A1 ps.length c1, .slice A2 ks.length c2, .int .i64 v, .int .i64 f] 70 (0, 0)) ∧
      ps.length ≤ c1 ∧ kPc.C w A1 ps.length ps ∧ ks.length ≤ c2 ∧ kP.C w A2 ks.length qs ∧ IsTs ks w qs
def IsTs : List Tr → World → List (Option Addr) → Prop
  | [], _, qs => qs = []
  | k :: r, w, qs => ∃ a s, qs = a :: s ∧ IsT k w a ∧ IsTs r w s
end
mutual
theorem IsT.keep : ∀ (t : Tr) {w w' : World} {a : Option Addr}, IsT t w a → Below w.heap.size w w' → IsT t w' a
  | .nil, _, _, _, h, _ => by simpa only [IsT] using h
  | .node ps ks v f, w, w', a, h, hb => by
    simp only [IsT] at h ⊢
    obtain ⟨b, A1, c1, A2, c2, qs, h1, h2, h3, h4, h5, h6, h7⟩ := h
    exact ⟨b, A1, c1, A2, c2, qs, h1, (hb.block _ (blk_lt h2)).trans h2, h3, Kd.C_below h4 hb, h5, Kd.C_below h6 hb, IsTs.keep ks h7 hb⟩
theorem IsTs.keep : ∀ (l : List Tr) {w w' : World} {qs : List (Option Addr)}, IsTs l w qs → Below w.heap.size w w' → IsTs l w' qs
  | [], _, _, _, h, _ => by simpa only [IsTs] using h
  | k :: r, w, w', qs, h, hb => by
    simp only [IsTs] at h ⊢
    obtain ⟨a, s, h1, h2, h3⟩ := h
    exact ⟨a, s, h1, IsT.keep k h2 hb, IsTs.keep r h3 hb⟩
end
theorem IsTs.length : ∀ {l : List Tr} {w : World} {qs : List (Option Addr)}, IsTs l w qs → qs.length = l.length
  | [], _, _, h => by simp only [IsTs] at h; simp [h]
  | k :: r, w, qs, h => by
    simp only [IsTs] at h
    obtain ⟨a, s, rfl, h2, h3⟩ := h
    simp [IsTs.length h3]
theorem IsTs.get : ∀ {l : List Tr} {w : World} {qs : List (Option Addr)} (h : IsTs l w qs) (i : Nat) (hi : i < l.length), ∃ h' : i < qs.length, IsT l[i] w qs[i]
  | [], _, _, h, i, hi => absurd hi (Nat.not_lt_zero _)
  | k :: r, w, qs, h, i, hi => by
    simp only [IsTs] at h
    obtain ⟨a, s, rfl, h2, h3⟩ := h
    cases i with
    | zero => exact ⟨by simp, h2⟩
    | succ i =>
      obtain ⟨h', hg⟩ := IsTs.get h3 i (by simpa using hi)
      exact ⟨by simpa using h', by simpa using hg⟩
theorem at_P {w : World} {A : Option Addr} {n : Nat} {qs : List (Option Addr)} (h : kP.C w A n qs) (i : Nat) (hi : i < n) (hi2 : i < qs.length) : ∃ ad, A = some ad ∧ w.cell? (ad.add i) = some (.pointer qs[i]) := by
  obtain ⟨ad, cs, e, _, hK, hc⟩ := Kd.C_get h none (i : Int) (by omega) (by omega)
  have hK : cs = [.pointer (qs.getD (i : Int).toNat none)] := hK
  have := hc 0 _ (by rw [hK]; rfl)
  refine ⟨ad, e, ?_⟩
  have e2 : qs.getD (i : Int).toNat none = qs[i] := by simp [hi2]
  rw [e2] at this
  simpa [kP, Kd.scalar] using this

/-! ### what is right -/
def metP : Int → List Pc → Option Int
  | m, [] => some m
  | m, p :: r => if p.f0 = true then (if p.f1 = m then metP (m + 1) r else none) else metP m r
mutual
def rightT : Tr → Int → Bool
  | .nil, _ => false
  | .node ps ks v f, d => if d > 30 ∨ (f ≠ 0 ∧ v ≠ 0) then false else match metP 0 ps with
    | none => false
    | some m => if m = (ks.length : Int) then rightTs ks (d + 1) else false
def rightTs : List Tr → Int → Bool
  | [], _ => true
  | k :: r, d => rightT k d && rightTs r d
end
/-! ### what is told, why it fails, and where first -/
def preT (t : List Int) (r : List Int × Int × Option (List Int)) : List Int × Int × Option (List Int) := (t ++ r.1, r.2.1, r.2.2)
def walkPs : List Pc → List (List Int × Int × Option (List Int)) → List Int × Int × Option (List Int)
  | [], _ => ([], 0, none)
  | p :: r, W => if p.f0 = true then (if (W.getD p.f1.toNat ([], 0, none)).2.1 = 0 then preT (W.getD p.f1.toNat ([], 0, none)).1 (walkPs r W) else W.getD p.f1.toNat ([], 0, none)) else preT [p.f1] (walkPs r W)
mutual
def walkT : Tr → List Int → List Int × Int × Option (List Int)
  | .nil, _ => ([], 0, none)
  | .node ps ks v f, path => if (walkPs ps (walkKs ks path 0)).2.1 = 0 then ((walkPs ps (walkKs ks path 0)).1, f, if f = 0 then none else some path) else walkPs ps (walkKs ks path 0)
def walkKs : List Tr → List Int → Nat → List (List Int × Int × Option (List Int))
  | [], _, _ => []
  | k :: r, path, i => walkT k (path ++ [(i : Int)]) :: walkKs r path (i + 1)
end
theorem walkKs_get : ∀ (ks : List Tr) (path : List Int) (j i : Nat) (h : i < ks.length), (walkKs ks path j)[i]? = some (walkT ks[i] (path ++ [((j + i : Nat) : Int)]))
  | [], _, _, i, h => absurd h (Nat.not_lt_zero _)
  | k :: r, path, j, 0, h => by rw [walkKs]; rfl
  | k :: r, path, j, i + 1, h => by
    rw [walkKs, List.getElem?_cons_succ, walkKs_get r path (j + 1) i (by simpa using h)]
    simp only [List.getElem_cons_succ]
    rw [show j + 1 + i = j + (i + 1) by omega]
theorem metP_le : ∀ {l : List Pc} {m r : Int}, metP m l = some r → m ≤ r
  | [], m, r, h => by rw [metP] at h; cases h; exact Int.le_refl _
  | p :: l, m, r, h => by
    rw [metP] at h
    by_cases h1 : p.f0 = true
    · rw [if_pos h1] at h
      by_cases h2 : p.f1 = m
      · rw [if_pos h2] at h; have := metP_le h; omega
      · rw [if_neg h2] at h; cases h
    · rw [if_neg h1] at h; exact metP_le h
/-- it fails just if there is a first one. -/
def Fits (r : List Int × Int × Option (List Int)) : Prop := r.2.1 = 0 ↔ r.2.2 = none
theorem walkPs_fits : ∀ (ps : List Pc) (W : List (List Int × Int × Option (List Int))), (∀ x ∈ W, Fits x) → Fits (walkPs ps W)
  | [], W, _ => by simp [walkPs, Fits]
  | p :: r, W, h => by
    have hr := walkPs_fits r W h
    rw [walkPs]
    have hk : Fits (W.getD p.f1.toNat ([], 0, none)) := by
      rw [List.getD_eq_getElem?_getD]
      cases hx : W[p.f1.toNat]? with
      | none => simp [Fits]
      | some x => exact h x (List.mem_of_getElem? hx)
    split
    · split
      · exact hr
      · exact hk
    · exact hr
mutual
theorem walkT_fits : ∀ (t : Tr) (path : List Int), Fits (walkT t path)
  | .nil, _ => by simp [walkT, Fits]
  | .node ps ks v f, path => by
    have := walkPs_fits ps _ (walkKs_fits ks path 0)
    rw [walkT]
    split
    · by_cases hf : f = 0
      · simp [Fits, hf]
      · simp [Fits, hf]
    · exact this
theorem walkKs_fits : ∀ (ks : List Tr) (path : List Int) (j : Nat), ∀ x ∈ walkKs ks path j, Fits x
  | [], _, _, x, h => by simp [walkKs] at h
  | k :: r, path, j, x, h => by
    rw [walkKs] at h
    rcases List.mem_cons.1 h with h | h
    · exact h ▸ walkT_fits k _
    · exact walkKs_fits r path (j + 1) x h
end
end Go.Proofs.Ytbekjccehhaljaa.H

set_option linter.unusedVariables false
set_option linter.unusedSimpArgs false
namespace Go.Proofs.Ytbekjccehhaljaa.H
open Go.RowKit Go.Hay Go.Proofs.YtbekjccehhaljaaW.PrintWords Go.Proofs.YtbekjccehhaljaaW.PrintLast Go.Proofs.YtbekjccehhaljaaW.PrintMore
def nv : Tr → Int
  | .nil => 0
  | .node _ _ v _ => v
def nf : Tr → Int
  | .nil => 0
  | .node _ _ _ f => f
/-- all that is noted, and how many instructions may be done yet. -/
structure Gu where
  left : Nat
  log : List (List Int × Int)
  frames : Nat
  cells : Nat
  chunks : Nat
  steps : Nat
/-- a task. -/
structure Tu where
  regs : List Int
  hands : List Tr
  kids : List (Tr × Int)
  wait : Nat
  at_ : Int
  steps : Nat
  told : Nat
  ps : List Pc
def isN : Tr → Prop
  | .nil => False
  | .node _ _ _ _ => True
def uR (T : Tu) (i : Int) : Int := T.regs.getD i.toNat 0
def uH (T : Tu) (i : Int) : Tr := T.hands.getD i.toNat .nil
def uSet (T : Tu) (i v : Int) : Tu := { T with regs := T.regs.set i.toNat v }
def syncBad (T : Tu) : Bool := (T.kids.drop T.wait).any (fun k => decide (nf k.1 ≠ 0))
def putK (r : List Int) (k : Tr × Int) : List Int := if 0 ≤ k.2 then r.set k.2.toNat (nv k.1) else r
def syncU (T : Tu) : Tu := { T with regs := (T.kids.drop T.wait).foldl putK T.regs, wait := T.kids.length }
def reckonU (op a b : Int) : Option Int :=
  if op = 3 then some (wrap64 (a + b))
  else if op = 4 then some (wrap64 (a - b))
  else if op = 5 then some (wrap64 (a * b))
  else if op = 6 then (if b = 0 then none else some (wrap64 (a.tdiv b)))
  else if op = 7 then some (lessV a b)
  else some (sameV a b)
def newTu (args : List Int) (hands : List Tr) : Tu := ⟨newRegs args, hands, [], 0, 0, 0, 0, []⟩
def argsU (l : List S64) (x : S61) (T : Tu) : List Int := (T.regs.drop x.f2.toNat).take (rd_T64 l x.f3).f0.toNat
inductive SU where
  | go (T : Tu) (G : Gu)
  | stop (v f : Int) (T : Tu) (G : Gu)
  | long
def mkNode (T : Tu) (v f : Int) : Tr := .node T.ps (T.kids.map (·.1)) v f
def noteU (path : List Int) (T : Tu) (G : Gu) : Gu := { G with log := G.log ++ [(path, (T.steps : Int))], frames := G.frames + 1, steps := G.steps + T.steps, chunks := G.chunks + (T.told + 3) / 4 }
/-- how a run ends: value, failure, the task, the whole. -/
abbrev RU := Option (Int × Int × Tu × Gu)
def kidGo (x : S61) (T : Tu) (t : Tr) (G : Gu) : SU :=
  if x.f0 = 11 then .go { T with kids := T.kids ++ [(t, x.f1)], ps := T.ps ++ [⟨true, (T.kids.length : Int)⟩] } G
  else .go { T with kids := T.kids ++ [(t, -1)], ps := T.ps ++ [⟨true, (T.kids.length : Int)⟩], hands := T.hands.set x.f1.toNat t } { G with cells := G.cells + 1 }
/-- an instruction, behind the counting; rec: how the tasks end that it begins. -/
def stepU (l : List S64) (depth : Int) (rec : Gu → List Int → List S61 → Tu → RU) (path : List Int) (x : S61) (T : Tu) (G : Gu) : SU :=
  if x.f0 = 1 then .go (uSet T x.f1 x.f4) G
  else if x.f0 = 2 then .go (uSet T x.f1 (uR T x.f2)) G
  else if x.f0 ≤ 8 then (match reckonU x.f0 (uR T x.f2) (uR T x.f3) with | some n => .go (uSet T x.f1 n) G | none => .stop 0 1 T G)
  else if x.f0 = 9 then .go { T with at_ := x.f4 } G
  else if x.f0 = 10 then .go (if uR T x.f1 = 0 then { T with at_ := x.f4 } else T) G
  else if x.f0 = 11 ∨ x.f0 = 13 then
    if (path.length : Int) = depth then .stop 0 4 T G
    else match rec G (path ++ [(T.kids.length : Int)]) (rd_T64 l x.f3).f1 (newTu (argsU l x T) T.hands) with
      | none => .long
      | some (v, f, T2, G2) => kidGo x T (mkNode T2 v f) (noteU (path ++ [(T.kids.length : Int)]) T2 G2)
  else if x.f0 = 12 then (if syncBad T = true then .stop 0 5 T G else .go (syncU T) G)
  else if x.f0 = 14 then (match uH T x.f2 with | .nil => .stop 0 2 T G | .node ps ks v f => if f ≠ 0 then .stop 0 5 T G else .go (uSet T x.f1 v) G)
  else if x.f0 = 15 then .go { T with ps := T.ps ++ [⟨false, uR T x.f1⟩], told := T.told + 1 } G
  else if x.f0 = 16 then .stop 0 x.f4 T G
  else (if syncBad T = true then .stop 0 5 T G else .stop (uR (syncU T) x.f1) 0 (syncU T) G)
def tickT (T : Tu) : Tu := { T with at_ := T.at_ + 1, steps := T.steps + 1 }
def tickG (G : Gu) : Gu := { G with left := G.left - 1 }
/-- a task's run. -/
def runU (l : List S64) (budget depth : Int) : Nat → Gu → List Int → List S61 → Tu → RU
  | 0, _, _, _, _ => none
  | k + 1, G, path, code, T =>
    if (T.steps : Int) = budget then some (0, 3, T, G)
    else if G.left = 0 then none
    else match stepU l depth (runU l budget depth k) path (rd_T61 code T.at_) (tickT T) (tickG G) with
      | .go T' G' => runU l budget depth k G' path code T'
      | .stop v f T' G' => some (v, f, T', G')
      | .long => none
/-- how a task ends: its node, and what is noted. -/
def endU (path : List Int) : RU → Option (Tr × Gu)
  | none => none
  | some (v, f, T, G) => some (mkNode T v f, noteU path T G)
def beginU (l : List S64) (budget depth : Int) (k : Nat) (G : Gu) (f : Int) (path args : List Int) (hands : List Tr) : Option (Tr × Gu) :=
  endU path (runU l budget depth k G path (rd_T64 l f).f1 (newTu args hands))
def noHandsU : List Tr := [.nil, .nil, .nil, .nil]
def unfoldP (l : List S64) (args : List Int) (budget depth : Int) (most : Nat) : Option (Tr × Gu) := beginU l budget depth (most + 1) ⟨most, [], 0, 0, 0, 0⟩ 0 [] args noHandsU
/-! ### what stays right -/
structure GUI (M : Nat) (budget : Int) (G : Gu) : Prop where
  log : G.log.length + G.left ≤ M
  frames : G.frames = G.log.length
  cells : G.cells ≤ G.log.length
  steps : (G.steps : Int) ≤ budget * G.log.length
  chunks : (G.chunks : Int) ≤ budget * G.log.length
  each : ∀ e ∈ G.log, 0 ≤ e.2 ∧ e.2 ≤ budget
structure TU0 (depth budget : Int) (path : List Int) (T : Tu) : Prop where
  rl : T.regs.length = 8
  hl : T.hands.length = 4
  kr : ∀ k ∈ T.kids, (-1 ≤ k.2 ∧ k.2 < 8) ∧ isN k.1
  wait : T.wait ≤ T.kids.length
  kt : T.kids.length + T.told ≤ T.steps
  pl : T.ps.length = T.kids.length + T.told
  steps : (T.steps : Int) ≤ budget
  path_ : (path.length : Int) ≤ depth
structure TUI (code : List S61) (depth budget : Int) (path : List Int) (T : Tu) : Prop extends TU0 depth budget path T where
  at_ : 0 ≤ T.at_ ∧ T.at_ < code.length
/-- how tasks end that are begun: what stays right. -/
def RecU (l : List S64) (budget depth : Int) (rec : Gu → List Int → List S61 → Tu → RU) : Prop :=
  ∀ (M : Nat) (G : Gu) (path : List Int) (f : Nat) (hf : f < l.length) (T : Tu), GUI M budget G → G.log.length + 1 + G.left ≤ M → TUI l[f].f1 depth budget path T →
    ∀ v f' T' G', rec G path l[f].f1 T = some (v, f', T', G') → GUI M budget G' ∧ G'.log.length + 1 + G'.left ≤ M ∧ G'.left ≤ G.left ∧ TU0 depth budget path T'
theorem argsU_len (l : List S64) (x : S61) (T : Tu) (h : T.regs.length = 8) : (argsU l x T).length ≤ 8 := by
  unfold argsU
  rw [List.length_take, List.length_drop]; omega
theorem new_inv {l : List S64} (hl : POk l) {budget depth : Int} {path : List Int} (hb : 0 ≤ budget) (f : Nat) (hf : f < l.length) (hp : (path.length : Int) ≤ depth) (args : List Int) (ha : args.length ≤ 8) (hands : List Tr) (hh : hands.length = 4) : TUI l[f].f1 depth budget path (newTu args hands) := by
  have hc := (hl.fn f hf).2.1
  exact ⟨⟨newRegs_len ha, hh, (fun k hk => by cases hk), Nat.le_refl _, Nat.le_refl _, rfl, hb, hp⟩, by show (0 : Int) ≤ 0 ∧ (0 : Int) < l[f].f1.length; omega⟩
theorem note_inv {M : Nat} {budget : Int} {G : Gu} {T : Tu} {depth : Int} {path p2 : List Int} (hb : 0 ≤ budget) (hg : GUI M budget G) (hleft : G.log.length + 1 + G.left ≤ M) (h : TU0 depth budget path T) : GUI M budget (noteU p2 T G) := by
  have e : ((noteU p2 T G).log.length : Int) = G.log.length + 1 := by unfold noteU; simp
  have em : budget * ((G.log.length : Int) + 1) = budget * G.log.length + budget := by rw [Int.mul_add, Int.mul_one]
  have e0 : (noteU p2 T G).log.length = G.log.length + 1 := by unfold noteU; simp
  have hs := h.steps
  have hk := h.kt
  refine ⟨?_, ?_, ?_, ?_, ?_, ?_⟩
  · rw [e0]; exact hleft
  · rw [e0]; show G.frames + 1 = _; rw [hg.frames]
  · rw [e0]; show G.cells ≤ _; exact Nat.le_succ_of_le hg.cells
  · rw [e, em]; show ((G.steps + T.steps : Nat) : Int) ≤ _; have := hg.steps; omega
  · rw [e, em]; show ((G.chunks + (T.told + 3) / 4 : Nat) : Int) ≤ _; have := hg.chunks; omega
  · intro x hx
    have hx : x ∈ G.log ++ [(p2, (T.steps : Int))] := hx
    rcases List.mem_append.1 hx with hx | hx
    · exact hg.each x hx
    · rw [List.mem_singleton.1 hx]; exact ⟨by show (0 : Int) ≤ (T.steps : Int); omega, hs⟩
theorem foldl_putK_len (ks : List (Tr × Int)) : ∀ r : List Int, (ks.foldl putK r).length = r.length := by
  induction ks with
  | nil => intro r; rfl
  | cons s ws ih =>
    intro r; rw [List.foldl_cons, ih]
    unfold putK
    split
    · rw [List.length_set]
    · rfl
def StepI (code : List S61) (budget depth : Int) (path : List Int) (M : Nat) (G : Gu) (r : SU) : Prop :=
  match r with
  | .go T' G' => GUI M budget G' ∧ G'.log.length + 1 + G'.left ≤ M ∧ G'.left ≤ G.left ∧ TUI code depth budget path T'
  | .stop _ _ T' G' => GUI M budget G' ∧ G'.log.length + 1 + G'.left ≤ M ∧ G'.left ≤ G.left ∧ TU0 depth budget path T'
  | .long => True
theorem ite_i {α : Type} {P : α → Prop} {c : Prop} [Decidable c] {a b : α} (ha : c → P a) (hb : ¬ c → P b) : P (if c then a else b) := by
  split
  · exact ha ‹_›
  · exact hb ‹_›
theorem stepU_inv {l : List S64} (hl : POk l) {M : Nat} {budget depth : Int} (hb : 0 ≤ budget) {rec : Gu → List Int → List S61 → Tu → RU} (hrec : RecU l budget depth rec) {code : List S61} {path : List Int} {T : Tu} {G : Gu} {x : S61} (hx : IOk l code.length x) (hg : GUI M budget G) (hleft : G.log.length + 2 + G.left ≤ M) (h : TU0 depth budget path T) (ht : T.kids.length + T.told + 1 ≤ T.steps) (hat : x.f0 ≠ 9 → x.f0 ≠ 16 → x.f0 ≠ 17 → 0 ≤ T.at_ ∧ T.at_ < code.length) :
    StepI code budget depth path M G (stepU l depth rec path x T G) := by
  have hgo : ∀ T', TUI code depth budget path T' → StepI code budget depth path M G (.go T' G) := fun T' h' => ⟨hg, by omega, Nat.le_refl _, h'⟩
  have hst : ∀ v f T', TU0 depth budget path T' → StepI code budget depth path M G (.stop v f T' G) := fun v f T' h' => ⟨hg, by omega, Nat.le_refl _, h'⟩
  have hset : ∀ i v, TU0 depth budget path (uSet T i v) := fun i v => ⟨by show (T.regs.set i.toNat v).length = 8; rw [List.length_set]; exact h.rl, h.hl, h.kr, h.wait, h.kt, h.pl, h.steps, h.path_⟩
  have hsync : TU0 depth budget path (syncU T) := ⟨by unfold syncU; rw [foldl_putK_len]; exact h.rl, h.hl, h.kr, Nat.le_refl _, h.kt, h.pl, h.steps, h.path_⟩
  have hop := hx.op
  unfold stepU
  refine ite_i (fun e => ?_) (fun n1 => ite_i (fun e => ?_) (fun n2 => ite_i (fun e => ?_) (fun n8 => ite_i (fun e => ?_) (fun n9 => ite_i (fun e => ?_) (fun n10 => ite_i (fun e => ?_) (fun n11 => ite_i (fun e => ?_) (fun n12 => ite_i (fun e => ?_) (fun n14 => ite_i (fun e => ?_) (fun n15 => ite_i (fun e => ?_) (fun n16 => ?_))))))))))
  · exact hgo _ ⟨hset _ _, hat (by omega) (by omega) (by omega)⟩
  · exact hgo _ ⟨hset _ _, hat (by omega) (by omega) (by omega)⟩
  · cases reckonU x.f0 (uR T x.f2) (uR T x.f3) with
    | some n => exact hgo _ ⟨hset _ _, hat (by omega) (by omega) (by omega)⟩
    | none => exact hst _ _ _ h
  · exact hgo _ ⟨⟨h.rl, h.hl, h.kr, h.wait, h.kt, h.pl, h.steps, h.path_⟩, hx.k (.inl e)⟩
  · refine hgo _ (ite_i (fun _ => ⟨⟨h.rl, h.hl, h.kr, h.wait, h.kt, h.pl, h.steps, h.path_⟩, hx.k (.inr e)⟩) (fun _ => ⟨h, hat (by omega) (by omega) (by omega)⟩))
  · refine ite_i (fun _ => hst _ _ _ h) (fun hd => ?_)
    have hcf := hx.cf e
    obtain ⟨f, hf⟩ : ∃ f : Nat, x.f3 = f := ⟨x.f3.toNat, by omega⟩
    have hfl : f < l.length := by omega
    have hrd : rd_T64 l x.f3 = l[f] := by rw [hf]; simp [rd_T64, hfl]
    have hpl := h.path_
    have hni := new_inv hl hb f hfl (path := path ++ [(T.kids.length : Int)]) (depth := depth) (by rw [List.length_append]; simp; omega) (argsU l x T) (argsU_len l x T h.rl) T.hands h.hl
    have hr := hrec (M - 1) G (path ++ [(T.kids.length : Int)]) f hfl _ ⟨by have := hg.log; omega, hg.frames, hg.cells, hg.steps, hg.chunks, hg.each⟩ (by omega) hni
    rw [hrd]
    cases hq : rec G (path ++ [(T.kids.length : Int)]) l[f].f1 (newTu (argsU l x T) T.hands) with
    | none => trivial
    | some r =>
      obtain ⟨v, f', T2, G2⟩ := r
      obtain ⟨g1, g2, g3, g4⟩ := hr v f' T2 G2 hq
      have hn := note_inv (p2 := path ++ [(T.kids.length : Int)]) hb g1 g2 g4
      have e0 : (noteU (path ++ [(T.kids.length : Int)]) T2 G2).log.length = G2.log.length + 1 := by unfold noteU; simp
      have e1 : (noteU (path ++ [(T.kids.length : Int)]) T2 G2).left = G2.left := rfl
      obtain ⟨NG, hNG⟩ : ∃ NG, NG = noteU (path ++ [(T.kids.length : Int)]) T2 G2 := ⟨_, rfl⟩
      show StepI code budget depth path M G (kidGo x T (mkNode T2 v f') (noteU (path ++ [(T.kids.length : Int)]) T2 G2))
      rw [← hNG] at hn e0 e1 ⊢
      have hn' : GUI M budget NG := ⟨by have := hn.log; omega, hn.frames, hn.cells, hn.steps, hn.chunks, hn.each⟩
      have hkt := h.kt
      unfold kidGo
      by_cases e11 : x.f0 = 11
      · rw [if_pos e11]
        refine ⟨hn', by omega, by omega, ⟨h.rl, h.hl, fun k hk => ?_, ?_, ?_, ?_, h.steps, h.path_⟩, hat (by omega) (by omega) (by omega)⟩
        · have hk : k ∈ T.kids ++ [(mkNode T2 v f', x.f1)] := hk
          rcases List.mem_append.1 hk with hk | hk
          · exact h.kr k hk
          · rw [List.mem_singleton.1 hk]
            have := hx.a (by omega) (by omega) (by omega) (by omega)
            exact ⟨by show -1 ≤ x.f1 ∧ x.f1 < 8; omega, trivial⟩
        · show T.wait ≤ (T.kids ++ [(mkNode T2 v f', x.f1)]).length
          rw [List.length_append]; have := h.wait; omega
        · show (T.kids ++ [(mkNode T2 v f', x.f1)]).length + T.told ≤ T.steps
          rw [List.length_append]; simp; omega
        · show (T.ps ++ [_]).length = (T.kids ++ [(mkNode T2 v f', x.f1)]).length + T.told
          rw [List.length_append, List.length_append, h.pl]; simp; omega
      · rw [if_neg e11]
        have hc : NG.cells + 1 ≤ NG.log.length := by
          have h1 := g1.cells
          have h2 : NG.cells = G2.cells := by rw [hNG]; rfl
          omega
        refine ⟨⟨hn'.log, hn'.frames, hc, hn'.steps, hn'.chunks, hn'.each⟩, by show NG.log.length + 1 + NG.left ≤ M; omega, by show NG.left ≤ G.left; omega, ⟨h.rl, by show (T.hands.set _ _).length = 4; rw [List.length_set]; exact h.hl, fun k hk => ?_, ?_, ?_, ?_, h.steps, h.path_⟩, hat (by omega) (by omega) (by omega)⟩
        · have hk : k ∈ T.kids ++ [(mkNode T2 v f', -1)] := hk
          rcases List.mem_append.1 hk with hk | hk
          · exact h.kr k hk
          · rw [List.mem_singleton.1 hk]
            exact ⟨by show (-1 : Int) ≤ -1 ∧ (-1 : Int) < 8; omega, trivial⟩
        · show T.wait ≤ (T.kids ++ [(mkNode T2 v f', -1)]).length
          rw [List.length_append]; have := h.wait; omega
        · show (T.kids ++ [(mkNode T2 v f', -1)]).length + T.told ≤ T.steps
          rw [List.length_append]; simp; omega
        · show (T.ps ++ [_]).length = (T.kids ++ [(mkNode T2 v f', -1)]).length + T.told
          rw [List.length_append, List.length_append, h.pl]; simp; omega
  · exact ite_i (fun _ => hst _ _ _ h) (fun _ => hgo _ ⟨hsync, hat (by omega) (by omega) (by omega)⟩)
  · cases uH T x.f2 with
    | nil => exact hst _ _ _ h
    | node ps ks v f => exact ite_i (fun _ => hst _ _ _ h) (fun _ => hgo _ ⟨hset _ _, hat (by omega) (by omega) (by omega)⟩)
  · have hkt := h.kt
    refine hgo _ ⟨⟨h.rl, h.hl, h.kr, h.wait, by show T.kids.length + (T.told + 1) ≤ T.steps; omega, ?_, h.steps, h.path_⟩, hat (by omega) (by omega) (by omega)⟩
    show (T.ps ++ [_]).length = T.kids.length + (T.told + 1)
    rw [List.length_append, h.pl]; simp; omega
  · exact hst _ _ _ h
  · exact ite_i (fun _ => hst _ _ _ h) (fun _ => hst _ _ _ hsync)
/-- behind an instruction that is not the last one there is another one. -/
theorem nextU_at {l : List S64} (hl : POk l) (f : Nat) (hf : f < l.length) {a : Int} (h0 : 0 ≤ a) (h1 : a < l[f].f1.length) : IOk l l[f].f1.length (rd_T61 l[f].f1 a) ∧ ((rd_T61 l[f].f1 a).f0 ≠ 9 → (rd_T61 l[f].f1 a).f0 ≠ 16 → (rd_T61 l[f].f1 a).f0 ≠ 17 → 0 ≤ a + 1 ∧ a + 1 < l[f].f1.length) := by
  obtain ⟨_, _, hi, hlast⟩ := hl.fn f hf
  refine ⟨?_, fun p b d => ?_⟩
  · have e : rd_T61 l[f].f1 a = l[f].f1[a.toNat]'(by omega) := by simp [rd_T61, show a.toNat < l[f].f1.length by omega]
    rw [e]; exact hi _ _
  · by_cases hlt : a + 1 < l[f].f1.length
    · exact ⟨by omega, hlt⟩
    · exfalso
      have e : a = (l[f].f1.length : Int) - 1 := by omega
      rw [e] at p b d
      rcases hlast with h | h | h
      · exact p h
      · exact b h
      · exact d h
theorem tick_inv {depth budget : Int} {path : List Int} {T : Tu} (h : TU0 depth budget path T) (hs : (T.steps : Int) ≠ budget) : TU0 depth budget path (tickT T) ∧ (tickT T).kids.length + (tickT T).told + 1 ≤ (tickT T).steps :=
  ⟨⟨h.rl, h.hl, h.kr, h.wait, by have := h.kt; show T.kids.length + T.told ≤ T.steps + 1; omega, h.pl, by have := h.steps; show ((T.steps + 1 : Nat) : Int) ≤ budget; omega, h.path_⟩, by have := h.kt; show T.kids.length + T.told + 1 ≤ T.steps + 1; omega⟩
theorem tickG_inv {M : Nat} {budget : Int} {G : Gu} (hg : GUI M budget G) (hleft : G.log.length + 1 + G.left ≤ M) (h0 : G.left ≠ 0) : GUI M budget (tickG G) ∧ (tickG G).log.length + 2 + (tickG G).left ≤ M :=
  ⟨⟨by have := hg.log; show G.log.length + (G.left - 1) ≤ M; omega, hg.frames, hg.cells, hg.steps, hg.chunks, hg.each⟩, by show G.log.length + 2 + (G.left - 1) ≤ M; omega⟩
/-- the whole of a task's run keeps what is right. -/
theorem runU_ok {l : List S64} (hl : POk l) {budget depth : Int} (hb : 0 ≤ budget) : ∀ k, RecU l budget depth (runU l budget depth k) := by
  intro k
  induction k with
  | zero => intro M G path f hf T hg hleft ht v f' T' G' h; cases h
  | succ k ih =>
    intro M G path f hf T hg hleft ht v f' T' G' h
    rw [runU] at h
    by_cases h1 : (T.steps : Int) = budget
    · rw [if_pos h1] at h; cases h; exact ⟨hg, hleft, Nat.le_refl _, ht.toTU0⟩
    rw [if_neg h1] at h
    by_cases h2 : G.left = 0
    · rw [if_pos h2] at h; cases h
    rw [if_neg h2] at h
    have hna := nextU_at hl f hf ht.at_.1 ht.at_.2
    have htk := tick_inv ht.toTU0 h1
    have htg := tickG_inv hg hleft h2
    have hst := stepU_inv hl hb ih hna.1 htg.1 htg.2 htk.1 htk.2 hna.2
    have hle : (tickG G).left ≤ G.left := Nat.sub_le _ _
    generalize stepU l depth (runU l budget depth k) path (rd_T61 l[f].f1 T.at_) (tickT T) (tickG G) = r at hst h
    cases r with
    | go T2 G2 =>
      obtain ⟨a1, a2, a3, a4⟩ := hst
      obtain ⟨b1, b2, b3, b4⟩ := ih M G2 path f hf T2 a1 a2 a4 v f' T' G' h
      exact ⟨b1, b2, Nat.le_trans b3 (Nat.le_trans a3 hle), b4⟩
    | stop v2 f2 T2 G2 =>
      obtain ⟨a1, a2, a3, a4⟩ := hst
      cases h
      exact ⟨a1, a2, Nat.le_trans a3 hle, a4⟩
    | long => cases h
end Go.Proofs.Ytbekjccehhaljaa.H

set_option linter.unusedVariables false
set_option linter.unusedSimpArgs false
namespace Go.Proofs.Ytbekjccehhaljaa.H
open Go.RowKit Go.Hay Go.Proofs.YtbekjccehhaljaaW.PrintWords Go.Proofs.YtbekjccehhaljaaW.PrintLast Go.Proofs.YtbekjccehhaljaaW.PrintMore
/-- the tree at a stands in the blocks D. -/
def ND (D : Nat → Prop) (w : World) (t : Tr) (a : Option Addr) : Prop := ∀ W' : World, (∀ q, D q → q < w.heap.size → W'.heap[q]? = w.heap[q]?) → IsT t W' a
theorem ND.is {D : Nat → Prop} {w : World} {t : Tr} {a : Option Addr} (h : ND D w t a) : IsT t w a := h w (fun _ _ _ => rfl)
theorem ND.keep {D D' S : Nat → Prop} {w w1 : World} {t : Tr} {a : Option Addr} (h : ND D w t a) (hD : ∀ q, D q → D' q) (hk : Keep S w w1) (hS : ∀ q, D q → ¬ S q) : ND D' w1 t a :=
  fun W' hW => h W' (fun q hq hl => (hW q (hD q hq) (Nat.lt_of_lt_of_le hl hk.size)).trans (hk.block q hl (hS q hq)))
theorem ND.below {D : Nat → Prop} {w w1 : World} {t : Tr} {a : Option Addr} (h : ND D w t a) (hb : Below w.heap.size w w1) : ND D w1 t a :=
  h.keep (fun _ h => h) (Keep.of_below hb (fun _ => False)) (fun _ _ => id)
theorem ND.nil (D : Nat → Prop) (w : World) : ND D w .nil none := fun W' _ => by simp only [IsT]
def kBg : Kd (Option Addr × Int) := Kd.pair kP (Kd.int .i64)
theorem kBg_open {w : World} {x : Option Addr × Int} {cs : List Value} (h : kBg.K w x cs) : cs = [.pointer x.1, .int .i64 x.2] := by
  obtain ⟨_, _, rfl, rfl, rfl⟩ := h; rfl
theorem kBg_openM {w : World} {base : Nat} {ok : Nat → Prop} {x : Option Addr × Int} {cs : List Value} (h : kBg.M w base ok x cs) : cs = [.pointer x.1, .int .i64 x.2] := by
  obtain ⟨_, _, rfl, rfl, rfl⟩ := h; rfl
theorem kBg_mkM (w : World) (base : Nat) (ok : Nat → Prop) (x : Option Addr × Int) : kBg.M w base ok x [.pointer x.1, .int .i64 x.2] := ⟨_, _, rfl, rfl, rfl⟩
theorem kBg_flat {w w1 : World} {base : Nat} {ok ok' : Nat → Prop} {x : Option Addr × Int} {cs : List Value} (h : kBg.M w base ok x cs) : kBg.M w1 base ok' x cs := by rw [kBg_openM h]; exact kBg_mkM _ _ _ _
theorem kP_flat {w w1 : World} {base : Nat} {ok ok' : Nat → Prop} {x : Option Addr} {cs : List Value} (h : kP.M w base ok x cs) : kP.M w1 base ok' x cs := h
/-! ### the whole -/
structure EU (B wb : Nat) (Ap : Option Addr) (np cp : Nat) (budget depth : Int) (G : Gu) (ents : List Ent) (vl : Value) (w : World) : Prop where
  node : w.heap[wb]? = some (.cells #[.slice Ap np cp, .int .i64 budget, .int .i64 depth, .int .i64 G.left, .pointer none, vl, .int .i64 G.frames, .int .i64 G.cells, .int .i64 G.chunks, .int .i64 G.steps] 92 (0, 0))
  log : kEnt.R 54 w B (fun _ => True) vl ents
  ok : EntsOk w ents G.log
  lo : B ≤ wb
def PU (wb : Nat) (vl : Value) (q : Nat) : Prop := q = wb ∨ vl.ownBlock = some q
section
variable {B wb : Nat} {Ap : Option Addr} {np cp : Nat} {budget depth : Int} {G : Gu} {ents : List Ent} {vl : Value} {w w1 : World}
theorem EU.pB (h : EU B wb Ap np cp budget depth G ents vl w) : ∀ q, PU wb vl q → B ≤ q ∧ q < w.heap.size := by
  intro q hq
  rcases hq with rfl | hq
  · exact ⟨h.lo, blk_lt h.node⟩
  · exact (R_own h.log q hq).2
theorem EU.typed (h : EU B wb Ap np cp budget depth G ents vl w) : ∀ q, PU wb vl q → ∃ cs t, w.heap[q]? = some (.cells cs t (0, 0)) ∧ (t = 92 ∨ t = 54) := by
  intro q hq
  rcases hq with rfl | hq
  · exact ⟨_, _, h.node, .inl rfl⟩
  · obtain ⟨cs, h1⟩ := Kd.R_typed h.log q hq
    exact ⟨cs, _, h1, .inr rfl⟩
theorem EU.not (h : EU B wb Ap np cp budget depth G ents vl w) {q t : Nat} {cs : Array Value} (hq : w.heap[q]? = some (.cells cs t (0, 0))) (ht : t ≠ 92 ∧ t ≠ 54) : ¬ PU wb vl q := by
  intro hp
  obtain ⟨cs', t', h1, h2⟩ := h.typed q hp
  rw [hq] at h1
  cases h1
  rcases h2 with e | e
  · exact ht.1 e
  · exact ht.2 e
theorem EU.notPath (h : EU B wb Ap np cp budget depth G ents vl w) : ∀ q cs, w.heap[q]? = some (.cells cs 3 (0, 0)) → ¬ PU wb vl q := fun q cs hq => h.not hq (by decide)
theorem EU.keep {S : Nat → Prop} (h : EU B wb Ap np cp budget depth G ents vl w) (hk : Keep S w w1) (hS : ∀ q, PU wb vl q → ¬ S q) (hP : ∀ q cs, w.heap[q]? = some (.cells cs 3 (0, 0)) → ¬ S q) : EU B wb Ap np cp budget depth G ents vl w1 :=
  ⟨hk.blk h.node (hS wb (.inl rfl)), R_flat kEnt_flat h.log (fun _ _ => trivial) (fun q hq => hk.block q (R_own h.log q hq).2.2 (hS q (.inr hq))), h.ok.keep hk hP, h.lo⟩
theorem EU.below (h : EU B wb Ap np cp budget depth G ents vl w) (hb : Below w.heap.size w w1) : EU B wb Ap np cp budget depth G ents vl w1 :=
  h.keep (Keep.of_below hb (fun _ => False)) (fun _ _ => id) (fun _ _ _ => id)
theorem EU.ne (h : EU B wb Ap np cp budget depth G ents vl w) : ∀ q, vl.ownBlock = some q → q ≠ wb := by
  intro q hq e
  obtain ⟨cs, h1⟩ := Kd.R_typed h.log q hq
  rw [e, h.node] at h1; cases h1
theorem EU.setCell (h : EU B wb Ap np cp budget depth G ents vl w) (i : Nat) (v : Value) {G' : Gu} (hg : G'.log = G.log) (hc : (#[.slice Ap np cp, .int .i64 budget, .int .i64 depth, .int .i64 G.left, .pointer none, vl, .int .i64 G.frames, .int .i64 G.cells, .int .i64 G.chunks, .int .i64 G.steps] : Array Value).setIfInBounds i v = #[.slice Ap np cp, .int .i64 budget, .int .i64 depth, .int .i64 G'.left, .pointer none, vl, .int .i64 G'.frames, .int .i64 G'.cells, .int .i64 G'.chunks, .int .i64 G'.steps]) : EU B wb Ap np cp budget depth G' ents vl (w.setCell ⟨wb, i, none⟩ v) := by
  have hs : ∀ q, q ≠ wb → (w.setCell ⟨wb, i, none⟩ v).heap[q]? = w.heap[q]? := fun q hq => Below.heap_setCell w ⟨wb, i, none⟩ _ q hq
  have hk : Keep (PU wb vl) w (w.setCell ⟨wb, i, none⟩ v) := (Keep.refl _ _).set (.inr (.inl rfl)) _
  have hn := blk_set h.node i v
  rw [hc] at hn
  exact ⟨hn, R_flat kEnt_flat h.log (fun _ _ => trivial) (fun q hq => hs q (h.ne q hq)), by rw [hg]; exact h.ok.keep hk h.notPath, h.lo⟩
theorem EU.setLeft (h : EU B wb Ap np cp budget depth G ents vl w) (n : Nat) (x : Int) (hx : x = n) : EU B wb Ap np cp budget depth { G with left := n } ents vl (w.setCell ⟨wb, 3, none⟩ (.int .i64 x)) := by
  subst hx; exact h.setCell 3 _ rfl rfl
/-- a task is noted. -/
theorem EU.note (h : EU B wb Ap np cp budget depth G ents vl w) {W w9 : World} {y : Ent} {path : List Int} {s : Int} {v9 : Value} (hW : Below w.heap.size w W) (hR : kEnt.R 54 w9 B (fun _ => True) v9 (ents ++ [y])) (hy : y.s = s ∧ y.n = path.length ∧ y.n ≤ y.c ∧ path.length ≤ 1000 ∧ PathAt w y.A path) (hg : W.grownBy w9 vl.ownBlock) (hat : v9.ownBlock = vl.ownBlock ∨ ∃ q, v9.ownBlock = some q ∧ W.heap.size ≤ q) :
    EU B wb Ap np cp budget depth { G with log := G.log ++ [(path, s)] } (ents ++ [y]) v9 (w9.setCell ⟨wb, 5, none⟩ v9) ∧ Keep (PU wb vl) w (w9.setCell ⟨wb, 5, none⟩ v9) ∧ (∀ q, PU wb v9 q → PU wb vl q ∨ w.heap.size ≤ q) ∧ w9.heap[wb]? = w.heap[wb]? := by
  have hwb := blk_lt h.node
  have hk9 : Keep (PU wb vl) w w9 := (Keep.of_below hW _).trans ((Keep.grown hg).mono (fun k hk h2 => .inr h2.symm))
  have hk : Keep (PU wb vl) w (w9.setCell ⟨wb, 5, none⟩ v9) := hk9.set (.inr (.inl rfl)) _
  have e1 : w9.heap[wb]? = w.heap[wb]? := (hg.block wb (Nat.lt_of_lt_of_le hwb hW.size) (fun e => h.ne wb e.symm rfl)).trans (hW.block wb hwb)
  have hs : ∀ q, q ≠ wb → (w9.setCell ⟨wb, 5, none⟩ v9).heap[q]? = w9.heap[q]? := fun q hq => Below.heap_setCell w9 ⟨wb, 5, none⟩ _ q hq
  have h9 : ∀ q, v9.ownBlock = some q → q ≠ wb ∧ (vl.ownBlock = some q ∨ w.heap.size ≤ q) := by
    intro q hq
    rcases hat with e | ⟨q', e, hq'⟩
    · rw [e] at hq; exact ⟨h.ne q hq, .inl hq⟩
    · rw [e] at hq; cases hq
      have := hW.size
      exact ⟨by omega, .inr (by omega)⟩
  have hok := h.ok.keep hk h.notPath
  refine ⟨⟨blk_set (e1.trans h.node) 5 v9, R_flat kEnt_flat hR (fun _ _ => trivial) (fun q hq => hs q (h9 q hq).1), ⟨by simp [hok.1], fun j h1 h2 => ?_⟩, h.lo⟩, hk, fun q hq => ?_, e1⟩
  · by_cases hj : j < ents.length
    · rw [List.getElem_append_left hj, List.getElem_append_left (by rw [← hok.1]; exact hj)]
      exact hok.2 j hj _
    · have hj2 : j = ents.length := by simp at h1; omega
      subst hj2
      rw [List.getElem_append_right (Nat.le_refl _), List.getElem_append_right (by rw [← hok.1]; exact Nat.le_refl _)]
      simp only [Nat.sub_self, hok.1, List.getElem_singleton]
      exact ⟨hy.1, hy.2.1, hy.2.2.1, hy.2.2.2.1, hy.2.2.2.2.keep hk h.notPath⟩
  · rcases hq with rfl | hq
    · exact .inl (.inl rfl)
    · rcases (h9 q hq).2 with e | e
      · exact .inl (.inr e)
      · exact .inr e
end
/-! ### a task -/
def ucells (wb nb : Nat) (vp : Value) (T : Tu) (hs : List (Option Addr)) (vk : Value) : List Value :=
  [.pointer (some ⟨wb, 0, none⟩), vp] ++ (T.regs.map (Value.int .i64) ++ (hs.map Value.pointer ++ [vk, .int .i64 T.wait, .int .i64 T.at_, .int .i64 T.steps, .int .i64 T.told, .pointer (some ⟨nb, 0, none⟩)]))
/-- the places of a task: block, node, its kids' addresses, what the hands hold, the rows. -/
structure Pl where
  tb : Nat
  nb : Nat
  ka : List (Option Addr)
  kb : List (Option Addr)
  hs : List (Option Addr)
  vk : Value
  vps : Value
  vks : Value
structure UB (D : Nat → Prop) (wb : Nat) (vp : Value) (T : Tu) (p : Pl) (B : Nat) (w : World) : Prop where
  node : w.heap[p.tb]? = some (.cells (ucells wb p.nb vp T p.hs p.vk).toArray 125 (0, 0))
  nd : w.heap[p.nb]? = some (.cells #[p.vps, p.vks, .int .i64 0, .int .i64 0] 70 (0, 0))
  rk : kBg.R 196 w B (fun _ => True) p.vk (p.ka.zip (T.kids.map (·.2)))
  rps : kPc.R 86 w B (fun _ => True) p.vps T.ps
  rks : kP.R 28 w B (fun _ => True) p.vks p.kb
  al : p.ka.length = T.kids.length
  sl : p.hs.length = 4
  rl : T.regs.length = 8
  hl : T.hands.length = 4
  kids : ∀ j (h : j < T.kids.length) (h' : j < p.ka.length), ND D w T.kids[j].1 p.ka[j]
  hands : ∀ j (h : j < T.hands.length) (h' : j < p.hs.length), ND D w T.hands[j] p.hs[j]
def QU (p : Pl) (q : Nat) : Prop := q = p.tb ∨ q = p.nb ∨ p.vk.ownBlock = some q ∨ p.vps.ownBlock = some q ∨ p.vks.ownBlock = some q
section
variable {D : Nat → Prop} {wb B : Nat} {vp : Value} {T : Tu} {p : Pl} {w w1 : World}
theorem UB.cells (h : UB D wb vp T p B w) : ∃ r0 r1 r2 r3 r4 r5 r6 r7 h0 h1 h2 h3, T.regs = [r0, r1, r2, r3, r4, r5, r6, r7] ∧ p.hs = [h0, h1, h2, h3] ∧
    (ucells wb p.nb vp T p.hs p.vk).toArray = #[.pointer (some ⟨wb, 0, none⟩), vp, .int .i64 r0, .int .i64 r1, .int .i64 r2, .int .i64 r3, .int .i64 r4, .int .i64 r5, .int .i64 r6, .int .i64 r7, .pointer h0, .pointer h1, .pointer h2, .pointer h3, p.vk, .int .i64 T.wait, .int .i64 T.at_, .int .i64 T.steps, .int .i64 T.told, .pointer (some ⟨p.nb, 0, none⟩)] := by
  obtain ⟨r0, r1, r2, r3, r4, r5, r6, r7, hr⟩ := eight h.rl
  obtain ⟨h0, h1, h2, h3, hh⟩ := four h.sl
  refine ⟨r0, r1, r2, r3, r4, r5, r6, r7, h0, h1, h2, h3, hr, hh, ?_⟩
  unfold ucells
  rw [hr, hh]
  rfl
theorem UB.frozen (h : UB D wb vp T p B w) (i : Nat) : w.frozen? ⟨p.tb, i, none⟩ = false := blk_frozen h.node i
theorem UB.fix (h : UB D wb vp T p B w) : w.cell? ⟨p.tb, 0, none⟩ = some (.pointer (some ⟨wb, 0, none⟩)) ∧ w.cell? ⟨p.tb, 1, none⟩ = some vp ∧ w.cell? ⟨p.tb, 14, none⟩ = some p.vk ∧ w.cell? ⟨p.tb, 15, none⟩ = some (.int .i64 T.wait) ∧ w.cell? ⟨p.tb, 16, none⟩ = some (.int .i64 T.at_) ∧ w.cell? ⟨p.tb, 17, none⟩ = some (.int .i64 T.steps) ∧ w.cell? ⟨p.tb, 18, none⟩ = some (.int .i64 T.told) ∧ w.cell? ⟨p.tb, 19, none⟩ = some (.pointer (some ⟨p.nb, 0, none⟩)) := by
  obtain ⟨r0, r1, r2, r3, r4, r5, r6, r7, h0, h1, h2, h3, hr, hh, hc⟩ := h.cells
  have hn := h.node
  rw [hc] at hn
  exact ⟨blk_cell hn 0, blk_cell hn 1, blk_cell hn 14, blk_cell hn 15, blk_cell hn 16, blk_cell hn 17, blk_cell hn 18, blk_cell hn 19⟩
theorem UB.reg (h : UB D wb vp T p B w) (i : Nat) (hi : i < 8) : w.cell? ⟨p.tb, 2 + i, none⟩ = some (.int .i64 (T.regs.getD i 0)) := by
  obtain ⟨r0, r1, r2, r3, r4, r5, r6, r7, h0, h1, h2, h3, hr, hh, hc⟩ := h.cells
  have hn := h.node
  rw [hc] at hn
  rw [hr]
  have : i = 0 ∨ i = 1 ∨ i = 2 ∨ i = 3 ∨ i = 4 ∨ i = 5 ∨ i = 6 ∨ i = 7 := by omega
  rcases this with rfl | rfl | rfl | rfl | rfl | rfl | rfl | rfl <;> exact blk_cell hn _
theorem UB.hand (h : UB D wb vp T p B w) (i : Nat) (hi : i < 4) : w.cell? ⟨p.tb, 10 + i, none⟩ = some (.pointer (p.hs.getD i none)) ∧ ND D w (T.hands.getD i .nil) (p.hs.getD i none) := by
  obtain ⟨r0, r1, r2, r3, r4, r5, r6, r7, h0, h1, h2, h3, hr, hh, hc⟩ := h.cells
  have hn := h.node
  rw [hc] at hn
  have hsl := h.sl
  have hhl := h.hl
  refine ⟨?_, ?_⟩
  · rw [hh]
    have : i = 0 ∨ i = 1 ∨ i = 2 ∨ i = 3 := by omega
    rcases this with rfl | rfl | rfl | rfl <;> exact blk_cell hn _
  · have h1 := h.hands i (by omega) (by omega)
    rw [List.getD_eq_getElem?_getD, List.getD_eq_getElem?_getD, List.getElem?_eq_getElem (by omega), List.getElem?_eq_getElem (by omega)]
    exact h1
theorem UB.lt (h : UB D wb vp T p B w) : ∀ q, QU p q → q < w.heap.size := by
  intro q hq
  rcases hq with rfl | rfl | hq | hq | hq
  · exact blk_lt h.node
  · exact blk_lt h.nd
  · exact (R_own h.rk q hq).2.2
  · exact (R_own h.rps q hq).2.2
  · exact (R_own h.rks q hq).2.2
theorem UB.typed (h : UB D wb vp T p B w) : ∀ q, QU p q → ∃ cs t, w.heap[q]? = some (.cells cs t (0, 0)) ∧ (t = 125 ∨ t = 70 ∨ t = 196 ∨ t = 86 ∨ t = 28) := by
  intro q hq
  rcases hq with rfl | rfl | hq | hq | hq
  · exact ⟨_, _, h.node, .inl rfl⟩
  · exact ⟨_, _, h.nd, .inr (.inl rfl)⟩
  · obtain ⟨cs, h1⟩ := Kd.R_typed h.rk q hq
    exact ⟨cs, _, h1, .inr (.inr (.inl rfl))⟩
  · obtain ⟨cs, h1⟩ := Kd.R_typed h.rps q hq
    exact ⟨cs, _, h1, .inr (.inr (.inr (.inl rfl)))⟩
  · obtain ⟨cs, h1⟩ := Kd.R_typed h.rks q hq
    exact ⟨cs, _, h1, .inr (.inr (.inr (.inr rfl)))⟩
theorem UB.not (h : UB D wb vp T p B w) {q t : Nat} {cs : Array Value} (hq : w.heap[q]? = some (.cells cs t (0, 0))) (ht : t ≠ 125 ∧ t ≠ 70 ∧ t ≠ 196 ∧ t ≠ 86 ∧ t ≠ 28) : ¬ QU p q := by
  intro hp
  obtain ⟨cs', t', h1, h2⟩ := h.typed q hp
  rw [hq] at h1
  cases h1
  rcases h2 with e | e | e | e | e
  · exact ht.1 e
  · exact ht.2.1 e
  · exact ht.2.2.1 e
  · exact ht.2.2.2.1 e
  · exact ht.2.2.2.2 e
theorem UB.notPath (h : UB D wb vp T p B w) : ∀ q cs, w.heap[q]? = some (.cells cs 3 (0, 0)) → ¬ QU p q := fun q cs hq => h.not hq (by decide)
/-- its blocks are apart. -/
structure UB.Ne (p : Pl) : Prop where
  tn : p.tb ≠ p.nb
  kt : p.vk.ownBlock ≠ some p.tb
  kn : p.vk.ownBlock ≠ some p.nb
  pt : p.vps.ownBlock ≠ some p.tb
  pn : p.vps.ownBlock ≠ some p.nb
  st : p.vks.ownBlock ≠ some p.tb
  sn : p.vks.ownBlock ≠ some p.nb
  kp : ∀ q, p.vk.ownBlock = some q → p.vps.ownBlock ≠ some q
  ks : ∀ q, p.vk.ownBlock = some q → p.vks.ownBlock ≠ some q
  ps : ∀ q, p.vps.ownBlock = some q → p.vks.ownBlock ≠ some q
theorem ne_of_typed {w : World} {q q' t t' : Nat} {cs cs' : Array Value} (h : w.heap[q]? = some (.cells cs t (0, 0))) (h' : w.heap[q']? = some (.cells cs' t' (0, 0))) (ht : t ≠ t') : q ≠ q' := by
  intro e; rw [e, h'] at h; cases h; exact ht rfl
theorem UB.ne (h : UB D wb vp T p B w) : UB.Ne p := by
  refine ⟨ne_of_typed h.node h.nd (by decide), fun e => ?_, fun e => ?_, fun e => ?_, fun e => ?_, fun e => ?_, fun e => ?_, fun q e e2 => ?_, fun q e e2 => ?_, fun q e e2 => ?_⟩
  · obtain ⟨cs, h1⟩ := Kd.R_typed h.rk _ e; exact ne_of_typed h1 h.node (by decide) rfl
  · obtain ⟨cs, h1⟩ := Kd.R_typed h.rk _ e; exact ne_of_typed h1 h.nd (by decide) rfl
  · obtain ⟨cs, h1⟩ := Kd.R_typed h.rps _ e; exact ne_of_typed h1 h.node (by decide) rfl
  · obtain ⟨cs, h1⟩ := Kd.R_typed h.rps _ e; exact ne_of_typed h1 h.nd (by decide) rfl
  · obtain ⟨cs, h1⟩ := Kd.R_typed h.rks _ e; exact ne_of_typed h1 h.node (by decide) rfl
  · obtain ⟨cs, h1⟩ := Kd.R_typed h.rks _ e; exact ne_of_typed h1 h.nd (by decide) rfl
  · obtain ⟨cs, h1⟩ := Kd.R_typed h.rk _ e; obtain ⟨cs2, h2⟩ := Kd.R_typed h.rps _ e2; exact ne_of_typed h1 h2 (by decide) rfl
  · obtain ⟨cs, h1⟩ := Kd.R_typed h.rk _ e; obtain ⟨cs2, h2⟩ := Kd.R_typed h.rks _ e2; exact ne_of_typed h1 h2 (by decide) rfl
  · obtain ⟨cs, h1⟩ := Kd.R_typed h.rps _ e; obtain ⟨cs2, h2⟩ := Kd.R_typed h.rks _ e2; exact ne_of_typed h1 h2 (by decide) rfl
theorem UB.keep {S D' : Nat → Prop} (h : UB D wb vp T p B w) (hk : Keep S w w1) (hS : ∀ q, QU p q → ¬ S q) (hD : ∀ q, D q → ¬ S q) (hDD : ∀ q, D q → D' q) : UB D' wb vp T p B w1 :=
  ⟨hk.blk h.node (hS _ (.inl rfl)), hk.blk h.nd (hS _ (.inr (.inl rfl))), R_flat kBg_flat h.rk (fun _ _ => trivial) (fun q hq => hk.block q (R_own h.rk q hq).2.2 (hS q (.inr (.inr (.inl hq))))), R_flat kPc_flat h.rps (fun _ _ => trivial) (fun q hq => hk.block q (R_own h.rps q hq).2.2 (hS q (.inr (.inr (.inr (.inl hq)))))), R_flat kP_flat h.rks (fun _ _ => trivial) (fun q hq => hk.block q (R_own h.rks q hq).2.2 (hS q (.inr (.inr (.inr (.inr hq)))))), h.al, h.sl, h.rl, h.hl, fun j h1 h2 => (h.kids j h1 h2).keep hDD hk hD, fun j h1 h2 => (h.hands j h1 h2).keep hDD hk hD⟩
theorem UB.below (h : UB D wb vp T p B w) (hb : Below w.heap.size w w1) : UB D wb vp T p B w1 := h.keep (Keep.of_below hb (fun _ => False)) (fun _ _ => id) (fun _ _ => id) (fun _ h => h)
/-- the whole and the task are apart. -/
theorem apartU {Ap : Option Addr} {np cp B' : Nat} {budget depth : Int} {G : Gu} {ents : List Ent} {vl : Value} (hg : EU B' wb Ap np cp budget depth G ents vl w) (h : UB D wb vp T p B w) : ∀ q, PU wb vl q → ¬ QU p q := by
  intro q hq hp
  obtain ⟨cs, t, h1, h2⟩ := h.typed q hp
  exact hg.not h1 (by rcases h2 with e | e | e | e | e <;> (subst e; decide)) hq
/-- a cell of the task's block is written. -/
theorem UB.setCell (h : UB D wb vp T p B w) (hD : ¬ D p.tb) (i : Nat) (v : Value) {T' : Tu} (hk : T'.kids = T.kids) (hp : T'.ps = T.ps) (hh : T'.hands = T.hands) (hr : T'.regs.length = 8) (hc : (ucells wb p.nb vp T p.hs p.vk).toArray.setIfInBounds i v = (ucells wb p.nb vp T' p.hs p.vk).toArray) : UB D wb vp T' p B (w.setCell ⟨p.tb, i, none⟩ v) := by
  have hne := h.ne
  have hs : ∀ q, q ≠ p.tb → (w.setCell ⟨p.tb, i, none⟩ v).heap[q]? = w.heap[q]? := fun q hq => Below.heap_setCell w ⟨p.tb, i, none⟩ _ q hq
  have hkp : Keep (fun q => q = p.tb) w (w.setCell ⟨p.tb, i, none⟩ v) := (Keep.refl (fun q => q = p.tb) w).set (p := ⟨p.tb, i, none⟩) (.inr rfl) _
  have hn := blk_set h.node i v
  rw [hc] at hn
  refine ⟨hn, (hs _ (Ne.symm hne.tn)).trans h.nd, ?_, ?_, R_flat kP_flat h.rks (fun _ _ => trivial) (fun q hq => hs q (fun e => hne.st (by rw [← e]; exact hq))), by rw [hk]; exact h.al, h.sl, hr, by rw [hh]; exact h.hl, ?_, ?_⟩
  · rw [hk]; exact R_flat kBg_flat h.rk (fun _ _ => trivial) (fun q hq => hs q (fun e => hne.kt (by rw [← e]; exact hq)))
  · rw [hp]; exact R_flat kPc_flat h.rps (fun _ _ => trivial) (fun q hq => hs q (fun e => hne.pt (by rw [← e]; exact hq)))
  · intro j h1 h2
    simp only [hk]
    exact (h.kids j (by rw [← hk]; exact h1) h2).keep (fun _ h => h) hkp (fun q hq e => hD (by rw [← e]; exact hq))
  · intro j h1 h2
    simp only [hh]
    exact (h.hands j (by rw [← hh]; exact h1) h2).keep (fun _ h => h) hkp (fun q hq e => hD (by rw [← e]; exact hq))
theorem UB.setAt (h : UB D wb vp T p B w) (hD : ¬ D p.tb) (x : Int) : UB D wb vp { T with at_ := x } p B (w.setCell ⟨p.tb, 16, none⟩ (.int .i64 x)) := by
  refine h.setCell hD 16 _ rfl rfl rfl h.rl ?_
  obtain ⟨r0, r1, r2, r3, r4, r5, r6, r7, h0, h1, h2, h3, hr, hh, hc⟩ := h.cells
  rw [hc]; unfold ucells; simp only [hr, hh]
  rfl
theorem UB.setSteps (h : UB D wb vp T p B w) (hD : ¬ D p.tb) (n : Nat) (x : Int) (hx : x = n) : UB D wb vp { T with steps := n } p B (w.setCell ⟨p.tb, 17, none⟩ (.int .i64 x)) := by
  subst hx
  refine h.setCell hD 17 _ rfl rfl rfl h.rl ?_
  obtain ⟨r0, r1, r2, r3, r4, r5, r6, r7, h0, h1, h2, h3, hr, hh, hc⟩ := h.cells
  rw [hc]; unfold ucells; simp only [hr, hh]
  rfl
theorem UB.setTold (h : UB D wb vp T p B w) (hD : ¬ D p.tb) (n : Nat) (x : Int) (hx : x = n) : UB D wb vp { T with told := n } p B (w.setCell ⟨p.tb, 18, none⟩ (.int .i64 x)) := by
  subst hx
  refine h.setCell hD 18 _ rfl rfl rfl h.rl ?_
  obtain ⟨r0, r1, r2, r3, r4, r5, r6, r7, h0, h1, h2, h3, hr, hh, hc⟩ := h.cells
  rw [hc]; unfold ucells; simp only [hr, hh]
  rfl
theorem UB.setWait (h : UB D wb vp T p B w) (hD : ¬ D p.tb) (n : Nat) (x : Int) (hx : x = n) : UB D wb vp { T with wait := n } p B (w.setCell ⟨p.tb, 15, none⟩ (.int .i64 x)) := by
  subst hx
  refine h.setCell hD 15 _ rfl rfl rfl h.rl ?_
  obtain ⟨r0, r1, r2, r3, r4, r5, r6, r7, h0, h1, h2, h3, hr, hh, hc⟩ := h.cells
  rw [hc]; unfold ucells; simp only [hr, hh]
  rfl
theorem UB.setReg (h : UB D wb vp T p B w) (hD : ¬ D p.tb) (i : Nat) (hi : i < 8) (x : Int) : UB D wb vp { T with regs := T.regs.set i x } p B (w.setCell ⟨p.tb, 2 + i, none⟩ (.int .i64 x)) := by
  refine h.setCell hD (2 + i) _ rfl rfl rfl (by rw [List.length_set]; exact h.rl) ?_
  obtain ⟨r0, r1, r2, r3, r4, r5, r6, r7, h0, h1, h2, h3, hr, hh, hc⟩ := h.cells
  rw [hc]; unfold ucells; simp only [hr, hh]
  have : i = 0 ∨ i = 1 ∨ i = 2 ∨ i = 3 ∨ i = 4 ∨ i = 5 ∨ i = 6 ∨ i = 7 := by omega
  rcases this with rfl | rfl | rfl | rfl | rfl | rfl | rfl | rfl <;> rfl
end
end Go.Proofs.Ytbekjccehhaljaa.H

set_option linter.unusedVariables false
set_option linter.unusedSimpArgs false
namespace Go.Proofs.Ytbekjccehhaljaa.H
open Go.RowKit Go.Hay Go.Proofs.YtbekjccehhaljaaW.PrintWords Go.Proofs.YtbekjccehhaljaaW.PrintLast Go.Proofs.YtbekjccehhaljaaW.PrintMore
def ulongV : Value := .iface 94 (.agg #[])
def uendV (v f : Int) : Value := .iface 127 (.agg #[.int .i64 v, .int .i64 f])
/-- too many instructions: told on from task to task. -/
def longCh (e : Ending) : Prop := ∃ r, e = .panicked ({ v := ulongV, recovered := false } :: r) ∧ ∀ x ∈ r, x.goexit = false
structure Cu where
  w0 : World
  B : Nat
  wb : Nat
  Ap : Option Addr
  cp : Nat
  budget : Int
  depth : Int
/-- the unfolding's state. -/
structure US (c : Cu) (l : List S64) (D : Nat → Prop) (G : Gu) (ents : List Ent) (vl : Value) (w : World) : Prop where
  eg : EU c.B c.wb c.Ap l.length c.cp c.budget c.depth G ents vl w
  bl : Below c.w0.heap.size c.w0 w
  pr : k64.C c.w0 c.Ap l.length l
  lo : c.w0.heap.size ≤ c.B
  dl : ∀ q, D q → q < w.heap.size
  dp : ∀ q, PU c.wb vl q → ¬ D q
  dt : ∀ q, D q → ∃ cs t, w.heap[q]? = some (.cells cs t (0, 0)) ∧ (t = 70 ∨ t = 86 ∨ t = 28)
/-- and a task's. -/
structure ST (c : Cu) (l : List S64) (D : Nat → Prop) (G : Gu) (ents : List Ent) (vl : Value) (vp : Value) (T : Tu) (p : Pl) (w : World) : Prop where
  us : US c l D G ents vl w
  ub : UB D c.wb vp T p c.B w
  qd : ∀ q, QU p q → ¬ D q
  tlo : c.w0.heap.size ≤ p.tb
  nlo : c.w0.heap.size ≤ p.nb
  kb : p.kb = p.ka
def PQ (c : Cu) (vl : Value) (p : Pl) (q : Nat) : Prop := PU c.wb vl q ∨ QU p q
/-- what a step leaves. -/
def Left1 (c : Cu) (l : List S64) (tb nb : Nat) (vp : Value) (SU SQ D : Nat → Prop) (T' : Tu) (G' : Gu) (w w' : World) : Prop :=
  Keep (fun q => SU q ∨ SQ q) w w' ∧ ∃ D' ents' vl' p', ST c l D' G' ents' vl' vp T' p' w' ∧ p'.tb = tb ∧ p'.nb = nb ∧ ((∀ q, PU c.wb vl' q → SU q ∨ w.heap.size ≤ q) ∧ ∀ q, QU p' q → SQ q ∨ w.heap.size ≤ q) ∧ (∀ q, D q → D' q) ∧ (∀ q, D' q → D q ∨ w.heap.size ≤ q)
def StepPU (c : Cu) (l : List S64) (tb nb : Nat) (vp : Value) (SU1 SQ D : Nat → Prop) (r : SU) (w : World) (e : Ending) (w' : World) : Prop :=
  match r with
  | .go T' G' => e = .returned (.tuple #[]) ∧ Left1 c l tb nb vp SU1 SQ D T' G' w w'
  | .stop v f T' G' => e = .panicked [{ v := uendV v f, recovered := false }] ∧ Left1 c l tb nb vp SU1 SQ D T' G' w w'
  | .long => longCh e ∧ Keep (fun q => SU1 q ∨ SQ q) w w'
def RunPU (c : Cu) (l : List S64) (tb nb : Nat) (vp : Value) (SU1 SQ D : Nat → Prop) (r : RU) (w : World) (e : Ending) (w' : World) : Prop :=
  match r with
  | some (v, f, T', G') => e = .returned (.agg #[.int .i64 v, .int .i64 f]) ∧ Left1 c l tb nb vp SU1 SQ D T' G' w w'
  | none => longCh e ∧ Keep (fun q => SU1 q ∨ SQ q) w w'
/-- what a task leaves that has ended. -/
def BegPU (c : Cu) (l : List S64) (PA D : Nat → Prop) (r : Option (Tr × Gu)) (w : World) (e : Ending) (w' : World) : Prop :=
  match r with
  | some (t, G') => ∃ a D' ents' vl', e = .returned (.pointer a) ∧ Keep PA w w' ∧ US c l D' G' ents' vl' w' ∧ ND D' w' t a ∧ (∀ q, PU c.wb vl' q → PA q ∨ w.heap.size ≤ q) ∧ (∀ q, D q → D' q) ∧ (∀ q, D' q → D q ∨ w.heap.size ≤ q)
  | none => longCh e ∧ Keep PA w w'
section
variable {c : Cu} {l : List S64} {D D' : Nat → Prop} {G G' : Gu} {ents ents' : List Ent} {vl vl' vp : Value} {w w1 : World} {T T' : Tu} {p : Pl}
theorem US.below (h : US c l D G ents vl w) (hb : Below w.heap.size w w1) : US c l D G ents vl w1 :=
  ⟨h.eg.below hb, h.bl.trans (hb.mono h.bl.size), h.pr, h.lo, fun q hq => Nat.lt_of_lt_of_le (h.dl q hq) hb.size, h.dp, fun q hq => by obtain ⟨cs, t, h1, h2⟩ := h.dt q hq; exact ⟨cs, t, (hb.block _ (h.dl q hq)).trans h1, h2⟩⟩
theorem US.pLo (h : US c l D G ents vl w) : ∀ q, PU c.wb vl q → c.w0.heap.size ≤ q := fun q hq => Nat.le_trans h.lo (h.eg.pB q hq).1
theorem US.code (h : US c l D G ents vl w) : k64.C w c.Ap l.length l := Kd.C_below h.pr h.bl
theorem US.keep {S : Nat → Prop} (h : US c l D G ents vl w) (hk : Keep S w w1) (hS : ∀ q, PU c.wb vl q → ¬ S q) (hD : ∀ q, D q → ¬ S q) (hP : ∀ q cs, w.heap[q]? = some (.cells cs 3 (0, 0)) → ¬ S q) (hB : ∀ q, q < c.w0.heap.size → ¬ S q) : US c l D G ents vl w1 :=
  ⟨h.eg.keep hk hS hP, h.bl.trans (hk.below h.bl.size hB), h.pr, h.lo, fun q hq => Nat.lt_of_lt_of_le (h.dl q hq) hk.size, h.dp, fun q hq => by obtain ⟨cs, t, h1, h2⟩ := h.dt q hq; exact ⟨cs, t, hk.blk h1 (hD q hq), h2⟩⟩
/-- the whole is turned. -/
theorem US.turn {S : Nat → Prop} (h : US c l D G ents vl w) (he : EU c.B c.wb c.Ap l.length c.cp c.budget c.depth G' ents' vl' w1) (hk : Keep S w w1) (hB : ∀ q, q < c.w0.heap.size → ¬ S q) (hD : ∀ q, D q → ¬ S q) (hq : ∀ q, PU c.wb vl' q → PU c.wb vl q ∨ w.heap.size ≤ q) : US c l D G' ents' vl' w1 :=
  ⟨he, h.bl.trans (hk.below h.bl.size hB), h.pr, h.lo, fun q hq => Nat.lt_of_lt_of_le (h.dl q hq) hk.size, fun q hq2 hd => (hq q hq2).elim (fun e => h.dp q e hd) (fun e => by have := h.dl q hd; omega), fun q hq => by obtain ⟨cs, t, h1, h2⟩ := h.dt q hq; exact ⟨cs, t, hk.blk h1 (hD q hq), h2⟩⟩
theorem ST.below (h : ST c l D G ents vl vp T p w) (hb : Below w.heap.size w w1) : ST c l D G ents vl vp T p w1 := ⟨h.us.below hb, h.ub.below hb, h.qd, h.tlo, h.nlo, h.kb⟩
theorem ST.qLo (h : ST c l D G ents vl vp T p w) : ∀ q, QU p q → c.w0.heap.size ≤ q := by
  intro q hq
  rcases hq with rfl | rfl | hq | hq | hq
  · exact h.tlo
  · exact h.nlo
  · exact Nat.le_trans h.us.lo (R_own h.ub.rk q hq).2.1
  · exact Nat.le_trans h.us.lo (R_own h.ub.rps q hq).2.1
  · exact Nat.le_trans h.us.lo (R_own h.ub.rks q hq).2.1
theorem ST.ap (h : ST c l D G ents vl vp T p w) : ∀ q, PU c.wb vl q → ¬ QU p q := apartU h.us.eg h.ub
/-- what concerns the task's block alone. -/
theorem ST.task (h : ST c l D G ents vl vp T p w) (h1 : UB D c.wb vp T' p c.B w1) (hk : Keep (fun q => q = p.tb) w w1) : ST c l D G ents vl vp T' p w1 :=
  ⟨h.us.keep hk (fun q hq e => h.ap q hq (.inl e)) (fun q hq e => h.qd q (.inl e) hq) (fun q cs hq e => h.ub.notPath q cs hq (.inl e)) (fun q hq e => by have := h.tlo; omega), h1, h.qd, h.tlo, h.nlo, h.kb⟩
theorem ST.left (h : ST c l D G ents vl vp T p w) {D' : Nat → Prop} {SU SQ : Nat → Prop} {w0 : World} {p0 : Pl} (hk : Keep (fun q => SU q ∨ SQ q) w0 w) (ht : p.tb = p0.tb) (hn : p.nb = p0.nb) (hq : ∀ q, PU c.wb vl q → SU q ∨ w0.heap.size ≤ q) (hq2 : ∀ q, QU p q → SQ q ∨ w0.heap.size ≤ q) (h1 : ∀ q, D' q → D q) (h2 : ∀ q, D q → D' q ∨ w0.heap.size ≤ q) : Left1 c l p0.tb p0.nb vp SU SQ D' T G w0 w :=
  ⟨hk, D, ents, vl, p, h, ht, hn, ⟨hq, hq2⟩, h1, h2⟩
theorem task_goU (h : ST c l D G ents vl vp T p w) (h1 : UB D c.wb vp T' p c.B w1) (hk : Keep (fun q => q = p.tb) w w1) : Left1 c l p.tb p.nb vp (PU c.wb vl) (QU p) D T' G w w1 :=
  (h.task h1 hk).left (hk.mono (fun q _ e => .inr (.inl e))) rfl rfl (fun q hq => .inl hq) (fun q hq => .inl hq) (fun q hq => hq) (fun q hq => .inl hq)
theorem task_same (h : ST c l D G ents vl vp T p w) (hb : Below w.heap.size w w1) : Left1 c l p.tb p.nb vp (PU c.wb vl) (QU p) D T G w w1 :=
  (h.below hb).left (Keep.of_below hb _) rfl rfl (fun q hq => .inl hq) (fun q hq => .inl hq) (fun q hq => hq) (fun q hq => .inl hq)
end
end Go.Proofs.Ytbekjccehhaljaa.H

set_option linter.unusedVariables false
set_option linter.unusedSimpArgs false
namespace Go.Hay
open Go.RowKit
inductive Turns where
  | done
  | take (i : Nat) (t : Turns)
  | op (i : Nat) (t : Turns)
  | fin (i : Nat) (t : Turns)
  | alt (i j : Nat) (t u : Turns)
def Turns.many : Turns → Nat
  | .done => 0
  | .take _ t => t.many + 1
  | .op _ t => t.many + 1
  | .fin _ t => t.many + 1
  | .alt _ _ t _ => t.many + 1
/-- takes, one behind the other. -/
def Turns.takes : List Nat → Turns → Turns
  | [], t => t
  | i :: l, t => .take i (takes l t)
section
variable {P : Program} {md : Region.Mode} {ops : Array Oper} {Q : Exit → Act → World → Prop} {S : World → Prop} {F : List Nat}
def runT (P : Program) (ops : Array Oper) (Q : Exit → Act → World → Prop) (S : World → Prop) : Turns → Act → World → Prop
  | .done, a, w => Q .normal a w
  | .take i t, a, w => ∃ o v, ops[i]? = some o ∧ YieldsIf P ops S o v a ∧ S w ∧ runT P ops Q S t (a.put o.dst v) w
  | .op i t, a, w => wpOp P ops Q i (fun a' w' => S w' ∧ runT P ops Q S t a' w') a w
  | .fin i t, a, w => wpOp P ops Q i (fun a' w' => runT P ops Q S t a' w') a w
  | .alt i j t u, a, w => wpOp P ops Q i (fun a' w' => S w' ∧ runT P ops Q S t a' w') a w ∧ wpOp P ops Q j (fun a' w' => S w' ∧ runT P ops Q S u a' w') a w
def okT (md : Region.Mode) (ops : Array Oper) (F : List Nat) : Turns → Array Bool → Bool
  | .done, listed => (Region.ready md ops listed).isEmpty
  | .take i t, listed => (Region.ready md ops listed).contains i && Region.free md ops listed i && blocks md ops F i && !F.contains i && okT md ops F t (listed.setIfInBounds i true)
  | .op i t, listed => (Region.ready md ops listed == [i]) && okT md ops F t (listed.setIfInBounds i true)
  | .fin i t, listed => (Region.ready md ops listed == [i]) && F.contains i && okT md ops F t (listed.setIfInBounds i true)
  | .alt i j t u, listed => (Region.ready md ops listed == [i, j]) && t.many == u.many && okT md ops F t (listed.setIfInBounds i true) && okT md ops F u (listed.setIfInBounds j true)
theorem wpAnyF_T (hs : Region.noSelect ops = true) (hQ : ∀ o ∈ ops.toList, ∀ c a v w, Q (.panic c) (a.put o.dst v) w → Q (.panic c) a w) :
    ∀ (t : Turns) (listed : Array Bool) (a : Act) (w : World), Closed md ops listed → okT md ops F t listed = true → runT P ops Q S t a w → wpAnyF P md ops Q S F t.many listed a w
  | .done, listed, a, w, _, hk, h => ⟨by simpa [okT] using hk, h⟩
  | .take i t, listed, a, w, inv, hk, h => by
    simp only [okT, Bool.and_eq_true, Bool.not_eq_true'] at hk
    obtain ⟨o, v, ho, hy, hS, hr⟩ := h
    have hi : i ∈ Region.ready md ops listed := by simpa using hk.1.1.1.1
    exact wpAnyF_first ho (Region.noSelect_spec hs) (fun c a w => hQ o (Array.mem_toList_iff.2 (Array.mem_of_getElem? ho)) c a v w) hk.1.1.2 t.many listed a w inv hk.1.2
      (Region.free_spec ho hk.1.1.1.2) hi hy hS (wpAnyF_T hs hQ t _ _ _ (inv.set hi) hk.2 hr)
  | .op i t, listed, a, w, inv, hk, h => by
    simp only [okT, Bool.and_eq_true, beq_iff_eq] at hk
    have hi : i ∈ Region.ready md ops listed := by rw [hk.1]; simp
    exact wpAnyF_one hk.1 (wpOp_mono (fun a' w' h' => ⟨h'.1, wpAnyF_T hs hQ t _ _ _ (inv.set hi) hk.2 h'.2⟩) h)
  | .fin i t, listed, a, w, inv, hk, h => by
    simp only [okT, Bool.and_eq_true, beq_iff_eq] at hk
    refine ⟨fun h0 => (by rw [hk.1.1] at h0; cases h0), fun j hj => ?_⟩
    have hji : j = i := by rw [hk.1.1] at hj; simpa using hj
    subst hji
    exact wpOp_mono (fun a' w' h' => ⟨fun hc => (by rw [hk.1.2] at hc; cases hc), wpAnyF_T hs hQ t _ _ _ (inv.set hj) hk.2 h'⟩) h
  | .alt i j t u, listed, a, w, inv, hk, h => by
    simp only [okT, Bool.and_eq_true, beq_iff_eq] at hk
    obtain ⟨⟨⟨h1, h2⟩, h3⟩, h4⟩ := hk
    have hi : i ∈ Region.ready md ops listed := by rw [h1]; simp
    have hj : j ∈ Region.ready md ops listed := by rw [h1]; simp
    refine ⟨fun h0 => (by rw [h1] at h0; cases h0), fun k hk => ?_⟩
    have hk2 : k = i ∨ k = j := by rw [h1] at hk; simpa using hk
    rcases hk2 with rfl | rfl
    · exact wpOp_mono (fun a' w' h' => ⟨fun _ => h'.1, wpAnyF_T hs hQ t _ _ _ (inv.set hi) h3 h'.2⟩) h.1
    · have := fun a' w' (h' : S w' ∧ runT P ops Q S u a' w') => wpAnyF_T hs hQ u _ a' w' (inv.set hj) h4 h'.2
      rw [← h2] at this
      exact wpOp_mono (fun a' w' h' => ⟨fun _ => h'.1, this a' w' h'⟩) h.2
theorem wp_region_T {id : Nat} {a : Act} {w : World} (S : World → Prop) (F : List Nat) (t : Turns) (hm : P.follows .mixedOrders = true) (hs : Region.noSelect ops = true) (hl : t.many = ops.size)
    (hk : okT .any ops F t (Array.replicate ops.size false) = true)
    (hQ : ∀ o ∈ ops.toList, ∀ c a v w, Q (.panic c) (a.put o.dst v) w → Q (.panic c) a w)
    (h : runT P ops Q S t a w.drew) : (Code.region id ops true).wp P Q a w :=
  wp_region_any hm (wpAny_of_F _ _ _ _ (hl ▸ wpAnyF_T hs hQ t _ _ _ Closed.start hk h))
theorem runT_done {a : Act} {w : World} (h : Q .normal a w) : runT P ops Q S .done a w := h
theorem runT_take {i : Nat} {o : Oper} {v : Value} {t : Turns} {a : Act} {w : World} (ho' : ops.toList[i]? = some o) (hw : Region.wanted o (yielded ops a.tmps) = true)
    (hy : ∀ w', S w' → (execOp a.eval o).run P w' = .ok (.value v) w') (hS : S w) (h : runT P ops Q S t (a.put o.dst v) w) : runT P ops Q S (.take i t) a w :=
  ⟨o, v, by simpa using ho', .inl ⟨hw, hy⟩, hS, h⟩
theorem runT_skip {i : Nat} {o : Oper} {t : Turns} {a : Act} {w : World} (ho' : ops.toList[i]? = some o) (hw : Region.wanted o (yielded ops a.tmps) = false)
    (hS : S w) (h : runT P ops Q S t (a.put o.dst undef) w) : runT P ops Q S (.take i t) a w :=
  ⟨o, undef, by simpa using ho', .inr ⟨hw, rfl⟩, hS, h⟩
theorem runT_op {i : Nat} {o : Oper} {t : Turns} {a : Act} {w : World} (ho' : ops.toList[i]? = some o) (hw : Region.wanted o (yielded ops a.tmps) = true)
    (h : ∀ K : Act → World → Prop, (∀ a' w', S w' → runT P ops Q S t a' w' → K a' w') → o.wp P a w K Q) : runT P ops Q S (.op i t) a w :=
  wpOp_at (R := fun a' w' => S w' ∧ runT P ops Q S t a' w') ho' hw fun K hK => h K fun a' w' hS hr => hK a' w' ⟨hS, hr⟩
theorem runT_fin {i : Nat} {o : Oper} {t : Turns} {a : Act} {w : World} (ho' : ops.toList[i]? = some o) (hw : Region.wanted o (yielded ops a.tmps) = true)
    (h : ∀ K : Act → World → Prop, (∀ a' w', runT P ops Q S t a' w' → K a' w') → o.wp P a w K Q) : runT P ops Q S (.fin i t) a w :=
  wpOp_at (R := fun a' w' => runT P ops Q S t a' w') ho' hw h
theorem runT_alt {i j : Nat} {oi oj : Oper} {t u : Turns} {a : Act} {w : World} (hoi : ops.toList[i]? = some oi) (hoj : ops.toList[j]? = some oj) (hwi : Region.wanted oi (yielded ops a.tmps) = true) (hwj : Region.wanted oj (yielded ops a.tmps) = true)
    (h1 : ∀ K : Act → World → Prop, (∀ a' w', S w' → runT P ops Q S t a' w' → K a' w') → oi.wp P a w K Q)
    (h2 : ∀ K : Act → World → Prop, (∀ a' w', S w' → runT P ops Q S u a' w' → K a' w') → oj.wp P a w K Q) : runT P ops Q S (.alt i j t u) a w :=
  ⟨wpOp_at (R := fun a' w' => S w' ∧ runT P ops Q S t a' w') hoi hwi fun K hK => h1 K fun a' w' hS hr => hK a' w' ⟨hS, hr⟩, wpOp_at (R := fun a' w' => S w' ∧ runT P ops Q S u a' w') hoj hwj fun K hK => h2 K fun a' w' hS hr => hK a' w' ⟨hS, hr⟩⟩
end
end Go.Hay

set_option linter.unusedVariables false
set_option linter.unusedSimpArgs false
namespace Go.Proofs.Ytbekjccehhaljaa.H
open Go.RowKit Go.Hay Go.Proofs.YtbekjccehhaljaaW.PrintWords Go.Proofs.YtbekjccehhaljaaW.PrintLast Go.Proofs.YtbekjccehhaljaaW.PrintMore
theorem panic_via {P : Program} {fn : Func} {R : Ending → World → Prop} {ops : Array Oper} {Q : Exit → Act → World → Prop} (hQ : ∀ c a w, Q (.panic c) a w = bodyPost P fn R (.panic c) a w) :
    ∀ o ∈ ops.toList, ∀ c a v w, Q (.panic c) (a.put o.dst v) w → Q (.panic c) a w := by
  intro o ho c a v w h
  rw [hQ] at h ⊢
  exact panic_put (P := P) (fn := fn) (R := R) o ho c a v w h
def wrongV (f at_ e : Int) : Value := .iface 146 (.agg #[.int .i64 f, .int .i64 at_, .int .i64 e])
set_option maxRecDepth 100000 in
theorem need_ok (A : Option Addr) (n c : Nat) (f at_ e : Int) (w : World) : Calls Try.prog 55 #[.agg #[.slice A n c, .int .i64 f, .int .i64 at_], .bool true, .int .i64 e] w fun x w' => x = .returned (.tuple #[]) ∧ Below w.heap.size w w' := by
  have hu149 := Try.underlying149
  go_enter Try.func55, Try.ntmps55
  go_wp2
  go_end0
  exact ⟨rfl, (Below.refl _ _).alloc (Nat.le_refl _) _⟩
set_option maxRecDepth 100000 in
theorem need_no (A : Option Addr) (n c : Nat) (f at_ e : Int) (w : World) : Calls Try.prog 55 #[.agg #[.slice A n c, .int .i64 f, .int .i64 at_], .bool false, .int .i64 e] w fun x w' => x = .panicked [{ v := wrongV f at_ e, recovered := false }] ∧ Below w.heap.size w w' := by
  have hu149 := Try.underlying149
  have hu146 := Try.underlying146
  go_enter Try.func55, Try.ntmps55
  go_wp2
  exact ⟨rfl, rfl, (Below.refl _ _).alloc (Nat.le_refl _) _⟩
def stopPost (f at_ : Int) (r : Option Int) (w : World) (x : Ending) (w' : World) : Prop := Below w.heap.size w w' ∧ match r with
  | none => x = .returned (.tuple #[])
  | some e => x = .panicked [{ v := wrongV f at_ e, recovered := false }]
theorem need_any (A : Option Addr) (n c : Nat) (f at_ e : Int) (b : Bool) (w : World) : Calls Try.prog 55 #[.agg #[.slice A n c, .int .i64 f, .int .i64 at_], .bool b, .int .i64 e] w (stopPost f at_ (if b then none else some e) w) := by
  cases b with
  | true => exact (need_ok A n c f at_ e w).mono fun x w' h => ⟨h.2, h.1⟩
  | false => exact (need_no A n c f at_ e w).mono fun x w' h => ⟨h.2, h.1⟩
set_option maxRecDepth 100000 in
set_option maxHeartbeats 4000000 in
theorem field_1 (A : Option Addr) (c : Nat) (l : List S64) (f : Nat) (at_ n : Int) (w : World) (hf : f < l.length) :
    Calls Try.prog 77 #[.agg #[.slice A l.length c, .int .i64 f, .int .i64 at_], .int .i64 n, .int .i64 1] w (stopPost f at_ (fieldE l.length l[f].f1.length n 1) w) := by
  have hu149 := Try.underlying149
  have hbl := (Below.refl w.heap.size w).alloc (Nat.le_refl _) (.cells #[.slice A l.length c, .int .i64 f, .int .i64 at_] 149)
  have HB := Aside0.mk hbl
  clear hbl
  by_cases h0 : (0) ≤ n
  · by_cases h1 : n < (8)
    · have hI : inB (0) (8) n = true := by simp only [inB, Bool.and_eq_true, decide_eq_true_eq]; exact ⟨h0, h1⟩
      have hE : fieldE l.length l[f].f1.length n 1 = none := by simp [fieldE, hI]
      rw [hE]
      clear hI hE
      go_enter Try.func77, Try.ntmps77
      go_wp2_with (go_at_call 55; refine (need_ok A l.length c f at_ 6 _).mono ?_; rintro x w' ⟨rfl, hb⟩)
      go_end0
      exact ⟨HB.out.trans (hb.mono HB.out.size), rfl⟩
    · have hI : inB (0) (8) n = false := by simp only [inB, Bool.and_eq_false_iff, decide_eq_false_iff_not]; exact .inr h1
      have hE : fieldE l.length l[f].f1.length n 1 = some (6) := by simp [fieldE, hI]
      rw [hE]
      clear hI hE
      go_enter Try.func77, Try.ntmps77
      go_wp2_with (go_at_call 55; refine (need_no A l.length c f at_ 6 _).mono ?_; rintro x w' ⟨rfl, hb⟩)
      exact ⟨rfl, HB.out.trans (hb.mono HB.out.size), rfl⟩
  · have hI : inB (0) (8) n = false := by simp only [inB, Bool.and_eq_false_iff, decide_eq_false_iff_not]; exact .inl h0
    have hE : fieldE l.length l[f].f1.length n 1 = some (6) := by simp [fieldE, hI]
    rw [hE]
    clear hI hE
    go_enter Try.func77, Try.ntmps77
    go_wp2_with (go_at_call 55; refine (need_no A l.length c f at_ 6 _).mono ?_; rintro x w' ⟨rfl, hb⟩)
    exact ⟨rfl, HB.out.trans (hb.mono HB.out.size), rfl⟩
set_option maxRecDepth 100000 in
set_option maxHeartbeats 4000000 in
theorem field_2 (A : Option Addr) (c : Nat) (l : List S64) (f : Nat) (at_ n : Int) (w : World) (hf : f < l.length) :
    Calls Try.prog 77 #[.agg #[.slice A l.length c, .int .i64 f, .int .i64 at_], .int .i64 n, .int .i64 2] w (stopPost f at_ (fieldE l.length l[f].f1.length n 2) w) := by
  have hu149 := Try.underlying149
  have hbl := (Below.refl w.heap.size w).alloc (Nat.le_refl _) (.cells #[.slice A l.length c, .int .i64 f, .int .i64 at_] 149)
  have HB := Aside0.mk hbl
  clear hbl
  by_cases h0 : (0) ≤ n
  · by_cases h1 : n < (4)
    · have hI : inB (0) (4) n = true := by simp only [inB, Bool.and_eq_true, decide_eq_true_eq]; exact ⟨h0, h1⟩
      have hE : fieldE l.length l[f].f1.length n 2 = none := by simp [fieldE, hI]
      rw [hE]
      clear hI hE
      go_enter Try.func77, Try.ntmps77
      go_wp2_with (go_at_call 55; refine (need_ok A l.length c f at_ 6 _).mono ?_; rintro x w' ⟨rfl, hb⟩)
      go_end0
      exact ⟨HB.out.trans (hb.mono HB.out.size), rfl⟩
    · have hI : inB (0) (4) n = false := by simp only [inB, Bool.and_eq_false_iff, decide_eq_false_iff_not]; exact .inr h1
      have hE : fieldE l.length l[f].f1.length n 2 = some (6) := by simp [fieldE, hI]
      rw [hE]
      clear hI hE
      go_enter Try.func77, Try.ntmps77
      go_wp2_with (go_at_call 55; refine (need_no A l.length c f at_ 6 _).mono ?_; rintro x w' ⟨rfl, hb⟩)
      exact ⟨rfl, HB.out.trans (hb.mono HB.out.size), rfl⟩
  · have hI : inB (0) (4) n = false := by simp only [inB, Bool.and_eq_false_iff, decide_eq_false_iff_not]; exact .inl h0
    have hE : fieldE l.length l[f].f1.length n 2 = some (6) := by simp [fieldE, hI]
    rw [hE]
    clear hI hE
    go_enter Try.func77, Try.ntmps77
    go_wp2_with (go_at_call 55; refine (need_no A l.length c f at_ 6 _).mono ?_; rintro x w' ⟨rfl, hb⟩)
    exact ⟨rfl, HB.out.trans (hb.mono HB.out.size), rfl⟩
set_option maxRecDepth 100000 in
set_option maxHeartbeats 4000000 in
theorem field_3 (A : Option Addr) (c : Nat) (l : List S64) (f : Nat) (at_ n : Int) (w : World) (hf : f < l.length) :
    Calls Try.prog 77 #[.agg #[.slice A l.length c, .int .i64 f, .int .i64 at_], .int .i64 n, .int .i64 3] w (stopPost f at_ (fieldE l.length l[f].f1.length n 3) w) := by
  have hu149 := Try.underlying149
  have hbl := (Below.refl w.heap.size w).alloc (Nat.le_refl _) (.cells #[.slice A l.length c, .int .i64 f, .int .i64 at_] 149)
  have HB := Aside0.mk hbl
  clear hbl
  by_cases h0 : (0) ≤ n
  · by_cases h1 : n < (l.length)
    · have hI : inB (0) (l.length) n = true := by simp only [inB, Bool.and_eq_true, decide_eq_true_eq]; exact ⟨h0, h1⟩
      have hE : fieldE l.length l[f].f1.length n 3 = none := by simp [fieldE, hI]
      rw [hE]
      clear hI hE
      go_enter Try.func77, Try.ntmps77
      go_wp2_with (go_at_call 55; refine (need_ok A l.length c f at_ 5 _).mono ?_; rintro x w' ⟨rfl, hb⟩)
      go_end0
      exact ⟨HB.out.trans (hb.mono HB.out.size), rfl⟩
    · have hI : inB (0) (l.length) n = false := by simp only [inB, Bool.and_eq_false_iff, decide_eq_false_iff_not]; exact .inr h1
      have hE : fieldE l.length l[f].f1.length n 3 = some (5) := by simp [fieldE, hI]
      rw [hE]
      clear hI hE
      go_enter Try.func77, Try.ntmps77
      go_wp2_with (go_at_call 55; refine (need_no A l.length c f at_ 5 _).mono ?_; rintro x w' ⟨rfl, hb⟩)
      exact ⟨rfl, HB.out.trans (hb.mono HB.out.size), rfl⟩
  · have hI : inB (0) (l.length) n = false := by simp only [inB, Bool.and_eq_false_iff, decide_eq_false_iff_not]; exact .inl h0
    have hE : fieldE l.length l[f].f1.length n 3 = some (5) := by simp [fieldE, hI]
    rw [hE]
    clear hI hE
    go_enter Try.func77, Try.ntmps77
    go_wp2_with (go_at_call 55; refine (need_no A l.length c f at_ 5 _).mono ?_; rintro x w' ⟨rfl, hb⟩)
    exact ⟨rfl, HB.out.trans (hb.mono HB.out.size), rfl⟩
set_option maxRecDepth 100000 in
set_option maxHeartbeats 4000000 in
theorem field_6 (A : Option Addr) (c : Nat) (l : List S64) (f : Nat) (at_ n : Int) (w : World) (hf : f < l.length) :
    Calls Try.prog 77 #[.agg #[.slice A l.length c, .int .i64 f, .int .i64 at_], .int .i64 n, .int .i64 6] w (stopPost f at_ (fieldE l.length l[f].f1.length n 6) w) := by
  have hu149 := Try.underlying149
  have hbl := (Below.refl w.heap.size w).alloc (Nat.le_refl _) (.cells #[.slice A l.length c, .int .i64 f, .int .i64 at_] 149)
  have HB := Aside0.mk hbl
  clear hbl
  by_cases h0 : (16) ≤ n
  · by_cases h1 : n < (2147483648)
    · have hI : inB (16) (2147483648) n = true := by simp only [inB, Bool.and_eq_true, decide_eq_true_eq]; exact ⟨h0, h1⟩
      have hE : fieldE l.length l[f].f1.length n 6 = none := by simp [fieldE, hI]
      rw [hE]
      clear hI hE
      go_enter Try.func77, Try.ntmps77
      go_wp2_with (go_at_call 55; refine (need_ok A l.length c f at_ 6 _).mono ?_; rintro x w' ⟨rfl, hb⟩)
      go_end0
      exact ⟨HB.out.trans (hb.mono HB.out.size), rfl⟩
    · have hI : inB (16) (2147483648) n = false := by simp only [inB, Bool.and_eq_false_iff, decide_eq_false_iff_not]; exact .inr h1
      have hE : fieldE l.length l[f].f1.length n 6 = some (6) := by simp [fieldE, hI]
      rw [hE]
      clear hI hE
      go_enter Try.func77, Try.ntmps77
      go_wp2_with (go_at_call 55; refine (need_no A l.length c f at_ 6 _).mono ?_; rintro x w' ⟨rfl, hb⟩)
      exact ⟨rfl, HB.out.trans (hb.mono HB.out.size), rfl⟩
  · have hI : inB (16) (2147483648) n = false := by simp only [inB, Bool.and_eq_false_iff, decide_eq_false_iff_not]; exact .inl h0
    have hE : fieldE l.length l[f].f1.length n 6 = some (6) := by simp [fieldE, hI]
    rw [hE]
    clear hI hE
    go_enter Try.func77, Try.ntmps77
    go_wp2_with (go_at_call 55; refine (need_no A l.length c f at_ 6 _).mono ?_; rintro x w' ⟨rfl, hb⟩)
    exact ⟨rfl, HB.out.trans (hb.mono HB.out.size), rfl⟩
set_option maxRecDepth 100000 in
set_option maxHeartbeats 4000000 in
theorem field_4 (A : Option Addr) (c : Nat) (l : List S64) (f : Nat) (at_ n : Int) (w : World) (hf : f < l.length) :
    Calls Try.prog 77 #[.agg #[.slice A l.length c, .int .i64 f, .int .i64 at_], .int .i64 n, .int .i64 4] w (stopPost f at_ (fieldE l.length l[f].f1.length n 4) w) := by
  have hu149 := Try.underlying149
  have hbl := (Below.refl w.heap.size w).alloc (Nat.le_refl _) (.cells #[.slice A l.length c, .int .i64 f, .int .i64 at_] 149)
  have HB := Aside0.mk hbl
  clear hbl
  by_cases h0 : (-2147483648) ≤ n
  · by_cases h1 : n < (2147483648)
    · have hI : inB (-2147483648) (2147483648) n = true := by simp only [inB, Bool.and_eq_true, decide_eq_true_eq]; exact ⟨h0, h1⟩
      have hE : fieldE l.length l[f].f1.length n 4 = none := by simp [fieldE, hI]
      rw [hE]
      clear hI hE
      go_enter Try.func77, Try.ntmps77
      go_wp2_with (go_at_call 55; refine (need_ok A l.length c f at_ 6 _).mono ?_; rintro x w' ⟨rfl, hb⟩)
      go_end0
      exact ⟨HB.out.trans (hb.mono HB.out.size), rfl⟩
    · have hI : inB (-2147483648) (2147483648) n = false := by simp only [inB, Bool.and_eq_false_iff, decide_eq_false_iff_not]; exact .inr h1
      have hE : fieldE l.length l[f].f1.length n 4 = some (6) := by simp [fieldE, hI]
      rw [hE]
      clear hI hE
      go_enter Try.func77, Try.ntmps77
      go_wp2_with (go_at_call 55; refine (need_no A l.length c f at_ 6 _).mono ?_; rintro x w' ⟨rfl, hb⟩)
      exact ⟨rfl, HB.out.trans (hb.mono HB.out.size), rfl⟩
  · have hI : inB (-2147483648) (2147483648) n = false := by simp only [inB, Bool.and_eq_false_iff, decide_eq_false_iff_not]; exact .inl h0
    have hE : fieldE l.length l[f].f1.length n 4 = some (6) := by simp [fieldE, hI]
    rw [hE]
    clear hI hE
    go_enter Try.func77, Try.ntmps77
    go_wp2_with (go_at_call 55; refine (need_no A l.length c f at_ 6 _).mono ?_; rintro x w' ⟨rfl, hb⟩)
    exact ⟨rfl, HB.out.trans (hb.mono HB.out.size), rfl⟩
set_option maxRecDepth 100000 in
set_option maxHeartbeats 4000000 in
theorem field_5 (A : Option Addr) (c : Nat) (l : List S64) (f : Nat) (at_ n : Int) (w : World) (hC : k64.C w A l.length l) (hf : f < l.length) :
    Calls Try.prog 77 #[.agg #[.slice A l.length c, .int .i64 f, .int .i64 at_], .int .i64 n, .int .i64 5] w (stopPost f at_ (fieldE l.length l[f].f1.length n 5) w) := by
  have hu149 := Try.underlying149
  have hbl := (Below.refl w.heap.size w).alloc (Nat.le_refl _) (.cells #[.slice A l.length c, .int .i64 f, .int .i64 at_] 149)
  have hrd : rd_T64 l (f : Int) = l[f] := by simp [rd_T64, hf]
  obtain ⟨ad, Ai, ci, rfl, p0, p1, hci, hCi⟩ := at_T64 hC (f : Int) (by omega) (by omega)
  rw [hrd] at p1 hci
  have hbx := alloc_blk w (.cells #[.slice (some ad) l.length c, .int .i64 f, .int .i64 at_] 149)
  have p1' := (hbl.cell (World.block_lt_of_cell? w _ p1)).trans p1
  rw [Int.toNat_natCast] at p1'
  have HB := Aside0.mk (And.intro hbl (And.intro hbx p1'))
  have hfl : ((f : Int) < (l.length : Int)) = True := eq_true (by omega)
  clear hC hbl p0 p1 hCi hrd hbx p1'
  have HFI := Aside0.mk hfl
  by_cases h0 : 0 ≤ n
  · by_cases h1 : n < (l[f].f1.length : Int)
    · have hI : inB 0 l[f].f1.length n = true := by simp only [inB, Bool.and_eq_true, decide_eq_true_eq]; exact ⟨h0, h1⟩
      have hE : fieldE l.length l[f].f1.length n 5 = none := by simp [fieldE, hI]
      rw [hE]
      clear hI hE
      go_enter Try.func77, Try.ntmps77
      go_wp2_with fail
      refine wp_region_seq (fun w' => Below (w.alloc (.cells #[.slice (some ad) l.length c, .int .i64 f, .int .i64 at_] 149)).heap.size (w.alloc (.cells #[.slice (some ad) l.length c, .int .i64 f, .int .i64 at_] 149)) w') [15] [.take 0, .take 1, .take 2, .take 3, .take 4, .take 5, .take 6, .take 7, .take 8, .take 9, .take 10, .take 11, .take 12, .take 13, .take 14, .fin 15] (by kernel_rfl) (by kernel_rfl) rfl (by kernel_rfl) (panic_via (P := Try.prog) (fn := Try.f77) (fun _ _ _ => rfl)) ?_
      have hs : Below (w.alloc (.cells #[.slice (some ad) l.length c, .int .i64 f, .int .i64 at_] 149)).heap.size (w.alloc (.cells #[.slice (some ad) l.length c, .int .i64 f, .int .i64 at_] 149)) (w.alloc (.cells #[.slice (some ad) l.length c, .int .i64 f, .int .i64 at_] 149)).drew := (Below.refl _ _).drew
      repeat (
        (first
          | (refine runSeq_take (v := ?_) (by rfl) (by rfl) (fun w' hS => ?_) hs ?_
             rotate_left
             · (have hB := (hS.block _ (blk_lt HB.out.2.1)).trans HB.out.2.1; have c0 := blk_cell hB 0; have c1 := blk_cell hB 1; have c2 := blk_cell hB 2; have q1 := (hS.cell (World.block_lt_of_cell? _ _ HB.out.2.2)).trans HB.out.2.2; go_simp; exact rfl))
          | refine runSeq_skip (by rfl) (by rfl) hs ?_)
        (try simp only [Act.put, List.setIfInBounds_toArray, List.set_cons_zero, List.set_cons_succ]))
      refine runSeq_fin (by rfl) (by rfl) (fun K hK => ?_)
      go_simp
      refine (need_any (some ad) l.length c f at_ 6 _ _).mono ?_
      rintro x w' ⟨hb, he⟩
      rw [if_pos (by first | rfl | (exact decide_eq_true h1) | (simp; omega))] at he
      subst he
      have hb2 := HB.out.1.drew.trans (hb.mono HB.out.1.size)
      refine hK _ _ ?_
      clear hK K
      refine runSeq_nil ?_
      have HB2 := Aside0.mk hb2
      clear hb hb2 hs
      go_wp2_with fail
      go_end0
      exact ⟨HB2.out, rfl⟩
    · have hI : inB 0 l[f].f1.length n = false := by simp only [inB, Bool.and_eq_false_iff, decide_eq_false_iff_not]; exact .inr h1
      have hE : fieldE l.length l[f].f1.length n 5 = some 6 := by simp [fieldE, hI]
      rw [hE]
      clear hI hE
      go_enter Try.func77, Try.ntmps77
      go_wp2_with fail
      refine wp_region_seq (fun w' => Below (w.alloc (.cells #[.slice (some ad) l.length c, .int .i64 f, .int .i64 at_] 149)).heap.size (w.alloc (.cells #[.slice (some ad) l.length c, .int .i64 f, .int .i64 at_] 149)) w') [15] [.take 0, .take 1, .take 2, .take 3, .take 4, .take 5, .take 6, .take 7, .take 8, .take 9, .take 10, .take 11, .take 12, .take 13, .take 14, .fin 15] (by kernel_rfl) (by kernel_rfl) rfl (by kernel_rfl) (panic_via (P := Try.prog) (fn := Try.f77) (fun _ _ _ => rfl)) ?_
      have hs : Below (w.alloc (.cells #[.slice (some ad) l.length c, .int .i64 f, .int .i64 at_] 149)).heap.size (w.alloc (.cells #[.slice (some ad) l.length c, .int .i64 f, .int .i64 at_] 149)) (w.alloc (.cells #[.slice (some ad) l.length c, .int .i64 f, .int .i64 at_] 149)).drew := (Below.refl _ _).drew
      repeat (
        (first
          | (refine runSeq_take (v := ?_) (by rfl) (by rfl) (fun w' hS => ?_) hs ?_
             rotate_left
             · (have hB := (hS.block _ (blk_lt HB.out.2.1)).trans HB.out.2.1; have c0 := blk_cell hB 0; have c1 := blk_cell hB 1; have c2 := blk_cell hB 2; have q1 := (hS.cell (World.block_lt_of_cell? _ _ HB.out.2.2)).trans HB.out.2.2; go_simp; exact rfl))
          | refine runSeq_skip (by rfl) (by rfl) hs ?_)
        (try simp only [Act.put, List.setIfInBounds_toArray, List.set_cons_zero, List.set_cons_succ]))
      refine runSeq_fin (by rfl) (by rfl) (fun K hK => ?_)
      go_simp
      refine (need_any (some ad) l.length c f at_ 6 _ _).mono ?_
      rintro x w' ⟨hb, he⟩
      rw [if_neg (fun h => by have := of_decide_eq_true h; omega)] at he
      subst he
      have hb2 := HB.out.1.drew.trans (hb.mono HB.out.1.size)
      exact ⟨rfl, hb2, rfl⟩
  · have hI : inB 0 l[f].f1.length n = false := by simp only [inB, Bool.and_eq_false_iff, decide_eq_false_iff_not]; exact .inl h0
    have hE : fieldE l.length l[f].f1.length n 5 = some 6 := by simp [fieldE, hI]
    rw [hE]
    clear hI hE
    have hd1 : (0 ≤ n) = False := eq_false h0
    go_enter Try.func77, Try.ntmps77
    go_wp2_with fail
    refine wp_region_seq (fun w' => Below (w.alloc (.cells #[.slice (some ad) l.length c, .int .i64 f, .int .i64 at_] 149)).heap.size (w.alloc (.cells #[.slice (some ad) l.length c, .int .i64 f, .int .i64 at_] 149)) w') [15] [.take 0, .take 1, .take 2, .take 3, .take 4, .take 5, .take 6, .take 7, .take 8, .take 9, .take 10, .take 11, .take 12, .take 13, .take 14, .fin 15] (by kernel_rfl) (by kernel_rfl) rfl (by kernel_rfl) (panic_via (P := Try.prog) (fn := Try.f77) (fun _ _ _ => rfl)) ?_
    have hs : Below (w.alloc (.cells #[.slice (some ad) l.length c, .int .i64 f, .int .i64 at_] 149)).heap.size (w.alloc (.cells #[.slice (some ad) l.length c, .int .i64 f, .int .i64 at_] 149)) (w.alloc (.cells #[.slice (some ad) l.length c, .int .i64 f, .int .i64 at_] 149)).drew := (Below.refl _ _).drew
    repeat (
      (first
        | (refine runSeq_take (v := ?_) (by rfl) (by rfl) (fun w' hS => ?_) hs ?_
           rotate_left
           · (have hB := (hS.block _ (blk_lt HB.out.2.1)).trans HB.out.2.1; have c0 := blk_cell hB 0; have c1 := blk_cell hB 1; have c2 := blk_cell hB 2; have q1 := (hS.cell (World.block_lt_of_cell? _ _ HB.out.2.2)).trans HB.out.2.2; go_simp; exact rfl))
        | refine runSeq_skip (by rfl) (by rfl) hs ?_)
      (try simp only [Act.put, List.setIfInBounds_toArray, List.set_cons_zero, List.set_cons_succ]))
    refine runSeq_fin (by rfl) (by rfl) (fun K hK => ?_)
    go_simp
    refine (need_any (some ad) l.length c f at_ 6 _ _).mono ?_
    rintro x w' ⟨hb, he⟩
    rw [if_neg (by simp)] at he
    subst he
    have hb2 := HB.out.1.drew.trans (hb.mono HB.out.1.size)
    exact ⟨rfl, hb2, rfl⟩
set_option maxRecDepth 100000 in
set_option maxHeartbeats 4000000 in
theorem field_none (A : Option Addr) (c : Nat) (l : List S64) (f : Nat) (at_ n p : Int) (w : World) (hf : f < l.length) (h1 : ¬ p = 1) (h2 : ¬ p = 2) (h3 : ¬ p = 3) (h4 : ¬ p = 4) (h5 : ¬ p = 5) (h6 : ¬ p = 6) :
    Calls Try.prog 77 #[.agg #[.slice A l.length c, .int .i64 f, .int .i64 at_], .int .i64 n, .int .i64 p] w (stopPost f at_ (fieldE l.length l[f].f1.length n p) w) := by
  have hu149 := Try.underlying149
  have hbl := (Below.refl w.heap.size w).alloc (Nat.le_refl _) (.cells #[.slice A l.length c, .int .i64 f, .int .i64 at_] 149)
  have hE : fieldE l.length l[f].f1.length n p = none := by simp [fieldE, h1, h2, h3, h4, h5, h6]
  rw [hE]
  have HB := Aside0.mk hbl
  clear hbl hE
  go_enter Try.func77, Try.ntmps77
  go_wp2_with fail
  go_end0
  exact ⟨HB.out, rfl⟩
theorem field_any (A : Option Addr) (c : Nat) (l : List S64) (f : Nat) (at_ n p : Int) (w : World) (hC : k64.C w A l.length l) (hf : f < l.length) :
    Calls Try.prog 77 #[.agg #[.slice A l.length c, .int .i64 f, .int .i64 at_], .int .i64 n, .int .i64 p] w (stopPost f at_ (fieldE l.length l[f].f1.length n p) w) := by
  by_cases h1 : p = 1
  · subst h1; exact field_1 A c l f at_ n w hf
  by_cases h2 : p = 2
  · subst h2; exact field_2 A c l f at_ n w hf
  by_cases h3 : p = 3
  · subst h3; exact field_3 A c l f at_ n w hf
  by_cases h4 : p = 4
  · subst h4; exact field_4 A c l f at_ n w hf
  by_cases h5 : p = 5
  · subst h5; exact field_5 A c l f at_ n w hC hf
  by_cases h6 : p = 6
  · subst h6; exact field_6 A c l f at_ n w hf
  exact field_none A c l f at_ n p w hf h1 h2 h3 h4 h5 h6
end Go.Proofs.Ytbekjccehhaljaa.H

set_option linter.unusedVariables false
set_option linter.unusedSimpArgs false
namespace Go.Proofs.Ytbekjccehhaljaa.H
open Go.RowKit Go.Hay Go.Proofs.YtbekjccehhaljaaW.PrintWords Go.Proofs.YtbekjccehhaljaaW.PrintLast Go.Proofs.YtbekjccehhaljaaW.PrintMore
def xvU (x : S61) : Value := .agg #[.int .i64 x.f0, .int .i64 x.f1, .int .i64 x.f2, .int .i64 x.f3, .int .i64 x.f4]
/-- the task goes on. -/
def GoPU (D : Nat → Prop) (wb : Nat) (vp : Value) (T' : Tu) (p : Pl) (B : Nat) (w : World) (e : Ending) (w' : World) : Prop := e = .returned (.tuple #[]) ∧ UB D wb vp T' p B w' ∧ Keep (fun q => q = p.tb) w w'
/-- the task ends. -/
def StopPU (v f : Int) (w : World) (e : Ending) (w' : World) : Prop := e = .panicked [{ v := uendV v f, recovered := false }] ∧ Below w.heap.size w w'
set_option maxRecDepth 100000 in
theorem ufail_any (why : Int) (w : World) : Calls Try.prog 59 #[.int .i64 why] w (StopPU 0 why w) := by
  have hu := Try.underlying127
  go_enter Try.func59, Try.ntmps59
  go_wp2
  exact ⟨rfl, rfl, by first | exact Below.refl _ _ | exact (Below.refl _ _).alloc (Nat.le_refl _) _⟩
def utruthV (b : Bool) : Int := if b = true then 1 else 0
theorem utruth_less (y u : Int) : utruthV (decide (y < u)) = lessV y u := by unfold utruthV lessV; simp only [decide_eq_true_eq]
theorem utruth_same (y u : Int) : utruthV (y == u) = sameV y u := by unfold utruthV sameV; simp only [beq_iff_eq]
set_option maxRecDepth 100000 in
theorem utruth_any (b : Bool) (w : World) : Calls Try.prog 111 #[.bool b] w fun e w' => e = .returned (.int .i64 (utruthV b)) ∧ w = w' := by
  cases b with
  | true =>
    go_enter Try.func111, Try.ntmps111
    go_wp2_with fail
    go_ret
    exact ⟨rfl, rfl⟩
  | false =>
    go_enter Try.func111, Try.ntmps111
    go_wp2_with fail
    go_ret
    exact ⟨rfl, rfl⟩
section
variable {D : Nat → Prop} {wb B : Nat} {vp : Value} {T : Tu} {p : Pl} {w : World}
theorem UB.drewN (h : UB D wb vp T p B w) (n : Nat) : UB D wb vp T p B (w.drewN n) := h.below (pw_below_drewN (Below.refl _ _) n)
theorem goPU_reg {W : World} (h1 : UB D wb vp T p B W) (hD : ¬ D p.tb) (hb1 : Below w.heap.size w W) (a : Nat) (ha : (a : Int) < 8) (y y' : Int) (hy : y = y') : GoPU D wb vp (uSet T a y') p B w (.returned (.tuple #[])) (W.drew.setCell ⟨p.tb, 2 + a, none⟩ (.int .i64 y)) := by
  subst hy
  exact ⟨rfl, (h1.drewN 1).setReg hD a (by omega) y, ((Keep.of_below hb1 (fun q => q = p.tb)).drew).set (p := ⟨p.tb, 2 + a, none⟩) (.inr rfl) _⟩
theorem wrapU_i64 (x : Int) : IntKind.i64.wrap x = wrap64 x := IntWalk.i64_left x
set_option maxRecDepth 100000 in
set_option maxHeartbeats 4000000 in
theorem uset_any (h : UB D wb vp T p B w) (hD : ¬ D p.tb) (x : S61) (ha : 0 ≤ x.f1 ∧ x.f1 < 8) : Calls Try.prog 79 #[.pointer (some ⟨p.tb, 0, none⟩), xvU x] w (GoPU D wb vp (uSet T x.f1 x.f4) p B w) := by
  obtain ⟨x0, x1, x2, x3, x4⟩ := x
  try simp only at *
  obtain ⟨a, rfl⟩ : ∃ a : Nat, x1 = a := ⟨x1.toNat, by omega⟩
  obtain ⟨W, hW⟩ : ∃ W, W = w.alloc (.cells #[.int .i64 x0, .int .i64 (a), .int .i64 (x2), .int .i64 (x3), .int .i64 x4] 61) := ⟨_, rfl⟩
  have hb1 : Below w.heap.size w W := by rw [hW]; exact (Below.refl w.heap.size w).alloc (Nat.le_refl _) _
  have hbx : W.heap[w.heap.size]? = some (.cells #[.int .i64 x0, .int .i64 (a), .int .i64 (x2), .int .i64 (x3), .int .i64 x4] 61 (0, 0)) := by rw [hW]; exact alloc_blk w _
  have h1 := h.below hb1
  have c0 := blk_cell hbx 0
  have c1 := blk_cell hbx 1
  have c2 := blk_cell hbx 2
  have c3 := blk_cell hbx 3
  have c4 := blk_cell hbx 4
  have t0 := h1.fix.1
  have H := Aside0.mk (And.intro h1 (And.intro hb1 hD))
  have HWW := Aside0.mk hW
  have ha8 : ((a : Int) < 8) = True := eq_true ha.2
  have z := h1.frozen (2 + a)
  have r := h1.reg a (by omega)
  have HA := Aside0.mk ha.2
  clear ha
  unfold xvU
  clear h h1 hb1 hbx hW hD
  go_enter Try.func79, Try.ntmps79
  go_upto_region 1 with (fail)
  rw [← HWW.out]
  refine wp_region_T (fun w' => Drawn0 W w') [8] (.takes [0, 1, 2, 3, 4, 5, 6, 7] (.fin 8 .done)) (by kernel_rfl) (by kernel_rfl) (by kernel_rfl) (by kernel_rfl) (panic_via (P := Try.prog) (fn := Try.f79) (R := GoPU D wb vp (uSet T a x4) p B w) (fun _ _ _ => rfl)) ?_
  have hs : Drawn0 W W.drew := (Drawn0.refl W).step 1
  simp only [Turns.takes]
  repeat (
    (first
      | (refine runT_take (v := ?_) (by rfl) (by rfl) (fun w' hS => ?_) hs ?_
         rotate_left
         · (obtain ⟨n, rfl⟩ := hS; go_simp; exact rfl))
      | refine runT_skip (by rfl) (by rfl) hs ?_)
    (try simp only [Act.put, List.setIfInBounds_toArray, List.set_cons_zero, List.set_cons_succ]))
  refine runT_fin (by rfl) (by rfl) (fun K hK => ?_)
  go_simp
  refine hK _ _ ?_
  refine runT_done ?_
  clear hK K hs
  go_wp2_with fail
  go_end0
  exact goPU_reg H.out.1 H.out.2.2 H.out.2.1 a HA.out _ _ rfl
set_option maxRecDepth 100000 in
set_option maxHeartbeats 4000000 in
theorem umove_any (h : UB D wb vp T p B w) (hD : ¬ D p.tb) (x : S61) (ha : 0 ≤ x.f1 ∧ x.f1 < 8) (hb : 0 ≤ x.f2 ∧ x.f2 < 8) : Calls Try.prog 80 #[.pointer (some ⟨p.tb, 0, none⟩), xvU x] w (GoPU D wb vp (uSet T x.f1 (uR T x.f2)) p B w) := by
  obtain ⟨x0, x1, x2, x3, x4⟩ := x
  try simp only at *
  obtain ⟨a, rfl⟩ : ∃ a : Nat, x1 = a := ⟨x1.toNat, by omega⟩
  obtain ⟨b, rfl⟩ : ∃ b : Nat, x2 = b := ⟨x2.toNat, by omega⟩
  obtain ⟨W, hW⟩ : ∃ W, W = w.alloc (.cells #[.int .i64 x0, .int .i64 (a), .int .i64 (b), .int .i64 (x3), .int .i64 x4] 61) := ⟨_, rfl⟩
  have hb1 : Below w.heap.size w W := by rw [hW]; exact (Below.refl w.heap.size w).alloc (Nat.le_refl _) _
  have hbx : W.heap[w.heap.size]? = some (.cells #[.int .i64 x0, .int .i64 (a), .int .i64 (b), .int .i64 (x3), .int .i64 x4] 61 (0, 0)) := by rw [hW]; exact alloc_blk w _
  have h1 := h.below hb1
  have c0 := blk_cell hbx 0
  have c1 := blk_cell hbx 1
  have c2 := blk_cell hbx 2
  have c3 := blk_cell hbx 3
  have c4 := blk_cell hbx 4
  have t0 := h1.fix.1
  have H := Aside0.mk (And.intro h1 (And.intro hb1 hD))
  have HWW := Aside0.mk hW
  have ha8 : ((a : Int) < 8) = True := eq_true ha.2
  have hb8 : ((b : Int) < 8) = True := eq_true hb.2
  have z := h1.frozen (2 + a)
  have r := h1.reg a (by omega)
  have r2 := h1.reg b (by omega)
  have HA := Aside0.mk ha.2
  clear ha hb
  unfold xvU
  clear h h1 hb1 hbx hW hD
  go_enter Try.func80, Try.ntmps80
  go_upto_region 1 with (fail)
  rw [← HWW.out]
  refine wp_region_T (fun w' => Drawn0 W w') [13] (.takes [0, 1, 2, 3, 4, 5, 6, 7, 8, 9, 10, 11, 12] (.fin 13 .done)) (by kernel_rfl) (by kernel_rfl) (by kernel_rfl) (by kernel_rfl) (panic_via (P := Try.prog) (fn := Try.f80) (R := GoPU D wb vp (uSet T a (uR T b)) p B w) (fun _ _ _ => rfl)) ?_
  have hs : Drawn0 W W.drew := (Drawn0.refl W).step 1
  simp only [Turns.takes]
  repeat (
    (first
      | (refine runT_take (v := ?_) (by rfl) (by rfl) (fun w' hS => ?_) hs ?_
         rotate_left
         · (obtain ⟨n, rfl⟩ := hS; go_simp; exact rfl))
      | refine runT_skip (by rfl) (by rfl) hs ?_)
    (try simp only [Act.put, List.setIfInBounds_toArray, List.set_cons_zero, List.set_cons_succ]))
  refine runT_fin (by rfl) (by rfl) (fun K hK => ?_)
  go_simp
  refine hK _ _ ?_
  refine runT_done ?_
  clear hK K hs
  go_wp2_with fail
  go_end0
  exact goPU_reg H.out.1 H.out.2.2 H.out.2.1 a HA.out _ _ rfl
set_option maxRecDepth 100000 in
set_option maxHeartbeats 4000000 in
theorem ujump_any (h : UB D wb vp T p B w) (hD : ¬ D p.tb) (x : S61) : Calls Try.prog 81 #[.pointer (some ⟨p.tb, 0, none⟩), xvU x] w (GoPU D wb vp { T with at_ := x.f4 } p B w) := by
  obtain ⟨x0, x1, x2, x3, x4⟩ := x
  try simp only at *
  obtain ⟨W, hW⟩ : ∃ W, W = w.alloc (.cells #[.int .i64 x0, .int .i64 (x1), .int .i64 (x2), .int .i64 (x3), .int .i64 x4] 61) := ⟨_, rfl⟩
  have hb1 : Below w.heap.size w W := by rw [hW]; exact (Below.refl w.heap.size w).alloc (Nat.le_refl _) _
  have hbx : W.heap[w.heap.size]? = some (.cells #[.int .i64 x0, .int .i64 (x1), .int .i64 (x2), .int .i64 (x3), .int .i64 x4] 61 (0, 0)) := by rw [hW]; exact alloc_blk w _
  have h1 := h.below hb1
  have c0 := blk_cell hbx 0
  have c1 := blk_cell hbx 1
  have c2 := blk_cell hbx 2
  have c3 := blk_cell hbx 3
  have c4 := blk_cell hbx 4
  have t0 := h1.fix.1
  have H := Aside0.mk (And.intro h1 (And.intro hb1 hD))
  have HWW := Aside0.mk hW
  have z := h1.frozen 16
  have r := h1.fix.2.2.2.2.1
  unfold xvU
  clear h h1 hb1 hbx hW hD
  go_enter Try.func81, Try.ntmps81
  go_upto_region 1 with (fail)
  rw [← HWW.out]
  go_wp2_with fail
  go_end0
  exact ⟨rfl, H.out.1.setAt H.out.2.2 x4, (Keep.of_below H.out.2.1 (fun q => q = p.tb)).set (p := ⟨p.tb, 16, none⟩) (.inr rfl) _⟩
set_option maxRecDepth 100000 in
set_option maxHeartbeats 4000000 in
theorem uzero_any (h : UB D wb vp T p B w) (hD : ¬ D p.tb) (x : S61) (ha : 0 ≤ x.f1 ∧ x.f1 < 8) : Calls Try.prog 82 #[.pointer (some ⟨p.tb, 0, none⟩), xvU x] w (GoPU D wb vp (if uR T x.f1 = 0 then { T with at_ := x.f4 } else T) p B w) := by
  obtain ⟨x0, x1, x2, x3, x4⟩ := x
  try simp only at *
  obtain ⟨a, rfl⟩ : ∃ a : Nat, x1 = a := ⟨x1.toNat, by omega⟩
  have hrg : uR T (a : Int) = T.regs.getD a 0 := rfl
  obtain ⟨W, hW⟩ : ∃ W, W = w.alloc (.cells #[.int .i64 x0, .int .i64 (a), .int .i64 (x2), .int .i64 (x3), .int .i64 x4] 61) := ⟨_, rfl⟩
  have hb1 : Below w.heap.size w W := by rw [hW]; exact (Below.refl w.heap.size w).alloc (Nat.le_refl _) _
  have hbx : W.heap[w.heap.size]? = some (.cells #[.int .i64 x0, .int .i64 (a), .int .i64 (x2), .int .i64 (x3), .int .i64 x4] 61 (0, 0)) := by rw [hW]; exact alloc_blk w _
  have h1 := h.below hb1
  have c0 := blk_cell hbx 0
  have c1 := blk_cell hbx 1
  have c2 := blk_cell hbx 2
  have c3 := blk_cell hbx 3
  have c4 := blk_cell hbx 4
  have t0 := h1.fix.1
  have H := Aside0.mk (And.intro h1 (And.intro hb1 hD))
  have HWW := Aside0.mk hW
  have ha8 : ((a : Int) < 8) = True := eq_true ha.2
  have z := h1.frozen 16
  have r := h1.reg a (by omega)
  have t20 := h1.fix.2.2.2.2.1
  by_cases hz : T.regs.getD a 0 = 0
  · rw [hrg, if_pos hz]
    rw [hz] at r
    clear ha hrg hz
    unfold xvU
    clear h h1 hb1 hbx hW hD
    go_enter Try.func82, Try.ntmps82
    go_upto_region 1 with (fail)
    rw [← HWW.out]
    go_quiet (fail)
    go_wp2_with fail
    go_end0
    exact ⟨rfl, (H.out.1.drewN _).setAt H.out.2.2 x4, ((Keep.of_below H.out.2.1 (fun q => q = p.tb)).drewN _).set (p := ⟨p.tb, 16, none⟩) (.inr rfl) _⟩
  · rw [hrg, if_neg hz]
    have hz1 : (T.regs.getD a 0 == 0) = false := by simpa using hz
    have hz2 : (T.regs.getD a 0 = 0) = False := eq_false hz
    clear ha hrg hz
    generalize T.regs.getD a 0 = y at r hz1 hz2
    unfold xvU
    clear h h1 hb1 hbx hW hD
    go_enter Try.func82, Try.ntmps82
    go_upto_region 1 with (fail)
    rw [← HWW.out]
    go_quiet (fail)
    go_wp2_with fail
    go_end0
    exact ⟨rfl, H.out.1.drewN _, (Keep.of_below H.out.2.1 (fun q => q = p.tb)).drewN _⟩
set_option maxRecDepth 100000 in
set_option maxHeartbeats 4000000 in
theorem ugives_any (h : UB D wb vp T p B w) (hD : ¬ D p.tb) (x : S61) : Calls Try.prog 88 #[.pointer (some ⟨p.tb, 0, none⟩), xvU x] w (StopPU 0 x.f4 w) := by
  obtain ⟨x0, x1, x2, x3, x4⟩ := x
  try simp only at *
  obtain ⟨W, hW⟩ : ∃ W, W = w.alloc (.cells #[.int .i64 x0, .int .i64 (x1), .int .i64 (x2), .int .i64 (x3), .int .i64 x4] 61) := ⟨_, rfl⟩
  have hb1 : Below w.heap.size w W := by rw [hW]; exact (Below.refl w.heap.size w).alloc (Nat.le_refl _) _
  have hbx : W.heap[w.heap.size]? = some (.cells #[.int .i64 x0, .int .i64 (x1), .int .i64 (x2), .int .i64 (x3), .int .i64 x4] 61 (0, 0)) := by rw [hW]; exact alloc_blk w _
  have h1 := h.below hb1
  have c0 := blk_cell hbx 0
  have c1 := blk_cell hbx 1
  have c2 := blk_cell hbx 2
  have c3 := blk_cell hbx 3
  have c4 := blk_cell hbx 4
  have t0 := h1.fix.1
  have H := Aside0.mk (And.intro h1 (And.intro hb1 hD))
  have HWW := Aside0.mk hW
  unfold xvU
  clear h h1 hb1 hbx hW hD
  go_enter Try.func88, Try.ntmps88
  go_upto_region 1 with (fail)
  rw [← HWW.out]
  go_wp2_with fail
  refine (ufail_any x4 _).mono ?_
  rintro e w' ⟨rfl, hb⟩
  exact ⟨rfl, rfl, H.out.2.1.trans (hb.mono H.out.2.1.size)⟩
end
end Go.Proofs.Ytbekjccehhaljaa.H

