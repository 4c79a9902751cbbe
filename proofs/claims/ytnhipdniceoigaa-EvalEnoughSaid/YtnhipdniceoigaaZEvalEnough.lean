/- What is evaluated with so many instructions is the same with more; with one less than it needs it is too many: for every input. No condition. -/
import Derived.Test.YtnhipdniceoigaaZEvalEnough4
import Derived.OpenShut
import Derived.Deep.Slices
import Derived.ChangeArms
import Derived.WideShapes
import Derived.Test.YtnhipdniceoigaaRows
import Derived.WalkKit
import Derived.ProofKit
import Derived.ShutString
import Derived.ChangeOld
import Derived.Below
import Derived.SizedLaws
set_option linter.unusedVariables false
set_option linter.unusedSimpArgs false
namespace Go.Hay
open Go.RowKit
inductive Turns where
  | done
  | take (i : Nat) (t : Turns)
  | op (i : Nat) (t : Turns)
  | fin (i : Nat) (t : Turns)
  | alt (i j : Nat) (t u : Turns)
def Turns.many : Turns → Nat
  | .done => 0
  | .take _ t => t.many + 1
  | .op _ t => t.many + 1
  | .fin _ t => t.many + 1
  | .alt _ _ t _ => t.many + 1
/-- takes, one behind the other. -/
def Turns.takes : List Nat → Turns → Turns
  | [], t => t
  | i :: l, t => .take i (takes l t)
section
variable {P : Program} {md : Region.Mode} {ops : Array Oper} {Q : Exit → Act → World → Prop} {S : World → Prop} {F : List Nat}
def runT (P : Program) (ops : Array Oper) (Q : Exit → Act → World → Prop) (S : World → Prop) : Turns → Act → World → Prop
  | .done, a, w => Q .normal a w
  | .take i t, a, w => ∃ o v, ops[i]? = some o ∧ YieldsIf P ops S o v a ∧ S w ∧ runT P ops Q S t (a.put o.dst v) w
  | .op i t, a, w => wpOp P ops Q i (fun a' w' => S w' ∧ runT P ops Q S t a' w') a w
  | .fin i t, a, w => wpOp P ops Q i (fun a' w' => runT P ops Q S t a' w') a w
  | .alt i j t u, a, w => wpOp P ops Q i (fun a' w' => S w' ∧ runT P ops Q S t a' w') a w ∧ wpOp P ops Q j (fun a' w' => S w' ∧ runT P ops Q S u a' w') a w
def okT (md : Region.Mode) (ops : Array Oper) (F : List Nat) : Turns → Array Bool → Bool
  | .done, listed => (Region.ready md ops listed).isEmpty
  | .take i t, listed => (Region.ready md ops listed).contains i && Region.free md ops listed i && blocks md ops F i && !F.contains i && okT md ops F t (listed.setIfInBounds i true)
  | .op i t, listed => (Region.ready md ops listed == [i]) && okT md ops F t (listed.setIfInBounds i true)
  | .fin i t, listed => (Region.ready md ops listed == [i]) && F.contains i && okT md ops F t (listed.setIfInBounds i true)
  | .alt i j t u, listed => (Region.ready md ops listed == [i, j]) && t.many == u.many && okT md ops F t (listed.setIfInBounds i true) && okT md ops F u (listed.setIfInBounds j true)
theorem wpAnyF_T (hs : Region.noSelect ops = true) (hQ : ∀ o ∈ ops.toList, ∀ c a v w, Q (.panic c) (a.put o.dst v) w → Q (.panic c) a w) :
    ∀ (t : Turns) (listed : Array Bool) (a : Act) (w : World), Closed md ops listed → okT md ops F t listed = true → runT P ops Q S t a w → wpAnyF P md ops Q S F t.many listed a w
  | .done, listed, a, w, _, hk, h => ⟨by simpa [okT] using hk, h⟩
  | .take i t, listed, a, w, inv, hk, h => by
    simp only [okT, Bool.and_eq_true, Bool.not_eq_true'] at hk
    obtain ⟨o, v, ho, hy, hS, hr⟩ := h
    have hi : i ∈ Region.ready md ops listed := by simpa using hk.1.1.1.1
    exact wpAnyF_first ho (Region.noSelect_spec hs) (fun c a w => hQ o (Array.mem_toList_iff.2 (Array.mem_of_getElem? ho)) c a v w) hk.1.1.2 t.many listed a w inv hk.1.2
      (Region.free_spec ho hk.1.1.1.2) hi hy hS (wpAnyF_T hs hQ t _ _ _ (inv.set hi) hk.2 hr)
  | .op i t, listed, a, w, inv, hk, h => by
    simp only [okT, Bool.and_eq_true, beq_iff_eq] at hk
    have hi : i ∈ Region.ready md ops listed := by rw [hk.1]; simp
    exact wpAnyF_one hk.1 (wpOp_mono (fun a' w' h' => ⟨h'.1, wpAnyF_T hs hQ t _ _ _ (inv.set hi) hk.2 h'.2⟩) h)
  | .fin i t, listed, a, w, inv, hk, h => by
    simp only [okT, Bool.and_eq_true, beq_iff_eq] at hk
    refine ⟨fun h0 => (by rw [hk.1.1] at h0; cases h0), fun j hj => ?_⟩
    have hji : j = i := by rw [hk.1.1] at hj; simpa using hj
    subst hji
    exact wpOp_mono (fun a' w' h' => ⟨fun hc => (by rw [hk.1.2] at hc; cases hc), wpAnyF_T hs hQ t _ _ _ (inv.set hj) hk.2 h'⟩) h
  | .alt i j t u, listed, a, w, inv, hk, h => by
    simp only [okT, Bool.and_eq_true, beq_iff_eq] at hk
    obtain ⟨⟨⟨h1, h2⟩, h3⟩, h4⟩ := hk
    have hi : i ∈ Region.ready md ops listed := by rw [h1]; simp
    have hj : j ∈ Region.ready md ops listed := by rw [h1]; simp
    refine ⟨fun h0 => (by rw [h1] at h0; cases h0), fun k hk => ?_⟩
    have hk2 : k = i ∨ k = j := by rw [h1] at hk; simpa using hk
    rcases hk2 with rfl | rfl
    · exact wpOp_mono (fun a' w' h' => ⟨fun _ => h'.1, wpAnyF_T hs hQ t _ _ _ (inv.set hi) h3 h'.2⟩) h.1
    · have := fun a' w' (h' : S w' ∧ runT P ops Q S u a' w') => wpAnyF_T hs hQ u _ a' w' (inv.set hj) h4 h'.2
      rw [← h2] at this
      exact wpOp_mono (fun a' w' h' => ⟨fun _ => h'.1, this a' w' h'⟩) h.2
theorem wp_region_T {id : Nat} {a : Act} {w : World} (S : World → Prop) (F : List Nat) (t : Turns) (hm : P.follows .mixedOrders = true) (hs : Region.noSelect ops = true) (hl : t.many = ops.size)
    (hk : okT .any ops F t (Array.replicate ops.size false) = true)
    (hQ : ∀ o ∈ ops.toList, ∀ c a v w, Q (.panic c) (a.put o.dst v) w → Q (.panic c) a w)
    (h : runT P ops Q S t a w.drew) : (Code.region id ops true).wp P Q a w :=
  wp_region_any hm (wpAny_of_F _ _ _ _ (hl ▸ wpAnyF_T hs hQ t _ _ _ Closed.start hk h))
theorem runT_done {a : Act} {w : World} (h : Q .normal a w) : runT P ops Q S .done a w := h
theorem runT_take {i : Nat} {o : Oper} {v : Value} {t : Turns} {a : Act} {w : World} (ho' : ops.toList[i]? = some o) (hw : Region.wanted o (yielded ops a.tmps) = true)
    (hy : ∀ w', S w' → (execOp a.eval o).run P w' = .ok (.value v) w') (hS : S w) (h : runT P ops Q S t (a.put o.dst v) w) : runT P ops Q S (.take i t) a w :=
  ⟨o, v, by simpa using ho', .inl ⟨hw, hy⟩, hS, h⟩
theorem runT_skip {i : Nat} {o : Oper} {t : Turns} {a : Act} {w : World} (ho' : ops.toList[i]? = some o) (hw : Region.wanted o (yielded ops a.tmps) = false)
    (hS : S w) (h : runT P ops Q S t (a.put o.dst undef) w) : runT P ops Q S (.take i t) a w :=
  ⟨o, undef, by simpa using ho', .inr ⟨hw, rfl⟩, hS, h⟩
theorem runT_op {i : Nat} {o : Oper} {t : Turns} {a : Act} {w : World} (ho' : ops.toList[i]? = some o) (hw : Region.wanted o (yielded ops a.tmps) = true)
    (h : ∀ K : Act → World → Prop, (∀ a' w', S w' → runT P ops Q S t a' w' → K a' w') → o.wp P a w K Q) : runT P ops Q S (.op i t) a w :=
  wpOp_at (R := fun a' w' => S w' ∧ runT P ops Q S t a' w') ho' hw fun K hK => h K fun a' w' hS hr => hK a' w' ⟨hS, hr⟩
theorem runT_alt {i j : Nat} {oi oj : Oper} {t u : Turns} {a : Act} {w : World} (hoi : ops.toList[i]? = some oi) (hoj : ops.toList[j]? = some oj) (hwi : Region.wanted oi (yielded ops a.tmps) = true) (hwj : Region.wanted oj (yielded ops a.tmps) = true)
    (h1 : ∀ K : Act → World → Prop, (∀ a' w', S w' → runT P ops Q S t a' w' → K a' w') → oi.wp P a w K Q)
    (h2 : ∀ K : Act → World → Prop, (∀ a' w', S w' → runT P ops Q S u a' w' → K a' w') → oj.wp P a w K Q) : runT P ops Q S (.alt i j t u) a w :=
  ⟨wpOp_at (R := fun a' w' => S w' ∧ runT P ops Q S t a' w') hoi hwi fun K hK => h1 K fun a' w' hS hr => hK a' w' ⟨hS, hr⟩, wpOp_at (R := fun a' w' => S w' ∧ runT P ops Q S u a' w') hoj hwj fun K hK => h2 K fun a' w' hS hr => hK a' w' ⟨hS, hr⟩⟩
end
end Go.Hay

set_option linter.unusedVariables false
set_option linter.unusedSimpArgs false
namespace Go.Proofs.Ytnhipdniceoigaa.H
open Go.RowKit Go.Hay Go.Proofs.YtnhipdniceoigaaW.PrintWords Go.Proofs.YtnhipdniceoigaaW.PrintLast Go.Proofs.YtnhipdniceoigaaW.PrintMore
theorem light_any (Ap : Option Addr) (cp : Nat) (P : List S68) (w : World) (hP : k68.C w Ap P.length P) (hcp : P.length ≤ cp) :
    ∃ b : Bool, (b = true → P.length ≤ 20 ∧ ∀ f ∈ P, f.f1.length ≤ 70) ∧ Calls Try.prog 11 #[.slice Ap P.length cp] w fun e w' => e = .returned (.bool b) ∧ Below w.heap.size w w' := by
  obtain ⟨b, ⟨K, hK⟩, h⟩ := light_ev P
  exact ⟨b, h, (haymowlaw06_light.calls K Ap cp P b w hP hcp (hK K (Nat.le_refl _))).mono fun e w' hp => ⟨hp.1, hp.2.below⟩⟩
/-- a document's program as_ the program's: new, and read in whatever world comes behind. -/
theorem of_any (Ap : Option Addr) (cp : Nat) (P : List S68) (w : World) (hP : k68.C w Ap P.length P) (hcp : P.length ≤ cp) (hl : P.length ≤ 20) (hf : ∀ f ∈ P, f.f1.length ≤ 70) :
    Calls Try.prog 13 #[.slice Ap P.length cp] w fun e w' => Below w.heap.size w w' ∧ ∃ A c, e = .returned (.slice A P.length c) ∧ P.length ≤ c ∧ k58.C w' A (P.map ofF).length (P.map ofF) := by
  obtain ⟨K, hK⟩ := of_ev P (by omega) (fun f h => by have := hf f h; omega)
  refine (haymowlaw06_of.calls K Ap cp P _ w hP hcp (hK K (Nat.le_refl _))).mono ?_
  rintro e w' ⟨v, rfl, hS, hb⟩
  obtain ⟨A, c, rfl⟩ := Kd.R_slice (Kd.S_R hS)
  have hq := Kd.R_reads' (Kd.S_R hS)
  have hq1 := hq.2.1
  rw [List.length_map] at hq1
  refine ⟨hb, A, c, ?_, hq1, hq.2.2⟩
  rw [List.length_map]
theorem eval_of (A : Option Addr) (c : Nat) (P : List S68) (Aa : Option Addr) (ca : Nat) (args : List Int) (b d most : Int) (w : World) (hC : k58.C w A (P.map ofF).length (P.map ofF)) (hc : P.length ≤ c) (hA : (Kd.int .i64).C w Aa args.length args) (hca : args.length ≤ ca) (hm : most ≤ 900000) {r : EvR} (hr : r = evalR (P.map ofF) args b d most.toNat) :
    Calls Try.prog 12 #[.slice A P.length c, .slice Aa args.length ca, .agg #[.int .i64 b, .int .i64 d], .int .i64 most] w (EvalPost w r) := by
  rw [hr]
  have := Eval_any (b := b) (d := d) (most := most) (c := c) hC (by rw [List.length_map]; exact hc) hA hca hm
  rwa [List.length_map] at this
/-- behind an evaluation whose result is stored at bx. -/
structure AfterE (w W : World) (bx : Nat) (rv rf : Int) (told : List Int) (log : List (List Int × Int)) (At : Option Addr) (ct : Nat) (Al : Option Addr) (cl : Nat) : Prop where
  below : Below w.heap.size w W
  box : W.heap[bx]? = some (.cells #[.int .i64 rv, .int .i64 rf, .slice At told.length ct, .slice Al log.length cl] 30 (0, 0))
  res : ResC W (rv, rf, told, log) At ct Al cl
  new : w.heap.size ≤ bx
/-- ways that meet again: the frame is found where the first one ends. -/
theorem with_act {G : Prop} {F : Nat → Option Addr → Nat → Option Addr → Nat → Option Addr → Nat → World → Prop} {K : Act → World → Prop} (act : Nat → Option Addr → Nat → Option Addr → Nat → Option Addr → Nat → Act)
    (H : (∀ bx A c At ct Al cl W, F bx A c At ct Al cl W → K (act bx A c At ct Al cl) W) → G) (h : ∀ bx A c At ct Al cl W, F bx A c At ct Al cl W → K (act bx A c At ct Al cl) W) : G := H h
def zRes : Obj := .cells #[.int .i64 0, .int .i64 0, .slice none 0 0, .slice none 0 0] 30
theorem after_store {w w4 : World} {bx : Nat} {rv rf : Int} {told : List Int} {log : List (List Int × Int)} {At : Option Addr} {ct : Nat} {Al : Option Addr} {cl : Nat} (hb : Below w.heap.size w w4) (hx : w4.heap[bx]? = some zRes) (hn : w.heap.size ≤ bx) (hr : ResC w4 (rv, rf, told, log) At ct Al cl) {W : World}
    (hW : W = (((w4.setCell ⟨bx, 0, none⟩ (.int .i64 rv)).setCell ⟨bx, 1, none⟩ (.int .i64 rf)).setCell ⟨bx, 2, none⟩ (.slice At told.length ct)).setCell ⟨bx, 3, none⟩ (.slice Al log.length cl)) : AfterE w W bx rv rf told log At ct Al cl := by
  have hk : Keep (fun q => q = bx) w4 W := by
    rw [hW]
    exact ((((Keep.refl (fun q => q = bx) w4).set (p := ⟨bx, 0, none⟩) (.inr rfl) _).set (p := ⟨bx, 1, none⟩) (.inr rfl) _).set (p := ⟨bx, 2, none⟩) (.inr rfl) _).set (p := ⟨bx, 3, none⟩) (.inr rfl) _
  refine ⟨hb.trans (hk.below (B := w.heap.size) hb.size (fun q hq e => by subst e; omega)), ?_, hr.step hk (fun q _ e => by subst e; exact ⟨_, _, hx, by decide, by decide, by decide⟩), hn⟩
  have := blk_set (blk_set (blk_set (blk_set hx 0 (.int .i64 rv)) 1 (.int .i64 rf)) 2 (.slice At told.length ct)) 3 (.slice Al log.length cl)
  rw [hW]
  exact this
/-- the log of a result, entry by entry. -/
theorem log_cells {w : World} {rv rf : Int} {told : List Int} {log : List (List Int × Int)} {At : Option Addr} {ct : Nat} {Al : Option Addr} {cl : Nat} (h : ResC w (rv, rf, told, log) At ct Al cl) (h0 : 0 < log.length) :
    ∃ ad, Al = some ad ∧ ∀ i (hi : i < log.length), ∃ A0 c0, w.cell? (ad.add (i * 2)) = some (.slice A0 log[i].1.length c0) ∧ w.cell? ⟨(ad.add (i * 2)).block, (ad.add (i * 2)).off + 1, none⟩ = some (.int .i64 log[i].2) ∧ log[i].1.length ≤ c0 ∧ (Kd.int .i64).C w A0 log[i].1.length log[i].1 := by
  have hlogc : k49.C w Al log.length (log.map entS) := h.log
  obtain ⟨ad2, hA2, _⟩ := hlogc.2.2 h0
  refine ⟨ad2, hA2, fun i hi => ?_⟩
  obtain ⟨ad, A0, c0, e2, u0, u1, u2, u3⟩ := at_T49 hlogc (i : Int) (by omega) (by omega)
  rw [hA2] at e2
  cases e2
  have e : rd_T49 (log.map entS) (i : Int) = entS log[i] := by simp [rd_T49, hi]
  rw [Int.toNat_natCast] at u0 u1
  rw [e] at u0 u1 u2 u3
  exact ⟨A0, c0, u0, u1, u2, u3⟩
theorem tot_take (log : List (List Int × Int)) (i : Nat) (hi : i < log.length) : tot (log.take (i + 1)) = tot (log.take i) + log[i].2 := by
  rw [List.take_succ_eq_append_getElem hi, tot_app]
  simp [tot]
theorem tot_le {b d : Int} {most : Nat} {log : List (List Int × Int)} (h : BookP b d most log) (i : Nat) : 0 ≤ tot (log.take i) ∧ tot (log.take i) ≤ most := by
  have pos : ∀ l : List (List Int × Int), (∀ e ∈ l, 0 ≤ e.2) → 0 ≤ tot l := by
    intro l
    induction l with
    | nil => intro _; simp [tot]
    | cons e r ih => intro h; have h1 := h e (List.mem_cons_self ..); have h2 := ih (fun x hx => h x (List.mem_cons_of_mem _ hx)); simp only [tot]; omega
  have h1 := pos (log.take i) (fun e he => (h.le e (List.mem_of_mem_take he)).1)
  have h2 := pos (log.drop i) (fun e he => (h.le e (List.mem_of_mem_drop he)).1)
  have h3 := h.sum
  have h4 : tot log = tot (log.take i) + tot (log.drop i) := by rw [← tot_app, List.take_append_drop]
  omega
end Go.Proofs.Ytnhipdniceoigaa.H

-- made by this session's gen.py over the kit's print.py; not trusted: Lean checks it
namespace Go.Proofs.Ytnhipdniceoigaa.H
open Go.RowKit Go.Proofs.YtnhipdniceoigaaW.PrintWords Go.Proofs.YtnhipdniceoigaaW.PrintLast Go.Proofs.YtnhipdniceoigaaW.PrintMore
attribute [local go_sem] max2_int min2_int max_two min_two max_three min_three max_four min_four   -- for this text's walks alone
set_option linter.unusedVariables false
set_option linter.unusedSimpArgs false

/-! ### haymowlaw06_numbers: function 20 -/
def haymowlaw06_numbers.l0 : Nat → List Int → List Int → Int → Option (Bool)
  | 0, _, _, _ => none
  | k + 1, x0, x1, x5 => if x5 < (x0.length : Int) then (if 0 ≤ x5 then (if x5 < (x1.length : Int) then (if (rd x0 x5) = (rd x1 x5) then (haymowlaw06_numbers.l0 k x0 x1 (wrap64 (x5 + 1))) else (some false)) else (none)) else (none)) else (some true)
def haymowlaw06_numbers.f (k : Nat) (l0 : List Int) (l1 : List Int) : Option (Bool) := if (l0.length : Int) = (l1.length : Int) then (haymowlaw06_numbers.l0 k l0 l1 0) else (some false)
theorem haymowlaw06_numbers.mono_l : ∀ k, (∀ y0 y1 y2, LeO (haymowlaw06_numbers.l0 k y0 y1 y2) (haymowlaw06_numbers.l0 (k + 1) y0 y1 y2))
  | 0 => fun _ _ _ r h => by simp [haymowlaw06_numbers.l0] at h
  | k + 1 => by
    have ih0 := haymowlaw06_numbers.mono_l k
    · intro y0 y1 y2
      unfold haymowlaw06_numbers.l0
      repeat' first
      | (with_reducible exact ih0 _ _ _)
      | (with_reducible exact LeO.refl _)
      | (with_reducible exact LeO.none _)
      | (with_reducible refine LeO.ite ?_ ?_)
      | (with_reducible refine LeO.bind ?_ (fun _ => ?_))
      | exact ih0 _ _ _
      | exact LeO.none _
      | refine LeO.ite ?_ ?_
      | refine LeO.bind ?_ (fun _ => ?_)
theorem haymowlaw06_numbers.mono : ∀ a0 a1 k, LeO (haymowlaw06_numbers.f k a0 a1) (haymowlaw06_numbers.f (k + 1) a0 a1) := by
  intro a0 a1 k
  have ih0 := haymowlaw06_numbers.mono_l k
  unfold haymowlaw06_numbers.f
  repeat' first
      | (with_reducible exact ih0 _ _ _)
      | (with_reducible exact LeO.refl _)
      | (with_reducible exact LeO.none _)
      | (with_reducible refine LeO.ite ?_ ?_)
      | (with_reducible refine LeO.bind ?_ (fun _ => ?_))
      | exact ih0 _ _ _
      | exact LeO.none _
      | refine LeO.ite ?_ ?_
      | refine LeO.bind ?_ (fun _ => ?_)
set_option maxHeartbeats 8000000 in
set_option maxRecDepth 100000 in
theorem haymowlaw06_numbers.calls (k : Nat) (A0 : Option Addr) (c0 : Nat) (l0 : List Int) (A1 : Option Addr) (c1 : Nat) (l1 : List Int) (r : Bool) (w : World) (hr0 : Kd.C (Kd.int .i64) w A0 l0.length l0) (hc0 : l0.length ≤ c0) (hr1 : Kd.C (Kd.int .i64) w A1 l1.length l1) (hc1 : l1.length ≤ c1) (h : haymowlaw06_numbers.f k l0 l1 = some r) :
    Calls Try.prog 20 #[.slice A0 l0.length c0, .slice A1 l1.length c1] w fun e w' => e = .returned (.bool r) ∧ Drawn0 w w' := by
  have HR0 := Aside0.mk hr0
  have HC0 := Aside0.mk hc0
  clear hr0 hc0
  have HR1 := Aside0.mk hr1
  have HC1 := Aside0.mk hc1
  clear hr1 hc1
  have H : (if (l0.length : Int) = (l1.length : Int) then (haymowlaw06_numbers.l0 k l0 l1 0) else (some false)) = some r := h
  clear h
  by_cases c3 : (l0.length : Int) = (l1.length : Int)
  · rw [if_pos c3] at H
    have c3b0 : ((l0.length : Int) == (l1.length : Int)) = true := beq_iff_eq.mpr c3
    have c3b1 : ((l0.length : Int) != (l1.length : Int)) = false := bne_eq_false_iff_eq.mpr c3
    have c3b2 : (l0.length == l1.length) = true := by first | simpa using c3 | (simp at c3 ⊢; omega)
    clear c3
    have H' := Aside0.mk H
    clear H
    go_enter Try.func20, Try.ntmps20
    go_wp2
    repeat (go_quiet (fail); try go_wp2)
    go_loopg [5] k (fun kq v5 w' => ∃ (x5_1 : Int), v5 = .int .i64 x5_1 ∧ Aside0 (haymowlaw06_numbers.l0 kq l0 l1 x5_1 = some r) ∧ Aside0 (kq ≤ k) ∧ Drawn0 w w')
    case atStart => exact ⟨(0), (by first | rfl | (simp; done) | (simp [*]; done)), H', ⟨Nat.le_refl _⟩, by repeat (first | exact Drawn0.refl _ | apply Drawn0.step)⟩
    case round =>
      clear H'
      try clear c1
      try clear c2
      try clear p2
      try clear c3
      try clear c3b0
      try clear c3b1
      try clear c3b2
      obtain ⟨x5_1, rfl, HA, HK1, ⟨m1, rfl⟩⟩ := hrel
      cases gk with
      | zero => exact absurd HA.out (by simp [haymowlaw06_numbers.l0])
      | succ k1 =>
        have H := HA.out
        clear HA
        simp only [haymowlaw06_numbers.l0] at H
        by_cases c4 : x5_1 < (l0.length : Int)
        · rw [if_pos c4] at H
          have c4b0 : decide (x5_1 < (l0.length : Int)) = true := decide_eq_true c4
          clear c4
          by_cases c5 : 0 ≤ x5_1
          · rw [if_pos c5] at H
            have c5b0 : decide (0 ≤ x5_1) = true := decide_eq_true c5
            clear c5
            by_cases c6 : x5_1 < (l1.length : Int)
            · rw [if_pos c6] at H
              have c6b0 : decide (x5_1 < (l1.length : Int)) = true := decide_eq_true c6
              clear c6
              by_cases c7 : (rd l0 x5_1) = (rd l1 x5_1)
              · rw [if_pos c7] at H
                have c7b0 : ((rd l0 x5_1) == (rd l1 x5_1)) = true := beq_iff_eq.mpr c7
                have c7b1 : ((rd l0 x5_1) != (rd l1 x5_1)) = false := bne_eq_false_iff_eq.mpr c7
                clear c7
                have H' := Aside0.mk H
                clear H
                have p176 : 0 ≤ (x5_1 : Int) := of_decide_eq_true (by first | (with_reducible assumption) | assumption)
                have q176 : x5_1 < (l0.length : Int) := of_decide_eq_true (by first | (with_reducible assumption) | assumption)
                obtain ⟨ad176, e176, hx176_0⟩ := Kd.at_int HR0.out x5_1 p176 q176
                cases e176
                replace p176 := eq_true p176
                replace q176 := eq_true q176
                have p177 : 0 ≤ (x5_1 : Int) := of_decide_eq_true (by first | (with_reducible assumption) | assumption)
                have q177 : x5_1 < (l1.length : Int) := of_decide_eq_true (by first | (with_reducible assumption) | assumption)
                obtain ⟨ad177, e177, hx177_0⟩ := Kd.at_int HR1.out x5_1 p177 q177
                cases e177
                replace p177 := eq_true p177
                replace q177 := eq_true q177
                go_wp2
                repeat (go_quiet (fail); try go_wp2)
                go_roundg k1
                case measure => have := HK1.out; omega
                case rel => exact ⟨(wrap64 (x5_1 + 1)), (by first | rfl | (simp; done) | (simp [*]; done)), H', ⟨by have := HK1.out; omega⟩, by repeat (first | exact Drawn0.refl _ | apply Drawn0.step)⟩
              · rw [if_neg c7] at H
                have c7b0 : ((rd l0 x5_1) == (rd l1 x5_1)) = false := beq_eq_false_iff_ne.mpr c7
                have c7b1 : ((rd l0 x5_1) != (rd l1 x5_1)) = true := bne_iff_ne.mpr c7
                obtain rfl := Option.some.inj H
                have p176 : 0 ≤ (x5_1 : Int) := of_decide_eq_true (by first | (with_reducible assumption) | assumption)
                have q176 : x5_1 < (l0.length : Int) := of_decide_eq_true (by first | (with_reducible assumption) | assumption)
                obtain ⟨ad176, e176, hx176_0⟩ := Kd.at_int HR0.out x5_1 p176 q176
                cases e176
                replace p176 := eq_true p176
                replace q176 := eq_true q176
                have p177 : 0 ≤ (x5_1 : Int) := of_decide_eq_true (by first | (with_reducible assumption) | assumption)
                have q177 : x5_1 < (l1.length : Int) := of_decide_eq_true (by first | (with_reducible assumption) | assumption)
                obtain ⟨ad177, e177, hx177_0⟩ := Kd.at_int HR1.out x5_1 p177 q177
                cases e177
                replace p177 := eq_true p177
                replace q177 := eq_true q177
                go_wp2
                repeat (go_quiet (fail); try go_wp2)
                go_ret
                exact ⟨by first | rfl | (simp; done) | (simp [*]; done), by repeat (first | exact Drawn0.refl _ | apply Drawn0.step)⟩
            · rw [if_neg c6] at H
              exact absurd H (by simp)
          · rw [if_neg c5] at H
            exact absurd H (by simp)
        · rw [if_neg c4] at H
          have c4b0 : decide (x5_1 < (l0.length : Int)) = false := decide_eq_false c4
          clear c4
          obtain rfl := Option.some.inj H
          go_wp2
          repeat (go_quiet (fail); try go_wp2)
          go_ret
          exact ⟨by first | rfl | (simp; done) | (simp [*]; done), by repeat (first | exact Drawn0.refl _ | apply Drawn0.step)⟩
  · rw [if_neg c3] at H
    have c3b0 : ((l0.length : Int) == (l1.length : Int)) = false := beq_eq_false_iff_ne.mpr c3
    have c3b1 : ((l0.length : Int) != (l1.length : Int)) = true := bne_iff_ne.mpr c3
    have c3b2 : (l0.length == l1.length) = false := by first | simpa using c3 | (simp at c3 ⊢; omega)
    obtain rfl := Option.some.inj H
    go_enter Try.func20, Try.ntmps20
    go_wp2
    repeat (go_quiet (fail); try go_wp2)
    go_ret
    exact ⟨by first | rfl | (simp; done) | (simp [*]; done), by repeat (first | exact Drawn0.refl _ | apply Drawn0.step)⟩

end Go.Proofs.Ytnhipdniceoigaa.H

set_option linter.unusedVariables false
set_option linter.unusedSimpArgs false
namespace Go.Proofs.Ytnhipdniceoigaa.H
open Go.RowKit Go.Hay Go.Proofs.YtnhipdniceoigaaW.PrintWords Go.Proofs.YtnhipdniceoigaaW.PrintLast Go.Proofs.YtnhipdniceoigaaW.PrintMore
theorem num_loop (x y : List Int) (hl : x.length = y.length) (hx : x.length ≤ 9223372036854775807) : ∀ (n i : Nat), x.length - i = n → i ≤ x.length → Ev (fun k => haymowlaw06_numbers.l0 k x y i) (decide (x.drop i = y.drop i))
  | 0, i, hn, hi => by
    obtain rfl : i = x.length := by omega
    refine Ev.step (f := fun _ => some _) (fun k => ?_) (Ev.now _)
    rw [haymowlaw06_numbers.l0, if_neg (by omega), List.drop_length, List.drop_eq_nil_of_le (by omega)]
    rfl
  | n + 1, i, hn, hi => by
    have hlt : i < x.length := by omega
    have hly : i < y.length := by omega
    have e1 : rd x (i : Int) = x[i] := by simp [rd, hlt]
    have e2 : rd y (i : Int) = y[i] := by simp [rd, hly]
    rw [drop_cons hlt, drop_cons hly]
    by_cases h : x[i] = y[i]
    · have ih := num_loop x y hl hx n (i + 1) (by omega) (by omega)
      have e : decide (x[i] :: x.drop (i + 1) = y[i] :: y.drop (i + 1)) = decide (x.drop (i + 1) = y.drop (i + 1)) := decide_eq_decide.2 ⟨fun e => (List.cons.inj e).2, fun e => by rw [h, e]⟩
      rw [e]
      refine Ev.step (fun k => ?_) ih
      rw [haymowlaw06_numbers.l0, if_pos (by omega), if_pos (by omega), if_pos (by omega), e1, e2, if_pos h, wrap_id (x := (i : Int) + 1) (by omega) (by omega)]
      rfl
    · refine Ev.step (f := fun _ => some false) (fun k => ?_) (by rw [decide_eq_false (by intro e; injection e with e1 _; exact h e1)]; exact Ev.now _)
      rw [haymowlaw06_numbers.l0, if_pos (by omega), if_pos (by omega), if_pos (by omega), e1, e2, if_neg h]
theorem num_ev (x y : List Int) (hx : x.length ≤ 9223372036854775807) : Ev (fun k => haymowlaw06_numbers.f k x y) (decide (x = y)) := by
  by_cases h : x.length = y.length
  · refine Ev.congr (fun k => ?_) (num_loop x y h hx x.length 0 rfl (Nat.zero_le _))
    unfold haymowlaw06_numbers.f
    rw [if_pos (by omega)]
    rfl
  · rw [decide_eq_false (fun e => h (by rw [e]))]
    exact Ev.congr (fun k => by unfold haymowlaw06_numbers.f; rw [if_neg (by omega)]) (Ev.now _)
theorem num_is {r : Bool} (A0 : Option Addr) (c0 : Nat) (l0 : List Int) (A1 : Option Addr) (c1 : Nat) (l1 : List Int) (w : World) (hr : decide (l0 = l1) = r) (h0 : (Kd.int .i64).C w A0 l0.length l0) (hc0 : l0.length ≤ c0) (h1 : (Kd.int .i64).C w A1 l1.length l1) (hc1 : l1.length ≤ c1) (hx : l0.length ≤ 9223372036854775807) :
    Calls Try.prog 20 #[.slice A0 l0.length c0, .slice A1 l1.length c1] w fun e w' => e = .returned (.bool r) ∧ Drawn0 w w' := by
  obtain ⟨K, hK⟩ := num_ev l0 l1 hx
  rw [hr] at hK
  exact haymowlaw06_numbers.calls K A0 c0 l0 A1 c1 l1 r w h0 hc0 h1 hc1 (hK K (Nat.le_refl _))
end Go.Proofs.Ytnhipdniceoigaa.H

set_option linter.unusedVariables false
set_option linter.unusedSimpArgs false
namespace Go.Proofs.Ytnhipdniceoigaa.H
open Go.RowKit Go.Hay Go.Proofs.YtnhipdniceoigaaW.PrintWords Go.Proofs.YtnhipdniceoigaaW.PrintLast Go.Proofs.YtnhipdniceoigaaW.PrintMore
set_option maxRecDepth 100000 in
set_option maxHeartbeats 8000000 in
theorem enough_walk (Ap : Option Addr) (cp : Nat) (P : List S68) (Aa : Option Addr) (ca : Nat) (args : List Int) (b d more : Int) (w : World) (hmore : 0 ≤ more ∧ more < 256) (hP : k68.C w Ap P.length P) (hcp : P.length ≤ cp) (hA : (Kd.int .i64).C w Aa args.length args) (hca : args.length ≤ ca) :
    Calls Try.prog 5 #[.agg #[.slice Ap P.length cp, .slice Aa args.length ca, .int .i64 b, .int .i64 d], .int .u8 more] w fun e w' => e = .returned (.bool true) ∧ Below w.heap.size w w' := by
  obtain ⟨W1, hW1⟩ : ∃ W1, W1 = w.alloc (.cells #[.slice Ap P.length cp, .slice Aa args.length ca, .int .i64 b, .int .i64 d] 25) := ⟨_, rfl⟩
  have hb1 : Below w.heap.size w W1 := by rw [hW1]; exact (Below.refl w.heap.size w).alloc (Nat.le_refl _) _
  have hx1 : W1.heap[w.heap.size]? = some (.cells #[.slice Ap P.length cp, .slice Aa args.length ca, .int .i64 b, .int .i64 d] 25 (0, 0)) := by rw [hW1]; exact alloc_blk w _
  obtain ⟨lb, hlb, hlight⟩ := light_any Ap cp P W1 (Kd.C_below hP hb1) hcp
  have H0 := Aside0.mk (And.intro hP (And.intro hcp (And.intro hA (And.intro hca (And.intro hb1 hx1)))))
  have HL := Aside0.mk hlight
  have HMO := Aside0.mk hmore
  have HLB := Aside0.mk hlb
  have HW1 := Aside0.mk hW1
  have x0 := blk_cell hx1 0
  have x1 := blk_cell hx1 1
  clear hP hcp hA hca hb1 hx1 hlight hlb hW1 hmore
  go_enter Try.func5, Try.ntmps5
  go_upto_region 1 with (fail)
  rw [← HW1.out]
  go_wp2_with fail
  refine HL.out.mono ?_
  rintro e wA ⟨rfl, hb2⟩
  have HB2 := Aside0.mk (H0.out.2.2.2.2.1.trans (hb2.mono H0.out.2.2.2.2.1.size))
  have hx2 := (hb2.block _ (blk_lt H0.out.2.2.2.2.2)).trans H0.out.2.2.2.2.2
  have HX2 := Aside0.mk hx2
  have HLW := Aside0.mk hb2
  clear x0 x1 hb2 HW1
  have x0 := blk_cell hx2 0
  have x1 := blk_cell hx2 1
  clear hx2
  cases lb with
  | false =>
    clear HL HLB
    go_wp2_with fail
    go_ret
    exact ⟨rfl, HB2.out⟩
  | true =>
    obtain ⟨hl20, hl70⟩ := HLB.out rfl
    have HLL := Aside0.mk (And.intro hl20 hl70)
    clear HL HLB hl20 hl70
    by_cases hn : 20 < args.length
    · have hn2 : ((args.length : Int) > 20) = True := eq_true (by omega)
      clear hn
      go_wp2_with fail
      go_ret
      exact ⟨rfl, HB2.out⟩
    · have hn2 : ((args.length : Int) > 20) = False := eq_false (by omega)
      have HN := Aside0.mk hn
      clear hn
      have z2 := blk_cell HX2.out 2
      have z3 := blk_cell HX2.out 3
      obtain ⟨bl, hbl⟩ : ∃ bl, bl = wA.heap.size := ⟨_, rfl⟩
      obtain ⟨w2, hw2⟩ : ∃ w2, w2 = wA.alloc (.cells #[.int .i64 b, .int .i64 d] 37) := ⟨_, rfl⟩
      have hbw2 : Below wA.heap.size wA w2 := by rw [hw2]; exact (Below.refl wA.heap.size wA).alloc (Nat.le_refl _) _
      have hy2 : w2.heap[bl]? = some (.cells #[.int .i64 b, .int .i64 d] 37 (0, 0)) := by rw [hw2, hbl]; exact alloc_blk wA _
      have HW2 := Aside0.mk (And.intro hbl hw2)
      have HBW2 := Aside0.mk (HB2.out.trans (hbw2.mono HB2.out.size))
      have HXW2 := Aside0.mk ((hbw2.block _ (blk_lt HX2.out)).trans HX2.out)
      have HYW2 := Aside0.mk hy2
      clear hbl hw2 hbw2 hy2
      go_upto_region 4 with (fail)
      rw [← HW2.out.1, ← HW2.out.2]
      clear z2 z3
      refine wp_region_T (fun w' => Below (w2).heap.size (w2) w') [] (.takes [0, 1, 3, 4, 5] (.alt 2 10 (.alt 6 10 (.takes [7, 8, 9] (.op 10 (.op 11 (.op 12 .done)))) (.op 6 (.takes [7, 8, 9] (.op 11 (.op 12 .done))))) (.op 2 (.op 6 (.takes [7, 8, 9] (.op 11 (.op 12 .done))))))) (by kernel_rfl) (by kernel_rfl) (by kernel_rfl) (by kernel_rfl) (panic_via (P := Try.prog) (fn := Try.f5) (R := fun e w' => e = .returned (.bool true) ∧ Below w.heap.size w w') (fun _ _ _ => rfl)) ?_
      obtain ⟨wd, hwd⟩ : ∃ wd, wd = (w2).drew := ⟨_, rfl⟩
      rw [← hwd]
      have hs : Below (w2).heap.size (w2) wd := by rw [hwd]; exact (Below.refl _ _).drew
      clear hwd
      simp only [Turns.takes]
      repeat (
        (first
          | (refine runT_take (v := ?_) (by rfl) (by rfl) (fun w' hS => ?_) hs ?_
             rotate_left
             · (have hX := (hS.block _ (blk_lt HXW2.out)).trans HXW2.out; have d0 := blk_cell hX 0; have d1 := blk_cell hX 1; have hY := (hS.block _ (blk_lt HYW2.out)).trans HYW2.out; have y0 := blk_cell hY 0; have y1 := blk_cell hY 1; go_simp; exact rfl))
          | refine runT_skip (by rfl) (by rfl) hs ?_)
        (try simp only [Act.put, List.setIfInBounds_toArray, List.set_cons_zero, List.set_cons_succ]))
      rename_i K0 hK0
      obtain ⟨r, hr⟩ : ∃ r, r = evalR (P.map ofF) args b d 3000 := ⟨_, rfl⟩
      obtain ⟨⟨rv, rf, told, log⟩, r2⟩ := r
      have HR := Aside0.mk hr
      clear hr
      refine' with_act (F := fun bx A c At ct Al cl W => AfterE w2 W bx rv rf told log At ct Al cl) (K := K0) _ (fun hfin => ?_) ?_
      rotate_left
      · refine runT_alt (by rfl) (by rfl) (by rfl) (by rfl) (fun K hK => ?_) (fun K hK => ?_)
        · go_simp
          refine (of_any Ap cp P _ (Kd.C_below H0.out.1 ((HBW2).out.trans ((hs).mono (HBW2).out.size))) H0.out.2.1 HLL.out.1 HLL.out.2).mono ?_
          rintro e w3 ⟨hb3, A, c, rfl, hc, hC⟩
          have hs3 := (hs).trans (hb3.mono (hs).size)
          have H3 := Aside0.mk (And.intro hc (And.intro hC hb3))
          refine hK _ _ hs3 ?_
          clear hK K hb3 hc hC
          (try simp only [Act.put, List.setIfInBounds_toArray, List.set_cons_zero, List.set_cons_succ])
          refine runT_alt (by rfl) (by rfl) (by rfl) (by rfl) (fun K hK => ?_) (fun K hK => ?_)
          · go_simp
            have hA3 := Kd.C_below H0.out.2.2.1 ((HBW2).out.trans ((hs3).mono (HBW2).out.size))
            refine (eval_of A c P Aa ca args b d 3000 w3 (Kd.C_below H3.out.2.1 (Below.refl _ _)) H3.out.1 hA3 H0.out.2.2.2.1 ((by decide)) HR.out).mono ?_
            rintro e w4 ⟨⟨At, ct, Al, cl, rfl, hrc⟩, hb4⟩
            have hs4 := (hs3).trans (hb4.mono (hs3).size)
            have H4 := Aside0.mk (And.intro hrc hb4)
            obtain ⟨V, hV⟩ : ∃ V, V = resV (((rv, rf, told, log), r2) : EvR).1 At ct Al cl := ⟨_, rfl⟩
            rw [← hV]
            have HV := Aside0.mk hV
            refine hK _ _ hs4 ?_
            clear hK K hb4 hrc hA3 hV
            (try simp only [Act.put, List.setIfInBounds_toArray, List.set_cons_zero, List.set_cons_succ])
            have hs := hs4
            repeat (
              (first
                | (refine runT_take (v := ?_) (by rfl) (by rfl) (fun w' hS => ?_) hs ?_
                   rotate_left
                   · (skip; go_simp; exact rfl))
                | refine runT_skip (by rfl) (by rfl) hs ?_)
              (try simp only [Act.put, List.setIfInBounds_toArray, List.set_cons_zero, List.set_cons_succ]))
            refine runT_op (by rfl) (by rfl) (fun K hK => ?_)
            go_simp
            obtain ⟨bx, hbx⟩ : ∃ bx, bx = (w4).heap.size := ⟨_, rfl⟩
            rw [← hbx]
            obtain ⟨w5, hw5⟩ : ∃ w5, w5 = (w4).alloc (.cells #[.int .i64 0, .int .i64 0, .slice none 0 0, .slice none 0 0] 30) := ⟨_, rfl⟩
            rw [← hw5]
            have hb5 : Below (w4).heap.size (w4) w5 := by rw [hw5]; exact (Below.refl (w4).heap.size (w4)).alloc (Nat.le_refl _) _
            have hx5 : w5.heap[bx]? = some zRes := by rw [hw5, hbx]; exact alloc_blk (w4) _
            have hs5 := (hs4).trans (hb5.mono (hs4).size)
            have H5 := Aside0.mk (And.intro hb5 (And.intro hx5 (show (w2).heap.size ≤ bx by rw [hbx]; exact (hs4).size)))
            refine hK _ _ hs5 ?_
            clear hK K hb5 hbx hw5 hx5
            (try simp only [Act.put, List.setIfInBounds_toArray, List.set_cons_zero, List.set_cons_succ])
            have hbox := H5.out.2.1
            rw [HV.out, show resV (((rv, rf, told, log), r2) : EvR).1 At ct Al cl = .agg #[.int .i64 rv, .int .i64 rf, .slice At told.length ct, .slice Al log.length cl] from rfl]
            have q0 := blk_cell hbox 0
            have q1 := blk_cell hbox 1
            have q2 := blk_cell hbox 2
            have q3 := blk_cell hbox 3
            have f0 := blk_frozen hbox 0
            have f1 := blk_frozen hbox 1
            have f2 := blk_frozen hbox 2
            have f3 := blk_frozen hbox 3
            refine runT_op (by rfl) (by rfl) (fun K hK => ?_)
            go_simp
            obtain ⟨W, hW⟩ : ∃ W, W = ((((w5).setCell ⟨bx, 0, none⟩ (.int .i64 rv)).setCell ⟨bx, 1, none⟩ (.int .i64 rf)).setCell ⟨bx, 2, none⟩ (.slice At told.length ct)).setCell ⟨bx, 3, none⟩ (.slice Al log.length cl) := ⟨_, rfl⟩
            rw [← hW]
            have hAE := after_store hs5 hbox H5.out.2.2 (H4.out.1.below H5.out.1) hW
            have HAE := Aside0.mk hAE
            refine hK _ _ hAE.below ?_
            clear hK K q0 q1 q2 q3 f0 f1 f2 f3 hW
            (try simp only [Act.put, List.setIfInBounds_toArray, List.set_cons_zero, List.set_cons_succ])
            refine runT_op (by rfl) (by rfl) (fun K hK => ?_)
            go_simp
            refine hK _ _ hAE.below ?_
            clear hK K hAE
            (try simp only [Act.put, List.setIfInBounds_toArray, List.set_cons_zero, List.set_cons_succ])
            refine runT_done ?_
            exact hfin bx A c At ct Al cl W HAE.out
          · go_simp
            obtain ⟨bx, hbx⟩ : ∃ bx, bx = (w3).heap.size := ⟨_, rfl⟩
            rw [← hbx]
            obtain ⟨w5, hw5⟩ : ∃ w5, w5 = (w3).alloc (.cells #[.int .i64 0, .int .i64 0, .slice none 0 0, .slice none 0 0] 30) := ⟨_, rfl⟩
            rw [← hw5]
            have hb5 : Below (w3).heap.size (w3) w5 := by rw [hw5]; exact (Below.refl (w3).heap.size (w3)).alloc (Nat.le_refl _) _
            have hx5 : w5.heap[bx]? = some zRes := by rw [hw5, hbx]; exact alloc_blk (w3) _
            have hs5 := (hs3).trans (hb5.mono (hs3).size)
            have H5 := Aside0.mk (And.intro hb5 (And.intro hx5 (show (w2).heap.size ≤ bx by rw [hbx]; exact (hs3).size)))
            refine hK _ _ hs5 ?_
            clear hK K hb5 hbx hw5 hx5
            (try simp only [Act.put, List.setIfInBounds_toArray, List.set_cons_zero, List.set_cons_succ])
            refine runT_op (by rfl) (by rfl) (fun K hK => ?_)
            go_simp
            have hA3 := Kd.C_below H0.out.2.2.1 ((HBW2).out.trans ((hs5).mono (HBW2).out.size))
            refine (eval_of A c P Aa ca args b d 3000 w5 (Kd.C_below H3.out.2.1 H5.out.1) H3.out.1 hA3 H0.out.2.2.2.1 ((by decide)) HR.out).mono ?_
            rintro e w4 ⟨⟨At, ct, Al, cl, rfl, hrc⟩, hb4⟩
            have hs4 := (hs5).trans (hb4.mono (hs5).size)
            have H4 := Aside0.mk (And.intro hrc hb4)
            obtain ⟨V, hV⟩ : ∃ V, V = resV (((rv, rf, told, log), r2) : EvR).1 At ct Al cl := ⟨_, rfl⟩
            rw [← hV]
            have HV := Aside0.mk hV
            refine hK _ _ hs4 ?_
            clear hK K hb4 hrc hA3 hV
            (try simp only [Act.put, List.setIfInBounds_toArray, List.set_cons_zero, List.set_cons_succ])
            have hs := hs4
            repeat (
              (first
                | (refine runT_take (v := ?_) (by rfl) (by rfl) (fun w' hS => ?_) hs ?_
                   rotate_left
                   · (skip; go_simp; exact rfl))
                | refine runT_skip (by rfl) (by rfl) hs ?_)
              (try simp only [Act.put, List.setIfInBounds_toArray, List.set_cons_zero, List.set_cons_succ]))
            have hbox := ((H4.out.2.block _ (blk_lt H5.out.2.1)).trans H5.out.2.1)
            rw [HV.out, show resV (((rv, rf, told, log), r2) : EvR).1 At ct Al cl = .agg #[.int .i64 rv, .int .i64 rf, .slice At told.length ct, .slice Al log.length cl] from rfl]
            have q0 := blk_cell hbox 0
            have q1 := blk_cell hbox 1
            have q2 := blk_cell hbox 2
            have q3 := blk_cell hbox 3
            have f0 := blk_frozen hbox 0
            have f1 := blk_frozen hbox 1
            have f2 := blk_frozen hbox 2
            have f3 := blk_frozen hbox 3
            refine runT_op (by rfl) (by rfl) (fun K hK => ?_)
            go_simp
            obtain ⟨W, hW⟩ : ∃ W, W = ((((w4).setCell ⟨bx, 0, none⟩ (.int .i64 rv)).setCell ⟨bx, 1, none⟩ (.int .i64 rf)).setCell ⟨bx, 2, none⟩ (.slice At told.length ct)).setCell ⟨bx, 3, none⟩ (.slice Al log.length cl) := ⟨_, rfl⟩
            rw [← hW]
            have hAE := after_store hs4 hbox H5.out.2.2 H4.out.1 hW
            have HAE := Aside0.mk hAE
            refine hK _ _ hAE.below ?_
            clear hK K q0 q1 q2 q3 f0 f1 f2 f3 hW
            (try simp only [Act.put, List.setIfInBounds_toArray, List.set_cons_zero, List.set_cons_succ])
            refine runT_op (by rfl) (by rfl) (fun K hK => ?_)
            go_simp
            refine hK _ _ hAE.below ?_
            clear hK K hAE
            (try simp only [Act.put, List.setIfInBounds_toArray, List.set_cons_zero, List.set_cons_succ])
            refine runT_done ?_
            exact hfin bx A c At ct Al cl W HAE.out
        · go_simp
          obtain ⟨bx, hbx⟩ : ∃ bx, bx = (wd).heap.size := ⟨_, rfl⟩
          rw [← hbx]
          obtain ⟨w5, hw5⟩ : ∃ w5, w5 = (wd).alloc (.cells #[.int .i64 0, .int .i64 0, .slice none 0 0, .slice none 0 0] 30) := ⟨_, rfl⟩
          rw [← hw5]
          have hb5 : Below (wd).heap.size (wd) w5 := by rw [hw5]; exact (Below.refl (wd).heap.size (wd)).alloc (Nat.le_refl _) _
          have hx5 : w5.heap[bx]? = some zRes := by rw [hw5, hbx]; exact alloc_blk (wd) _
          have hs5 := (hs).trans (hb5.mono (hs).size)
          have H5 := Aside0.mk (And.intro hb5 (And.intro hx5 (show (w2).heap.size ≤ bx by rw [hbx]; exact (hs).size)))
          refine hK _ _ hs5 ?_
          clear hK K hb5 hbx hw5 hx5
          (try simp only [Act.put, List.setIfInBounds_toArray, List.set_cons_zero, List.set_cons_succ])
          refine runT_op (by rfl) (by rfl) (fun K hK => ?_)
          go_simp
          refine (of_any Ap cp P _ (Kd.C_below H0.out.1 ((HBW2).out.trans ((hs5).mono (HBW2).out.size))) H0.out.2.1 HLL.out.1 HLL.out.2).mono ?_
          rintro e w3 ⟨hb3, A, c, rfl, hc, hC⟩
          have hs3 := (hs5).trans (hb3.mono (hs5).size)
          have H3 := Aside0.mk (And.intro hc (And.intro hC hb3))
          refine hK _ _ hs3 ?_
          clear hK K hb3 hc hC
          (try simp only [Act.put, List.setIfInBounds_toArray, List.set_cons_zero, List.set_cons_succ])
          refine runT_op (by rfl) (by rfl) (fun K hK => ?_)
          go_simp
          have hA3 := Kd.C_below H0.out.2.2.1 ((HBW2).out.trans ((hs3).mono (HBW2).out.size))
          refine (eval_of A c P Aa ca args b d 3000 w3 (Kd.C_below H3.out.2.1 (Below.refl _ _)) H3.out.1 hA3 H0.out.2.2.2.1 ((by decide)) HR.out).mono ?_
          rintro e w4 ⟨⟨At, ct, Al, cl, rfl, hrc⟩, hb4⟩
          have hs4 := (hs3).trans (hb4.mono (hs3).size)
          have H4 := Aside0.mk (And.intro hrc hb4)
          obtain ⟨V, hV⟩ : ∃ V, V = resV (((rv, rf, told, log), r2) : EvR).1 At ct Al cl := ⟨_, rfl⟩
          rw [← hV]
          have HV := Aside0.mk hV
          refine hK _ _ hs4 ?_
          clear hK K hb4 hrc hA3 hV
          (try simp only [Act.put, List.setIfInBounds_toArray, List.set_cons_zero, List.set_cons_succ])
          have hs := hs4
          repeat (
            (first
              | (refine runT_take (v := ?_) (by rfl) (by rfl) (fun w' hS => ?_) hs ?_
                 rotate_left
                 · (skip; go_simp; exact rfl))
              | refine runT_skip (by rfl) (by rfl) hs ?_)
            (try simp only [Act.put, List.setIfInBounds_toArray, List.set_cons_zero, List.set_cons_succ]))
          have hbox := ((H4.out.2.block _ (Nat.lt_of_lt_of_le (blk_lt H5.out.2.1) H3.out.2.2.size)).trans ((H3.out.2.2.block _ (blk_lt H5.out.2.1)).trans H5.out.2.1))
          rw [HV.out, show resV (((rv, rf, told, log), r2) : EvR).1 At ct Al cl = .agg #[.int .i64 rv, .int .i64 rf, .slice At told.length ct, .slice Al log.length cl] from rfl]
          have q0 := blk_cell hbox 0
          have q1 := blk_cell hbox 1
          have q2 := blk_cell hbox 2
          have q3 := blk_cell hbox 3
          have f0 := blk_frozen hbox 0
          have f1 := blk_frozen hbox 1
          have f2 := blk_frozen hbox 2
          have f3 := blk_frozen hbox 3
          refine runT_op (by rfl) (by rfl) (fun K hK => ?_)
          go_simp
          obtain ⟨W, hW⟩ : ∃ W, W = ((((w4).setCell ⟨bx, 0, none⟩ (.int .i64 rv)).setCell ⟨bx, 1, none⟩ (.int .i64 rf)).setCell ⟨bx, 2, none⟩ (.slice At told.length ct)).setCell ⟨bx, 3, none⟩ (.slice Al log.length cl) := ⟨_, rfl⟩
          rw [← hW]
          have hAE := after_store hs4 hbox H5.out.2.2 H4.out.1 hW
          have HAE := Aside0.mk hAE
          refine hK _ _ hAE.below ?_
          clear hK K q0 q1 q2 q3 f0 f1 f2 f3 hW
          (try simp only [Act.put, List.setIfInBounds_toArray, List.set_cons_zero, List.set_cons_succ])
          refine runT_op (by rfl) (by rfl) (fun K hK => ?_)
          go_simp
          refine hK _ _ hAE.below ?_
          clear hK K hAE
          (try simp only [Act.put, List.setIfInBounds_toArray, List.set_cons_zero, List.set_cons_succ])
          refine runT_done ?_
          exact hfin bx A c At ct Al cl W HAE.out
      · intro bx A c At ct Al cl WA hAE
        have HAE := Aside0.mk hAE
        have HB5 := Aside0.mk (HBW2.out.trans (hAE.below.mono HBW2.out.size))
        have HX5 := Aside0.mk ((hAE.below.block _ (blk_lt HXW2.out)).trans HXW2.out)
        have HY5 := Aside0.mk ((hAE.below.block _ (blk_lt HYW2.out)).trans HYW2.out)
        have q3 := blk_cell hAE.box 3
        clear hAE hs x0 x1 HLW
        by_cases h0 : r2 = 0
        · obtain ⟨hrt, hv, hbk, htot, hmore, hless⟩ := evalR_book (by rw [← HR.out, h0])
          have HBK := Aside0.mk (And.intro hbk (And.intro htot (And.intro hmore hless)))
          have hr0 : (r2 != 0) = false := by simp [h0]
          obtain ⟨ad, had, hlc⟩ := log_cells HAE.out.res (by obtain ⟨s, r, e⟩ := hbk.ne; show 0 < log.length; rw [show log = _ from e]; simp)
          have HLC := Aside0.mk hlc
          clear HR h0 hrt hv hbk htot hlc hmore hless
          subst had
          obtain ⟨L, hL⟩ : ∃ L, L = log.length := ⟨_, rfl⟩
          rw [← hL] at q3 ⊢
          have HLL2 := Aside0.mk hL
          clear hL
          go_wp2_with fail
          go_loopw [8, 9] (fun v8 v9 wr => ∃ i : Nat, v8 = .int .i64 (tot (log.take i)) ∧ v9 = .int .i64 i ∧ i ≤ L ∧ wr = WA) (fun _ v9 _ => L - (intOf v9).toNat)
          case atStart => exact ⟨0, rfl, rfl, Nat.zero_le _, rfl⟩
          case round =>
            obtain ⟨i, rfl, rfl, hi, rfl⟩ := hrel
            by_cases hik : i < L
            · obtain ⟨E, A0, c0, e1, hsm⟩ : ∃ (E : List Int × Int) (A0 : Option Addr) (c0 : Nat), wr.cell? ⟨(ad.add (i * 2)).block, (ad.add (i * 2)).off + 1, none⟩ = some (.int .i64 E.2) ∧ tot (log.take (i + 1)) = tot (log.take i) + E.2 := by
                obtain ⟨A0, c0, e0, e1, e2, e3⟩ := HLC.out i (HLL2.out ▸ hik)
                exact ⟨log[i]'(HLL2.out ▸ hik), A0, c0, e1, tot_take log i (HLL2.out ▸ hik)⟩
              have hlt : ((i : Int) < (L : Nat)) = True := eq_true (by omega)
              have hw8 : IntKind.i64.wrap ((i : Int) + 1) = (i : Int) + 1 := IntWalk.i64_in _ (by have h9 : log.length ≤ 9223372036854775807 := HAE.out.res.log.2.1; have := HLL2.out; omega)
              have hw9 : IntKind.i64.wrap (tot (log.take i) + E.2) = tot (log.take (i + 1)) := by
                rw [← hsm]
                have := tot_le HBK.out.1 (i + 1)
                exact IntWalk.i64_in _ (by omega)
              have HI := Aside0.mk hik
              clear hi hsm hik
              go_wp2_with fail
              go_roundw
              case rel => exact ⟨i + 1, rfl, by go_num, HI.out, trivial⟩
              case measure => exact up_lt HI.out
            · obtain rfl : i = L := Nat.le_antisymm hi (Nat.le_of_not_lt hik)
              clear hik hi
              have hTe : tot (log.take i) = tot log := by rw [HLL2.out, List.take_length]
              rw [hTe]
              obtain ⟨U, hU⟩ : ∃ U : Nat, U = (tot log).toNat := ⟨_, rfl⟩
              have hTU : tot log = (U : Int) := by have h := HBK.out.2.1; have h2 : 1 ≤ tot log := h; omega
              have hUm : 1 ≤ U ∧ U ≤ 3000 := by have h := HBK.out.2.1; have h2 : 1 ≤ tot log := h; have h3 := HBK.out.1.sum; have h4 : tot log ≤ (3000 : Nat) := h3; omega
              rw [hTU]
              have HU := Aside0.mk (And.intro hU hUm)
              have hwm : IntKind.i64.wrap more = more := IntWalk.i64_in _ (by have := HMO.out; omega)
              have hwn : IntKind.i64.wrap ((U : Int) + more) = (U : Int) + more := IntWalk.i64_in _ (by have := HMO.out; omega)
              clear hTe hTU hU hUm
              go_upto_region 12 with (fail)
              clear q3
              refine wp_region_T (fun w' => Below (wr).heap.size (wr) w') [] (.takes [0, 1, 3, 4, 5, 6, 7, 8, 9] (.alt 2 14 (.alt 10 14 (.takes [11, 12, 13] (.op 14 (.op 15 (.op 16 .done)))) (.op 10 (.takes [11, 12, 13] (.op 15 (.op 16 .done))))) (.op 2 (.op 10 (.takes [11, 12, 13] (.op 15 (.op 16 .done))))))) (by kernel_rfl) (by kernel_rfl) (by kernel_rfl) (by kernel_rfl) (panic_via (P := Try.prog) (fn := Try.f5) (R := fun e w' => e = .returned (.bool true) ∧ Below w.heap.size w w') (fun _ _ _ => rfl)) ?_
              obtain ⟨wd, hwd⟩ : ∃ wd, wd = (wr).drew := ⟨_, rfl⟩
              rw [← hwd]
              have hs : Below (wr).heap.size (wr) wd := by rw [hwd]; exact (Below.refl _ _).drew
              clear hwd
              simp only [Turns.takes]
              repeat (
                (first
                  | (refine runT_take (v := ?_) (by rfl) (by rfl) (fun w' hS => ?_) hs ?_
                     rotate_left
                     · (have hX := (hS.block _ (blk_lt HX5.out)).trans HX5.out; have d0 := blk_cell hX 0; have d1 := blk_cell hX 1; have hY := (hS.block _ (blk_lt HY5.out)).trans HY5.out; have y0 := blk_cell hY 0; have y1 := blk_cell hY 1; go_simp; exact rfl))
                  | refine runT_skip (by rfl) (by rfl) hs ?_)
                (try simp only [Act.put, List.setIfInBounds_toArray, List.set_cons_zero, List.set_cons_succ]))
              rename_i K1 hK1
              obtain ⟨r2, hr2⟩ : ∃ r2 : Int, r2 = 0 := ⟨_, rfl⟩
              have HR := Aside0.mk (show (((rv, rf, told, log), r2) : EvR) = evalR (P.map ofF) args b d ((U : Int) + more).toNat by
                rw [hr2]
                obtain ⟨m, hm⟩ : ∃ m : Nat, more = m := ⟨more.toNat, by have := HMO.out; omega⟩
                have h := HBK.out.2.2.1 m
                rw [hm, show ((U : Int) + (m : Int)).toNat = U + m by omega, HU.out.1]
                exact h.symm)
              have HR2 := Aside0.mk hr2
              have HM9 := Aside0.mk (show (U : Int) + more ≤ 900000 by have := HMO.out; have := HU.out.2; omega)
              clear hr2
              refine' with_act (F := fun bx A c At ct Al cl W => AfterE wr W bx rv rf told log At ct Al cl) (K := K1) _ (fun hfin => ?_) ?_
              rotate_left
              · refine runT_alt (by rfl) (by rfl) (by rfl) (by rfl) (fun K hK => ?_) (fun K hK => ?_)
                · go_simp
                  refine (of_any Ap cp P _ (Kd.C_below H0.out.1 ((HB5).out.trans ((hs).mono (HB5).out.size))) H0.out.2.1 HLL.out.1 HLL.out.2).mono ?_
                  rintro e w3 ⟨hb3, A, c, rfl, hc, hC⟩
                  have hs3 := (hs).trans (hb3.mono (hs).size)
                  have H3 := Aside0.mk (And.intro hc (And.intro hC hb3))
                  refine hK _ _ hs3 ?_
                  clear hK K hb3 hc hC
                  (try simp only [Act.put, List.setIfInBounds_toArray, List.set_cons_zero, List.set_cons_succ])
                  refine runT_alt (by rfl) (by rfl) (by rfl) (by rfl) (fun K hK => ?_) (fun K hK => ?_)
                  · go_simp
                    have hA3 := Kd.C_below H0.out.2.2.1 ((HB5).out.trans ((hs3).mono (HB5).out.size))
                    refine (eval_of A c P Aa ca args b d ((U : Int) + more) w3 (Kd.C_below H3.out.2.1 (Below.refl _ _)) H3.out.1 hA3 H0.out.2.2.2.1 (HM9.out) HR.out).mono ?_
                    rintro e w4 ⟨⟨At, ct, Al, cl, rfl, hrc⟩, hb4⟩
                    have hs4 := (hs3).trans (hb4.mono (hs3).size)
                    have H4 := Aside0.mk (And.intro hrc hb4)
                    obtain ⟨V, hV⟩ : ∃ V, V = resV (((rv, rf, told, log), r2) : EvR).1 At ct Al cl := ⟨_, rfl⟩
                    rw [← hV]
                    have HV := Aside0.mk hV
                    refine hK _ _ hs4 ?_
                    clear hK K hb4 hrc hA3 hV
                    (try simp only [Act.put, List.setIfInBounds_toArray, List.set_cons_zero, List.set_cons_succ])
                    have hs := hs4
                    repeat (
                      (first
                        | (refine runT_take (v := ?_) (by rfl) (by rfl) (fun w' hS => ?_) hs ?_
                           rotate_left
                           · (skip; go_simp; exact rfl))
                        | refine runT_skip (by rfl) (by rfl) hs ?_)
                      (try simp only [Act.put, List.setIfInBounds_toArray, List.set_cons_zero, List.set_cons_succ]))
                    refine runT_op (by rfl) (by rfl) (fun K hK => ?_)
                    go_simp
                    obtain ⟨bx, hbx⟩ : ∃ bx, bx = (w4).heap.size := ⟨_, rfl⟩
                    rw [← hbx]
                    obtain ⟨w5, hw5⟩ : ∃ w5, w5 = (w4).alloc (.cells #[.int .i64 0, .int .i64 0, .slice none 0 0, .slice none 0 0] 30) := ⟨_, rfl⟩
                    rw [← hw5]
                    have hb5 : Below (w4).heap.size (w4) w5 := by rw [hw5]; exact (Below.refl (w4).heap.size (w4)).alloc (Nat.le_refl _) _
                    have hx5 : w5.heap[bx]? = some zRes := by rw [hw5, hbx]; exact alloc_blk (w4) _
                    have hs5 := (hs4).trans (hb5.mono (hs4).size)
                    have H5 := Aside0.mk (And.intro hb5 (And.intro hx5 (show (wr).heap.size ≤ bx by rw [hbx]; exact (hs4).size)))
                    refine hK _ _ hs5 ?_
                    clear hK K hb5 hbx hw5 hx5
                    (try simp only [Act.put, List.setIfInBounds_toArray, List.set_cons_zero, List.set_cons_succ])
                    have hbox := H5.out.2.1
                    rw [HV.out, show resV (((rv, rf, told, log), r2) : EvR).1 At ct Al cl = .agg #[.int .i64 rv, .int .i64 rf, .slice At told.length ct, .slice Al log.length cl] from rfl]
                    have q0 := blk_cell hbox 0
                    have q1 := blk_cell hbox 1
                    have q2 := blk_cell hbox 2
                    have q3 := blk_cell hbox 3
                    have f0 := blk_frozen hbox 0
                    have f1 := blk_frozen hbox 1
                    have f2 := blk_frozen hbox 2
                    have f3 := blk_frozen hbox 3
                    refine runT_op (by rfl) (by rfl) (fun K hK => ?_)
                    go_simp
                    obtain ⟨W, hW⟩ : ∃ W, W = ((((w5).setCell ⟨bx, 0, none⟩ (.int .i64 rv)).setCell ⟨bx, 1, none⟩ (.int .i64 rf)).setCell ⟨bx, 2, none⟩ (.slice At told.length ct)).setCell ⟨bx, 3, none⟩ (.slice Al log.length cl) := ⟨_, rfl⟩
                    rw [← hW]
                    have hAE := after_store hs5 hbox H5.out.2.2 (H4.out.1.below H5.out.1) hW
                    have HAE := Aside0.mk hAE
                    refine hK _ _ hAE.below ?_
                    clear hK K q0 q1 q2 q3 f0 f1 f2 f3 hW
                    (try simp only [Act.put, List.setIfInBounds_toArray, List.set_cons_zero, List.set_cons_succ])
                    refine runT_op (by rfl) (by rfl) (fun K hK => ?_)
                    go_simp
                    refine hK _ _ hAE.below ?_
                    clear hK K hAE
                    (try simp only [Act.put, List.setIfInBounds_toArray, List.set_cons_zero, List.set_cons_succ])
                    refine runT_done ?_
                    exact hfin bx A c At ct Al cl W HAE.out
                  · go_simp
                    obtain ⟨bx, hbx⟩ : ∃ bx, bx = (w3).heap.size := ⟨_, rfl⟩
                    rw [← hbx]
                    obtain ⟨w5, hw5⟩ : ∃ w5, w5 = (w3).alloc (.cells #[.int .i64 0, .int .i64 0, .slice none 0 0, .slice none 0 0] 30) := ⟨_, rfl⟩
                    rw [← hw5]
                    have hb5 : Below (w3).heap.size (w3) w5 := by rw [hw5]; exact (Below.refl (w3).heap.size (w3)).alloc (Nat.le_refl _) _
                    have hx5 : w5.heap[bx]? = some zRes := by rw [hw5, hbx]; exact alloc_blk (w3) _
                    have hs5 := (hs3).trans (hb5.mono (hs3).size)
                    have H5 := Aside0.mk (And.intro hb5 (And.intro hx5 (show (wr).heap.size ≤ bx by rw [hbx]; exact (hs3).size)))
                    refine hK _ _ hs5 ?_
                    clear hK K hb5 hbx hw5 hx5
                    (try simp only [Act.put, List.setIfInBounds_toArray, List.set_cons_zero, List.set_cons_succ])
                    refine runT_op (by rfl) (by rfl) (fun K hK => ?_)
                    go_simp
                    have hA3 := Kd.C_below H0.out.2.2.1 ((HB5).out.trans ((hs5).mono (HB5).out.size))
                    refine (eval_of A c P Aa ca args b d ((U : Int) + more) w5 (Kd.C_below H3.out.2.1 H5.out.1) H3.out.1 hA3 H0.out.2.2.2.1 (HM9.out) HR.out).mono ?_
                    rintro e w4 ⟨⟨At, ct, Al, cl, rfl, hrc⟩, hb4⟩
                    have hs4 := (hs5).trans (hb4.mono (hs5).size)
                    have H4 := Aside0.mk (And.intro hrc hb4)
                    obtain ⟨V, hV⟩ : ∃ V, V = resV (((rv, rf, told, log), r2) : EvR).1 At ct Al cl := ⟨_, rfl⟩
                    rw [← hV]
                    have HV := Aside0.mk hV
                    refine hK _ _ hs4 ?_
                    clear hK K hb4 hrc hA3 hV
                    (try simp only [Act.put, List.setIfInBounds_toArray, List.set_cons_zero, List.set_cons_succ])
                    have hs := hs4
                    repeat (
                      (first
                        | (refine runT_take (v := ?_) (by rfl) (by rfl) (fun w' hS => ?_) hs ?_
                           rotate_left
                           · (skip; go_simp; exact rfl))
                        | refine runT_skip (by rfl) (by rfl) hs ?_)
                      (try simp only [Act.put, List.setIfInBounds_toArray, List.set_cons_zero, List.set_cons_succ]))
                    have hbox := ((H4.out.2.block _ (blk_lt H5.out.2.1)).trans H5.out.2.1)
                    rw [HV.out, show resV (((rv, rf, told, log), r2) : EvR).1 At ct Al cl = .agg #[.int .i64 rv, .int .i64 rf, .slice At told.length ct, .slice Al log.length cl] from rfl]
                    have q0 := blk_cell hbox 0
                    have q1 := blk_cell hbox 1
                    have q2 := blk_cell hbox 2
                    have q3 := blk_cell hbox 3
                    have f0 := blk_frozen hbox 0
                    have f1 := blk_frozen hbox 1
                    have f2 := blk_frozen hbox 2
                    have f3 := blk_frozen hbox 3
                    refine runT_op (by rfl) (by rfl) (fun K hK => ?_)
                    go_simp
                    obtain ⟨W, hW⟩ : ∃ W, W = ((((w4).setCell ⟨bx, 0, none⟩ (.int .i64 rv)).setCell ⟨bx, 1, none⟩ (.int .i64 rf)).setCell ⟨bx, 2, none⟩ (.slice At told.length ct)).setCell ⟨bx, 3, none⟩ (.slice Al log.length cl) := ⟨_, rfl⟩
                    rw [← hW]
                    have hAE := after_store hs4 hbox H5.out.2.2 H4.out.1 hW
                    have HAE := Aside0.mk hAE
                    refine hK _ _ hAE.below ?_
                    clear hK K q0 q1 q2 q3 f0 f1 f2 f3 hW
                    (try simp only [Act.put, List.setIfInBounds_toArray, List.set_cons_zero, List.set_cons_succ])
                    refine runT_op (by rfl) (by rfl) (fun K hK => ?_)
                    go_simp
                    refine hK _ _ hAE.below ?_
                    clear hK K hAE
                    (try simp only [Act.put, List.setIfInBounds_toArray, List.set_cons_zero, List.set_cons_succ])
                    refine runT_done ?_
                    exact hfin bx A c At ct Al cl W HAE.out
                · go_simp
                  obtain ⟨bx, hbx⟩ : ∃ bx, bx = (wd).heap.size := ⟨_, rfl⟩
                  rw [← hbx]
                  obtain ⟨w5, hw5⟩ : ∃ w5, w5 = (wd).alloc (.cells #[.int .i64 0, .int .i64 0, .slice none 0 0, .slice none 0 0] 30) := ⟨_, rfl⟩
                  rw [← hw5]
                  have hb5 : Below (wd).heap.size (wd) w5 := by rw [hw5]; exact (Below.refl (wd).heap.size (wd)).alloc (Nat.le_refl _) _
                  have hx5 : w5.heap[bx]? = some zRes := by rw [hw5, hbx]; exact alloc_blk (wd) _
                  have hs5 := (hs).trans (hb5.mono (hs).size)
                  have H5 := Aside0.mk (And.intro hb5 (And.intro hx5 (show (wr).heap.size ≤ bx by rw [hbx]; exact (hs).size)))
                  refine hK _ _ hs5 ?_
                  clear hK K hb5 hbx hw5 hx5
                  (try simp only [Act.put, List.setIfInBounds_toArray, List.set_cons_zero, List.set_cons_succ])
                  refine runT_op (by rfl) (by rfl) (fun K hK => ?_)
                  go_simp
                  refine (of_any Ap cp P _ (Kd.C_below H0.out.1 ((HB5).out.trans ((hs5).mono (HB5).out.size))) H0.out.2.1 HLL.out.1 HLL.out.2).mono ?_
                  rintro e w3 ⟨hb3, A, c, rfl, hc, hC⟩
                  have hs3 := (hs5).trans (hb3.mono (hs5).size)
                  have H3 := Aside0.mk (And.intro hc (And.intro hC hb3))
                  refine hK _ _ hs3 ?_
                  clear hK K hb3 hc hC
                  (try simp only [Act.put, List.setIfInBounds_toArray, List.set_cons_zero, List.set_cons_succ])
                  refine runT_op (by rfl) (by rfl) (fun K hK => ?_)
                  go_simp
                  have hA3 := Kd.C_below H0.out.2.2.1 ((HB5).out.trans ((hs3).mono (HB5).out.size))
                  refine (eval_of A c P Aa ca args b d ((U : Int) + more) w3 (Kd.C_below H3.out.2.1 (Below.refl _ _)) H3.out.1 hA3 H0.out.2.2.2.1 (HM9.out) HR.out).mono ?_
                  rintro e w4 ⟨⟨At, ct, Al, cl, rfl, hrc⟩, hb4⟩
                  have hs4 := (hs3).trans (hb4.mono (hs3).size)
                  have H4 := Aside0.mk (And.intro hrc hb4)
                  obtain ⟨V, hV⟩ : ∃ V, V = resV (((rv, rf, told, log), r2) : EvR).1 At ct Al cl := ⟨_, rfl⟩
                  rw [← hV]
                  have HV := Aside0.mk hV
                  refine hK _ _ hs4 ?_
                  clear hK K hb4 hrc hA3 hV
                  (try simp only [Act.put, List.setIfInBounds_toArray, List.set_cons_zero, List.set_cons_succ])
                  have hs := hs4
                  repeat (
                    (first
                      | (refine runT_take (v := ?_) (by rfl) (by rfl) (fun w' hS => ?_) hs ?_
                         rotate_left
                         · (skip; go_simp; exact rfl))
                      | refine runT_skip (by rfl) (by rfl) hs ?_)
                    (try simp only [Act.put, List.setIfInBounds_toArray, List.set_cons_zero, List.set_cons_succ]))
                  have hbox := ((H4.out.2.block _ (Nat.lt_of_lt_of_le (blk_lt H5.out.2.1) H3.out.2.2.size)).trans ((H3.out.2.2.block _ (blk_lt H5.out.2.1)).trans H5.out.2.1))
                  rw [HV.out, show resV (((rv, rf, told, log), r2) : EvR).1 At ct Al cl = .agg #[.int .i64 rv, .int .i64 rf, .slice At told.length ct, .slice Al log.length cl] from rfl]
                  have q0 := blk_cell hbox 0
                  have q1 := blk_cell hbox 1
                  have q2 := blk_cell hbox 2
                  have q3 := blk_cell hbox 3
                  have f0 := blk_frozen hbox 0
                  have f1 := blk_frozen hbox 1
                  have f2 := blk_frozen hbox 2
                  have f3 := blk_frozen hbox 3
                  refine runT_op (by rfl) (by rfl) (fun K hK => ?_)
                  go_simp
                  obtain ⟨W, hW⟩ : ∃ W, W = ((((w4).setCell ⟨bx, 0, none⟩ (.int .i64 rv)).setCell ⟨bx, 1, none⟩ (.int .i64 rf)).setCell ⟨bx, 2, none⟩ (.slice At told.length ct)).setCell ⟨bx, 3, none⟩ (.slice Al log.length cl) := ⟨_, rfl⟩
                  rw [← hW]
                  have hAE := after_store hs4 hbox H5.out.2.2 H4.out.1 hW
                  have HAE := Aside0.mk hAE
                  refine hK _ _ hAE.below ?_
                  clear hK K q0 q1 q2 q3 f0 f1 f2 f3 hW
                  (try simp only [Act.put, List.setIfInBounds_toArray, List.set_cons_zero, List.set_cons_succ])
                  refine runT_op (by rfl) (by rfl) (fun K hK => ?_)
                  go_simp
                  refine hK _ _ hAE.below ?_
                  clear hK K hAE
                  (try simp only [Act.put, List.setIfInBounds_toArray, List.set_cons_zero, List.set_cons_succ])
                  refine runT_done ?_
                  exact hfin bx A c At ct Al cl W HAE.out
              · intro bx9 A9 c9 At9 ct9 Al9 cl9 WC hAC
                have HAC := Aside0.mk hAC
                have HB7 := Aside0.mk (HB5.out.trans (hAC.below.mono HB5.out.size))
                have HX7 := Aside0.mk ((hAC.below.block _ (blk_lt HX5.out)).trans HX5.out)
                have HY7 := Aside0.mk ((hAC.below.block _ (blk_lt HY5.out)).trans HY5.out)
                have hw7 : IntKind.i64.wrap ((U : Int) - 1) = (U : Int) - 1 := IntWalk.i64_in _ (by have := HU.out.2; omega)
                clear hAC hs
                go_upto_region 13 with (fail)
                refine wp_region_T (fun w' => Below (WC).heap.size (WC) w') [] (.takes [0, 1, 3, 4, 5, 6, 7] (.alt 2 12 (.alt 8 12 (.takes [9, 10, 11] (.op 12 (.op 13 (.op 14 .done)))) (.op 8 (.takes [9, 10, 11] (.op 13 (.op 14 .done))))) (.op 2 (.op 8 (.takes [9, 10, 11] (.op 13 (.op 14 .done))))))) (by kernel_rfl) (by kernel_rfl) (by kernel_rfl) (by kernel_rfl) (panic_via (P := Try.prog) (fn := Try.f5) (R := fun e w' => e = .returned (.bool true) ∧ Below w.heap.size w w') (fun _ _ _ => rfl)) ?_
                obtain ⟨wd, hwd⟩ : ∃ wd, wd = (WC).drew := ⟨_, rfl⟩
                rw [← hwd]
                have hs : Below (WC).heap.size (WC) wd := by rw [hwd]; exact (Below.refl _ _).drew
                clear hwd
                simp only [Turns.takes]
                repeat (
                  (first
                    | (refine runT_take (v := ?_) (by rfl) (by rfl) (fun w' hS => ?_) hs ?_
                       rotate_left
                       · (have hX := (hS.block _ (blk_lt HX7.out)).trans HX7.out; have d0 := blk_cell hX 0; have d1 := blk_cell hX 1; have hY := (hS.block _ (blk_lt HY7.out)).trans HY7.out; have y0 := blk_cell hY 0; have y1 := blk_cell hY 1; go_simp; exact rfl))
                    | refine runT_skip (by rfl) (by rfl) hs ?_)
                  (try simp only [Act.put, List.setIfInBounds_toArray, List.set_cons_zero, List.set_cons_succ]))
                rename_i K2 hK2
                have HT := Aside0.mk (And.intro HAE.out HAC.out)
                have e11 : (r2 == 0) = true := by simp [HR2.out]
                have e12 : (r2 = 0) = True := eq_true HR2.out
                obtain ⟨told0, ht0⟩ : ∃ t, t = told := ⟨_, rfl⟩
                subst ht0
                obtain ⟨⟨⟨rv, rf, told, log⟩, r2⟩, hr⟩ : ∃ r : EvR, r = evalR (P.map ofF) args b d ((U : Int) - 1).toNat := ⟨_, rfl⟩
                have HR := Aside0.mk hr
                have HR3 := Aside0.mk (show r2 = 3 by
                  have h := HBK.out.2.2.2
                  rw [show ((U : Int) - 1).toNat = U - 1 by omega, HU.out.1] at hr
                  rw [show evalR (P.map ofF) args b d ((tot _).toNat - 1) = (noR, 3) from h] at hr
                  exact congrArg Prod.snd hr)
                have HM9 := Aside0.mk (show (U : Int) - 1 ≤ 900000 by have := HU.out.2; omega)
                clear hr
                refine' with_act (F := fun bx A c At ct Al cl W => AfterE WC W bx rv rf told log At ct Al cl) (K := K2) _ (fun hfin => ?_) ?_
                rotate_left
                · refine runT_alt (by rfl) (by rfl) (by rfl) (by rfl) (fun K hK => ?_) (fun K hK => ?_)
                  · go_simp
                    refine (of_any Ap cp P _ (Kd.C_below H0.out.1 ((HB7).out.trans ((hs).mono (HB7).out.size))) H0.out.2.1 HLL.out.1 HLL.out.2).mono ?_
                    rintro e w3 ⟨hb3, A, c, rfl, hc, hC⟩
                    have hs3 := (hs).trans (hb3.mono (hs).size)
                    have H3 := Aside0.mk (And.intro hc (And.intro hC hb3))
                    refine hK _ _ hs3 ?_
                    clear hK K hb3 hc hC
                    (try simp only [Act.put, List.setIfInBounds_toArray, List.set_cons_zero, List.set_cons_succ])
                    refine runT_alt (by rfl) (by rfl) (by rfl) (by rfl) (fun K hK => ?_) (fun K hK => ?_)
                    · go_simp
                      have hA3 := Kd.C_below H0.out.2.2.1 ((HB7).out.trans ((hs3).mono (HB7).out.size))
                      refine (eval_of A c P Aa ca args b d ((U : Int) - 1) w3 (Kd.C_below H3.out.2.1 (Below.refl _ _)) H3.out.1 hA3 H0.out.2.2.2.1 (HM9.out) HR.out).mono ?_
                      rintro e w4 ⟨⟨At, ct, Al, cl, rfl, hrc⟩, hb4⟩
                      have hs4 := (hs3).trans (hb4.mono (hs3).size)
                      have H4 := Aside0.mk (And.intro hrc hb4)
                      obtain ⟨V, hV⟩ : ∃ V, V = resV (((rv, rf, told, log), r2) : EvR).1 At ct Al cl := ⟨_, rfl⟩
                      rw [← hV]
                      have HV := Aside0.mk hV
                      refine hK _ _ hs4 ?_
                      clear hK K hb4 hrc hA3 hV
                      (try simp only [Act.put, List.setIfInBounds_toArray, List.set_cons_zero, List.set_cons_succ])
                      have hs := hs4
                      repeat (
                        (first
                          | (refine runT_take (v := ?_) (by rfl) (by rfl) (fun w' hS => ?_) hs ?_
                             rotate_left
                             · (skip; go_simp; exact rfl))
                          | refine runT_skip (by rfl) (by rfl) hs ?_)
                        (try simp only [Act.put, List.setIfInBounds_toArray, List.set_cons_zero, List.set_cons_succ]))
                      refine runT_op (by rfl) (by rfl) (fun K hK => ?_)
                      go_simp
                      obtain ⟨bx, hbx⟩ : ∃ bx, bx = (w4).heap.size := ⟨_, rfl⟩
                      rw [← hbx]
                      obtain ⟨w5, hw5⟩ : ∃ w5, w5 = (w4).alloc (.cells #[.int .i64 0, .int .i64 0, .slice none 0 0, .slice none 0 0] 30) := ⟨_, rfl⟩
                      rw [← hw5]
                      have hb5 : Below (w4).heap.size (w4) w5 := by rw [hw5]; exact (Below.refl (w4).heap.size (w4)).alloc (Nat.le_refl _) _
                      have hx5 : w5.heap[bx]? = some zRes := by rw [hw5, hbx]; exact alloc_blk (w4) _
                      have hs5 := (hs4).trans (hb5.mono (hs4).size)
                      have H5 := Aside0.mk (And.intro hb5 (And.intro hx5 (show (WC).heap.size ≤ bx by rw [hbx]; exact (hs4).size)))
                      refine hK _ _ hs5 ?_
                      clear hK K hb5 hbx hw5 hx5
                      (try simp only [Act.put, List.setIfInBounds_toArray, List.set_cons_zero, List.set_cons_succ])
                      have hbox := H5.out.2.1
                      rw [HV.out, show resV (((rv, rf, told, log), r2) : EvR).1 At ct Al cl = .agg #[.int .i64 rv, .int .i64 rf, .slice At told.length ct, .slice Al log.length cl] from rfl]
                      have q0 := blk_cell hbox 0
                      have q1 := blk_cell hbox 1
                      have q2 := blk_cell hbox 2
                      have q3 := blk_cell hbox 3
                      have f0 := blk_frozen hbox 0
                      have f1 := blk_frozen hbox 1
                      have f2 := blk_frozen hbox 2
                      have f3 := blk_frozen hbox 3
                      refine runT_op (by rfl) (by rfl) (fun K hK => ?_)
                      go_simp
                      obtain ⟨W, hW⟩ : ∃ W, W = ((((w5).setCell ⟨bx, 0, none⟩ (.int .i64 rv)).setCell ⟨bx, 1, none⟩ (.int .i64 rf)).setCell ⟨bx, 2, none⟩ (.slice At told.length ct)).setCell ⟨bx, 3, none⟩ (.slice Al log.length cl) := ⟨_, rfl⟩
                      rw [← hW]
                      have hAE := after_store hs5 hbox H5.out.2.2 (H4.out.1.below H5.out.1) hW
                      have HAE := Aside0.mk hAE
                      refine hK _ _ hAE.below ?_
                      clear hK K q0 q1 q2 q3 f0 f1 f2 f3 hW
                      (try simp only [Act.put, List.setIfInBounds_toArray, List.set_cons_zero, List.set_cons_succ])
                      refine runT_op (by rfl) (by rfl) (fun K hK => ?_)
                      go_simp
                      refine hK _ _ hAE.below ?_
                      clear hK K hAE
                      (try simp only [Act.put, List.setIfInBounds_toArray, List.set_cons_zero, List.set_cons_succ])
                      refine runT_done ?_
                      exact hfin bx A c At ct Al cl W HAE.out
                    · go_simp
                      obtain ⟨bx, hbx⟩ : ∃ bx, bx = (w3).heap.size := ⟨_, rfl⟩
                      rw [← hbx]
                      obtain ⟨w5, hw5⟩ : ∃ w5, w5 = (w3).alloc (.cells #[.int .i64 0, .int .i64 0, .slice none 0 0, .slice none 0 0] 30) := ⟨_, rfl⟩
                      rw [← hw5]
                      have hb5 : Below (w3).heap.size (w3) w5 := by rw [hw5]; exact (Below.refl (w3).heap.size (w3)).alloc (Nat.le_refl _) _
                      have hx5 : w5.heap[bx]? = some zRes := by rw [hw5, hbx]; exact alloc_blk (w3) _
                      have hs5 := (hs3).trans (hb5.mono (hs3).size)
                      have H5 := Aside0.mk (And.intro hb5 (And.intro hx5 (show (WC).heap.size ≤ bx by rw [hbx]; exact (hs3).size)))
                      refine hK _ _ hs5 ?_
                      clear hK K hb5 hbx hw5 hx5
                      (try simp only [Act.put, List.setIfInBounds_toArray, List.set_cons_zero, List.set_cons_succ])
                      refine runT_op (by rfl) (by rfl) (fun K hK => ?_)
                      go_simp
                      have hA3 := Kd.C_below H0.out.2.2.1 ((HB7).out.trans ((hs5).mono (HB7).out.size))
                      refine (eval_of A c P Aa ca args b d ((U : Int) - 1) w5 (Kd.C_below H3.out.2.1 H5.out.1) H3.out.1 hA3 H0.out.2.2.2.1 (HM9.out) HR.out).mono ?_
                      rintro e w4 ⟨⟨At, ct, Al, cl, rfl, hrc⟩, hb4⟩
                      have hs4 := (hs5).trans (hb4.mono (hs5).size)
                      have H4 := Aside0.mk (And.intro hrc hb4)
                      obtain ⟨V, hV⟩ : ∃ V, V = resV (((rv, rf, told, log), r2) : EvR).1 At ct Al cl := ⟨_, rfl⟩
                      rw [← hV]
                      have HV := Aside0.mk hV
                      refine hK _ _ hs4 ?_
                      clear hK K hb4 hrc hA3 hV
                      (try simp only [Act.put, List.setIfInBounds_toArray, List.set_cons_zero, List.set_cons_succ])
                      have hs := hs4
                      repeat (
                        (first
                          | (refine runT_take (v := ?_) (by rfl) (by rfl) (fun w' hS => ?_) hs ?_
                             rotate_left
                             · (skip; go_simp; exact rfl))
                          | refine runT_skip (by rfl) (by rfl) hs ?_)
                        (try simp only [Act.put, List.setIfInBounds_toArray, List.set_cons_zero, List.set_cons_succ]))
                      have hbox := ((H4.out.2.block _ (blk_lt H5.out.2.1)).trans H5.out.2.1)
                      rw [HV.out, show resV (((rv, rf, told, log), r2) : EvR).1 At ct Al cl = .agg #[.int .i64 rv, .int .i64 rf, .slice At told.length ct, .slice Al log.length cl] from rfl]
                      have q0 := blk_cell hbox 0
                      have q1 := blk_cell hbox 1
                      have q2 := blk_cell hbox 2
                      have q3 := blk_cell hbox 3
                      have f0 := blk_frozen hbox 0
                      have f1 := blk_frozen hbox 1
                      have f2 := blk_frozen hbox 2
                      have f3 := blk_frozen hbox 3
                      refine runT_op (by rfl) (by rfl) (fun K hK => ?_)
                      go_simp
                      obtain ⟨W, hW⟩ : ∃ W, W = ((((w4).setCell ⟨bx, 0, none⟩ (.int .i64 rv)).setCell ⟨bx, 1, none⟩ (.int .i64 rf)).setCell ⟨bx, 2, none⟩ (.slice At told.length ct)).setCell ⟨bx, 3, none⟩ (.slice Al log.length cl) := ⟨_, rfl⟩
                      rw [← hW]
                      have hAE := after_store hs4 hbox H5.out.2.2 H4.out.1 hW
                      have HAE := Aside0.mk hAE
                      refine hK _ _ hAE.below ?_
                      clear hK K q0 q1 q2 q3 f0 f1 f2 f3 hW
                      (try simp only [Act.put, List.setIfInBounds_toArray, List.set_cons_zero, List.set_cons_succ])
                      refine runT_op (by rfl) (by rfl) (fun K hK => ?_)
                      go_simp
                      refine hK _ _ hAE.below ?_
                      clear hK K hAE
                      (try simp only [Act.put, List.setIfInBounds_toArray, List.set_cons_zero, List.set_cons_succ])
                      refine runT_done ?_
                      exact hfin bx A c At ct Al cl W HAE.out
                  · go_simp
                    obtain ⟨bx, hbx⟩ : ∃ bx, bx = (wd).heap.size := ⟨_, rfl⟩
                    rw [← hbx]
                    obtain ⟨w5, hw5⟩ : ∃ w5, w5 = (wd).alloc (.cells #[.int .i64 0, .int .i64 0, .slice none 0 0, .slice none 0 0] 30) := ⟨_, rfl⟩
                    rw [← hw5]
                    have hb5 : Below (wd).heap.size (wd) w5 := by rw [hw5]; exact (Below.refl (wd).heap.size (wd)).alloc (Nat.le_refl _) _
                    have hx5 : w5.heap[bx]? = some zRes := by rw [hw5, hbx]; exact alloc_blk (wd) _
                    have hs5 := (hs).trans (hb5.mono (hs).size)
                    have H5 := Aside0.mk (And.intro hb5 (And.intro hx5 (show (WC).heap.size ≤ bx by rw [hbx]; exact (hs).size)))
                    refine hK _ _ hs5 ?_
                    clear hK K hb5 hbx hw5 hx5
                    (try simp only [Act.put, List.setIfInBounds_toArray, List.set_cons_zero, List.set_cons_succ])
                    refine runT_op (by rfl) (by rfl) (fun K hK => ?_)
                    go_simp
                    refine (of_any Ap cp P _ (Kd.C_below H0.out.1 ((HB7).out.trans ((hs5).mono (HB7).out.size))) H0.out.2.1 HLL.out.1 HLL.out.2).mono ?_
                    rintro e w3 ⟨hb3, A, c, rfl, hc, hC⟩
                    have hs3 := (hs5).trans (hb3.mono (hs5).size)
                    have H3 := Aside0.mk (And.intro hc (And.intro hC hb3))
                    refine hK _ _ hs3 ?_
                    clear hK K hb3 hc hC
                    (try simp only [Act.put, List.setIfInBounds_toArray, List.set_cons_zero, List.set_cons_succ])
                    refine runT_op (by rfl) (by rfl) (fun K hK => ?_)
                    go_simp
                    have hA3 := Kd.C_below H0.out.2.2.1 ((HB7).out.trans ((hs3).mono (HB7).out.size))
                    refine (eval_of A c P Aa ca args b d ((U : Int) - 1) w3 (Kd.C_below H3.out.2.1 (Below.refl _ _)) H3.out.1 hA3 H0.out.2.2.2.1 (HM9.out) HR.out).mono ?_
                    rintro e w4 ⟨⟨At, ct, Al, cl, rfl, hrc⟩, hb4⟩
                    have hs4 := (hs3).trans (hb4.mono (hs3).size)
                    have H4 := Aside0.mk (And.intro hrc hb4)
                    obtain ⟨V, hV⟩ : ∃ V, V = resV (((rv, rf, told, log), r2) : EvR).1 At ct Al cl := ⟨_, rfl⟩
                    rw [← hV]
                    have HV := Aside0.mk hV
                    refine hK _ _ hs4 ?_
                    clear hK K hb4 hrc hA3 hV
                    (try simp only [Act.put, List.setIfInBounds_toArray, List.set_cons_zero, List.set_cons_succ])
                    have hs := hs4
                    repeat (
                      (first
                        | (refine runT_take (v := ?_) (by rfl) (by rfl) (fun w' hS => ?_) hs ?_
                           rotate_left
                           · (skip; go_simp; exact rfl))
                        | refine runT_skip (by rfl) (by rfl) hs ?_)
                      (try simp only [Act.put, List.setIfInBounds_toArray, List.set_cons_zero, List.set_cons_succ]))
                    have hbox := ((H4.out.2.block _ (Nat.lt_of_lt_of_le (blk_lt H5.out.2.1) H3.out.2.2.size)).trans ((H3.out.2.2.block _ (blk_lt H5.out.2.1)).trans H5.out.2.1))
                    rw [HV.out, show resV (((rv, rf, told, log), r2) : EvR).1 At ct Al cl = .agg #[.int .i64 rv, .int .i64 rf, .slice At told.length ct, .slice Al log.length cl] from rfl]
                    have q0 := blk_cell hbox 0
                    have q1 := blk_cell hbox 1
                    have q2 := blk_cell hbox 2
                    have q3 := blk_cell hbox 3
                    have f0 := blk_frozen hbox 0
                    have f1 := blk_frozen hbox 1
                    have f2 := blk_frozen hbox 2
                    have f3 := blk_frozen hbox 3
                    refine runT_op (by rfl) (by rfl) (fun K hK => ?_)
                    go_simp
                    obtain ⟨W, hW⟩ : ∃ W, W = ((((w4).setCell ⟨bx, 0, none⟩ (.int .i64 rv)).setCell ⟨bx, 1, none⟩ (.int .i64 rf)).setCell ⟨bx, 2, none⟩ (.slice At told.length ct)).setCell ⟨bx, 3, none⟩ (.slice Al log.length cl) := ⟨_, rfl⟩
                    rw [← hW]
                    have hAE := after_store hs4 hbox H5.out.2.2 H4.out.1 hW
                    have HAE := Aside0.mk hAE
                    refine hK _ _ hAE.below ?_
                    clear hK K q0 q1 q2 q3 f0 f1 f2 f3 hW
                    (try simp only [Act.put, List.setIfInBounds_toArray, List.set_cons_zero, List.set_cons_succ])
                    refine runT_op (by rfl) (by rfl) (fun K hK => ?_)
                    go_simp
                    refine hK _ _ hAE.below ?_
                    clear hK K hAE
                    (try simp only [Act.put, List.setIfInBounds_toArray, List.set_cons_zero, List.set_cons_succ])
                    refine runT_done ?_
                    exact hfin bx A c At ct Al cl W HAE.out
                · intro bx8 A8 c8 At8 ct8 Al8 cl8 WD hAD
                  have HAD := Aside0.mk hAD
                  have e13 : (r2 == 3) = true := by simp [HR3.out]
                  have e14 : (r2 = 3) = True := eq_true HR3.out
                  have h9 := (hAD.below.block _ (blk_lt HT.out.2.box)).trans HT.out.2.box
                  have h8 := (hAD.below.block _ (Nat.lt_of_lt_of_le (blk_lt HT.out.1.box) HT.out.2.below.size)).trans ((HT.out.2.below.block _ (blk_lt HT.out.1.box)).trans HT.out.1.box)
                  have p0 := blk_cell h9 0
                  have p1 := blk_cell h9 1
                  have p2 := blk_cell h9 2
                  have q0 := blk_cell h8 0
                  have q1 := blk_cell h8 1
                  have q2 := blk_cell h8 2
                  have HB8 := Aside0.mk (HB7.out.trans (hAD.below.mono HB7.out.size))
                  clear hAD hs h9 h8
                  have n1 : (Kd.int .i64).C WD At9 told0.length told0 := (HT.out.2.res.below HAD.out.below).told
                  have n2 : told0.length ≤ ct9 := HT.out.2.res.toldC
                  have n3 : (Kd.int .i64).C WD At told0.length told0 := ((HT.out.1.res.below HT.out.2.below).below HAD.out.below).told
                  have n4 : told0.length ≤ ct := HT.out.1.res.toldC
                  have n5 : told0.length ≤ 9223372036854775807 := n3.2.1
                  have NUM := Aside0.mk (num_is (r := true) At9 ct9 told0 At ct told0 WD (decide_eq_true rfl) n1 n2 n3 n4 n5)
                  clear n1 n2 n3 n4 n5
                  go_wp2_with fail
                  refine NUM.out.mono ?_
                  rintro e w' ⟨rfl, nd, rfl⟩
                  go_wp2_with fail
                  refine (awake_any _).mono ?_
                  rintro e w5 ⟨rfl, hb5⟩
                  have hbd := pw_below_drewN (Below.refl WD.heap.size WD) nd
                  have HB6 := Aside0.mk (HB8.out.trans ((hbd.trans (hb5.mono hbd.size)).mono HB8.out.size))
                  clear hb5 hbd
                  go_wp2_with fail
                  go_ret
                  exact ⟨rfl, HB6.out⟩
        · have hr0 : (r2 != 0) = true := by simp [h0]
          clear h0
          go_wp2_with fail
          refine (awake_any _).mono ?_
          rintro e w5 ⟨rfl, hb5⟩
          have HB6 := Aside0.mk (HB5.out.trans (hb5.mono HB5.out.size))
          clear hb5
          go_wp2_with fail
          go_ret
          exact ⟨rfl, HB6.out⟩
def haymowlaw06_EvalEnough.f (l0_0 : List S68) (l0_1 : List Int) (a0_2 a0_3 a1 : Int) : Option Bool := if 0 ≤ a1 ∧ a1 < 256 then some true else none
theorem haymowlaw06_EvalEnough.calls (A0_0 : Option Addr) (c0_0 : Nat) (l0_0 : List S68) (A0_1 : Option Addr) (c0_1 : Nat) (l0_1 : List Int) (a0_2 a0_3 a1 : Int) (r : Bool) (w : World) (hr0_0 : k68.C w A0_0 l0_0.length l0_0) (hc0_0 : l0_0.length ≤ c0_0) (hr0_1 : (Kd.int .i64).C w A0_1 l0_1.length l0_1) (hc0_1 : l0_1.length ≤ c0_1) (h : haymowlaw06_EvalEnough.f l0_0 l0_1 a0_2 a0_3 a1 = some r) :
    Calls Try.prog 5 #[.agg #[.slice A0_0 l0_0.length c0_0, .slice A0_1 l0_1.length c0_1, .int .i64 a0_2, .int .i64 a0_3], .int .u8 a1] w fun e w' => e = .returned (.bool r) ∧ Below w.heap.size w w' := by
  unfold haymowlaw06_EvalEnough.f at h
  by_cases hc : 0 ≤ a1 ∧ a1 < 256
  · rw [if_pos hc] at h
    cases h
    exact enough_walk A0_0 c0_0 l0_0 A0_1 c0_1 l0_1 a0_2 a0_3 a1 w hc hr0_0 hc0_0 hr0_1 hc0_1
  · rw [if_neg hc] at h; cases h
end Go.Proofs.Ytnhipdniceoigaa.H

set_option linter.unusedVariables false
set_option linter.unusedSimpArgs false
namespace Go.Hay
open Go.RowKit Go.Proofs.YtnhipdniceoigaaW.PrintWords Go.Proofs.YtnhipdniceoigaaW.PrintLast Go.Proofs.YtnhipdniceoigaaW.PrintMore

def Opens {α : Type} (P : Program) (t : TypeId) (d : Kd α) (wf : α → Prop) : Prop :=
  ∀ {H : Type} {enc : TypeId × Value → H} {w : World} {base : Nat} {spare : Nat → Bool} {held : Bool} {fuel : Nat} {cs : List Value} {x : DataW H × List MemPlace},
    DataW.trod enc P w base spare held fuel t cs = some x → ∃ a, d.K w a cs ∧ wf a

theorem opens_int {P : Program} {t : TypeId} {k : IntKind} (ht : P.underlying t = some (.int k)) : Opens P t (Kd.int k) (fun n => (Lit.int k n).wf = true) := by
  intro H enc w base spare held fuel cs x h
  cases fuel with
  | zero => simp [DataW.trod] at h
  | succ fuel =>
    unfold DataW.trod at h
    simp only [ht] at h
    split at h <;> simp_all
    rename_i k' n _
    obtain ⟨⟨rfl, hw⟩, _⟩ := h
    exact ⟨n, rfl, hw⟩
theorem opens_slice {α : Type} {P : Program} {t e e' : TypeId} {d : Kd α} {wf : α → Prop} (ht : P.underlying t = some (.slice e)) (hc : P.cellsOf e = d.sz) (he : Opens P e d wf) : Opens P t (Kd.slice e' d) (fun l => ∀ a ∈ l, wf a) := by
  intro H enc w base spare held fuel cs x h
  rcases Deep.open_slice ht h with ⟨rfl, _⟩ | ⟨a, len, cap, m, n, D, Pl, rfl, hb, hl, hm, hmm, rfl, hx⟩
  · exact ⟨[], ⟨none, 0, rfl, Nat.le_refl _, Kd.C_nil d w⟩, by simp⟩
  · have hlm : len ≤ m := by rw [hmm]; split <;> omega
    have each : ∀ i, i < len → ∃ y : α × List Value, w.cells? base (a.add (i * P.cellsOf e)) (P.cellsOf e) = some y.2 ∧ d.K w y.1 y.2 ∧ wf y.1 := by
      intro i hi
      obtain ⟨cs', h1, h2⟩ := hx i (by omega)
      obtain ⟨y, h3, h4⟩ := he h2
      exact ⟨(y, cs'), h1, h3, h4⟩
    have : Nonempty (∀ i : Fin len, ∃ y : α × List Value, w.cells? base (a.add (i * P.cellsOf e)) (P.cellsOf e) = some y.2 ∧ d.K w y.1 y.2 ∧ wf y.1) := ⟨fun i => each i i.2⟩
    obtain ⟨g, hg⟩ := Classical.axiomOfChoice (fun i : Fin len => each i i.2)
    refine ⟨List.ofFn fun i => (g i).1, ⟨some a, cap, by simp, by simpa using hl, ?_⟩, ?_⟩
    · refine ⟨rfl, ?_, fun _ => ⟨a, rfl, fun j p hj => ?_⟩⟩
      · rw [List.length_ofFn]; unfold maxLen at hm; omega
      · obtain ⟨hlt, hj⟩ := List.getElem?_eq_some_iff.1 hj
        rw [List.length_ofFn] at hlt
        rw [List.getElem_ofFn] at hj
        subst hj
        obtain ⟨g1, g2, g3⟩ := hg ⟨j, hlt⟩
        obtain ⟨_, hcl, hcell⟩ := World.cells?_some g1
        refine ⟨_, d.K_len g2, g2, fun i u hu => ?_⟩
        have hi : i < P.cellsOf e := by
          have := (List.getElem?_eq_some_iff.1 hu).1
          omega
        have := hcell i hi
        rw [hu] at this
        rw [← this, hc]
        congr 1
        unfold Addr.add
        by_cases e1 : j * d.sz = 0 <;> by_cases e2 : i = 0 <;> simp [e1, e2] <;> omega
    · intro y hy
      obtain ⟨i, rfl⟩ := List.mem_ofFn.1 hy
      exact (hg i).2.2
def OpensAt {α : Type} (P : Program) (fs : List Field) (off : Nat) (d : Kd α) (wf : α → Prop) : Prop :=
  ∀ {H : Type} {enc : TypeId × Value → H} {w : World} {base : Nat} {spare : Nat → Bool} {held : Bool} {n : Nat} {cs : List Value} {xs : List (DataW H × List MemPlace)},
    xs.length = fs.length → (∀ (i : Nat) (f : Field), fs[i]? = some f → DataW.trod enc P w base spare held n f.type ((cs.drop f.offset).take (P.cellsOf f.type)) = xs[i]?) → ∃ a, d.K w a ((cs.drop off).take d.sz) ∧ wf a
theorem opens_last {α : Type} {P : Program} {f : Field} {off : Nat} {d : Kd α} {wf : α → Prop} (ho : f.offset = off) (hc : P.cellsOf f.type = d.sz) (he : Opens P f.type d wf) : OpensAt P [f] off d wf := by
  intro H enc w base spare held n cs xs hl h
  have h0 := h 0 f rfl
  rw [ho, hc, List.getElem?_eq_getElem (by rw [hl]; simp)] at h0
  exact he h0
theorem opens_cons {α β : Type} {P : Program} {f : Field} {fs : List Field} {off : Nat} {d : Kd α} {d2 : Kd β} {wf : α → Prop} {wf2 : β → Prop} (ho : f.offset = off) (hc : P.cellsOf f.type = d.sz) (he : Opens P f.type d wf)
    (hr : OpensAt P fs (off + d.sz) d2 wf2) : OpensAt P (f :: fs) off (Kd.pair d d2) (fun p => wf p.1 ∧ wf2 p.2) := by
  intro H enc w base spare held n cs xs hl h
  have h0 := h 0 f rfl
  rw [ho, hc, List.getElem?_eq_getElem (by rw [hl]; simp)] at h0
  obtain ⟨a, ha, hwa⟩ := he h0
  obtain ⟨b, hb, hwb⟩ := hr (n := n) (cs := cs) (xs := xs.drop 1) (by simp [hl]) (fun i g hg => by
    have := h (i + 1) g (by simpa using hg)
    rw [this]; simp [Nat.add_comm])
  refine ⟨(a, b), ⟨_, _, ?_, ha, hb⟩, hwa, hwb⟩
  show (cs.drop off).take (d.sz + d2.sz) = _
  rw [List.take_add, List.drop_drop]
theorem opens_struct {α : Type} {P : Program} {t : TypeId} {fs : Array Field} {d : Kd α} {wf : α → Prop} (ht : P.underlying t = some (.struct fs)) (hc : P.cellsOf t = d.sz) (h : OpensAt P fs.toList 0 d wf) : Opens P t d wf := by
  intro H enc w base spare held fuel cs x hx
  obtain ⟨xs, n, rfl, rfl, hlen, hxl, hall⟩ := DataW.trod_struct ht hx
  obtain ⟨a, ha, hwa⟩ := h (n := n) (cs := cs) (xs := xs) (by simpa using hxl) (fun i f hf => hall i f (by simpa using hf))
  refine ⟨a, ?_, hwa⟩
  rwa [List.drop_zero, List.take_of_length_le (by omega)] at ha
theorem opens_iso {α β : Type} {P : Program} {t : TypeId} {d : Kd α} {wf : α → Prop} (g : β → α) (f : α → β) (hf : ∀ a, g (f a) = a) (h : Opens P t d wf) : Opens P t (Kd.iso d g) (fun b => wf (g b)) := by
  intro H enc w base spare held fuel cs x hx
  obtain ⟨a, ha, hwa⟩ := h hx
  exact ⟨f a, by show d.K w (g (f a)) cs; rw [hf]; exact ha, by show wf (g (f a)); rw [hf]; exact hwa⟩
end Go.Hay

-- made by this session's gen.py: the row of the law haymow/haymowlaw06.EvalEnough; not trusted: Lean checks it
namespace Go.Proofs.Ytnhipdniceoigaa.evalEnough
open Go.ChangeShapes Go.WideShapes Go.ChangeAt Go.RowKit Go.Hay Go.Proofs.Ytnhipdniceoigaa.H Go.Proofs.YtnhipdniceoigaaW.PrintWords Go.Proofs.YtnhipdniceoigaaW.PrintLast Go.Proofs.YtnhipdniceoigaaW.PrintMore
open Go.ChangeMaps (open_string shut_string)
set_option linter.unusedVariables false
set_option linter.unusedSimpArgs false
theorem own : ownKnob Try.prog.godebug = none := by kernel_rfl
theorem laidOut : laidOutB Try.prog = true := by kernel_rfl
structure S25 where
  f0 : List (S68)
  f1 : List Int
  f2 : Int
  f3 : Int
def k25 : Kd S25 := Kd.iso (Kd.pair ((Kd.slice 68 k68)) (Kd.pair ((Kd.slice 2 (Kd.int .i64))) (Kd.pair ((Kd.int .i64)) ((Kd.int .i64))))) (fun x : S25 => (x.f0, x.f1, x.f2, x.f3))
theorem k25_open {w : World} {x : S25} {cs : List Value} (h : k25.K w x cs) : ∃ A0 c0 A1 c1, cs = [.slice A0 x.f0.length c0, .slice A1 x.f1.length c1, .int .i64 x.f2, .int .i64 x.f3] ∧ x.f0.length ≤ c0 ∧ Kd.C k68 w A0 x.f0.length x.f0 ∧ x.f1.length ≤ c1 ∧ Kd.C (Kd.int .i64) w A1 x.f1.length x.f1 := by
  obtain ⟨_, _, rfl, ⟨A0, c0, rfl, l0, g0⟩, ⟨_, _, rfl, ⟨A1, c1, rfl, l1, g1⟩, ⟨_, _, rfl, rfl, rfl⟩⟩⟩ := h
  exact ⟨A0, c0, A1, c1, rfl, l0, g0, l1, g1⟩
theorem opens3 : Opens Try.prog 3 (Kd.int .i64) (fun x => (Lit.int .i64 x).wf = true) := opens_int Try.underlying3
def wfT80 (x : S80) : Prop := ((Lit.int .i64 x.f0).wf = true ∧ (Lit.int .i64 x.f1).wf = true ∧ (Lit.int .i64 x.f2).wf = true ∧ (Lit.int .i64 x.f3).wf = true ∧ (Lit.int .i64 x.f4).wf = true)
theorem opens80 : Opens Try.prog 80 k80 wfT80 := opens_iso _ (fun y => (⟨y.1, y.2.1, y.2.2.1, y.2.2.2.1, y.2.2.2.2⟩ : S80)) (fun _ => rfl) (opens_struct Try.underlying80 (by kernel_rfl) (opens_cons rfl (by kernel_rfl) opens3 (opens_cons rfl (by kernel_rfl) opens3 (opens_cons rfl (by kernel_rfl) opens3 (opens_cons rfl (by kernel_rfl) opens3 (opens_last rfl (by kernel_rfl) opens3))))))
theorem opens66 : Opens Try.prog 66 (Kd.slice 80 k80) (fun x => (∀ y66 ∈ x, wfT80 y66)) := opens_slice (e := 80) Try.underlying66 (by kernel_rfl) opens80
def wfT68 (x : S68) : Prop := ((Lit.int .i64 x.f0).wf = true ∧ (∀ y66 ∈ x.f1, wfT80 y66))
theorem opens68 : Opens Try.prog 68 k68 wfT68 := opens_iso _ (fun y => (⟨y.1, y.2⟩ : S68)) (fun _ => rfl) (opens_struct Try.underlying68 (by kernel_rfl) (opens_cons rfl (by kernel_rfl) opens3 (opens_last rfl (by kernel_rfl) opens66)))
theorem opens22 : Opens Try.prog 22 (Kd.slice 68 k68) (fun x => (∀ y22 ∈ x, wfT68 y22)) := opens_slice (e := 68) Try.underlying22 (by kernel_rfl) opens68
theorem opens2 : Opens Try.prog 2 (Kd.int .i64) (fun x => (Lit.int .i64 x).wf = true) := opens_int Try.underlying2
theorem opens23 : Opens Try.prog 23 (Kd.slice 2 (Kd.int .i64)) (fun x => (∀ y23 ∈ x, (Lit.int .i64 y23).wf = true)) := opens_slice (e := 2) Try.underlying23 (by kernel_rfl) opens2
def wfT25 (x : S25) : Prop := ((∀ y22 ∈ x.f0, wfT68 y22) ∧ (∀ y23 ∈ x.f1, (Lit.int .i64 y23).wf = true) ∧ (Lit.int .i64 x.f2).wf = true ∧ (Lit.int .i64 x.f3).wf = true)
theorem opens25 : Opens Try.prog 25 k25 wfT25 := opens_iso _ (fun y => (⟨y.1, y.2.1, y.2.2.1, y.2.2.2⟩ : S25)) (fun _ => rfl) (opens_struct Try.underlying25 (by kernel_rfl) (opens_cons rfl (by kernel_rfl) opens22 (opens_cons rfl (by kernel_rfl) opens23 (opens_cons rfl (by kernel_rfl) opens3 (opens_last rfl (by kernel_rfl) opens3)))))
def Pure : Prop := ∀ (l0_0 : List (S68)) (l0_1 : List Int) (a0_2 : Int) (a0_3 : Int) (a1 : Int), wfT25 ⟨l0_0, l0_1, a0_2, a0_3⟩ → (Lit.int .u8 a1).wf = true → haymowlaw06_EvalEnough.f l0_0 l0_1 a0_2 a0_3 a1 = some true
set_option maxRecDepth 100000 in
theorem lifted (PU : Pure) (os : Os) (started : os.Started) (H : Type) (enc : TypeId × Value → H) :
    ReturnsInHanded {} Try.checked os 5 .any (Rows.evalEnoughSpec.pre6 enc Try.prog Try.f5 Rows.evalEnoughRow.domain false) (Rows.evalEnoughSpec.post enc Try.prog Try.f5 false true false false) := by
  refine returnsInHanded_of_change_sized (C := Try.checked) own started (by kernel_rfl) Try.func5
    (ChangeSpec.witness6 (enc := enc) (C := Try.checked) false ⟨#[], #[.agg #[.slice none 0 0, .slice none 0 0, .int .i64 0, .int .i64 0], .int .u8 0], []⟩ 8 (by kernel_rfl) (by kernel_rfl) (by kernel_rfl) (by kernel_rfl)) ?_
  intro W base args ds gs before hval0 hW hcnd hsz0 _
  have hval : ∀ (j : Nat) t v, Try.f5.params[j]? = some t → args[j]? = some v → Value.okWide Try.prog W .any base t v := hval0
  have hW' := hW
  obtain ⟨p, q, hA0, hV, rfl, hfz, hnd⟩ := hW
  have hA : DataW.TrodAll enc Try.prog W 0 (fun _ => true) true Try.f5.params.toList args.toList ds p := hA0
  rw [Try.params5] at hA hval
  obtain ⟨v0, vs0, d0, ds0, p0, q0, hargs, rfl, rfl, h0, r0⟩ := trodAll_cons hA
  obtain ⟨v1, vs1, d1, ds1, p1, q1, rfl, rfl, rfl, h1, r1⟩ := trodAll_cons r0
  obtain ⟨rfl, rfl, rfl⟩ := trodAll_nil r1
  obtain rfl : args = #[v0, v1] := by cases args; simp_all
  obtain ⟨rfl, rfl⟩ := trodVars_none hV
  obtain ⟨cs0, rfl, hz0⟩ := okWide_struct Try.underlying25 (hval 0 25 v0 rfl rfl)
  have k0 := h0
  have lt0 : ∀ x ∈ p0, x.block < W.heap.size := by obtain ⟨m, hm⟩ := k0; exact DataW.trod_lt m _ _ _ hm
  obtain ⟨fuel0, hf0⟩ := h0
  obtain ⟨x0, hK0, hwf0⟩ := opens25 hf0
  obtain ⟨A0_0, c0_0, A0_1, c0_1, hcs0, hc0_0, hC0_0, hc0_1, hC0_1⟩ := k25_open hK0
  obtain rfl : cs0 = #[.slice A0_0 x0.f0.length c0_0, .slice A0_1 x0.f1.length c0_1, .int .i64 x0.f2, .int .i64 x0.f3] := by cases cs0; simpa [Value.cells] using hcs0
  obtain ⟨a1, rfl, rfl, rfl, w1⟩ := open_int Try.underlying5 (hval 1 5 v1 rfl rfl) h1
  clear hA0 hval0 hsz0
  have hpure := PU x0.f0 x0.f1 x0.f2 x0.f3 a1 hwf0 w1
  refine (haymowlaw06_EvalEnough.calls _ _ x0.f0 _ _ x0.f1 x0.f2 x0.f3 a1 true W hC0_0 hc0_0 hC0_1 hc0_1 hpure).mono fun e W' hpost => ?_
  obtain ⟨he, bel⟩ := hpost
  subst he
  exact ⟨_, rfl, _, _, _, [], _, [], hW', trodAll_mk1 (shut_bool Try.underlying4 _), (trodAll_cons_mk (Below.trod laidOut (by kernel_rfl) (of_decide_eq_true (by kernel_rfl)) k0 bel lt0) (trodAll_cons_mk (shut_int Try.underlying5 w1) trodAll_mk0)), rfl, bel.frame _, fun h => by cases h⟩
theorem over (PU : Pure) : Rows.evalEnoughRow.holds Try.pinned (OpenSpec.ofChange Rows.evalEnoughSpec) :=
  OpenClaim.holds_of_wide 5 Try.f5 rfl rfl rfl rfl rfl rfl rfl ⟨rfl, rfl, rfl, rfl, rfl⟩ rfl rfl rfl rfl rfl (by kernel_rfl) Try.func5 (by kernel_rfl)
    (of_decide_eq_true (by kernel_rfl)) (by unfold Func.isWrapper; first | (rw [if_pos (by decide +kernel)]; kernel_rfl) | (rw [if_neg (by decide +kernel)]; exact ⟨rfl, rfl⟩))
    (fun os started H enc _ => lifted PU os started H enc)
theorem said (PU : Pure) : Rows.EvalEnoughSaid := over PU
end Go.Proofs.Ytnhipdniceoigaa.evalEnough

namespace Go.Proofs.Ytnhipdniceoigaa
open Go.RowKit
theorem u8_range {n : Int} (h : (Lit.int .u8 n).wf = true) : 0 ≤ n ∧ n < 256 := by
  have e1 : IntKind.u8.min = 0 := by decide
  have e2 : IntKind.u8.max = 255 := by decide
  have h' : IntKind.u8.min ≤ n ∧ n ≤ IntKind.u8.max := by simpa [Lit.wf, go_sem] using h
  rw [e1, e2] at h'
  omega
theorem evalEnough_holds : Rows.EvalEnoughSaid := evalEnough.said (fun l0 l1 a2 a3 a1 h0 h1 => by
  unfold H.haymowlaw06_EvalEnough.f
  rw [if_pos (u8_range h1)])
#print axioms evalEnough_holds
end Go.Proofs.Ytnhipdniceoigaa

