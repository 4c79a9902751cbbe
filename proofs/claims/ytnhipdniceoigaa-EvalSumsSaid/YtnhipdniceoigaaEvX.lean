/- Any operation; the operations' table. -/
import Derived.Test.YtnhipdniceoigaaEvF
import Derived.Maps.OwnOps
import Derived.Maps.OwnSet
import Derived.Maps.Views
set_option linter.unusedVariables false
set_option linter.unusedSimpArgs false
namespace Go.Proofs.Ytnhipdniceoigaa.H
open Go.RowKit Go.Hay Go.Maps Go.Proofs.YtnhipdniceoigaaW.PrintWords Go.Proofs.YtnhipdniceoigaaW.PrintLast Go.Proofs.YtnhipdniceoigaaW.PrintMore
/-- which function does an operation. -/
def deedF (op : Int) : Nat :=
  if op = 1 then 38 else
  if op = 2 then 39 else
  if op = 3 then 40 else
  if op = 4 then 41 else
  if op = 5 then 42 else
  if op = 6 then 43 else
  if op = 7 then 44 else
  if op = 8 then 45 else
  if op = 9 then 46 else
  if op = 10 then 47 else
  if op = 11 then 48 else
  if op = 12 then 34 else
  if op = 13 then 49 else
  if op = 14 then 50 else
  if op = 15 then 51 else
  52
theorem deedF_1 : deedF 1 = 38 := by decide
theorem deedF_2 : deedF 2 = 39 := by decide
theorem deedF_3 : deedF 3 = 40 := by decide
theorem deedF_4 : deedF 4 = 41 := by decide
theorem deedF_5 : deedF 5 = 42 := by decide
theorem deedF_6 : deedF 6 = 43 := by decide
theorem deedF_7 : deedF 7 = 44 := by decide
theorem deedF_8 : deedF 8 = 45 := by decide
theorem deedF_9 : deedF 9 = 46 := by decide
theorem deedF_10 : deedF 10 = 47 := by decide
theorem deedF_11 : deedF 11 = 48 := by decide
theorem deedF_12 : deedF 12 = 34 := by decide
theorem deedF_13 : deedF 13 = 49 := by decide
theorem deedF_14 : deedF 14 = 50 := by decide
theorem deedF_15 : deedF 15 = 51 := by decide
theorem deedF_16 : deedF 16 = 52 := by decide
section
variable {c : Cn} {l : List S58} {G : Gs} {ents : List Ent} {vt vl vw : Value} {w : World} {T : Ts} {tb me M k : Nat} {A : Option Addr} {cp : Nat} {path : List Int} {code : List S55}
theorem StepPost.go {vp : Value} {S : Nat → Prop} {T' : Ts} {G' : Gs} {e : Ending} {w' : World} {r : SR} (hr : r = .go T' G') (h : GoesP c l tb vp me S T' G' w e w') : StepPost c l tb vp me S r w e w' := by subst hr; exact h
theorem StepPost.stop {vp : Value} {S : Nat → Prop} {o : Out} {G' : Gs} {e : Ending} {w' : World} {r : SR} (hr : r = .stop o G') (h : EndP c l S o G' w e w') : StepPost c l tb vp me S r w e w' := by subst hr; exact h
theorem stepP_go {rec : Gs → List Int → List S55 → Nat → Ts → Out × Gs} {x : S55} {T' : Ts} (h : x.f0 ≠ 11 ∧ x.f0 ≠ 13 ∧ x.f0 ≠ 15) (hs : simple x T = .go T') : stepP l c.depth rec path x T G = .go T' G := by
  unfold stepP
  rw [if_neg (by omega), if_neg h.2.2, hs]
theorem stepP_stop {rec : Gs → List Int → List S55 → Nat → Ts → Out × Gs} {x : S55} {why : Int} (h : x.f0 ≠ 11 ∧ x.f0 ≠ 13 ∧ x.f0 ≠ 15) (hs : simple x T = .stop why) : stepP l c.depth rec path x T G = .stop (.fail why) G := by
  unfold stepP
  rw [if_neg (by omega), if_neg h.2.2, hs]
/-- what any operation but ret does. -/
structure StepOk (c : Cn) (l : List S58) (M k : Nat) (tb : Nat) (A : Option Addr) (cp : Nat) (path : List Int) (code : List S55) (me : Nat) (T : Ts) (G : Gs) (x : S55) (w : World) : Prop where
  hl : POk l
  hB : BeginC c l M k
  hlo : c.w0.heap.size ≤ tb
  hgi : GInv M c.budget G
  hti : TInv code c.depth path me T G
  hM : M ≤ 1000000
  hdp : c.depth ≤ 900
  hp : PathAt w A path
  hcp : path.length ≤ cp
  hcn : A = none → cp = 0
  hx : IOk l code.length x
  hleft : G.log.length + 1 + G.left ≤ M
  hk : G.left < k
theorem step_any {x : S55} (h : StepOk c l M k tb A cp path code me T G x w) (hg : ES c l G ents vt vl w) (ht : TB tb c.wb (.slice A path.length cp) T vw me c.B w) (h17 : x.f0 ≠ 17) :
    Calls Try.prog (deedF x.f0) #[.pointer (some ⟨tb, 0, none⟩), xv x] w (StepPost c l tb (.slice A path.length cp) me (PA c tb vt vl vw) (stepP l c.depth (runP l c.budget c.depth k) path x T G) w) := by
  have hx := h.hx
  have hop := hx.op
  have hlo := h.hlo
  have go : ∀ {T' : Ts}, (x.f0 ≠ 11 ∧ x.f0 ≠ 13 ∧ x.f0 ≠ 15) → simple x T = .go T' → ∀ {e : Ending} {w' : World}, GoP tb c.wb (.slice A path.length cp) T' vw me c.B w e w' → StepPost c l tb (.slice A path.length cp) me (PA c tb vt vl vw) (stepP l c.depth (runP l c.budget c.depth k) path x T G) w e w' :=
    fun hn hs e w' hp => StepPost.go (stepP_go hn hs) (task_go hg ht hlo hp.1 hp.2.1 hp.2.2 (.inl rfl))
  have st : ∀ {why : Int}, (x.f0 ≠ 11 ∧ x.f0 ≠ 13 ∧ x.f0 ≠ 15) → simple x T = .stop why → ∀ {e : Ending} {w' : World}, StopP why w e w' → StepPost c l tb (.slice A path.length cp) me (PA c tb vt vl vw) (stepP l c.depth (runP l c.budget c.depth k) path x T G) w e w' :=
    fun hn hs e w' hp => StepPost.stop (stepP_stop hn hs) (task_stop hg hp.1 hp.2 (fun q hq => .inl hq))
  have hcases : x.f0 = 1 ∨ x.f0 = 2 ∨ x.f0 = 3 ∨ x.f0 = 4 ∨ x.f0 = 5 ∨ x.f0 = 6 ∨ x.f0 = 7 ∨ x.f0 = 8 ∨ x.f0 = 9 ∨ x.f0 = 10 ∨ x.f0 = 11 ∨ x.f0 = 12 ∨ x.f0 = 13 ∨ x.f0 = 14 ∨ x.f0 = 15 ∨ x.f0 = 16 := by omega
  rcases hcases with e | e | e | e | e | e | e | e | e | e | e | e | e | e | e | e
  · rw [e, deedF_1]
    exact (tset_any ht x (hx.a (by omega) (by omega) (by omega) (by omega))).mono fun _ _ hp => go (by omega) (by unfold simple; repeat (first | rw [if_pos e] | rw [if_neg (by omega)])) hp
  · rw [e, deedF_2]
    exact (tmove_any ht x (hx.a (by omega) (by omega) (by omega) (by omega)) (hx.b (.inl (by omega)))).mono fun _ _ hp => go (by omega) (by unfold simple; repeat (first | rw [if_pos e] | rw [if_neg (by omega)])) hp
  · rw [e, deedF_3]
    exact (tadd_any ht x (hx.a (by omega) (by omega) (by omega) (by omega)) (hx.b (.inl (by omega))) (hx.c (by omega))).mono fun _ _ hp => go (by omega) (by unfold simple; repeat (first | rw [if_pos e] | rw [if_neg (by omega)])) hp
  · rw [e, deedF_4]
    exact (tsub_any ht x (hx.a (by omega) (by omega) (by omega) (by omega)) (hx.b (.inl (by omega))) (hx.c (by omega))).mono fun _ _ hp => go (by omega) (by unfold simple; repeat (first | rw [if_pos e] | rw [if_neg (by omega)])) hp
  · rw [e, deedF_5]
    exact (tmul_any ht x (hx.a (by omega) (by omega) (by omega) (by omega)) (hx.b (.inl (by omega))) (hx.c (by omega))).mono fun _ _ hp => go (by omega) (by unfold simple; repeat (first | rw [if_pos e] | rw [if_neg (by omega)])) hp
  · rw [e, deedF_6]
    by_cases hz : rg T x.f3 = 0
    · exact (tdiv_no ht x (hx.a (by omega) (by omega) (by omega) (by omega)) (hx.b (.inl (by omega))) (hx.c (by omega)) hz).mono fun _ _ hp => st (by omega) (by unfold simple; repeat (first | rw [if_pos e] | rw [if_pos hz] | rw [if_neg (by omega)])) hp
    · exact (tdiv_any ht x (hx.a (by omega) (by omega) (by omega) (by omega)) (hx.b (.inl (by omega))) (hx.c (by omega)) hz).mono fun _ _ hp => go (by omega) (by unfold simple; repeat (first | rw [if_pos e] | rw [if_neg hz] | rw [if_neg (by omega)])) hp
  · rw [e, deedF_7]
    exact (tless_any ht x (hx.a (by omega) (by omega) (by omega) (by omega)) (hx.b (.inl (by omega))) (hx.c (by omega))).mono fun _ _ hp => go (by omega) (by unfold simple; repeat (first | rw [if_pos e] | rw [if_neg (by omega)])) hp
  · rw [e, deedF_8]
    exact (tsame_any ht x (hx.a (by omega) (by omega) (by omega) (by omega)) (hx.b (.inl (by omega))) (hx.c (by omega))).mono fun _ _ hp => go (by omega) (by unfold simple; repeat (first | rw [if_pos e] | rw [if_neg (by omega)])) hp
  · rw [e, deedF_9]
    exact (tjump_any ht x).mono fun _ _ hp => go (by omega) (by unfold simple; repeat (first | rw [if_pos e] | rw [if_neg (by omega)])) hp
  · rw [e, deedF_10]
    exact (tzero_any ht x (hx.a (by omega) (by omega) (by omega) (by omega))).mono fun _ _ hp => go (by omega) (by unfold simple; repeat (first | rw [if_pos e] | rw [if_neg (by omega)])) hp
  · rw [e, deedF_11]
    rw [stepP_spawn e]
    exact tspawn_any ⟨h.hl, h.hB, h.hlo, h.hgi, h.hti, h.hM, h.hdp, h.hp, h.hcp, h.hcn, h.hx, .inl e, h.hleft, h.hk⟩ hg ht
  · rw [e, deedF_12]
    refine (sync_any ht x h.hti.wait (by have h1 := h.hti.wl; have h2 := h.hti.kids; have h3 := h.hgi.log; have h4 := h.hM; omega)).mono fun _ _ hp => ?_
    exact StepPost.go (stepP_go (by omega) (by unfold simple; repeat (first | rw [if_pos e] | rw [if_neg (by omega)]))) (task_go hg ht hlo hp.1 hp.2.1 hp.2.2 (.inr rfl))
  · rw [e, deedF_13]
    rw [stepP_future e]
    exact tfuture_any (hx.a13 e) ⟨h.hl, h.hB, h.hlo, h.hgi, h.hti, h.hM, h.hdp, h.hp, h.hcp, h.hcn, h.hx, .inr e, h.hleft, h.hk⟩ hg ht
  · rw [e, deedF_14]
    cases hz : (hd T x.f2).1 with
    | true => exact (ttouch_any ht x (hx.a (by omega) (by omega) (by omega) (by omega)) (hx.b14 e) hz).mono fun _ _ hp => go (by omega) (by unfold simple; repeat (first | rw [if_pos e] | rw [if_pos hz] | rw [if_neg (by omega)])) hp
    | false => exact (ttouch_no ht x (hx.b14 e) hz).mono fun _ _ hp => st (by omega) (by unfold simple; repeat (first | rw [if_pos e] | rw [if_neg (by rw [hz]; decide)] | rw [if_neg (by omega)])) hp
  · rw [e, deedF_15]
    refine (temit_any hg ht hlo x (hx.a (by omega) (by omega) (by omega) (by omega)) (by have h3 := h.hgi.told; have h4 := h.hM; omega)).mono fun _ _ hp => ?_
    exact StepPost.go (by unfold stepP; rw [if_neg (by omega), if_pos e]) hp
  · rw [e, deedF_16]
    exact (tfail_any ht x).mono fun _ _ hp => st (by omega) (by unfold simple; repeat (first | rw [if_neg (by omega)])) hp
end
/-! ### the table -/
def Rfn (v : Value) : Option (DataW Unit × List MemPlace) :=
  match v with
  | .func (.func n) a b => if a = #[] ∧ b = #[] then some (.lit (.int .i64 n), []) else none
  | .nilFunc => some (.lit (.int .i64 (-1)), [])
  | _ => none
theorem Rfn_mk (n : Nat) : Rfn (.func (.func n) #[] #[]) = some (.lit (.int .i64 n), []) := by simp [Rfn]
theorem Rfn_inv {v : Value} {n : Nat} {ps : List MemPlace} (h : Rfn v = some (.lit (.int .i64 n), ps)) : v = .func (.func n) #[] #[] := by
  unfold Rfn at h
  split at h
  · split at h
    · rename_i m a b hab
      obtain ⟨rfl, rfl⟩ := hab
      have h1 := congrArg (fun o : Option (DataW Unit × List MemPlace) => match o with | some (.lit (.int _ x), _) => x | _ => 0) h
      have h2 : (m : Int) = (n : Int) := h1
      have : m = n := Int.ofNat.inj h2
      rw [this]
    · cases h
  · exfalso
    have h1 := congrArg (fun o : Option (DataW Unit × List MemPlace) => match o with | some (.lit (.int _ x), _) => x | _ => 0) h
    have h2 : (-1 : Int) = (n : Int) := h1
    omega
  · cases h
theorem law3 : Keyed Try.prog 3 := int_keyed Try.underlying3
theorem zeroF (w : World) : (zeroValue 111).run Try.prog w = .ok .nilFunc w := by kernel_rfl
def DeedAt (mb : Nat) (w : World) : Prop := ∃ D : DataW Unit, w.ownsMap Try.prog 3 Rfn mb 16 D ∧ ∀ op : Int, 1 ≤ op → op ≤ 16 → D.atKey (.int .i64 op) (.lit (.int .i64 (-1))) = .lit (.int .i64 (deedF op))
theorem DeedAt.heap {mb : Nat} {w w1 : World} (h : DeedAt mb w) (hk : w1.heap[mb]? = w.heap[mb]?) : DeedAt mb w1 := by
  obtain ⟨D, ⟨es, clock, h1, h2⟩, h3⟩ := h
  exact ⟨D, ⟨es, clock, hk.trans h1, h2⟩, h3⟩
theorem DeedAt.notCells {mb : Nat} {w : World} (h : DeedAt mb w) : ∀ cs t f, w.heap[mb]? ≠ some (.cells cs t f) := by
  obtain ⟨D, ⟨es, clock, h1, h2⟩, h3⟩ := h
  intro cs t f e
  rw [h1] at e; cases e
theorem DeedAt.lt {mb : Nat} {w : World} (h : DeedAt mb w) : mb < w.heap.size := by
  obtain ⟨D, hm, _⟩ := h
  exact hm.lt
theorem DeedAt.look {mb : Nat} {w : World} (h : DeedAt mb w) (op : Int) (h1 : 1 ≤ op) (h2 : op ≤ 16) : (Instr.lookup 107 (.map (some mb)) (.int .i64 op) false).run Try.prog w = .ok (.func (.func (deedF op)) #[] #[]) w := by
  obtain ⟨D, hm, hD⟩ := h
  obtain ⟨v, ps, hrun, hv⟩ := hm.lookup law3 Try.underlying107 (zeroF w) (zd := .lit (.int .i64 (-1))) (zp := []) rfl (key := .int .i64 op) (kl := .int .i64 op) (keyOf_int_mk Try.underlying3 (WalkArith.wf_i64 (by omega)))
  rw [hD op h1 h2] at hv
  rw [hrun, Rfn_inv hv]
theorem wpList_insert_own {H : Type} {P : Program} (w : World) {ops : Array Oper} {rest : List Oper} {o : Oper} {a : Act} {Q : Exit → Act → World → Prop}
    (hg : o.guard = none) (m x v : Operand) (t : TypeId) (hop : o.op = Op.insert t m x v)
    (k e : TypeId) (K : Keyed P k) (ht : P.underlying t = some (.map k e)) (R : Value → Option (DataW H × List MemPlace)) (b n : Nat) (D : DataW H)
    (hm : a.eval m = .map (some b)) (hown : w.ownsMap P k R b n D) (hn : n < maxLen) (key val : Value) (kl : Lit) (hx : a.eval x = key) (hv : a.eval v = val) (hkey : keyOf P k key = some kl)
    (d : DataW H) (ps : List MemPlace) (hval : R val = some (d, ps))
    (hK : ∀ w', w'.ownsMap P k R b (n + 1) (D.put kl d) → w.grownBy w' (some b) → wpList P ops Q rest (a.put o.dst undef) w') :
    wpList P ops Q (o :: rest) a w := by
  refine wpList_plain hg fun K' hK' => ?_
  obtain ⟨w', hrun, r1, r2⟩ := hown.update K ht hn hkey hval
  unfold Oper.wp
  simp [execOp, hop, hm, hx, hv, hrun, Result.andThen]
  exact hK' _ _ (hK w' r1 r2)
/-- the table as it is filled. -/
structure TabI (w : World) (mb n : Nat) (w' : World) : Prop where
  map : ∃ D : DataW Unit, w'.ownsMap Try.prog 3 Rfn mb n D ∧ ∀ op : Int, 1 ≤ op → op ≤ n → D.atKey (.int .i64 op) (.lit (.int .i64 (-1))) = .lit (.int .i64 (deedF op))
  below : Below w.heap.size w w'
  mb_ : mb = w.heap.size
theorem TabI.put {w w1 w2 : World} {mb n : Nat} (h : TabI w mb n w1) {D : DataW Unit} (hD : ∀ op : Int, 1 ≤ op → op ≤ n → D.atKey (.int .i64 op) (.lit (.int .i64 (-1))) = .lit (.int .i64 (deedF op))) (hi : IsMap D) (hm : w2.ownsMap Try.prog 3 Rfn mb (n + 1) (D.put (.int .i64 ((n : Int) + 1)) (.lit (.int .i64 (deedF ((n : Int) + 1)))))) (hg : w1.grownBy w2 (some mb)) : TabI w mb (n + 1) w2 := by
  refine ⟨⟨_, hm, fun op h1 h2 => ?_⟩, h.below.grown hg h.below.size (fun j hj => by cases hj; rw [h.mb_]; exact Nat.le_refl _), h.mb_⟩
  by_cases e : (n : Int) + 1 = op
  · subst e
    rw [atKey_put_same hi (by simp [WideAt.IsKeyLit])]
  · rw [atKey_put_other (by simp; exact fun h => e h.symm), hD op h1 (by omega)]
def DeedsP (w : World) (e : Ending) (w' : World) : Prop := e = .returned (.map (some w.heap.size)) ∧ Below w.heap.size w w' ∧ DeedAt w.heap.size w'
set_option maxRecDepth 100000 in
set_option maxHeartbeats 8000000 in
theorem deeds_any (w : World) : Calls Try.prog 32 #[] w (DeedsP w) := by
  have hmm := @run_makeMap Try.prog
  have H0 := Aside0.mk (show TabI w w.heap.size 0 (w.alloc (.map #[] 0)) from ⟨⟨.map [], World.ownsMap_made _ _ _ _, fun op h1 h2 => by omega⟩, (Below.refl _ _).alloc (Nat.le_refl _) _, rfl⟩)
  go_enter Try.func32, Try.ntmps32
  go_wp2_with (first | (obtain ⟨D, hm, hD⟩ := H0.out.map; refine wpList_insert_own _ rfl (.tmp 1) _ _ 107 rfl 3 111 law3 Try.underlying107 Rfn w.heap.size 0 D rfl hm (by unfold maxLen; decide) (.int .i64 1) (.func (.func 38) #[] #[]) (.int .i64 1) rfl rfl (keyOf_int_mk Try.underlying3 (by decide)) (.lit (.int .i64 38)) [] (Rfn_mk 38) ?_; intro w1 hm1 hg1; have H1 := Aside0.mk (H0.out.put hD hm.isMap (w2 := w1) hm1 hg1); clear hm hD hm1 hg1) | (obtain ⟨D, hm, hD⟩ := H1.out.map; refine wpList_insert_own _ rfl (.tmp 1) _ _ 107 rfl 3 111 law3 Try.underlying107 Rfn w.heap.size 1 D rfl hm (by unfold maxLen; decide) (.int .i64 2) (.func (.func 39) #[] #[]) (.int .i64 2) rfl rfl (keyOf_int_mk Try.underlying3 (by decide)) (.lit (.int .i64 39)) [] (Rfn_mk 39) ?_; intro w2 hm1 hg1; have H2 := Aside0.mk (H1.out.put hD hm.isMap (w2 := w2) hm1 hg1); clear hm hD hm1 hg1) | (obtain ⟨D, hm, hD⟩ := H2.out.map; refine wpList_insert_own _ rfl (.tmp 1) _ _ 107 rfl 3 111 law3 Try.underlying107 Rfn w.heap.size 2 D rfl hm (by unfold maxLen; decide) (.int .i64 3) (.func (.func 40) #[] #[]) (.int .i64 3) rfl rfl (keyOf_int_mk Try.underlying3 (by decide)) (.lit (.int .i64 40)) [] (Rfn_mk 40) ?_; intro w3 hm1 hg1; have H3 := Aside0.mk (H2.out.put hD hm.isMap (w2 := w3) hm1 hg1); clear hm hD hm1 hg1) | (obtain ⟨D, hm, hD⟩ := H3.out.map; refine wpList_insert_own _ rfl (.tmp 1) _ _ 107 rfl 3 111 law3 Try.underlying107 Rfn w.heap.size 3 D rfl hm (by unfold maxLen; decide) (.int .i64 4) (.func (.func 41) #[] #[]) (.int .i64 4) rfl rfl (keyOf_int_mk Try.underlying3 (by decide)) (.lit (.int .i64 41)) [] (Rfn_mk 41) ?_; intro w4 hm1 hg1; have H4 := Aside0.mk (H3.out.put hD hm.isMap (w2 := w4) hm1 hg1); clear hm hD hm1 hg1) | (obtain ⟨D, hm, hD⟩ := H4.out.map; refine wpList_insert_own _ rfl (.tmp 1) _ _ 107 rfl 3 111 law3 Try.underlying107 Rfn w.heap.size 4 D rfl hm (by unfold maxLen; decide) (.int .i64 5) (.func (.func 42) #[] #[]) (.int .i64 5) rfl rfl (keyOf_int_mk Try.underlying3 (by decide)) (.lit (.int .i64 42)) [] (Rfn_mk 42) ?_; intro w5 hm1 hg1; have H5 := Aside0.mk (H4.out.put hD hm.isMap (w2 := w5) hm1 hg1); clear hm hD hm1 hg1) | (obtain ⟨D, hm, hD⟩ := H5.out.map; refine wpList_insert_own _ rfl (.tmp 1) _ _ 107 rfl 3 111 law3 Try.underlying107 Rfn w.heap.size 5 D rfl hm (by unfold maxLen; decide) (.int .i64 6) (.func (.func 43) #[] #[]) (.int .i64 6) rfl rfl (keyOf_int_mk Try.underlying3 (by decide)) (.lit (.int .i64 43)) [] (Rfn_mk 43) ?_; intro w6 hm1 hg1; have H6 := Aside0.mk (H5.out.put hD hm.isMap (w2 := w6) hm1 hg1); clear hm hD hm1 hg1) | (obtain ⟨D, hm, hD⟩ := H6.out.map; refine wpList_insert_own _ rfl (.tmp 1) _ _ 107 rfl 3 111 law3 Try.underlying107 Rfn w.heap.size 6 D rfl hm (by unfold maxLen; decide) (.int .i64 7) (.func (.func 44) #[] #[]) (.int .i64 7) rfl rfl (keyOf_int_mk Try.underlying3 (by decide)) (.lit (.int .i64 44)) [] (Rfn_mk 44) ?_; intro w7 hm1 hg1; have H7 := Aside0.mk (H6.out.put hD hm.isMap (w2 := w7) hm1 hg1); clear hm hD hm1 hg1) | (obtain ⟨D, hm, hD⟩ := H7.out.map; refine wpList_insert_own _ rfl (.tmp 1) _ _ 107 rfl 3 111 law3 Try.underlying107 Rfn w.heap.size 7 D rfl hm (by unfold maxLen; decide) (.int .i64 8) (.func (.func 45) #[] #[]) (.int .i64 8) rfl rfl (keyOf_int_mk Try.underlying3 (by decide)) (.lit (.int .i64 45)) [] (Rfn_mk 45) ?_; intro w8 hm1 hg1; have H8 := Aside0.mk (H7.out.put hD hm.isMap (w2 := w8) hm1 hg1); clear hm hD hm1 hg1) | (obtain ⟨D, hm, hD⟩ := H8.out.map; refine wpList_insert_own _ rfl (.tmp 1) _ _ 107 rfl 3 111 law3 Try.underlying107 Rfn w.heap.size 8 D rfl hm (by unfold maxLen; decide) (.int .i64 9) (.func (.func 46) #[] #[]) (.int .i64 9) rfl rfl (keyOf_int_mk Try.underlying3 (by decide)) (.lit (.int .i64 46)) [] (Rfn_mk 46) ?_; intro w9 hm1 hg1; have H9 := Aside0.mk (H8.out.put hD hm.isMap (w2 := w9) hm1 hg1); clear hm hD hm1 hg1) | (obtain ⟨D, hm, hD⟩ := H9.out.map; refine wpList_insert_own _ rfl (.tmp 1) _ _ 107 rfl 3 111 law3 Try.underlying107 Rfn w.heap.size 9 D rfl hm (by unfold maxLen; decide) (.int .i64 10) (.func (.func 47) #[] #[]) (.int .i64 10) rfl rfl (keyOf_int_mk Try.underlying3 (by decide)) (.lit (.int .i64 47)) [] (Rfn_mk 47) ?_; intro w10 hm1 hg1; have H10 := Aside0.mk (H9.out.put hD hm.isMap (w2 := w10) hm1 hg1); clear hm hD hm1 hg1) | (obtain ⟨D, hm, hD⟩ := H10.out.map; refine wpList_insert_own _ rfl (.tmp 1) _ _ 107 rfl 3 111 law3 Try.underlying107 Rfn w.heap.size 10 D rfl hm (by unfold maxLen; decide) (.int .i64 11) (.func (.func 48) #[] #[]) (.int .i64 11) rfl rfl (keyOf_int_mk Try.underlying3 (by decide)) (.lit (.int .i64 48)) [] (Rfn_mk 48) ?_; intro w11 hm1 hg1; have H11 := Aside0.mk (H10.out.put hD hm.isMap (w2 := w11) hm1 hg1); clear hm hD hm1 hg1) | (obtain ⟨D, hm, hD⟩ := H11.out.map; refine wpList_insert_own _ rfl (.tmp 1) _ _ 107 rfl 3 111 law3 Try.underlying107 Rfn w.heap.size 11 D rfl hm (by unfold maxLen; decide) (.int .i64 12) (.func (.func 34) #[] #[]) (.int .i64 12) rfl rfl (keyOf_int_mk Try.underlying3 (by decide)) (.lit (.int .i64 34)) [] (Rfn_mk 34) ?_; intro w12 hm1 hg1; have H12 := Aside0.mk (H11.out.put hD hm.isMap (w2 := w12) hm1 hg1); clear hm hD hm1 hg1) | (obtain ⟨D, hm, hD⟩ := H12.out.map; refine wpList_insert_own _ rfl (.tmp 1) _ _ 107 rfl 3 111 law3 Try.underlying107 Rfn w.heap.size 12 D rfl hm (by unfold maxLen; decide) (.int .i64 13) (.func (.func 49) #[] #[]) (.int .i64 13) rfl rfl (keyOf_int_mk Try.underlying3 (by decide)) (.lit (.int .i64 49)) [] (Rfn_mk 49) ?_; intro w13 hm1 hg1; have H13 := Aside0.mk (H12.out.put hD hm.isMap (w2 := w13) hm1 hg1); clear hm hD hm1 hg1) | (obtain ⟨D, hm, hD⟩ := H13.out.map; refine wpList_insert_own _ rfl (.tmp 1) _ _ 107 rfl 3 111 law3 Try.underlying107 Rfn w.heap.size 13 D rfl hm (by unfold maxLen; decide) (.int .i64 14) (.func (.func 50) #[] #[]) (.int .i64 14) rfl rfl (keyOf_int_mk Try.underlying3 (by decide)) (.lit (.int .i64 50)) [] (Rfn_mk 50) ?_; intro w14 hm1 hg1; have H14 := Aside0.mk (H13.out.put hD hm.isMap (w2 := w14) hm1 hg1); clear hm hD hm1 hg1) | (obtain ⟨D, hm, hD⟩ := H14.out.map; refine wpList_insert_own _ rfl (.tmp 1) _ _ 107 rfl 3 111 law3 Try.underlying107 Rfn w.heap.size 14 D rfl hm (by unfold maxLen; decide) (.int .i64 15) (.func (.func 51) #[] #[]) (.int .i64 15) rfl rfl (keyOf_int_mk Try.underlying3 (by decide)) (.lit (.int .i64 51)) [] (Rfn_mk 51) ?_; intro w15 hm1 hg1; have H15 := Aside0.mk (H14.out.put hD hm.isMap (w2 := w15) hm1 hg1); clear hm hD hm1 hg1) | (obtain ⟨D, hm, hD⟩ := H15.out.map; refine wpList_insert_own _ rfl (.tmp 1) _ _ 107 rfl 3 111 law3 Try.underlying107 Rfn w.heap.size 15 D rfl hm (by unfold maxLen; decide) (.int .i64 16) (.func (.func 52) #[] #[]) (.int .i64 16) rfl rfl (keyOf_int_mk Try.underlying3 (by decide)) (.lit (.int .i64 52)) [] (Rfn_mk 52) ?_; intro w16 hm1 hg1; have H16 := Aside0.mk (H15.out.put hD hm.isMap (w2 := w16) hm1 hg1); clear hm hD hm1 hg1))
  go_ret
  obtain ⟨D, hm, hD⟩ := H16.out.map
  exact ⟨rfl, H16.out.below, D, hm, fun op h1 h2 => hD op h1 (by omega)⟩
end Go.Proofs.Ytnhipdniceoigaa.H
