/- worker, Now, Limbo, Retire, New of Epochs, walked. -/
import Derived.Test.YthbooikhegppnaaEp
import Derived.BigQuiet
import Derived.Deep.QuietTactic
set_option linter.unusedVariables false
set_option linter.unusedSimpArgs false
namespace Go.Proofs.Ythbooikhegppnaa.H
open Go.RowKit Go.Hay Go.Proofs.YthbooikhegppnaaW.PrintWords Go.Proofs.YthbooikhegppnaaW.PrintLast Go.Proofs.YthbooikhegppnaaW.PrintMore
theorem info62 : (Try.prog.info? 62).map (fun i => (i.zero, i.size, i.bytes)) = some (some (.agg #[(.int .i64 0), (.int .i64 0)]), 2, 16) := by kernel_rfl
theorem info58 : (Try.prog.info? 58).map (fun i => (i.zero, i.size, i.bytes)) = some (some (.agg #[(.int .i64 0), (.slice none 0 0)]), 2, 32) := by kernel_rfl
theorem panic_via {P : Program} {fn : Func} {R : Ending → World → Prop} {ops : Array Oper} {Q : Exit → Act → World → Prop} (hQ : ∀ c a w, Q (.panic c) a w = bodyPost P fn R (.panic c) a w) :
    ∀ o ∈ ops.toList, ∀ c a v w, Q (.panic c) (a.put o.dst v) w → Q (.panic c) a w := by
  intro o ho c a v w h
  rw [hQ] at h ⊢
  exact panic_put (P := P) (fn := fn) (R := R) o ho c a v w h
def PV (xs : List EW) : List (Int × List Rt) := xs.map fun x => (x.a, x.l)
/-- The Epochs at b, in plain words: the epoch, and of each worker what it announced and its limbo. -/
def Ep (ok : Nat → Prop) (B b : Nat) (now : Int) (ws : List (Int × List Rt)) (w : World) : Prop := ∃ g cap xs, EpI ok B b g cap now xs w ∧ PV xs = ws
theorem Ep.keep {ok : Nat → Prop} {B b : Nat} {now : Int} {ws : List (Int × List Rt)} {w w1 : World} (h : Ep ok B b now ws w) (hk : ∀ k, ok k → w1.heap[k]? = w.heap[k]?) (hz : w.heap.size ≤ w1.heap.size) : Ep ok B b now ws w1 := by
  obtain ⟨g, cap, xs, h1, h2⟩ := h
  exact ⟨g, cap, xs, h1.keep hk hz, h2⟩
theorem Ep.below {ok : Nat → Prop} {B b : Nat} {now : Int} {ws : List (Int × List Rt)} {w w1 : World} (h : Ep ok B b now ws w) (hb : Below w.heap.size w w1) : Ep ok B b now ws w1 := by
  obtain ⟨g, cap, xs, h1, h2⟩ := h
  exact ⟨g, cap, xs, h1.below hb, h2⟩
section
variable {ok : Nat → Prop} {B b g cap : Nat} {now : Int} {xs : List EW} {w : World}
set_option maxRecDepth 100000 in
theorem worker_nil (k : Int) (w : World) : Calls Try.prog 19 #[.pointer none, .int .i64 k] w fun e w' => e = .returned (.pointer none) ∧ w = w' := by
  go_enter Try.func19, Try.ntmps19
  go_wp2_with fail
  go_ret
  exact ⟨rfl, rfl⟩
set_option maxRecDepth 100000 in
theorem worker_out (h : EpI ok B b g cap now xs w) (k : Int) (hn : xs.length ≤ 1000) (hk : k < 0 ∨ (xs.length : Int) ≤ k) : Calls Try.prog 19 #[.pointer (some ⟨b, 0, none⟩), .int .i64 k] w fun e w' => e = .returned (.pointer none) ∧ w = w' := by
  have c1 := h.now_.2.1
  clear h
  by_cases hk0 : k < 0
  · have h1 : (k < 0) = True := eq_true hk0
    clear hk hk0
    go_enter Try.func19, Try.ntmps19
    go_wp2_with fail
    go_ret
    exact ⟨rfl, rfl⟩
  · have h1 : (k < 0) = False := eq_false hk0
    have h2 : ((xs.length : Int) ≤ k) = True := eq_true (by omega)
    clear hk hk0
    go_enter Try.func19, Try.ntmps19
    go_wp2_with fail
    go_ret
    exact ⟨rfl, rfl⟩
set_option maxRecDepth 100000 in
theorem worker_in (h : EpI ok B b g cap now xs w) (k : Nat) (hn : xs.length ≤ 1000) (hk : k < xs.length) : Calls Try.prog 19 #[.pointer (some ⟨b, 0, none⟩), .int .i64 k] w fun e w' => e = .returned (.pointer (some ⟨g, k * 2, none⟩)) ∧ w = w' := by
  have c1 := h.now_.2.1
  have h1 : ((k : Int) < 0) = False := eq_false (by omega)
  have h2 : ((xs.length : Int) ≤ (k : Int)) = False := eq_false (by omega)
  clear h
  go_enter Try.func19, Try.ntmps19
  go_wp2_with fail
  go_ret
  exact ⟨rfl, rfl⟩
set_option maxRecDepth 100000 in
theorem Now_nil (w : World) : Calls Try.prog 16 #[.pointer none] w fun e w' => e = .returned (.int .i64 0) ∧ w = w' := by
  go_enter Try.func16, Try.ntmps16
  go_wp2_with fail
  go_ret
  exact ⟨rfl, rfl⟩
set_option maxRecDepth 100000 in
theorem Now_any {ws : List (Int × List Rt)} (h : Ep ok B b now ws w) : Calls Try.prog 16 #[.pointer (some ⟨b, 0, none⟩)] w fun e w' => e = .returned (.int .i64 now) ∧ w = w' := by
  obtain ⟨g, cap, xs, h1, _⟩ := h
  have c0 := h1.now_.1
  clear h1
  go_enter Try.func16, Try.ntmps16
  go_wp2_with fail
  go_ret
  exact ⟨rfl, rfl⟩
set_option maxRecDepth 100000 in
theorem Limbo_nil (k : Int) (w : World) : Calls Try.prog 17 #[.pointer none, .int .i64 k] w fun e w' => e = .returned (.int .i64 0) ∧ w = w' := by
  have H := Aside0.mk (worker_nil k w)
  go_enter Try.func17, Try.ntmps17
  go_wp2_with fail
  refine H.out.mono ?_
  rintro e w' ⟨rfl, rfl⟩
  go_wp2_with fail
  go_ret
  exact ⟨rfl, rfl⟩
set_option maxRecDepth 100000 in
theorem Limbo_out {ws : List (Int × List Rt)} (h : Ep ok B b now ws w) (k : Int) (hn : ws.length ≤ 1000) (hk : k < 0 ∨ (ws.length : Int) ≤ k) : Calls Try.prog 17 #[.pointer (some ⟨b, 0, none⟩), .int .i64 k] w fun e w' => e = .returned (.int .i64 0) ∧ w = w' := by
  obtain ⟨g, cap, xs, h1, rfl⟩ := h
  unfold PV at hn hk
  rw [List.length_map] at hn hk
  have H := Aside0.mk (worker_out h1 k hn hk)
  clear h1 hk
  go_enter Try.func17, Try.ntmps17
  go_wp2_with fail
  refine H.out.mono ?_
  rintro e w' ⟨rfl, rfl⟩
  go_wp2_with fail
  go_ret
  exact ⟨rfl, rfl⟩
set_option maxRecDepth 100000 in
theorem Limbo_in {ws : List (Int × List Rt)} (h : Ep ok B b now ws w) (k : Nat) (hn : ws.length ≤ 1000) (hk : k < ws.length) : Calls Try.prog 17 #[.pointer (some ⟨b, 0, none⟩), .int .i64 k] w fun e w' => e = .returned (.int .i64 ws[k].2.length) ∧ w = w' := by
  obtain ⟨g, cap, xs, h1, rfl⟩ := h
  have hk' : k < xs.length := by simpa [PV] using hk
  have hn' : xs.length ≤ 1000 := by simpa [PV] using hn
  have e1 : (PV xs)[k].2 = xs[k].l := by simp [PV]
  have H := Aside0.mk (worker_in h1 k hn' hk')
  obtain ⟨_, c1, _, _⟩ := h1.at_ hk'
  unfold EW.v at c1
  rw [e1]
  generalize xs[k].A = A at c1
  generalize xs[k].l = l at c1 ⊢
  generalize xs[k].c = c at c1
  clear h1 e1 hk hn
  go_enter Try.func17, Try.ntmps17
  go_wp2_with fail
  refine H.out.mono ?_
  rintro e w' ⟨rfl, rfl⟩
  go_wp2_with fail
  go_ret
  exact ⟨rfl, rfl⟩
end
set_option maxRecDepth 100000 in
theorem Retire_nil (k t : Int) (w : World) : Calls Try.prog 10 #[.pointer none, .int .i64 k, .int .i64 t] w fun e w' => e = .returned (.int .i64 1) ∧ w = w' := by
  have H := Aside0.mk (worker_nil k w)
  go_enter Try.func10, Try.ntmps10
  go_wp2_with fail
  refine H.out.mono ?_
  rintro e w' ⟨rfl, rfl⟩
  go_wp2_with fail
  go_ret
  exact ⟨rfl, rfl⟩
set_option maxRecDepth 100000 in
theorem Retire_out {ok : Nat → Prop} {B b : Nat} {now : Int} {w : World} {ws : List (Int × List Rt)} (h : Ep ok B b now ws w) (k t : Int) (hn : ws.length ≤ 1000) (hk : k < 0 ∨ (ws.length : Int) ≤ k) : Calls Try.prog 10 #[.pointer (some ⟨b, 0, none⟩), .int .i64 k, .int .i64 t] w fun e w' => e = .returned (.int .i64 1) ∧ w = w' := by
  obtain ⟨g, cap, xs, h1, rfl⟩ := h
  unfold PV at hn hk
  rw [List.length_map] at hn hk
  have H := Aside0.mk (worker_out h1 k hn hk)
  clear h1 hk
  go_enter Try.func10, Try.ntmps10
  go_wp2_with fail
  refine H.out.mono ?_
  rintro e w' ⟨rfl, rfl⟩
  go_wp2_with fail
  go_ret
  exact ⟨rfl, rfl⟩
/-- What a step does: the Epochs are others, all else is as it was. -/
structure EpStep (ok : Nat → Prop) (B b : Nat) (now : Int) (ws : List (Int × List Rt)) (w w' : World) : Prop where
  keep : Keep ok w w'
  ep : ∃ ok' : Nat → Prop, Ep ok' B b now ws w' ∧ ∀ q, ok' q → ok q ∨ w.heap.size ≤ q
set_option maxRecDepth 100000 in
set_option maxHeartbeats 4000000 in
theorem Retire_in {ok : Nat → Prop} {B b : Nat} {now : Int} {w : World} {ws : List (Int × List Rt)} (h : Ep ok B b now ws w) (k : Nat) (t : Int) (hn : ws.length ≤ 1000) (hk : k < ws.length) (hl : ws[k].2.length ≤ 1000000) :
    Calls Try.prog 10 #[.pointer (some ⟨b, 0, none⟩), .int .i64 k, .int .i64 t] w fun e w' => e = .returned (.int .i64 0) ∧ EpStep ok B b now (ws.set k (ws[k].1, ws[k].2 ++ [⟨t, now⟩])) w w' := by
  obtain ⟨g, cap, xs, h1, rfl⟩ := h
  have hk' : k < xs.length := by simpa [PV] using hk
  have hn' : xs.length ≤ 1000 := by simpa [PV] using hn
  have e1 : (PV xs)[k] = (xs[k].a, xs[k].l) := by simp [PV]
  rw [e1] at hl ⊢
  have H := Aside0.mk (worker_in h1 k hn' hk')
  have HE := Aside0.mk h1
  have HL := Aside0.mk (And.intro hk' hl)
  obtain ⟨x, hx⟩ : ∃ x, x = xs[k] := ⟨_, rfl⟩
  have HX := Aside0.mk hx
  clear h1 e1 hn hk hl
  go_enter Try.func10, Try.ntmps10
  go_wp2_with fail
  refine H.out.mono ?_
  rintro e w' ⟨rfl, rfl⟩
  go_wp2_with fail
  clear H
  refine wp_region_seq2 (fun w' => w'.heap[b]? = w.heap[b]? ∧ w'.heap[g]? = w.heap[g]?) [15] [.take 0, .take 1, .take 2, .take 3, .take 4, .take 5, .take 6, .take 7, .take 8, .take 9, .take 10, .op 11, .op 12, .op 13, .op 14, .fin 15] (by kernel_rfl) (by kernel_rfl) rfl (by kernel_rfl) (panic_via (P := Try.prog) (fn := Try.f10) (R := fun e w' => e = .returned (.int .i64 0) ∧ EpStep ok B b now ((PV xs).set k (xs[k].a, xs[k].l ++ [⟨t, now⟩])) w w') (fun _ _ _ => rfl)) ?_
  have hs : w.drew.heap[b]? = w.heap[b]? ∧ w.drew.heap[g]? = w.heap[g]? := ⟨rfl, rfl⟩
  have hxv : xs[k].v = .slice x.A x.l.length x.c := by rw [← hx]; rfl
  have HV := Aside0.mk hxv
  clear hxv hx
  repeat (
    (first
      | (refine runSeq2_take (v := ?_) (by rfl) (by rfl) (fun w' hS => ?_) hs ?_
         rotate_left
         · (have q0 := (World.cell?_of_block (w := w) (a := ⟨b, 0, none⟩) hS.1).trans HE.out.now_.1; have q1 := ((World.cell?_of_block (w := w) (a := ⟨g, k * 2 + 1, none⟩) hS.2).trans (HE.out.at_ HL.out.1).2.1).trans (congrArg some HV.out); go_simp; exact rfl))
      | refine runSeq2_skip (by rfl) (by rfl) hs ?_)
    (try simp only [Act.put, List.setIfInBounds_toArray, List.set_cons_zero, List.set_cons_succ]))
  refine runSeq2_op (by rfl) (by rfl) (fun K hK => ?_)
  go_simp
  have hb1 : Below w.heap.size w (w.drew.alloc (.cells #[.int .i64 t, .int .i64 now] 62)) := (Below.refl _ _).drew.alloc (by exact Nat.le_refl _) _
  have hE1 := HE.out.below hb1
  refine hK _ _ ⟨hb1.block _ (HE.out.okw b HE.out.okb), hb1.block _ (HE.out.okw g HE.out.okg)⟩ ?_
  clear hK K
  refine runSeq2_op (by rfl) (by rfl) (fun K hK => ?_)
  have hlim := hE1.lim k HL.out.1
  rw [HV.out, ← HX.out] at hlim
  have hBs : B ≤ w.heap.size := Nat.le_trans HE.out.hb (Nat.le_of_lt (HE.out.okw b HE.out.okb))
  refine wp_append_rows kRt (Rr := kRt.M (w.drew.alloc (.cells #[.int .i64 t, .int .i64 now] 62)) B (fun _ => False)) B rfl (.tmp 17) (.tmp 24) 56 62 (.agg #[(.int .i64 0), (.int .i64 0)]) 16 rfl Try.underlying56 info62 rfl (by decide) (by decide) (.slice x.A x.l.length x.c) x.l [⟨t, now⟩] _ _ _ (fun _ => True) (fun _ => False) rfl rfl (rt_flat hlim (fun _ _ => trivial) (fun _ _ => rfl)) (reads_one (alloc_blk _ _) (kRt_mkM _ _ _ (⟨t, now⟩ : Rt))) (fun _ _ h => h) (fun _ h => h.elim) (fun _ _ => trivial) (Nat.le_trans hBs hb1.size) (by have := HL.out.2; rw [HX.out]; omega) ?_
  intro v1 w1 hR hbw hg hat
  obtain ⟨A9, c9, rfl⟩ := Kd.R_slice hR
  have hg' : ∀ q, q < w.heap.size → xs[k].v.ownBlock ≠ some q → w1.heap[q]? = w.heap[q]? := fun q hq hne => (hg.block q (Nat.lt_of_lt_of_le hq hb1.size) (fun e => hne (by rw [HV.out]; exact e.symm))).trans (hb1.block q hq)
  have hst := HE.out.setL HL.out.1 (w1 := w1) (l := x.l ++ [⟨t, now⟩]) (A := A9) (c := c9) (rt_flat hR (fun q hq => by
    rcases hat with h2 | ⟨q', h2, h3⟩
    · rw [h2] at hq; exact .inl (by rw [HV.out]; exact hq)
    · rw [h2] at hq; cases hq; exact .inr (Nat.le_trans hb1.size h3)) (fun _ _ => rfl)) (Nat.le_trans hb1.size hg.size) hg'
  have hk1 : Keep ok w (w1.setCell ⟨g, k * 2 + 1, none⟩ (.slice A9 (x.l ++ [(⟨t, now⟩ : Rt)]).length c9)) :=
    Keep.set ⟨hbw.os.trans hb1.os, hbw.tape.trans hb1.tape, hbw.output.trans hb1.output, Nat.le_trans hb1.size hg.size, fun q hq hne => hg' q hq (fun e => hne ((HE.out.lim k HL.out.1).1 q e))⟩ (.inr HE.out.okg) _
  have hE9 : w1.heap[b]? = w.heap[b]? ∧ w1.heap[g]? = w.heap[g]? := And.intro (hg' b (HE.out.okw b HE.out.okb) (fun e => (HE.out.typed HL.out.1 e).1 rfl)) (hg' g (HE.out.okw g HE.out.okg) (fun e => (HE.out.typed HL.out.1 e).2 rfl))
  have c9' := ((World.cell?_of_block (w := w) (a := ⟨g, k * 2 + 1, none⟩) hE9.2).trans (HE.out.at_ HL.out.1).2.1).trans (congrArg some HV.out)
  have z9' : w1.frozen? ⟨g, k * 2 + 1, none⟩ = false := by
    obtain ⟨C, h1, _⟩ := HE.out.row
    exact blk_frozen (hE9.2.trans h1) _
  have HST := Aside0.mk (And.intro hst hk1)
  clear hst hk1 hR hbw hg hat hg' hlim hE1 hb1 hs
  refine hK _ _ hE9 ?_
  clear hK K
  refine runSeq2_op (by rfl) (by rfl) (fun K hK => ?_)
  go_simp
  refine hK _ _ hE9 ?_
  clear hK K
  refine runSeq2_op (by rfl) (by rfl) (fun K hK => ?_)
  go_simp
  refine hK _ _ hE9 ?_
  clear hK K
  refine runSeq2_fin (by rfl) (by rfl) (fun K hK => ?_)
  go_simp
  refine hK _ _ ?_
  refine runSeq2_nil ?_
  clear hK K hE9 c9' z9'
  go_wp2_with fail
  go_ret
  have hxe := HX.out
  subst hxe
  have hlen : (xs[k].l ++ [(⟨t, now⟩ : Rt)]).length = xs[k].l.length + 1 := by simp
  rw [← hlen]
  refine ⟨rfl, ⟨HST.out.2, ⟨fun q => ok q ∨ (w.heap.size ≤ q ∧ q < w1.heap.size), ⟨g, cap, _, HST.out.1, ?_⟩, fun q hq => hq.imp id And.left⟩⟩⟩
  unfold PV
  rw [List.map_set]
#print axioms Retire_in
/-! ### New -/
/-- The workers' row while it is made. -/
def kW : Kd EW := Kd.iso (Kd.pair (Kd.int .i64) (Kd.scalar (fun p : Option Addr × Nat × Nat => .slice p.1 p.2.1 p.2.2) (fun _ => rfl))) (fun x : EW => (x.a, (x.A, x.l.length, x.c)))
theorem kW_open {w : World} {x : EW} {cs : List Value} (h : kW.K w x cs) : cs = [.int .i64 x.a, x.v] := by
  obtain ⟨_, _, rfl, rfl, rfl⟩ := h; rfl
theorem kW_openM {w : World} {base : Nat} {ok : Nat → Prop} {x : EW} {cs : List Value} (h : kW.M w base ok x cs) : cs = [.int .i64 x.a, x.v] := by
  obtain ⟨_, _, rfl, rfl, rfl⟩ := h; rfl
theorem kW_mkM (w : World) (base : Nat) (ok : Nat → Prop) (x : EW) : kW.M w base ok x [.int .i64 x.a, x.v] := ⟨_, _, rfl, rfl, rfl⟩
theorem w_flat {e base : Nat} {w w1 : World} {ok ok' : Nat → Prop} {v : Value} {xs : List EW} (h : kW.R e w base ok v xs) (ho : ∀ b, v.ownBlock = some b → ok' b) (hag : ∀ b, v.ownBlock = some b → w1.heap[b]? = w.heap[b]?) : kW.R e w1 base ok' v xs := by
  obtain ⟨_, inner, ⟨h1, h2⟩, h3, h4⟩ := h
  refine ⟨ho, inner, ⟨h1, ?_⟩, h3, fun j p hj => by have := kW_openM (h4 j p hj); rw [this]; exact kW_mkM _ _ _ _⟩
  rcases h2 with h2 | ⟨g, cap, cur, rfl, q2, q3, q4⟩
  · exact .inl h2
  · exact .inr ⟨g, cap, cur, rfl, q2, (hag g rfl).trans q3, q4⟩
def w0 : EW := ⟨-1, [], none, 0⟩
/-- the struct and its row, made so far. -/
structure NewI (w : World) (i : Nat) (v : Value) (w' : World) : Prop where
  below : Below w.heap.size w w'
  node : w'.heap[w.heap.size]? = some (.cells #[.int .i64 0, v] 55 (0, 0))
  row : kW.R 58 w' (w.heap.size + 1) (fun _ => True) v (List.replicate i w0)
theorem NewI.keep {w w1 w2 : World} {i : Nat} {v : Value} (h : NewI w i v w1) (k : Below w1.heap.size w1 w2) : NewI w i v w2 :=
  ⟨h.below.trans (k.mono h.below.size), (k.block _ (blk_lt h.node)).trans h.node, w_flat h.row (fun _ _ => trivial) (fun b hb => k.block b (Kd.R_lt h.row b hb))⟩
theorem NewI.push {w w1 W : World} {i : Nat} {v v1 : Value} (h : NewI w i v W) (hR : kW.R 58 w1 (w.heap.size + 1) (fun _ => True) v1 (List.replicate i w0 ++ [w0])) (hb : Below (w.heap.size + 1) W w1) : NewI w (i + 1) v1 (w1.setCell ⟨w.heap.size, 1, none⟩ v1) := by
  have hn : w1.heap[w.heap.size]? = some (.cells #[.int .i64 0, v] 55 (0, 0)) := (hb.block _ (by omega)).trans h.node
  refine ⟨(h.below.trans (hb.mono (by omega))).setCell (Nat.le_refl _) _, blk_set hn 1 _, ?_⟩
  rw [List.replicate_succ', ]
  exact w_flat hR (fun _ _ => trivial) (fun b hb2 => Below.heap_setCell w1 ⟨w.heap.size, 1, none⟩ v1 b (fun e => by have := Kd.R_base hR b hb2; simp at e; omega))
theorem NewI.done {w w' : World} {i : Nat} {v : Value} (h : NewI w i v w') (hi : 0 < i) : ∃ ok : Nat → Prop, Ep ok w.heap.size w.heap.size 0 (List.replicate i (-1, [])) w' ∧ ∀ q, ok q → w.heap.size ≤ q := by
  obtain ⟨A, c, rfl⟩ := Kd.R_slice h.row
  have hq := Kd.R_reads' h.row
  obtain ⟨g, cp, hv, h1, h2, C, hC⟩ := Kd.R_form h.row (by simpa using hi)
  injection hv with hA _ _
  subst hA
  refine ⟨fun q => q = w.heap.size ∨ q = g, ⟨g, c, List.replicate i w0, ⟨h.node, ⟨C, hC, fun j hj => ?_⟩, fun j hj => ?_, fun j j' hj hj' hne k hk => ?_, .inl rfl, .inr rfl, Nat.le_refl _, by omega, fun q hq => ?_⟩, ?_⟩, fun q hq => ?_⟩
  · obtain ⟨ad, e, hc⟩ := hq.2.2.2.2 (by simpa using hi)
    cases e
    obtain ⟨cs, g1, g2, g3⟩ := hc j _ (List.getElem?_eq_getElem hj)
    obtain rfl := kW_open g2
    have q0 := g3 0 _ rfl
    have q1 := g3 1 _ rfl
    rw [add_plain, blk_cell hC] at q0 q1
    exact ⟨q0, q1⟩
  · rw [List.getElem_replicate]
    exact Kd.R_nil _ _ _ _ _
  · rw [List.getElem_replicate] at hk; cases hk
  · rcases hq with rfl | rfl
    · exact blk_lt h.node
    · exact h2
  · simp [PV, w0]
  · rcases hq with rfl | rfl <;> omega
set_option maxRecDepth 100000 in
theorem New_out (n : Int) (w : World) (h : n < 1 ∨ 64 < n) : Calls Try.prog 9 #[.int .i64 n] w fun e w' => e = .returned (.tuple #[.pointer none, .int .i64 1]) ∧ w = w' := by
  by_cases h1 : n < 1
  · have h1' : (n < 1) = True := eq_true h1
    clear h h1
    go_enter Try.func9, Try.ntmps9
    go_wp2_with fail
    go_ret2
    exact ⟨rfl, rfl⟩
  · have h1' : (n < 1) = False := eq_false h1
    have h2' : (64 < n) = True := eq_true (by omega)
    clear h h1
    go_enter Try.func9, Try.ntmps9
    go_wp2_with fail
    go_ret2
    exact ⟨rfl, rfl⟩
set_option maxRecDepth 100000 in
set_option maxHeartbeats 4000000 in
theorem New_in (n : Nat) (w : World) (h0 : 1 ≤ n) (h1 : n ≤ 64) : Calls Try.prog 9 #[.int .i64 n] w fun e w' => e = .returned (.tuple #[.pointer (some ⟨w.heap.size, 0, none⟩), .int .i64 0]) ∧ Below w.heap.size w w' ∧ ∃ ok : Nat → Prop, Ep ok w.heap.size w.heap.size 0 (List.replicate n (-1, [])) w' ∧ ∀ q, ok q → w.heap.size ≤ q := by
  have h1' : ((n : Int) < 1) = False := eq_false (by omega)
  have h2' : (64 < (n : Int)) = False := eq_false (by omega)
  have HN := Aside0.mk (show NewI w 0 (.slice none 0 0) (w.alloc (.cells #[.int .i64 0, .slice none 0 0] 55)) from ⟨(Below.refl _ _).alloc (Nat.le_refl _) _, alloc_blk _ _, Kd.R_nil _ _ _ _ _⟩)
  go_enter Try.func9, Try.ntmps9
  go_wp2_with fail
  go_loopw [14] (fun v14 wr => ∃ (i : Nat) (v : Value), v14 = .int .i64 i ∧ i ≤ n ∧ Aside0 (NewI w i v wr)) (fun v14 _ => n - (intOf v14).toNat)
  case atStart => exact ⟨0, _, rfl, Nat.zero_le _, HN⟩
  case round =>
    clear HN
    obtain ⟨i, v, rfl, hi, HN⟩ := hrel
    by_cases hlt : i < n
    · obtain ⟨A, c, rfl⟩ := Kd.R_slice HN.out.row
      rw [List.length_replicate] at HN
      have d1 := blk_cell HN.out.node 1
      go_wp2_with (first | ((with_reducible refine gate_builtin (b := .append) (xs := #[.tmp 20, .tmp 22]) rfl ?_); refine Kd.R_append kW (w0 := wr) (w.heap.size + 1) rfl (.tmp 20) (.tmp 22) 53 58 (.agg #[(.int .i64 0), (.slice none 0 0)]) 32 rfl Try.underlying53 info58 rfl (by decide) (by omega) (.slice A i c) (List.replicate i w0) w0 [.int .i64 (-1), .slice none 0 0] (fun _ => True) (fun _ => False) rfl (by first | (go_simp; done) | (go_simp; rfl)) ?aP (fun _ hk => hk.elim) ?aF ?aO ?aB ?aS ?aL ?_; (case aP => exact kW_mkM _ _ _ w0); (case aF => exact (fun _ _ => trivial)); (case aO => exact HN.out.row); (case aB => exact Below.refl _ _); (case aS => exact blk_lt HN.out.node); (case aL => simp; omega); intro v9 w9 hR9 hb9 hg9 hat9; have HP := Aside0.mk (HN.out.push hR9 hb9); have hn9 := (hb9.block _ (Nat.lt_succ_self _)).trans HN.out.node; have d9 := blk_cell hn9 1; have z9 := blk_frozen hn9 1; obtain ⟨A9, c9, rfl⟩ := Kd.R_slice hR9; rw [show (List.replicate i w0 ++ [w0]).length = i + 1 by simp] at HP; clear hR9 hb9 hg9 hat9 hn9 d1))
      go_roundw
      case rel => exact ⟨i + 1, _, by go_num, hlt, HP⟩
      case measure => simp [intOf]; omega
    · obtain rfl : i = n := by omega
      go_wp2_with fail
      go_ret2
      exact ⟨rfl, HN.out.below, HN.out.done (by omega)⟩
#print axioms New_in
end Go.Proofs.Ythbooikhegppnaa.H
