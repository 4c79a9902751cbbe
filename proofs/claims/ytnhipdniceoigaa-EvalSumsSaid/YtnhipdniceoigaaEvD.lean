/- What a task's operations do: those that concern the task alone. -/
import Derived.Test.YtnhipdniceoigaaEvM
import Derived.Test.YtnhipdniceoigaaPair
set_option linter.unusedVariables false
set_option linter.unusedSimpArgs false
namespace Go.Proofs.Ytnhipdniceoigaa.H
open Go.RowKit Go.Hay Go.Proofs.YtnhipdniceoigaaW.PrintWords Go.Proofs.YtnhipdniceoigaaW.PrintLast Go.Proofs.YtnhipdniceoigaaW.PrintMore
theorem panic_viaE {P : Program} {fn : Func} {R : Ending → World → Prop} {ops : Array Oper} {Q : Exit → Act → World → Prop} (hQ : ∀ c a w, Q (.panic c) a w = bodyPost P fn R (.panic c) a w) :
    ∀ o ∈ ops.toList, ∀ c a v w, Q (.panic c) (a.put o.dst v) w → Q (.panic c) a w := by
  intro o ho c a v w h
  rw [hQ] at h ⊢
  exact panic_put (P := P) (fn := fn) (R := R) o ho c a v w h
def xv (x : S55) : Value := .agg #[.int .i64 x.f0, .int .i64 x.f1, .int .i64 x.f2, .int .i64 x.f3, .int .i64 x.f4]
def failV (why : Int) : Value := .iface 73 (.agg #[.int .i64 why])
/-- the task goes on. -/
def GoP (tb wb : Nat) (vp : Value) (T' : Ts) (vw : Value) (me B : Nat) (w : World) (e : Ending) (w' : World) : Prop := e = .returned (.tuple #[]) ∧ TB tb wb vp T' vw me B w' ∧ Keep (fun q => q = tb) w w'
/-- the task fails. -/
def StopP (why : Int) (w : World) (e : Ending) (w' : World) : Prop := e = .panicked [{ v := failV why, recovered := false }] ∧ Below w.heap.size w w'
set_option maxRecDepth 100000 in
theorem fail_any (why : Int) (w : World) : Calls Try.prog 33 #[.int .i64 why] w fun e w' => e = .panicked [{ v := failV why, recovered := false }] ∧ Below w.heap.size w w' := by
  have hu := Try.underlying73
  go_enter Try.func33, Try.ntmps33
  go_wp2
  exact ⟨rfl, rfl, by first | exact Below.refl _ _ | exact (Below.refl _ _).alloc (Nat.le_refl _) _⟩
def truthV (b : Bool) : Int := if b = true then 1 else 0
theorem truthV_true : truthV true = 1 := rfl
theorem truthV_false : truthV false = 0 := rfl
set_option maxRecDepth 100000 in
theorem truth_any (b : Bool) (w : World) : Calls Try.prog 53 #[.bool b] w fun e w' => e = .returned (.int .i64 (truthV b)) ∧ w = w' := by
  cases b with
  | true =>
    go_enter Try.func53, Try.ntmps53
    go_wp2_with fail
    go_ret
    exact ⟨rfl, rfl⟩
  | false =>
    go_enter Try.func53, Try.ntmps53
    go_wp2_with fail
    go_ret
    exact ⟨rfl, rfl⟩
section
variable {tb wb me B : Nat} {vp vw : Value} {T : Ts} {w : World}
theorem TB.drewN {tb wb me B : Nat} {vp vw : Value} {T : Ts} {w : World} (h : TB tb wb vp T vw me B w) (n : Nat) : TB tb wb vp T vw me B (w.drewN n) := h.below (pw_below_drewN (Below.refl _ _) n)
theorem goP_reg {W : World} (h1 : TB tb wb vp T vw me B W) (hb1 : Below w.heap.size w W) (a : Nat) (ha : (a : Int) < 8) (y y' : Int) (hy : y = y') : GoP tb wb vp (setR T a y') vw me B w (.returned (.tuple #[])) (W.setCell ⟨tb, 2 + a, none⟩ (.int .i64 y)).drew := by
  subst hy
  exact ⟨rfl, (h1.setReg a (by omega) y).drewN 1, ((Keep.of_below hb1 (fun q => q = tb)).set (p := ⟨tb, 2 + a, none⟩) (.inr rfl) _).drew⟩
theorem wrap_i64 (x : Int) : IntKind.i64.wrap x = wrap64 x := IntWalk.i64_left x
set_option maxRecDepth 100000 in
set_option maxHeartbeats 4000000 in
theorem tset_any (h : TB tb wb vp T vw me B w) (x : S55) (ha : 0 ≤ x.f1 ∧ x.f1 < 8) : Calls Try.prog 38 #[.pointer (some ⟨tb, 0, none⟩), xv x] w (GoP tb wb vp (setR T x.f1 x.f4) vw me B w) := by
  obtain ⟨x0, x1, x2, x3, x4⟩ := x
  simp only at *
  obtain ⟨a, rfl⟩ : ∃ a : Nat, x1 = a := ⟨x1.toNat, by omega⟩
  obtain ⟨W, hW⟩ : ∃ W, W = w.alloc (.cells #[.int .i64 x0, .int .i64 (a), .int .i64 (x2), .int .i64 (x3), .int .i64 x4] 55) := ⟨_, rfl⟩
  have hb1 : Below w.heap.size w W := by rw [hW]; exact (Below.refl w.heap.size w).alloc (Nat.le_refl _) _
  have hbx : W.heap[w.heap.size]? = some (.cells #[.int .i64 x0, .int .i64 (a), .int .i64 (x2), .int .i64 (x3), .int .i64 x4] 55 (0, 0)) := by rw [hW]; exact alloc_blk w _
  have h1 := h.below hb1
  have c0 := blk_cell hbx 0
  have c1 := blk_cell hbx 1
  have c2 := blk_cell hbx 2
  have c3 := blk_cell hbx 3
  have c4 := blk_cell hbx 4
  have t0 := h1.fix.1
  have H := Aside0.mk (And.intro h1 hb1)
  have HWW := Aside0.mk hW
  have ha8 : ((a : Int) < 8) = True := eq_true ha.2
  have z := h1.frozen (2 + a)
  have r := h1.reg a (by omega)
  have HA := Aside0.mk ha.2
  clear ha
  unfold xv
  clear h h1 hb1 hbx hW
  go_enter Try.func38, Try.ntmps38
  go_wp2_with fail
  rw [← HWW.out]
  refine wp_region_seq2 (fun w' => Drawn0 W w') [8] [.take 0, .take 1, .take 2, .take 3, .take 4, .take 5, .take 6, .take 7, .fin 8] (by kernel_rfl) (by kernel_rfl) rfl (by kernel_rfl) (panic_viaE (P := Try.prog) (fn := Try.f38) (R := GoP tb wb vp (setR T a x4) vw me B w) (fun _ _ _ => rfl)) ?_
  have hs : Drawn0 W W.drew := (Drawn0.refl W).step 1
  repeat (
    (first
      | (refine runSeq2_take (v := ?_) (by rfl) (by rfl) (fun w' hS => ?_) hs ?_
         rotate_left
         · (obtain ⟨n, rfl⟩ := hS; go_simp; exact rfl))
      | refine runSeq2_skip (by rfl) (by rfl) hs ?_)
    (try simp only [Act.put, List.setIfInBounds_toArray, List.set_cons_zero, List.set_cons_succ]))
  refine runSeq2_fin (by rfl) (by rfl) (fun K hK => ?_)
  go_simp
  refine hK _ _ ?_
  refine runSeq2_nil ?_
  clear hK K hs
  go_wp2_with fail
  go_end0
  exact goP_reg H.out.1 H.out.2 a HA.out _ _ rfl
set_option maxRecDepth 100000 in
set_option maxHeartbeats 4000000 in
theorem tmove_any (h : TB tb wb vp T vw me B w) (x : S55) (ha : 0 ≤ x.f1 ∧ x.f1 < 8) (hb : 0 ≤ x.f2 ∧ x.f2 < 8) : Calls Try.prog 39 #[.pointer (some ⟨tb, 0, none⟩), xv x] w (GoP tb wb vp (setR T x.f1 (rg T x.f2)) vw me B w) := by
  obtain ⟨x0, x1, x2, x3, x4⟩ := x
  simp only at *
  obtain ⟨a, rfl⟩ : ∃ a : Nat, x1 = a := ⟨x1.toNat, by omega⟩
  obtain ⟨b, rfl⟩ : ∃ b : Nat, x2 = b := ⟨x2.toNat, by omega⟩
  obtain ⟨W, hW⟩ : ∃ W, W = w.alloc (.cells #[.int .i64 x0, .int .i64 (a), .int .i64 (b), .int .i64 (x3), .int .i64 x4] 55) := ⟨_, rfl⟩
  have hb1 : Below w.heap.size w W := by rw [hW]; exact (Below.refl w.heap.size w).alloc (Nat.le_refl _) _
  have hbx : W.heap[w.heap.size]? = some (.cells #[.int .i64 x0, .int .i64 (a), .int .i64 (b), .int .i64 (x3), .int .i64 x4] 55 (0, 0)) := by rw [hW]; exact alloc_blk w _
  have h1 := h.below hb1
  have c0 := blk_cell hbx 0
  have c1 := blk_cell hbx 1
  have c2 := blk_cell hbx 2
  have c3 := blk_cell hbx 3
  have c4 := blk_cell hbx 4
  have t0 := h1.fix.1
  have H := Aside0.mk (And.intro h1 hb1)
  have HWW := Aside0.mk hW
  have ha8 : ((a : Int) < 8) = True := eq_true ha.2
  have hb8 : ((b : Int) < 8) = True := eq_true hb.2
  have z := h1.frozen (2 + a)
  have r := h1.reg a (by omega)
  have r2 := h1.reg b (by omega)
  have HA := Aside0.mk ha.2
  clear ha hb
  unfold xv
  clear h h1 hb1 hbx hW
  go_enter Try.func39, Try.ntmps39
  go_wp2_with fail
  rw [← HWW.out]
  refine wp_region_seq2 (fun w' => Drawn0 W w') [13] [.take 0, .take 1, .take 2, .take 3, .take 4, .take 5, .take 6, .take 7, .take 8, .take 9, .take 10, .take 11, .take 12, .fin 13] (by kernel_rfl) (by kernel_rfl) rfl (by kernel_rfl) (panic_viaE (P := Try.prog) (fn := Try.f39) (R := GoP tb wb vp (setR T a (rg T b)) vw me B w) (fun _ _ _ => rfl)) ?_
  have hs : Drawn0 W W.drew := (Drawn0.refl W).step 1
  repeat (
    (first
      | (refine runSeq2_take (v := ?_) (by rfl) (by rfl) (fun w' hS => ?_) hs ?_
         rotate_left
         · (obtain ⟨n, rfl⟩ := hS; go_simp; exact rfl))
      | refine runSeq2_skip (by rfl) (by rfl) hs ?_)
    (try simp only [Act.put, List.setIfInBounds_toArray, List.set_cons_zero, List.set_cons_succ]))
  refine runSeq2_fin (by rfl) (by rfl) (fun K hK => ?_)
  go_simp
  refine hK _ _ ?_
  refine runSeq2_nil ?_
  clear hK K hs
  go_wp2_with fail
  go_end0
  exact goP_reg H.out.1 H.out.2 a HA.out _ _ rfl
set_option maxRecDepth 100000 in
set_option maxHeartbeats 4000000 in
theorem tadd_any (h : TB tb wb vp T vw me B w) (x : S55) (ha : 0 ≤ x.f1 ∧ x.f1 < 8) (hb : 0 ≤ x.f2 ∧ x.f2 < 8) (hc : 0 ≤ x.f3 ∧ x.f3 < 8) : Calls Try.prog 40 #[.pointer (some ⟨tb, 0, none⟩), xv x] w (GoP tb wb vp (setR T x.f1 (wrap64 (rg T x.f2 + rg T x.f3))) vw me B w) := by
  obtain ⟨x0, x1, x2, x3, x4⟩ := x
  simp only at *
  obtain ⟨a, rfl⟩ : ∃ a : Nat, x1 = a := ⟨x1.toNat, by omega⟩
  obtain ⟨b, rfl⟩ : ∃ b : Nat, x2 = b := ⟨x2.toNat, by omega⟩
  obtain ⟨c, rfl⟩ : ∃ c : Nat, x3 = c := ⟨x3.toNat, by omega⟩
  obtain ⟨W, hW⟩ : ∃ W, W = w.alloc (.cells #[.int .i64 x0, .int .i64 (a), .int .i64 (b), .int .i64 (c), .int .i64 x4] 55) := ⟨_, rfl⟩
  have hb1 : Below w.heap.size w W := by rw [hW]; exact (Below.refl w.heap.size w).alloc (Nat.le_refl _) _
  have hbx : W.heap[w.heap.size]? = some (.cells #[.int .i64 x0, .int .i64 (a), .int .i64 (b), .int .i64 (c), .int .i64 x4] 55 (0, 0)) := by rw [hW]; exact alloc_blk w _
  have h1 := h.below hb1
  have c0 := blk_cell hbx 0
  have c1 := blk_cell hbx 1
  have c2 := blk_cell hbx 2
  have c3 := blk_cell hbx 3
  have c4 := blk_cell hbx 4
  have t0 := h1.fix.1
  have H := Aside0.mk (And.intro h1 hb1)
  have HWW := Aside0.mk hW
  have ha8 : ((a : Int) < 8) = True := eq_true ha.2
  have hb8 : ((b : Int) < 8) = True := eq_true hb.2
  have hc8 : ((c : Int) < 8) = True := eq_true hc.2
  have z := h1.frozen (2 + a)
  have r := h1.reg a (by omega)
  have r2 := h1.reg b (by omega)
  have r3 := h1.reg c (by omega)
  have HA := Aside0.mk ha.2
  clear ha hb hc
  unfold xv
  clear h h1 hb1 hbx hW
  go_enter Try.func40, Try.ntmps40
  go_wp2_with fail
  rw [← HWW.out]
  refine wp_region_seq2 (fun w' => Drawn0 W w') [21] [.take 0, .take 1, .take 2, .take 3, .take 4, .take 5, .take 6, .take 7, .take 8, .take 9, .take 10, .take 11, .take 12, .take 13, .take 14, .take 15, .take 16, .take 17, .take 18, .take 19, .take 20, .fin 21] (by kernel_rfl) (by kernel_rfl) rfl (by kernel_rfl) (panic_viaE (P := Try.prog) (fn := Try.f40) (R := GoP tb wb vp (setR T a (wrap64 (rg T b + rg T c))) vw me B w) (fun _ _ _ => rfl)) ?_
  have hs : Drawn0 W W.drew := (Drawn0.refl W).step 1
  repeat (
    (first
      | (refine runSeq2_take (v := ?_) (by rfl) (by rfl) (fun w' hS => ?_) hs ?_
         rotate_left
         · (obtain ⟨n, rfl⟩ := hS; go_simp; exact rfl))
      | refine runSeq2_skip (by rfl) (by rfl) hs ?_)
    (try simp only [Act.put, List.setIfInBounds_toArray, List.set_cons_zero, List.set_cons_succ]))
  refine runSeq2_fin (by rfl) (by rfl) (fun K hK => ?_)
  go_simp
  refine hK _ _ ?_
  refine runSeq2_nil ?_
  clear hK K hs
  go_wp2_with fail
  go_end0
  exact goP_reg H.out.1 H.out.2 a HA.out _ _ (wrap_i64 _)
set_option maxRecDepth 100000 in
set_option maxHeartbeats 4000000 in
theorem tsub_any (h : TB tb wb vp T vw me B w) (x : S55) (ha : 0 ≤ x.f1 ∧ x.f1 < 8) (hb : 0 ≤ x.f2 ∧ x.f2 < 8) (hc : 0 ≤ x.f3 ∧ x.f3 < 8) : Calls Try.prog 41 #[.pointer (some ⟨tb, 0, none⟩), xv x] w (GoP tb wb vp (setR T x.f1 (wrap64 (rg T x.f2 - rg T x.f3))) vw me B w) := by
  obtain ⟨x0, x1, x2, x3, x4⟩ := x
  simp only at *
  obtain ⟨a, rfl⟩ : ∃ a : Nat, x1 = a := ⟨x1.toNat, by omega⟩
  obtain ⟨b, rfl⟩ : ∃ b : Nat, x2 = b := ⟨x2.toNat, by omega⟩
  obtain ⟨c, rfl⟩ : ∃ c : Nat, x3 = c := ⟨x3.toNat, by omega⟩
  obtain ⟨W, hW⟩ : ∃ W, W = w.alloc (.cells #[.int .i64 x0, .int .i64 (a), .int .i64 (b), .int .i64 (c), .int .i64 x4] 55) := ⟨_, rfl⟩
  have hb1 : Below w.heap.size w W := by rw [hW]; exact (Below.refl w.heap.size w).alloc (Nat.le_refl _) _
  have hbx : W.heap[w.heap.size]? = some (.cells #[.int .i64 x0, .int .i64 (a), .int .i64 (b), .int .i64 (c), .int .i64 x4] 55 (0, 0)) := by rw [hW]; exact alloc_blk w _
  have h1 := h.below hb1
  have c0 := blk_cell hbx 0
  have c1 := blk_cell hbx 1
  have c2 := blk_cell hbx 2
  have c3 := blk_cell hbx 3
  have c4 := blk_cell hbx 4
  have t0 := h1.fix.1
  have H := Aside0.mk (And.intro h1 hb1)
  have HWW := Aside0.mk hW
  have ha8 : ((a : Int) < 8) = True := eq_true ha.2
  have hb8 : ((b : Int) < 8) = True := eq_true hb.2
  have hc8 : ((c : Int) < 8) = True := eq_true hc.2
  have z := h1.frozen (2 + a)
  have r := h1.reg a (by omega)
  have r2 := h1.reg b (by omega)
  have r3 := h1.reg c (by omega)
  have HA := Aside0.mk ha.2
  clear ha hb hc
  unfold xv
  clear h h1 hb1 hbx hW
  go_enter Try.func41, Try.ntmps41
  go_wp2_with fail
  rw [← HWW.out]
  refine wp_region_seq2 (fun w' => Drawn0 W w') [21] [.take 0, .take 1, .take 2, .take 3, .take 4, .take 5, .take 6, .take 7, .take 8, .take 9, .take 10, .take 11, .take 12, .take 13, .take 14, .take 15, .take 16, .take 17, .take 18, .take 19, .take 20, .fin 21] (by kernel_rfl) (by kernel_rfl) rfl (by kernel_rfl) (panic_viaE (P := Try.prog) (fn := Try.f41) (R := GoP tb wb vp (setR T a (wrap64 (rg T b - rg T c))) vw me B w) (fun _ _ _ => rfl)) ?_
  have hs : Drawn0 W W.drew := (Drawn0.refl W).step 1
  repeat (
    (first
      | (refine runSeq2_take (v := ?_) (by rfl) (by rfl) (fun w' hS => ?_) hs ?_
         rotate_left
         · (obtain ⟨n, rfl⟩ := hS; go_simp; exact rfl))
      | refine runSeq2_skip (by rfl) (by rfl) hs ?_)
    (try simp only [Act.put, List.setIfInBounds_toArray, List.set_cons_zero, List.set_cons_succ]))
  refine runSeq2_fin (by rfl) (by rfl) (fun K hK => ?_)
  go_simp
  refine hK _ _ ?_
  refine runSeq2_nil ?_
  clear hK K hs
  go_wp2_with fail
  go_end0
  exact goP_reg H.out.1 H.out.2 a HA.out _ _ (wrap_i64 _)
set_option maxRecDepth 100000 in
set_option maxHeartbeats 4000000 in
theorem tmul_any (h : TB tb wb vp T vw me B w) (x : S55) (ha : 0 ≤ x.f1 ∧ x.f1 < 8) (hb : 0 ≤ x.f2 ∧ x.f2 < 8) (hc : 0 ≤ x.f3 ∧ x.f3 < 8) : Calls Try.prog 42 #[.pointer (some ⟨tb, 0, none⟩), xv x] w (GoP tb wb vp (setR T x.f1 (wrap64 (rg T x.f2 * rg T x.f3))) vw me B w) := by
  obtain ⟨x0, x1, x2, x3, x4⟩ := x
  simp only at *
  obtain ⟨a, rfl⟩ : ∃ a : Nat, x1 = a := ⟨x1.toNat, by omega⟩
  obtain ⟨b, rfl⟩ : ∃ b : Nat, x2 = b := ⟨x2.toNat, by omega⟩
  obtain ⟨c, rfl⟩ : ∃ c : Nat, x3 = c := ⟨x3.toNat, by omega⟩
  obtain ⟨W, hW⟩ : ∃ W, W = w.alloc (.cells #[.int .i64 x0, .int .i64 (a), .int .i64 (b), .int .i64 (c), .int .i64 x4] 55) := ⟨_, rfl⟩
  have hb1 : Below w.heap.size w W := by rw [hW]; exact (Below.refl w.heap.size w).alloc (Nat.le_refl _) _
  have hbx : W.heap[w.heap.size]? = some (.cells #[.int .i64 x0, .int .i64 (a), .int .i64 (b), .int .i64 (c), .int .i64 x4] 55 (0, 0)) := by rw [hW]; exact alloc_blk w _
  have h1 := h.below hb1
  have c0 := blk_cell hbx 0
  have c1 := blk_cell hbx 1
  have c2 := blk_cell hbx 2
  have c3 := blk_cell hbx 3
  have c4 := blk_cell hbx 4
  have t0 := h1.fix.1
  have H := Aside0.mk (And.intro h1 hb1)
  have HWW := Aside0.mk hW
  have ha8 : ((a : Int) < 8) = True := eq_true ha.2
  have hb8 : ((b : Int) < 8) = True := eq_true hb.2
  have hc8 : ((c : Int) < 8) = True := eq_true hc.2
  have z := h1.frozen (2 + a)
  have r := h1.reg a (by omega)
  have r2 := h1.reg b (by omega)
  have r3 := h1.reg c (by omega)
  have HA := Aside0.mk ha.2
  clear ha hb hc
  unfold xv
  clear h h1 hb1 hbx hW
  go_enter Try.func42, Try.ntmps42
  go_wp2_with fail
  rw [← HWW.out]
  refine wp_region_seq2 (fun w' => Drawn0 W w') [21] [.take 0, .take 1, .take 2, .take 3, .take 4, .take 5, .take 6, .take 7, .take 8, .take 9, .take 10, .take 11, .take 12, .take 13, .take 14, .take 15, .take 16, .take 17, .take 18, .take 19, .take 20, .fin 21] (by kernel_rfl) (by kernel_rfl) rfl (by kernel_rfl) (panic_viaE (P := Try.prog) (fn := Try.f42) (R := GoP tb wb vp (setR T a (wrap64 (rg T b * rg T c))) vw me B w) (fun _ _ _ => rfl)) ?_
  have hs : Drawn0 W W.drew := (Drawn0.refl W).step 1
  repeat (
    (first
      | (refine runSeq2_take (v := ?_) (by rfl) (by rfl) (fun w' hS => ?_) hs ?_
         rotate_left
         · (obtain ⟨n, rfl⟩ := hS; go_simp; exact rfl))
      | refine runSeq2_skip (by rfl) (by rfl) hs ?_)
    (try simp only [Act.put, List.setIfInBounds_toArray, List.set_cons_zero, List.set_cons_succ]))
  refine runSeq2_fin (by rfl) (by rfl) (fun K hK => ?_)
  go_simp
  refine hK _ _ ?_
  refine runSeq2_nil ?_
  clear hK K hs
  go_wp2_with fail
  go_end0
  exact goP_reg H.out.1 H.out.2 a HA.out _ _ (wrap_i64 _)
end
end Go.Proofs.Ytnhipdniceoigaa.H
