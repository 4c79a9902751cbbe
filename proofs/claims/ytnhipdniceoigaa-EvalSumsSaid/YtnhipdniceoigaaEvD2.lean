/- What a task's operations do: comparisons, quotients, jumps. -/
import Derived.Test.YtnhipdniceoigaaEvD
import Derived.BigQuiet
import Derived.Deep.QuietTactic
set_option linter.unusedVariables false
set_option linter.unusedSimpArgs false
namespace Go.Proofs.Ytnhipdniceoigaa.H
open Go.RowKit Go.Hay Go.Proofs.YtnhipdniceoigaaW.PrintWords Go.Proofs.YtnhipdniceoigaaW.PrintLast Go.Proofs.YtnhipdniceoigaaW.PrintMore
section
variable {tb wb me B : Nat} {vp vw : Value} {T : Ts} {w : World}
set_option maxRecDepth 100000 in
set_option maxHeartbeats 4000000 in
theorem tless_any (h : TB tb wb vp T vw me B w) (x : S55) (ha : 0 ≤ x.f1 ∧ x.f1 < 8) (hb : 0 ≤ x.f2 ∧ x.f2 < 8) (hc : 0 ≤ x.f3 ∧ x.f3 < 8) : Calls Try.prog 44 #[.pointer (some ⟨tb, 0, none⟩), xv x] w (GoP tb wb vp (setR T x.f1 (lessV (rg T x.f2) (rg T x.f3))) vw me B w) := by
  obtain ⟨x0, x1, x2, x3, x4⟩ := x
  simp only at *
  obtain ⟨a, rfl⟩ : ∃ a : Nat, x1 = a := ⟨x1.toNat, by omega⟩
  obtain ⟨b, rfl⟩ : ∃ b : Nat, x2 = b := ⟨x2.toNat, by omega⟩
  obtain ⟨c, rfl⟩ : ∃ c : Nat, x3 = c := ⟨x3.toNat, by omega⟩
  obtain ⟨W, hW⟩ : ∃ W, W = w.alloc (.cells #[.int .i64 x0, .int .i64 (a), .int .i64 (b), .int .i64 (c), .int .i64 x4] 55) := ⟨_, rfl⟩
  have hb1 : Below w.heap.size w W := by rw [hW]; exact (Below.refl w.heap.size w).alloc (Nat.le_refl _) _
  have hbx : W.heap[w.heap.size]? = some (.cells #[.int .i64 x0, .int .i64 (a), .int .i64 (b), .int .i64 (c), .int .i64 x4] 55 (0, 0)) := by rw [hW]; exact alloc_blk w _
  have h1 := h.below hb1
  have c0 := blk_cell hbx 0
  have c1 := blk_cell hbx 1
  have c2 := blk_cell hbx 2
  have c3 := blk_cell hbx 3
  have c4 := blk_cell hbx 4
  have t0 := h1.fix.1
  have H := Aside0.mk (And.intro h1 hb1)
  have HWW := Aside0.mk hW
  have ha8 : ((a : Int) < 8) = True := eq_true ha.2
  have hb8 : ((b : Int) < 8) = True := eq_true hb.2
  have hc8 : ((c : Int) < 8) = True := eq_true hc.2
  have z := h1.frozen (2 + a)
  have r := h1.reg a (by omega)
  have r2 := h1.reg b (by omega)
  have r3 := h1.reg c (by omega)
  have HA := Aside0.mk ha.2
  clear ha hb hc
  unfold xv
  clear h h1 hb1 hbx hW
  go_enter Try.func44, Try.ntmps44
  go_wp2_with fail
  rw [← HWW.out]
  refine wp_region_seq2 (fun w' => Drawn0 W w') [22] [.take 0, .take 1, .take 2, .take 3, .take 4, .take 5, .take 6, .take 7, .take 8, .take 9, .take 10, .take 11, .take 12, .take 13, .take 14, .take 15, .take 16, .take 17, .take 19, .take 20, .op 18, .take 21, .fin 22] (by kernel_rfl) (by kernel_rfl) rfl (by kernel_rfl) (panic_viaE (P := Try.prog) (fn := Try.f44) (R := GoP tb wb vp (setR T a (lessV (rg T b) (rg T c))) vw me B w) (fun _ _ _ => rfl)) ?_
  have hs : Drawn0 W W.drew := (Drawn0.refl W).step 1
  repeat (
    (first
      | (refine runSeq2_take (v := ?_) (by rfl) (by rfl) (fun w' hS => ?_) hs ?_
         rotate_left
         · (obtain ⟨n, rfl⟩ := hS; go_simp; exact rfl))
      | refine runSeq2_skip (by rfl) (by rfl) hs ?_)
    (try simp only [Act.put, List.setIfInBounds_toArray, List.set_cons_zero, List.set_cons_succ]))
  refine runSeq2_op (by rfl) (by rfl) (fun K hK => ?_)
  go_simp
  refine (truth_any _ _).mono ?_
  rintro e w' ⟨rfl, rfl⟩
  refine hK _ _ hs ?_
  clear hK K
  repeat (
    (first
      | (refine runSeq2_take (v := ?_) (by rfl) (by rfl) (fun w' hS => ?_) hs ?_
         rotate_left
         · (obtain ⟨n, rfl⟩ := hS; go_simp; exact rfl))
      | refine runSeq2_skip (by rfl) (by rfl) hs ?_)
    (try simp only [Act.put, List.setIfInBounds_toArray, List.set_cons_zero, List.set_cons_succ]))
  refine runSeq2_fin (by rfl) (by rfl) (fun K hK => ?_)
  go_simp
  refine hK _ _ ?_
  refine runSeq2_nil ?_
  clear hK K hs
  go_wp2_with fail
  go_end0
  exact goP_reg H.out.1 H.out.2 a HA.out _ _ (by unfold lessV truthV; simp only [decide_eq_true_eq]; rfl)
set_option maxRecDepth 100000 in
set_option maxHeartbeats 4000000 in
theorem tsame_any (h : TB tb wb vp T vw me B w) (x : S55) (ha : 0 ≤ x.f1 ∧ x.f1 < 8) (hb : 0 ≤ x.f2 ∧ x.f2 < 8) (hc : 0 ≤ x.f3 ∧ x.f3 < 8) : Calls Try.prog 45 #[.pointer (some ⟨tb, 0, none⟩), xv x] w (GoP tb wb vp (setR T x.f1 (sameV (rg T x.f2) (rg T x.f3))) vw me B w) := by
  obtain ⟨x0, x1, x2, x3, x4⟩ := x
  simp only at *
  obtain ⟨a, rfl⟩ : ∃ a : Nat, x1 = a := ⟨x1.toNat, by omega⟩
  obtain ⟨b, rfl⟩ : ∃ b : Nat, x2 = b := ⟨x2.toNat, by omega⟩
  obtain ⟨c, rfl⟩ : ∃ c : Nat, x3 = c := ⟨x3.toNat, by omega⟩
  obtain ⟨W, hW⟩ : ∃ W, W = w.alloc (.cells #[.int .i64 x0, .int .i64 (a), .int .i64 (b), .int .i64 (c), .int .i64 x4] 55) := ⟨_, rfl⟩
  have hb1 : Below w.heap.size w W := by rw [hW]; exact (Below.refl w.heap.size w).alloc (Nat.le_refl _) _
  have hbx : W.heap[w.heap.size]? = some (.cells #[.int .i64 x0, .int .i64 (a), .int .i64 (b), .int .i64 (c), .int .i64 x4] 55 (0, 0)) := by rw [hW]; exact alloc_blk w _
  have h1 := h.below hb1
  have c0 := blk_cell hbx 0
  have c1 := blk_cell hbx 1
  have c2 := blk_cell hbx 2
  have c3 := blk_cell hbx 3
  have c4 := blk_cell hbx 4
  have t0 := h1.fix.1
  have H := Aside0.mk (And.intro h1 hb1)
  have HWW := Aside0.mk hW
  have ha8 : ((a : Int) < 8) = True := eq_true ha.2
  have hb8 : ((b : Int) < 8) = True := eq_true hb.2
  have hc8 : ((c : Int) < 8) = True := eq_true hc.2
  have z := h1.frozen (2 + a)
  have r := h1.reg a (by omega)
  have r2 := h1.reg b (by omega)
  have r3 := h1.reg c (by omega)
  have HA := Aside0.mk ha.2
  clear ha hb hc
  unfold xv
  clear h h1 hb1 hbx hW
  go_enter Try.func45, Try.ntmps45
  go_wp2_with fail
  rw [← HWW.out]
  refine wp_region_seq2 (fun w' => Drawn0 W w') [22] [.take 0, .take 1, .take 2, .take 3, .take 4, .take 5, .take 6, .take 7, .take 8, .take 9, .take 10, .take 11, .take 12, .take 13, .take 14, .take 15, .take 16, .take 17, .take 19, .take 20, .op 18, .take 21, .fin 22] (by kernel_rfl) (by kernel_rfl) rfl (by kernel_rfl) (panic_viaE (P := Try.prog) (fn := Try.f45) (R := GoP tb wb vp (setR T a (sameV (rg T b) (rg T c))) vw me B w) (fun _ _ _ => rfl)) ?_
  have hs : Drawn0 W W.drew := (Drawn0.refl W).step 1
  repeat (
    (first
      | (refine runSeq2_take (v := ?_) (by rfl) (by rfl) (fun w' hS => ?_) hs ?_
         rotate_left
         · (obtain ⟨n, rfl⟩ := hS; go_simp; exact rfl))
      | refine runSeq2_skip (by rfl) (by rfl) hs ?_)
    (try simp only [Act.put, List.setIfInBounds_toArray, List.set_cons_zero, List.set_cons_succ]))
  refine runSeq2_op (by rfl) (by rfl) (fun K hK => ?_)
  go_simp
  refine (truth_any _ _).mono ?_
  rintro e w' ⟨rfl, rfl⟩
  refine hK _ _ hs ?_
  clear hK K
  repeat (
    (first
      | (refine runSeq2_take (v := ?_) (by rfl) (by rfl) (fun w' hS => ?_) hs ?_
         rotate_left
         · (obtain ⟨n, rfl⟩ := hS; go_simp; exact rfl))
      | refine runSeq2_skip (by rfl) (by rfl) hs ?_)
    (try simp only [Act.put, List.setIfInBounds_toArray, List.set_cons_zero, List.set_cons_succ]))
  refine runSeq2_fin (by rfl) (by rfl) (fun K hK => ?_)
  go_simp
  refine hK _ _ ?_
  refine runSeq2_nil ?_
  clear hK K hs
  go_wp2_with fail
  go_end0
  exact goP_reg H.out.1 H.out.2 a HA.out _ _ (by unfold sameV truthV; simp only [beq_iff_eq]; rfl)
set_option maxRecDepth 100000 in
set_option maxHeartbeats 4000000 in
theorem tdiv_any (h : TB tb wb vp T vw me B w) (x : S55) (ha : 0 ≤ x.f1 ∧ x.f1 < 8) (hb : 0 ≤ x.f2 ∧ x.f2 < 8) (hc : 0 ≤ x.f3 ∧ x.f3 < 8) (hn : rg T x.f3 ≠ 0) : Calls Try.prog 43 #[.pointer (some ⟨tb, 0, none⟩), xv x] w (GoP tb wb vp (setR T x.f1 (wrap64 ((rg T x.f2).tdiv (rg T x.f3)))) vw me B w) := by
  obtain ⟨x0, x1, x2, x3, x4⟩ := x
  simp only at *
  obtain ⟨a, rfl⟩ : ∃ a : Nat, x1 = a := ⟨x1.toNat, by omega⟩
  obtain ⟨b, rfl⟩ : ∃ b : Nat, x2 = b := ⟨x2.toNat, by omega⟩
  obtain ⟨c, rfl⟩ : ∃ c : Nat, x3 = c := ⟨x3.toNat, by omega⟩
  have hn' : T.regs.getD c 0 ≠ 0 := hn
  obtain ⟨W, hW⟩ : ∃ W, W = w.alloc (.cells #[.int .i64 x0, .int .i64 (a), .int .i64 (b), .int .i64 (c), .int .i64 x4] 55) := ⟨_, rfl⟩
  have hb1 : Below w.heap.size w W := by rw [hW]; exact (Below.refl w.heap.size w).alloc (Nat.le_refl _) _
  have hbx : W.heap[w.heap.size]? = some (.cells #[.int .i64 x0, .int .i64 (a), .int .i64 (b), .int .i64 (c), .int .i64 x4] 55 (0, 0)) := by rw [hW]; exact alloc_blk w _
  have h1 := h.below hb1
  have c0 := blk_cell hbx 0
  have c1 := blk_cell hbx 1
  have c2 := blk_cell hbx 2
  have c3 := blk_cell hbx 3
  have c4 := blk_cell hbx 4
  have t0 := h1.fix.1
  have H := Aside0.mk (And.intro h1 hb1)
  have HWW := Aside0.mk hW
  have ha8 : ((a : Int) < 8) = True := eq_true ha.2
  have hb8 : ((b : Int) < 8) = True := eq_true hb.2
  have hc8 : ((c : Int) < 8) = True := eq_true hc.2
  have z := h1.frozen (2 + a)
  have r := h1.reg a (by omega)
  have r2 := h1.reg b (by omega)
  have r3 := h1.reg c (by omega)
  have HA := Aside0.mk ha.2
  clear ha hb hc
  have hne : (T.regs.getD c 0 == 0) = false := by simpa using hn'
  have hne3 : (T.regs.getD c 0 = 0) = False := eq_false hn'
  clear hn hn'
  generalize hq : T.regs.getD c 0 = y at r3 hne hne3
  have HQ := Aside0.mk hq
  clear hq
  unfold xv
  clear h h1 hb1 hbx hW
  go_enter Try.func43, Try.ntmps43
  go_wp2_with fail
  rw [← HWW.out]
  have z := H.out.1.frozen (2 + a)
  go_quiet (fail)
  go_wp2_with fail
  have hdz : ∀ n, Drawn0 W (W.drewN n) := fun n => ⟨n, rfl⟩
  refine wp_region_seq2 (fun w' => Drawn0 W w') [21] [.take 0, .take 1, .take 2, .take 3, .take 4, .take 5, .take 6, .take 7, .take 8, .take 9, .take 10, .take 11, .take 12, .take 13, .take 14, .take 15, .take 16, .take 17, .take 18, .take 19, .take 20, .fin 21] (by kernel_rfl) (by kernel_rfl) rfl (by kernel_rfl) (panic_viaE (P := Try.prog) (fn := Try.f43) (R := GoP tb wb vp (setR T a (wrap64 ((rg T b).tdiv (rg T c)))) vw me B w) (fun _ _ _ => rfl)) ?_
  have hs : Drawn0 W (W.drewN nq).drew := (Drawn0.step ⟨_, rfl⟩ 1)
  clear hdz
  repeat (
    (first
      | (refine runSeq2_take (v := ?_) (by rfl) (by rfl) (fun w' hS => ?_) hs ?_
         rotate_left
         · (obtain ⟨n, rfl⟩ := hS; go_simp; exact rfl))
      | refine runSeq2_skip (by rfl) (by rfl) hs ?_)
    (try simp only [Act.put, List.setIfInBounds_toArray, List.set_cons_zero, List.set_cons_succ]))
  refine runSeq2_fin (by rfl) (by rfl) (fun K hK => ?_)
  go_simp
  refine hK _ _ ?_
  refine runSeq2_nil ?_
  clear hK K hs
  go_wp2_with fail
  go_end0
  have e : rg T (c : Int) = y := HQ.out
  rw [e, ← wrap_i64]
  exact ⟨rfl, (H.out.1.drewN _).setReg a (by have := HA.out; omega) _, ((Keep.of_below H.out.2 (fun q => q = tb)).drewN _).set (p := ⟨tb, 2 + a, none⟩) (.inr rfl) _⟩
theorem tdiv_no (h : TB tb wb vp T vw me B w) (x : S55) (ha : 0 ≤ x.f1 ∧ x.f1 < 8) (hb : 0 ≤ x.f2 ∧ x.f2 < 8) (hc : 0 ≤ x.f3 ∧ x.f3 < 8) (hn : rg T x.f3 = 0) : Calls Try.prog 43 #[.pointer (some ⟨tb, 0, none⟩), xv x] w (StopP 1 w) := by
  obtain ⟨x0, x1, x2, x3, x4⟩ := x
  simp only at *
  obtain ⟨a, rfl⟩ : ∃ a : Nat, x1 = a := ⟨x1.toNat, by omega⟩
  obtain ⟨b, rfl⟩ : ∃ b : Nat, x2 = b := ⟨x2.toNat, by omega⟩
  obtain ⟨c, rfl⟩ : ∃ c : Nat, x3 = c := ⟨x3.toNat, by omega⟩
  have hn' : T.regs.getD c 0 = 0 := hn
  obtain ⟨W, hW⟩ : ∃ W, W = w.alloc (.cells #[.int .i64 x0, .int .i64 (a), .int .i64 (b), .int .i64 (c), .int .i64 x4] 55) := ⟨_, rfl⟩
  have hb1 : Below w.heap.size w W := by rw [hW]; exact (Below.refl w.heap.size w).alloc (Nat.le_refl _) _
  have hbx : W.heap[w.heap.size]? = some (.cells #[.int .i64 x0, .int .i64 (a), .int .i64 (b), .int .i64 (c), .int .i64 x4] 55 (0, 0)) := by rw [hW]; exact alloc_blk w _
  have h1 := h.below hb1
  have c0 := blk_cell hbx 0
  have c1 := blk_cell hbx 1
  have c2 := blk_cell hbx 2
  have c3 := blk_cell hbx 3
  have c4 := blk_cell hbx 4
  have t0 := h1.fix.1
  have H := Aside0.mk (And.intro h1 hb1)
  have HWW := Aside0.mk hW
  have ha8 : ((a : Int) < 8) = True := eq_true ha.2
  have hb8 : ((b : Int) < 8) = True := eq_true hb.2
  have hc8 : ((c : Int) < 8) = True := eq_true hc.2
  have z := h1.frozen (2 + a)
  have r := h1.reg a (by omega)
  have r2 := h1.reg b (by omega)
  have r3 := h1.reg c (by omega)
  have HA := Aside0.mk ha.2
  clear ha hb hc
  rw [hn'] at r3
  clear hn hn'
  unfold xv
  clear h h1 hb1 hbx hW
  go_enter Try.func43, Try.ntmps43
  go_wp2_with fail
  rw [← HWW.out]
  go_quiet (fail)
  go_wp2_with fail
  refine (fail_any 1 _).mono ?_
  rintro e w' ⟨rfl, hb⟩
  exact ⟨rfl, rfl, (pw_below_drewN H.out.2 _).trans (hb.mono (pw_below_drewN H.out.2 _).size)⟩
set_option maxRecDepth 100000 in
set_option maxHeartbeats 4000000 in
theorem tjump_any (h : TB tb wb vp T vw me B w) (x : S55) : Calls Try.prog 46 #[.pointer (some ⟨tb, 0, none⟩), xv x] w (GoP tb wb vp { T with at_ := x.f4 } vw me B w) := by
  obtain ⟨x0, x1, x2, x3, x4⟩ := x
  simp only at *
  obtain ⟨W, hW⟩ : ∃ W, W = w.alloc (.cells #[.int .i64 x0, .int .i64 (x1), .int .i64 (x2), .int .i64 (x3), .int .i64 x4] 55) := ⟨_, rfl⟩
  have hb1 : Below w.heap.size w W := by rw [hW]; exact (Below.refl w.heap.size w).alloc (Nat.le_refl _) _
  have hbx : W.heap[w.heap.size]? = some (.cells #[.int .i64 x0, .int .i64 (x1), .int .i64 (x2), .int .i64 (x3), .int .i64 x4] 55 (0, 0)) := by rw [hW]; exact alloc_blk w _
  have h1 := h.below hb1
  have c0 := blk_cell hbx 0
  have c1 := blk_cell hbx 1
  have c2 := blk_cell hbx 2
  have c3 := blk_cell hbx 3
  have c4 := blk_cell hbx 4
  have t0 := h1.fix.1
  have H := Aside0.mk (And.intro h1 hb1)
  have HWW := Aside0.mk hW
  have z := h1.frozen 20
  have r := h1.fix.2.2.2.2.1
  clear HWW
  subst hW
  unfold xv
  clear h h1 hb1 hbx
  go_enter Try.func46, Try.ntmps46
  go_wp2_with fail
  go_end0
  exact ⟨rfl, H.out.1.setAt x4, (Keep.of_below H.out.2 (fun q => q = tb)).set (p := ⟨tb, 20, none⟩) (.inr rfl) _⟩
set_option maxRecDepth 100000 in
set_option maxHeartbeats 4000000 in
theorem tzero_any (h : TB tb wb vp T vw me B w) (x : S55) (ha : 0 ≤ x.f1 ∧ x.f1 < 8) : Calls Try.prog 47 #[.pointer (some ⟨tb, 0, none⟩), xv x] w (GoP tb wb vp (if rg T x.f1 = 0 then { T with at_ := x.f4 } else T) vw me B w) := by
  obtain ⟨x0, x1, x2, x3, x4⟩ := x
  simp only at *
  obtain ⟨a, rfl⟩ : ∃ a : Nat, x1 = a := ⟨x1.toNat, by omega⟩
  have hrg : rg T (a : Int) = T.regs.getD a 0 := rfl
  obtain ⟨W, hW⟩ : ∃ W, W = w.alloc (.cells #[.int .i64 x0, .int .i64 (a), .int .i64 (x2), .int .i64 (x3), .int .i64 x4] 55) := ⟨_, rfl⟩
  have hb1 : Below w.heap.size w W := by rw [hW]; exact (Below.refl w.heap.size w).alloc (Nat.le_refl _) _
  have hbx : W.heap[w.heap.size]? = some (.cells #[.int .i64 x0, .int .i64 (a), .int .i64 (x2), .int .i64 (x3), .int .i64 x4] 55 (0, 0)) := by rw [hW]; exact alloc_blk w _
  have h1 := h.below hb1
  have c0 := blk_cell hbx 0
  have c1 := blk_cell hbx 1
  have c2 := blk_cell hbx 2
  have c3 := blk_cell hbx 3
  have c4 := blk_cell hbx 4
  have t0 := h1.fix.1
  have H := Aside0.mk (And.intro h1 hb1)
  have HWW := Aside0.mk hW
  have ha8 : ((a : Int) < 8) = True := eq_true ha.2
  have z := h1.frozen 20
  have r := h1.reg a (by omega)
  have t20 := h1.fix.2.2.2.2.1
  by_cases hz : T.regs.getD a 0 = 0
  · rw [hrg, if_pos hz]
    rw [hz] at r
    clear ha hrg hz
    unfold xv
    clear h h1 hb1 hbx hW
    go_enter Try.func47, Try.ntmps47
    go_wp2_with fail
    rw [← HWW.out]
    go_quiet (fail)
    go_wp2_with fail
    go_end0
    exact ⟨rfl, (H.out.1.drewN _).setAt x4, ((Keep.of_below H.out.2 (fun q => q = tb)).drewN _).set (p := ⟨tb, 20, none⟩) (.inr rfl) _⟩
  · rw [hrg, if_neg hz]
    have hz1 : (T.regs.getD a 0 == 0) = false := by simpa using hz
    have hz2 : (T.regs.getD a 0 = 0) = False := eq_false hz
    clear ha hrg hz
    generalize T.regs.getD a 0 = y at r hz1 hz2
    unfold xv
    clear h h1 hb1 hbx hW
    go_enter Try.func47, Try.ntmps47
    go_wp2_with fail
    rw [← HWW.out]
    go_quiet (fail)
    go_wp2_with fail
    go_end0
    exact ⟨rfl, H.out.1.drewN _, (Keep.of_below H.out.2 (fun q => q = tb)).drewN _⟩
set_option maxRecDepth 100000 in
set_option maxHeartbeats 4000000 in
theorem tfail_any (h : TB tb wb vp T vw me B w) (x : S55) : Calls Try.prog 52 #[.pointer (some ⟨tb, 0, none⟩), xv x] w (StopP x.f4 w) := by
  obtain ⟨x0, x1, x2, x3, x4⟩ := x
  simp only at *
  obtain ⟨W, hW⟩ : ∃ W, W = w.alloc (.cells #[.int .i64 x0, .int .i64 (x1), .int .i64 (x2), .int .i64 (x3), .int .i64 x4] 55) := ⟨_, rfl⟩
  have hb1 : Below w.heap.size w W := by rw [hW]; exact (Below.refl w.heap.size w).alloc (Nat.le_refl _) _
  have hbx : W.heap[w.heap.size]? = some (.cells #[.int .i64 x0, .int .i64 (x1), .int .i64 (x2), .int .i64 (x3), .int .i64 x4] 55 (0, 0)) := by rw [hW]; exact alloc_blk w _
  have h1 := h.below hb1
  have c0 := blk_cell hbx 0
  have c1 := blk_cell hbx 1
  have c2 := blk_cell hbx 2
  have c3 := blk_cell hbx 3
  have c4 := blk_cell hbx 4
  have t0 := h1.fix.1
  have H := Aside0.mk (And.intro h1 hb1)
  have HWW := Aside0.mk hW
  unfold xv
  clear h h1 hb1 hbx hW
  go_enter Try.func52, Try.ntmps52
  go_wp2_with fail
  rw [← HWW.out]
  refine (fail_any x4 _).mono ?_
  rintro e w' ⟨rfl, hb⟩
  exact ⟨rfl, rfl, H.out.2.trans (hb.mono H.out.2.size)⟩
end
end Go.Proofs.Ytnhipdniceoigaa.H
