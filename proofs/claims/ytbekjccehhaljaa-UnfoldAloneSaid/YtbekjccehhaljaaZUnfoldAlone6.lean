/- What the proof of UnfoldAlone stands on, part 6: this session's own texts and the words that the kit's print lays, those that are used. -/
import Derived.Test.YtbekjccehhaljaaZUnfoldAlone5
import Derived.BigQuiet
import Derived.Deep.QuietTactic
import Derived.Deep.LoopGhost
import Derived.Laws.CopyOwn
set_option linter.unusedVariables false
set_option linter.unusedSimpArgs false
namespace Go.Proofs.Ytbekjccehhaljaa.H
open Go.RowKit Go.Hay Go.Proofs.YtbekjccehhaljaaW.PrintWords Go.Proofs.YtbekjccehhaljaaW.PrintLast Go.Proofs.YtbekjccehhaljaaW.PrintMore
section
variable {tb wb me B : Nat} {vp vw : Value} {T : Ts} {w : World}
set_option maxRecDepth 100000 in
set_option maxHeartbeats 4000000 in
theorem tless_any (h : TB tb wb vp T vw me B w) (x : S61) (ha : 0 ≤ x.f1 ∧ x.f1 < 8) (hb : 0 ≤ x.f2 ∧ x.f2 < 8) (hc : 0 ≤ x.f3 ∧ x.f3 < 8) : Calls Try.prog 102 #[.pointer (some ⟨tb, 0, none⟩), xv x] w (GoP tb wb vp (setR T x.f1 (lessV (rg T x.f2) (rg T x.f3))) vw me B w) := by
  obtain ⟨x0, x1, x2, x3, x4⟩ := x
  try simp only at *
  obtain ⟨a, rfl⟩ : ∃ a : Nat, x1 = a := ⟨x1.toNat, by omega⟩
  obtain ⟨b, rfl⟩ : ∃ b : Nat, x2 = b := ⟨x2.toNat, by omega⟩
  obtain ⟨c, rfl⟩ : ∃ c : Nat, x3 = c := ⟨x3.toNat, by omega⟩
  obtain ⟨W, hW⟩ : ∃ W, W = w.alloc (.cells #[.int .i64 x0, .int .i64 (a), .int .i64 (b), .int .i64 (c), .int .i64 x4] 61) := ⟨_, rfl⟩
  have hb1 : Below w.heap.size w W := by rw [hW]; exact (Below.refl w.heap.size w).alloc (Nat.le_refl _) _
  have hbx : W.heap[w.heap.size]? = some (.cells #[.int .i64 x0, .int .i64 (a), .int .i64 (b), .int .i64 (c), .int .i64 x4] 61 (0, 0)) := by rw [hW]; exact alloc_blk w _
  have h1 := h.below hb1
  have c0 := blk_cell hbx 0
  have c1 := blk_cell hbx 1
  have c2 := blk_cell hbx 2
  have c3 := blk_cell hbx 3
  have c4 := blk_cell hbx 4
  have t0 := h1.fix.1
  have H := Aside0.mk (And.intro h1 hb1)
  have HWW := Aside0.mk hW
  have ha8 : ((a : Int) < 8) = True := eq_true ha.2
  have hb8 : ((b : Int) < 8) = True := eq_true hb.2
  have hc8 : ((c : Int) < 8) = True := eq_true hc.2
  have z := h1.frozen (2 + a)
  have r := h1.reg a (by omega)
  have r2 := h1.reg b (by omega)
  have r3 := h1.reg c (by omega)
  have HA := Aside0.mk ha.2
  clear ha hb hc
  unfold xv
  clear h h1 hb1 hbx hW
  go_enter Try.func102, Try.ntmps102
  go_wp2_with fail
  rw [← HWW.out]
  refine wp_region_seq2 (fun w' => Drawn0 W w') [22] [.take 0, .take 1, .take 2, .take 3, .take 4, .take 5, .take 6, .take 7, .take 8, .take 9, .take 10, .take 11, .take 12, .take 13, .take 14, .take 15, .take 16, .take 17, .take 19, .take 20, .op 18, .take 21, .fin 22] (by kernel_rfl) (by kernel_rfl) rfl (by kernel_rfl) (panic_viaE (P := Try.prog) (fn := Try.f102) (R := GoP tb wb vp (setR T a (lessV (rg T b) (rg T c))) vw me B w) (fun _ _ _ => rfl)) ?_
  have hs : Drawn0 W W.drew := (Drawn0.refl W).step 1
  repeat (
    (first
      | (refine runSeq2_take (v := ?_) (by rfl) (by rfl) (fun w' hS => ?_) hs ?_
         rotate_left
         · (obtain ⟨n, rfl⟩ := hS; go_simp; exact rfl))
      | refine runSeq2_skip (by rfl) (by rfl) hs ?_)
    (try simp only [Act.put, List.setIfInBounds_toArray, List.set_cons_zero, List.set_cons_succ]))
  refine runSeq2_op (by rfl) (by rfl) (fun K hK => ?_)
  go_simp
  refine (truth_any _ _).mono ?_
  rintro e w' ⟨rfl, rfl⟩
  refine hK _ _ hs ?_
  clear hK K
  repeat (
    (first
      | (refine runSeq2_take (v := ?_) (by rfl) (by rfl) (fun w' hS => ?_) hs ?_
         rotate_left
         · (obtain ⟨n, rfl⟩ := hS; go_simp; exact rfl))
      | refine runSeq2_skip (by rfl) (by rfl) hs ?_)
    (try simp only [Act.put, List.setIfInBounds_toArray, List.set_cons_zero, List.set_cons_succ]))
  refine runSeq2_fin (by rfl) (by rfl) (fun K hK => ?_)
  go_simp
  refine hK _ _ ?_
  refine runSeq2_nil ?_
  clear hK K hs
  go_wp2_with fail
  go_end0
  exact goP_reg H.out.1 H.out.2 a HA.out _ _ (by unfold lessV truthV; simp only [decide_eq_true_eq]; rfl)
set_option maxRecDepth 100000 in
set_option maxHeartbeats 4000000 in
theorem tsame_any (h : TB tb wb vp T vw me B w) (x : S61) (ha : 0 ≤ x.f1 ∧ x.f1 < 8) (hb : 0 ≤ x.f2 ∧ x.f2 < 8) (hc : 0 ≤ x.f3 ∧ x.f3 < 8) : Calls Try.prog 103 #[.pointer (some ⟨tb, 0, none⟩), xv x] w (GoP tb wb vp (setR T x.f1 (sameV (rg T x.f2) (rg T x.f3))) vw me B w) := by
  obtain ⟨x0, x1, x2, x3, x4⟩ := x
  try simp only at *
  obtain ⟨a, rfl⟩ : ∃ a : Nat, x1 = a := ⟨x1.toNat, by omega⟩
  obtain ⟨b, rfl⟩ : ∃ b : Nat, x2 = b := ⟨x2.toNat, by omega⟩
  obtain ⟨c, rfl⟩ : ∃ c : Nat, x3 = c := ⟨x3.toNat, by omega⟩
  obtain ⟨W, hW⟩ : ∃ W, W = w.alloc (.cells #[.int .i64 x0, .int .i64 (a), .int .i64 (b), .int .i64 (c), .int .i64 x4] 61) := ⟨_, rfl⟩
  have hb1 : Below w.heap.size w W := by rw [hW]; exact (Below.refl w.heap.size w).alloc (Nat.le_refl _) _
  have hbx : W.heap[w.heap.size]? = some (.cells #[.int .i64 x0, .int .i64 (a), .int .i64 (b), .int .i64 (c), .int .i64 x4] 61 (0, 0)) := by rw [hW]; exact alloc_blk w _
  have h1 := h.below hb1
  have c0 := blk_cell hbx 0
  have c1 := blk_cell hbx 1
  have c2 := blk_cell hbx 2
  have c3 := blk_cell hbx 3
  have c4 := blk_cell hbx 4
  have t0 := h1.fix.1
  have H := Aside0.mk (And.intro h1 hb1)
  have HWW := Aside0.mk hW
  have ha8 : ((a : Int) < 8) = True := eq_true ha.2
  have hb8 : ((b : Int) < 8) = True := eq_true hb.2
  have hc8 : ((c : Int) < 8) = True := eq_true hc.2
  have z := h1.frozen (2 + a)
  have r := h1.reg a (by omega)
  have r2 := h1.reg b (by omega)
  have r3 := h1.reg c (by omega)
  have HA := Aside0.mk ha.2
  clear ha hb hc
  unfold xv
  clear h h1 hb1 hbx hW
  go_enter Try.func103, Try.ntmps103
  go_wp2_with fail
  rw [← HWW.out]
  refine wp_region_seq2 (fun w' => Drawn0 W w') [22] [.take 0, .take 1, .take 2, .take 3, .take 4, .take 5, .take 6, .take 7, .take 8, .take 9, .take 10, .take 11, .take 12, .take 13, .take 14, .take 15, .take 16, .take 17, .take 19, .take 20, .op 18, .take 21, .fin 22] (by kernel_rfl) (by kernel_rfl) rfl (by kernel_rfl) (panic_viaE (P := Try.prog) (fn := Try.f103) (R := GoP tb wb vp (setR T a (sameV (rg T b) (rg T c))) vw me B w) (fun _ _ _ => rfl)) ?_
  have hs : Drawn0 W W.drew := (Drawn0.refl W).step 1
  repeat (
    (first
      | (refine runSeq2_take (v := ?_) (by rfl) (by rfl) (fun w' hS => ?_) hs ?_
         rotate_left
         · (obtain ⟨n, rfl⟩ := hS; go_simp; exact rfl))
      | refine runSeq2_skip (by rfl) (by rfl) hs ?_)
    (try simp only [Act.put, List.setIfInBounds_toArray, List.set_cons_zero, List.set_cons_succ]))
  refine runSeq2_op (by rfl) (by rfl) (fun K hK => ?_)
  go_simp
  refine (truth_any _ _).mono ?_
  rintro e w' ⟨rfl, rfl⟩
  refine hK _ _ hs ?_
  clear hK K
  repeat (
    (first
      | (refine runSeq2_take (v := ?_) (by rfl) (by rfl) (fun w' hS => ?_) hs ?_
         rotate_left
         · (obtain ⟨n, rfl⟩ := hS; go_simp; exact rfl))
      | refine runSeq2_skip (by rfl) (by rfl) hs ?_)
    (try simp only [Act.put, List.setIfInBounds_toArray, List.set_cons_zero, List.set_cons_succ]))
  refine runSeq2_fin (by rfl) (by rfl) (fun K hK => ?_)
  go_simp
  refine hK _ _ ?_
  refine runSeq2_nil ?_
  clear hK K hs
  go_wp2_with fail
  go_end0
  exact goP_reg H.out.1 H.out.2 a HA.out _ _ (by unfold sameV truthV; simp only [beq_iff_eq]; rfl)
set_option maxRecDepth 100000 in
set_option maxHeartbeats 4000000 in
theorem tdiv_any (h : TB tb wb vp T vw me B w) (x : S61) (ha : 0 ≤ x.f1 ∧ x.f1 < 8) (hb : 0 ≤ x.f2 ∧ x.f2 < 8) (hc : 0 ≤ x.f3 ∧ x.f3 < 8) (hn : rg T x.f3 ≠ 0) : Calls Try.prog 101 #[.pointer (some ⟨tb, 0, none⟩), xv x] w (GoP tb wb vp (setR T x.f1 (wrap64 ((rg T x.f2).tdiv (rg T x.f3)))) vw me B w) := by
  obtain ⟨x0, x1, x2, x3, x4⟩ := x
  try simp only at *
  obtain ⟨a, rfl⟩ : ∃ a : Nat, x1 = a := ⟨x1.toNat, by omega⟩
  obtain ⟨b, rfl⟩ : ∃ b : Nat, x2 = b := ⟨x2.toNat, by omega⟩
  obtain ⟨c, rfl⟩ : ∃ c : Nat, x3 = c := ⟨x3.toNat, by omega⟩
  have hn' : T.regs.getD c 0 ≠ 0 := hn
  obtain ⟨W, hW⟩ : ∃ W, W = w.alloc (.cells #[.int .i64 x0, .int .i64 (a), .int .i64 (b), .int .i64 (c), .int .i64 x4] 61) := ⟨_, rfl⟩
  have hb1 : Below w.heap.size w W := by rw [hW]; exact (Below.refl w.heap.size w).alloc (Nat.le_refl _) _
  have hbx : W.heap[w.heap.size]? = some (.cells #[.int .i64 x0, .int .i64 (a), .int .i64 (b), .int .i64 (c), .int .i64 x4] 61 (0, 0)) := by rw [hW]; exact alloc_blk w _
  have h1 := h.below hb1
  have c0 := blk_cell hbx 0
  have c1 := blk_cell hbx 1
  have c2 := blk_cell hbx 2
  have c3 := blk_cell hbx 3
  have c4 := blk_cell hbx 4
  have t0 := h1.fix.1
  have H := Aside0.mk (And.intro h1 hb1)
  have HWW := Aside0.mk hW
  have ha8 : ((a : Int) < 8) = True := eq_true ha.2
  have hb8 : ((b : Int) < 8) = True := eq_true hb.2
  have hc8 : ((c : Int) < 8) = True := eq_true hc.2
  have z := h1.frozen (2 + a)
  have r := h1.reg a (by omega)
  have r2 := h1.reg b (by omega)
  have r3 := h1.reg c (by omega)
  have HA := Aside0.mk ha.2
  clear ha hb hc
  have hne : (T.regs.getD c 0 == 0) = false := by simpa using hn'
  have hne3 : (T.regs.getD c 0 = 0) = False := eq_false hn'
  clear hn hn'
  generalize hq : T.regs.getD c 0 = y at r3 hne hne3
  have HQ := Aside0.mk hq
  clear hq
  unfold xv
  clear h h1 hb1 hbx hW
  go_enter Try.func101, Try.ntmps101
  go_wp2_with fail
  rw [← HWW.out]
  have z := H.out.1.frozen (2 + a)
  go_quiet (fail)
  go_wp2_with fail
  have hdz : ∀ n, Drawn0 W (W.drewN n) := fun n => ⟨n, rfl⟩
  refine wp_region_seq2 (fun w' => Drawn0 W w') [21] [.take 0, .take 1, .take 2, .take 3, .take 4, .take 5, .take 6, .take 7, .take 8, .take 9, .take 10, .take 11, .take 12, .take 13, .take 14, .take 15, .take 16, .take 17, .take 18, .take 19, .take 20, .fin 21] (by kernel_rfl) (by kernel_rfl) rfl (by kernel_rfl) (panic_viaE (P := Try.prog) (fn := Try.f101) (R := GoP tb wb vp (setR T a (wrap64 ((rg T b).tdiv (rg T c)))) vw me B w) (fun _ _ _ => rfl)) ?_
  have hs : Drawn0 W (W.drewN nq).drew := (Drawn0.step ⟨_, rfl⟩ 1)
  clear hdz
  repeat (
    (first
      | (refine runSeq2_take (v := ?_) (by rfl) (by rfl) (fun w' hS => ?_) hs ?_
         rotate_left
         · (obtain ⟨n, rfl⟩ := hS; go_simp; exact rfl))
      | refine runSeq2_skip (by rfl) (by rfl) hs ?_)
    (try simp only [Act.put, List.setIfInBounds_toArray, List.set_cons_zero, List.set_cons_succ]))
  refine runSeq2_fin (by rfl) (by rfl) (fun K hK => ?_)
  go_simp
  refine hK _ _ ?_
  refine runSeq2_nil ?_
  clear hK K hs
  go_wp2_with fail
  go_end0
  have e : rg T (c : Int) = y := HQ.out
  rw [e, ← wrap_i64]
  exact ⟨rfl, (H.out.1.drewN _).setReg a (by have := HA.out; omega) _, ((Keep.of_below H.out.2 (fun q => q = tb)).drewN _).set (p := ⟨tb, 2 + a, none⟩) (.inr rfl) _⟩
theorem tdiv_no (h : TB tb wb vp T vw me B w) (x : S61) (ha : 0 ≤ x.f1 ∧ x.f1 < 8) (hb : 0 ≤ x.f2 ∧ x.f2 < 8) (hc : 0 ≤ x.f3 ∧ x.f3 < 8) (hn : rg T x.f3 = 0) : Calls Try.prog 101 #[.pointer (some ⟨tb, 0, none⟩), xv x] w (StopP 1 w) := by
  obtain ⟨x0, x1, x2, x3, x4⟩ := x
  try simp only at *
  obtain ⟨a, rfl⟩ : ∃ a : Nat, x1 = a := ⟨x1.toNat, by omega⟩
  obtain ⟨b, rfl⟩ : ∃ b : Nat, x2 = b := ⟨x2.toNat, by omega⟩
  obtain ⟨c, rfl⟩ : ∃ c : Nat, x3 = c := ⟨x3.toNat, by omega⟩
  have hn' : T.regs.getD c 0 = 0 := hn
  obtain ⟨W, hW⟩ : ∃ W, W = w.alloc (.cells #[.int .i64 x0, .int .i64 (a), .int .i64 (b), .int .i64 (c), .int .i64 x4] 61) := ⟨_, rfl⟩
  have hb1 : Below w.heap.size w W := by rw [hW]; exact (Below.refl w.heap.size w).alloc (Nat.le_refl _) _
  have hbx : W.heap[w.heap.size]? = some (.cells #[.int .i64 x0, .int .i64 (a), .int .i64 (b), .int .i64 (c), .int .i64 x4] 61 (0, 0)) := by rw [hW]; exact alloc_blk w _
  have h1 := h.below hb1
  have c0 := blk_cell hbx 0
  have c1 := blk_cell hbx 1
  have c2 := blk_cell hbx 2
  have c3 := blk_cell hbx 3
  have c4 := blk_cell hbx 4
  have t0 := h1.fix.1
  have H := Aside0.mk (And.intro h1 hb1)
  have HWW := Aside0.mk hW
  have ha8 : ((a : Int) < 8) = True := eq_true ha.2
  have hb8 : ((b : Int) < 8) = True := eq_true hb.2
  have hc8 : ((c : Int) < 8) = True := eq_true hc.2
  have z := h1.frozen (2 + a)
  have r := h1.reg a (by omega)
  have r2 := h1.reg b (by omega)
  have r3 := h1.reg c (by omega)
  have HA := Aside0.mk ha.2
  clear ha hb hc
  rw [hn'] at r3
  clear hn hn'
  unfold xv
  clear h h1 hb1 hbx hW
  go_enter Try.func101, Try.ntmps101
  go_wp2_with fail
  rw [← HWW.out]
  go_quiet (fail)
  go_wp2_with fail
  refine (fail_any 1 _).mono ?_
  rintro e w' ⟨rfl, hb⟩
  exact ⟨rfl, rfl, (pw_below_drewN H.out.2 _).trans (hb.mono (pw_below_drewN H.out.2 _).size)⟩
set_option maxRecDepth 100000 in
set_option maxHeartbeats 4000000 in
theorem tjump_any (h : TB tb wb vp T vw me B w) (x : S61) : Calls Try.prog 104 #[.pointer (some ⟨tb, 0, none⟩), xv x] w (GoP tb wb vp { T with at_ := x.f4 } vw me B w) := by
  obtain ⟨x0, x1, x2, x3, x4⟩ := x
  try simp only at *
  obtain ⟨W, hW⟩ : ∃ W, W = w.alloc (.cells #[.int .i64 x0, .int .i64 (x1), .int .i64 (x2), .int .i64 (x3), .int .i64 x4] 61) := ⟨_, rfl⟩
  have hb1 : Below w.heap.size w W := by rw [hW]; exact (Below.refl w.heap.size w).alloc (Nat.le_refl _) _
  have hbx : W.heap[w.heap.size]? = some (.cells #[.int .i64 x0, .int .i64 (x1), .int .i64 (x2), .int .i64 (x3), .int .i64 x4] 61 (0, 0)) := by rw [hW]; exact alloc_blk w _
  have h1 := h.below hb1
  have c0 := blk_cell hbx 0
  have c1 := blk_cell hbx 1
  have c2 := blk_cell hbx 2
  have c3 := blk_cell hbx 3
  have c4 := blk_cell hbx 4
  have t0 := h1.fix.1
  have H := Aside0.mk (And.intro h1 hb1)
  have HWW := Aside0.mk hW
  have z := h1.frozen 20
  have r := h1.fix.2.2.2.2.1
  clear HWW
  subst hW
  unfold xv
  clear h h1 hb1 hbx
  go_enter Try.func104, Try.ntmps104
  go_wp2_with fail
  go_end0
  exact ⟨rfl, H.out.1.setAt x4, (Keep.of_below H.out.2 (fun q => q = tb)).set (p := ⟨tb, 20, none⟩) (.inr rfl) _⟩
set_option maxRecDepth 100000 in
set_option maxHeartbeats 4000000 in
theorem tzero_any (h : TB tb wb vp T vw me B w) (x : S61) (ha : 0 ≤ x.f1 ∧ x.f1 < 8) : Calls Try.prog 105 #[.pointer (some ⟨tb, 0, none⟩), xv x] w (GoP tb wb vp (if rg T x.f1 = 0 then { T with at_ := x.f4 } else T) vw me B w) := by
  obtain ⟨x0, x1, x2, x3, x4⟩ := x
  try simp only at *
  obtain ⟨a, rfl⟩ : ∃ a : Nat, x1 = a := ⟨x1.toNat, by omega⟩
  have hrg : rg T (a : Int) = T.regs.getD a 0 := rfl
  obtain ⟨W, hW⟩ : ∃ W, W = w.alloc (.cells #[.int .i64 x0, .int .i64 (a), .int .i64 (x2), .int .i64 (x3), .int .i64 x4] 61) := ⟨_, rfl⟩
  have hb1 : Below w.heap.size w W := by rw [hW]; exact (Below.refl w.heap.size w).alloc (Nat.le_refl _) _
  have hbx : W.heap[w.heap.size]? = some (.cells #[.int .i64 x0, .int .i64 (a), .int .i64 (x2), .int .i64 (x3), .int .i64 x4] 61 (0, 0)) := by rw [hW]; exact alloc_blk w _
  have h1 := h.below hb1
  have c0 := blk_cell hbx 0
  have c1 := blk_cell hbx 1
  have c2 := blk_cell hbx 2
  have c3 := blk_cell hbx 3
  have c4 := blk_cell hbx 4
  have t0 := h1.fix.1
  have H := Aside0.mk (And.intro h1 hb1)
  have HWW := Aside0.mk hW
  have ha8 : ((a : Int) < 8) = True := eq_true ha.2
  have z := h1.frozen 20
  have r := h1.reg a (by omega)
  have t20 := h1.fix.2.2.2.2.1
  by_cases hz : T.regs.getD a 0 = 0
  · rw [hrg, if_pos hz]
    rw [hz] at r
    clear ha hrg hz
    unfold xv
    clear h h1 hb1 hbx hW
    go_enter Try.func105, Try.ntmps105
    go_wp2_with fail
    rw [← HWW.out]
    go_quiet (fail)
    go_wp2_with fail
    go_end0
    exact ⟨rfl, (H.out.1.drewN _).setAt x4, ((Keep.of_below H.out.2 (fun q => q = tb)).drewN _).set (p := ⟨tb, 20, none⟩) (.inr rfl) _⟩
  · rw [hrg, if_neg hz]
    have hz1 : (T.regs.getD a 0 == 0) = false := by simpa using hz
    have hz2 : (T.regs.getD a 0 = 0) = False := eq_false hz
    clear ha hrg hz
    generalize T.regs.getD a 0 = y at r hz1 hz2
    unfold xv
    clear h h1 hb1 hbx hW
    go_enter Try.func105, Try.ntmps105
    go_wp2_with fail
    rw [← HWW.out]
    go_quiet (fail)
    go_wp2_with fail
    go_end0
    exact ⟨rfl, H.out.1.drewN _, (Keep.of_below H.out.2 (fun q => q = tb)).drewN _⟩
set_option maxRecDepth 100000 in
set_option maxHeartbeats 4000000 in
theorem tfail_any (h : TB tb wb vp T vw me B w) (x : S61) : Calls Try.prog 110 #[.pointer (some ⟨tb, 0, none⟩), xv x] w (StopP x.f4 w) := by
  obtain ⟨x0, x1, x2, x3, x4⟩ := x
  try simp only at *
  obtain ⟨W, hW⟩ : ∃ W, W = w.alloc (.cells #[.int .i64 x0, .int .i64 (x1), .int .i64 (x2), .int .i64 (x3), .int .i64 x4] 61) := ⟨_, rfl⟩
  have hb1 : Below w.heap.size w W := by rw [hW]; exact (Below.refl w.heap.size w).alloc (Nat.le_refl _) _
  have hbx : W.heap[w.heap.size]? = some (.cells #[.int .i64 x0, .int .i64 (x1), .int .i64 (x2), .int .i64 (x3), .int .i64 x4] 61 (0, 0)) := by rw [hW]; exact alloc_blk w _
  have h1 := h.below hb1
  have c0 := blk_cell hbx 0
  have c1 := blk_cell hbx 1
  have c2 := blk_cell hbx 2
  have c3 := blk_cell hbx 3
  have c4 := blk_cell hbx 4
  have t0 := h1.fix.1
  have H := Aside0.mk (And.intro h1 hb1)
  have HWW := Aside0.mk hW
  unfold xv
  clear h h1 hb1 hbx hW
  go_enter Try.func110, Try.ntmps110
  go_wp2_with fail
  rw [← HWW.out]
  refine (fail_any x4 _).mono ?_
  rintro e w' ⟨rfl, hb⟩
  exact ⟨rfl, rfl, H.out.2.trans (hb.mono H.out.2.size)⟩
end
end Go.Proofs.Ytbekjccehhaljaa.H

set_option linter.unusedVariables false
set_option linter.unusedSimpArgs false
namespace Go.Proofs.Ytbekjccehhaljaa.H
open Go.RowKit Go.Hay Go.Proofs.YtbekjccehhaljaaW.PrintWords Go.Proofs.YtbekjccehhaljaaW.PrintLast Go.Proofs.YtbekjccehhaljaaW.PrintMore
theorem info2 : (Try.prog.info? 2).map (fun i => (i.zero, i.size, i.bytes)) = some (some (.int .i64 0), 1, 8) := by kernel_rfl
theorem info54 : (Try.prog.info? 54).map (fun i => (i.zero, i.size, i.bytes)) = some (some (.agg #[.slice none 0 0, .int .i64 0]), 2, 32) := by kernel_rfl
theorem info192 : (Try.prog.info? 192).map (fun i => (i.zero, i.size, i.bytes)) = some (some (.agg #[.int .i64 0, .int .i64 0]), 2, 16) := by kernel_rfl
section
variable {tb wb me B : Nat} {vp vw : Value} {T : Ts} {w : World}
set_option maxRecDepth 100000 in
set_option maxHeartbeats 4000000 in
theorem ttouch_any (h : TB tb wb vp T vw me B w) (x : S61) (ha : 0 ≤ x.f1 ∧ x.f1 < 8) (hb : 0 ≤ x.f2 ∧ x.f2 < 4) (hn : (hd T x.f2).1 = true) : Calls Try.prog 108 #[.pointer (some ⟨tb, 0, none⟩), xv x] w (GoP tb wb vp (setR T x.f1 (hd T x.f2).2) vw me B w) := by
  obtain ⟨x0, x1, x2, x3, x4⟩ := x
  try simp only at *
  obtain ⟨a, rfl⟩ : ∃ a : Nat, x1 = a := ⟨x1.toNat, by omega⟩
  obtain ⟨b, rfl⟩ : ∃ b : Nat, x2 = b := ⟨x2.toNat, by omega⟩
  have hn' : (T.hands.getD b (false, 0)).1 = true := hn
  have hn2 : (hd T (b : Int)).2 = (T.hands.getD b (false, 0)).2 := rfl
  obtain ⟨W, hW⟩ : ∃ W, W = w.alloc (.cells #[.int .i64 x0, .int .i64 (a), .int .i64 (b), .int .i64 (x3), .int .i64 x4] 61) := ⟨_, rfl⟩
  have hb1 : Below w.heap.size w W := by rw [hW]; exact (Below.refl w.heap.size w).alloc (Nat.le_refl _) _
  have hbx : W.heap[w.heap.size]? = some (.cells #[.int .i64 x0, .int .i64 (a), .int .i64 (b), .int .i64 (x3), .int .i64 x4] 61 (0, 0)) := by rw [hW]; exact alloc_blk w _
  have h1 := h.below hb1
  have c0 := blk_cell hbx 0
  have c1 := blk_cell hbx 1
  have c2 := blk_cell hbx 2
  have c3 := blk_cell hbx 3
  have c4 := blk_cell hbx 4
  have t0 := h1.fix.1
  have H := Aside0.mk (And.intro h1 hb1)
  have HWW := Aside0.mk hW
  have ha8 : ((a : Int) < 8) = True := eq_true ha.2
  have hb4 : ((b : Int) < 4) = True := eq_true hb.2
  have r := h1.reg a (by omega)
  have r1 := (h1.hand b (by omega)).1
  have r2 := (h1.hand b (by omega)).2
  rw [hn'] at r1
  rw [hn2]
  have HA := Aside0.mk ha.2
  clear ha hb hn hn' hn2
  generalize (T.hands.getD b (false, 0)).2 = y at r2
  unfold xv
  clear h h1 hb1 hbx hW
  go_enter Try.func108, Try.ntmps108
  go_wp2_with fail
  rw [← HWW.out]
  have z := H.out.1.frozen (2 + a)
  go_quiet (fail)
  go_wp2_with fail
  refine wp_region_seq2 (fun w' => Drawn0 W w') [14] [.take 0, .take 1, .take 2, .take 3, .take 4, .take 5, .take 6, .take 7, .take 8, .take 9, .take 10, .take 11, .take 12, .take 13, .fin 14] (by kernel_rfl) (by kernel_rfl) rfl (by kernel_rfl) (panic_viaE (P := Try.prog) (fn := Try.f108) (R := GoP tb wb vp (setR T a y) vw me B w) (fun _ _ _ => rfl)) ?_
  have hs : Drawn0 W (W.drewN nq).drew := (Drawn0.step ⟨_, rfl⟩ 1)
  repeat (
    (first
      | (refine runSeq2_take (v := ?_) (by rfl) (by rfl) (fun w' hS => ?_) hs ?_
         rotate_left
         · (obtain ⟨n, rfl⟩ := hS; go_simp; exact rfl))
      | refine runSeq2_skip (by rfl) (by rfl) hs ?_)
    (try simp only [Act.put, List.setIfInBounds_toArray, List.set_cons_zero, List.set_cons_succ]))
  refine runSeq2_fin (by rfl) (by rfl) (fun K hK => ?_)
  go_simp
  refine hK _ _ ?_
  refine runSeq2_nil ?_
  clear hK K hs
  go_wp2_with fail
  go_end0
  exact ⟨rfl, (H.out.1.drewN _).setReg a (by have := HA.out; omega) _, ((Keep.of_below H.out.2 (fun q => q = tb)).drewN _).set (p := ⟨tb, 2 + a, none⟩) (.inr rfl) _⟩
set_option maxRecDepth 100000 in
set_option maxHeartbeats 4000000 in
theorem ttouch_no (h : TB tb wb vp T vw me B w) (x : S61) (hb : 0 ≤ x.f2 ∧ x.f2 < 4) (hn : (hd T x.f2).1 = false) : Calls Try.prog 108 #[.pointer (some ⟨tb, 0, none⟩), xv x] w (StopP 2 w) := by
  obtain ⟨x0, x1, x2, x3, x4⟩ := x
  try simp only at *
  obtain ⟨b, rfl⟩ : ∃ b : Nat, x2 = b := ⟨x2.toNat, by omega⟩
  have hn' : (T.hands.getD b (false, 0)).1 = false := hn
  obtain ⟨W, hW⟩ : ∃ W, W = w.alloc (.cells #[.int .i64 x0, .int .i64 (x1), .int .i64 (b), .int .i64 (x3), .int .i64 x4] 61) := ⟨_, rfl⟩
  have hb1 : Below w.heap.size w W := by rw [hW]; exact (Below.refl w.heap.size w).alloc (Nat.le_refl _) _
  have hbx : W.heap[w.heap.size]? = some (.cells #[.int .i64 x0, .int .i64 (x1), .int .i64 (b), .int .i64 (x3), .int .i64 x4] 61 (0, 0)) := by rw [hW]; exact alloc_blk w _
  have h1 := h.below hb1
  have c0 := blk_cell hbx 0
  have c1 := blk_cell hbx 1
  have c2 := blk_cell hbx 2
  have c3 := blk_cell hbx 3
  have c4 := blk_cell hbx 4
  have t0 := h1.fix.1
  have H := Aside0.mk (And.intro h1 hb1)
  have HWW := Aside0.mk hW
  have hb4 : ((b : Int) < 4) = True := eq_true hb.2
  have r1 := (h1.hand b (by omega)).1
  rw [hn'] at r1
  clear hb hn hn'
  unfold xv
  clear h h1 hb1 hbx hW
  go_enter Try.func108, Try.ntmps108
  go_wp2_with fail
  rw [← HWW.out]
  go_quiet (fail)
  go_wp2_with fail
  refine (fail_any 2 _).mono ?_
  rintro e w' ⟨rfl, hb⟩
  exact ⟨rfl, rfl, (pw_below_drewN H.out.2 _).trans (hb.mono (pw_below_drewN H.out.2 _).size)⟩
theorem st_at {e B g n cap : Nat} {ok : Nat → Prop} {W : World} {xs : List (Int × Int)} (h : kSt.R e W B ok (.slice (some ⟨g, 0, none⟩) n cap) xs) {i : Nat} (hi : i < xs.length) : W.cell? ⟨g, i * 2, none⟩ = some (.int .i64 xs[i].1) ∧ W.cell? ⟨g, i * 2 + 1, none⟩ = some (.int .i64 xs[i].2) := by
  have hq := Kd.R_reads' h
  obtain ⟨ad, e1, hc⟩ := hq.2.2.2.2 (by omega)
  cases e1
  obtain ⟨cs, h1, h2, h3⟩ := hc i _ (List.getElem?_eq_getElem hi)
  obtain rfl := kSt_open h2
  have q0 := h3 0 _ rfl
  have q1 := h3 1 _ rfl
  rw [add_plain] at q0 q1
  exact ⟨q0, q1⟩
/-- the first i that wait are stored. -/
def syncTo (T : Ts) (i : Nat) : Ts := { T with regs := (T.wait.take i).foldl (fun r s => r.set s.1.toNat s.2) T.regs }
theorem syncTo_next {T : Ts} {i : Nat} (h : i < T.wait.length) : syncTo T (i + 1) = { syncTo T i with regs := (syncTo T i).regs.set T.wait[i].1.toNat T.wait[i].2 } := by
  unfold syncTo
  rw [List.take_succ_eq_append_getElem h, List.foldl_append]; rfl
def SyncP (tb wb : Nat) (vp : Value) (T : Ts) (me B : Nat) (w : World) (e : Ending) (w' : World) : Prop := e = .returned (.tuple #[]) ∧ TB tb wb vp (syncP T) (.slice none 0 0) me B w' ∧ Keep (fun q => q = tb) w w'
set_option maxRecDepth 100000 in
set_option maxHeartbeats 4000000 in
theorem sync_any (h : TB tb wb vp T vw me B w) (x : S61) (hw : ∀ s ∈ T.wait, 0 ≤ s.1 ∧ s.1 < 8) (hl : T.wait.length ≤ 1000000) : Calls Try.prog 75 #[.pointer (some ⟨tb, 0, none⟩), xv x] w (SyncP tb wb vp T me B w) := by
  obtain ⟨x0, x1, x2, x3, x4⟩ := x
  try simp only at *
  obtain ⟨A, c, rfl⟩ := Kd.R_slice h.wait
  obtain ⟨W, hW⟩ : ∃ W, W = w.alloc (.cells #[.int .i64 x0, .int .i64 (x1), .int .i64 (x2), .int .i64 (x3), .int .i64 x4] 61) := ⟨_, rfl⟩
  have hb1 : Below w.heap.size w W := by rw [hW]; exact (Below.refl w.heap.size w).alloc (Nat.le_refl _) _
  have hbx : W.heap[w.heap.size]? = some (.cells #[.int .i64 x0, .int .i64 (x1), .int .i64 (x2), .int .i64 (x3), .int .i64 x4] 61 (0, 0)) := by rw [hW]; exact alloc_blk w _
  have h1 := h.below hb1
  have c0 := blk_cell hbx 0
  have c1 := blk_cell hbx 1
  have c2 := blk_cell hbx 2
  have c3 := blk_cell hbx 3
  have c4 := blk_cell hbx 4
  have t0 := h1.fix.1
  have H := Aside0.mk (And.intro h1 hb1)
  have HWW := Aside0.mk hW
  have q0 := h1.fix.2.2.1
  have HB := Aside0.mk (And.intro (show TB tb wb vp (syncTo T 0) (.slice A T.wait.length c) me B W from h1) (Keep.of_below hb1 (fun q => q = tb)))
  have HW := Aside0.mk hw
  clear hw c0 c1 c2 c3 c4
  clear HWW
  subst hW
  unfold xv
  clear h h1 hb1 hbx
  go_enter Try.func75, Try.ntmps75
  go_wp2_with fail
  go_loopw [11] (fun v11 wr => ∃ (i : Nat), v11 = .int .i64 i ∧ i ≤ T.wait.length ∧ Aside0 (TB tb wb vp (syncTo T i) (.slice A T.wait.length c) me B wr ∧ Keep (fun q => q = tb) w wr)) (fun v11 _ => T.wait.length - (intOf v11).toNat)
  case atStart => exact ⟨0, rfl, Nat.zero_le _, HB⟩
  case round =>
    clear HB
    obtain ⟨i, rfl, hi, HB⟩ := hrel
    by_cases hlt : i < T.wait.length
    · obtain ⟨g, cp, hv, _, _, C, hC⟩ := Kd.R_form HB.out.1.wait (show 0 < T.wait.length by omega)
      cases hv
      obtain ⟨p0, p1⟩ := st_at HB.out.1.wait hlt
      replace p0 : wr.cell? ⟨g, i * 2, none⟩ = some (.int .i64 T.wait[i].1) := p0
      replace p1 : wr.cell? ⟨g, i * 2 + 1, none⟩ = some (.int .i64 T.wait[i].2) := p1
      have hx := HW.out T.wait[i] (List.getElem_mem hlt)
      have HN := syncTo_next hlt
      obtain ⟨a, ha⟩ : ∃ a : Nat, T.wait[i].1 = a := ⟨T.wait[i].1.toNat, by omega⟩
      rw [ha] at p0 HN
      rw [Int.toNat_natCast] at HN
      have ha8 : ((a : Int) < 8) = True := eq_true (by omega)
      have HA := Aside0.mk (show a < 8 by omega)
      generalize T.wait[i].2 = y at p1 HN
      have HNN := Aside0.mk HN
      obtain ⟨W2, hW2⟩ : ∃ W2, W2 = wr.alloc (.cells #[.int .i64 a, .int .i64 y] 192) := ⟨_, rfl⟩
      have hb2 : Below wr.heap.size wr W2 := by rw [hW2]; exact (Below.refl wr.heap.size wr).alloc (Nat.le_refl _) _
      have hbx2 : W2.heap[wr.heap.size]? = some (.cells #[.int .i64 a, .int .i64 y] 192 (0, 0)) := by rw [hW2]; exact alloc_blk wr _
      have hT2 := HB.out.1.below hb2
      have s0 := blk_cell hbx2 0
      have s1 := blk_cell hbx2 1
      have z := hT2.frozen (2 + a)
      have r := hT2.reg a (by omega)
      have HB2 := Aside0.mk (And.intro hT2 (HB.out.2.trans (Keep.of_below hb2 _)))
      have HW2 := Aside0.mk hW2
      clear hC ha HN hx hb2 hbx2 hT2 hW2 HB
      go_wp2_with fail
      rw [← HW2.out]
      refine wp_region_seq2 (fun w' => Drawn0 W2 w') [8] [.take 0, .take 1, .take 2, .take 3, .take 4, .take 5, .take 6, .take 7, .fin 8] (by kernel_rfl) (by kernel_rfl) rfl (by kernel_rfl) (panic_viaE (P := Try.prog) (fn := Try.f75) (R := SyncP tb wb vp T me B w) (fun _ _ _ => rfl)) ?_
      have hs : Drawn0 W2 W2.drew := (Drawn0.refl W2).step 1
      repeat (
        (first
          | (refine runSeq2_take (v := ?_) (by rfl) (by rfl) (fun w' hS => ?_) hs ?_
             rotate_left
             · (obtain ⟨n, rfl⟩ := hS; go_simp; exact rfl))
          | refine runSeq2_skip (by rfl) (by rfl) hs ?_)
        (try simp only [Act.put, List.setIfInBounds_toArray, List.set_cons_zero, List.set_cons_succ]))
      refine runSeq2_fin (by rfl) (by rfl) (fun K hK => ?_)
      go_simp
      refine hK _ _ ?_
      refine runSeq2_nil ?_
      clear hK K hs
      have HB3 := Aside0.mk (show TB tb wb vp (syncTo T (i + 1)) (.slice (some ⟨g, 0, none⟩) T.wait.length c) me B (W2.setCell ⟨tb, 2 + a, none⟩ (.int .i64 y)).drew ∧ Keep (fun q => q = tb) w (W2.setCell ⟨tb, 2 + a, none⟩ (.int .i64 y)).drew from ⟨by rw [HNN.out]; exact (HB2.out.1.setReg a HA.out y).drewN 1, (HB2.out.2.set (p := ⟨tb, 2 + a, none⟩) (.inr rfl) _).drew⟩)
      clear HB2 HW2 HNN s0 s1 z r p0 p1
      go_wp2_with fail
      go_roundw
      case rel => exact ⟨i + 1, by go_num, by omega, HB3⟩
      case measure => simp [intOf]; omega
    · obtain rfl : i = T.wait.length := by omega
      have z := HB.out.1.frozen 18
      have q0 := HB.out.1.fix.2.2.1
      go_wp2_with fail
      go_end0
      have h9 := HB.out.1.setWait (xs := []) (v9 := .slice none 0 0) rfl (Kd.R_nil _ _ _ _ _) (by intro e; cases e)
      refine ⟨rfl, ?_, HB.out.2.set (p := ⟨tb, 18, none⟩) (.inr rfl) _⟩
      have e : ({ syncTo T T.wait.length with wait := [] } : Ts) = syncP T := by unfold syncTo syncP; rw [List.take_length]
      rw [← e]; exact h9
end
end Go.Proofs.Ytbekjccehhaljaa.H

set_option linter.unusedVariables false
set_option linter.unusedSimpArgs false
namespace Go.Proofs.Ytbekjccehhaljaa.H
open Go.RowKit Go.Hay Go.Proofs.YtbekjccehhaljaaW.PrintWords Go.Proofs.YtbekjccehhaljaaW.PrintLast Go.Proofs.YtbekjccehhaljaaW.PrintMore
def longV : Value := .iface 114 (.agg #[])
/-- how a task ends. -/
def ends (o : Out) (e : Ending) : Prop :=
  match o with
  | .val v => e = .returned (.int .i64 v)
  | .fail why => e = .panicked [{ v := failV why, recovered := false }]
  | .long => e = .panicked [{ v := longV, recovered := false }]
structure Cn where
  w0 : World
  B : Nat
  wb : Nat
  Ap : Option Addr
  cp : Nat
  budget : Int
  depth : Int
/-- the evaluation's state. -/
structure ES (c : Cn) (l : List S64) (G : Gs) (ents : List Ent) (vt vl : Value) (w : World) : Prop where
  eg : EG c.B c.wb c.Ap l.length c.cp c.budget c.depth G ents vt vl w
  bl : Below c.w0.heap.size c.w0 w
  pr : k64.C c.w0 c.Ap l.length l
  lo : c.w0.heap.size ≤ c.B
def EndP (c : Cn) (l : List S64) (PA : Nat → Prop) (o : Out) (G' : Gs) (w : World) (e : Ending) (w' : World) : Prop :=
  ends o e ∧ Keep PA w w' ∧ ∃ ents' vt' vl', ES c l G' ents' vt' vl' w' ∧ ∀ q, PG c.wb vt' vl' q → PA q ∨ w.heap.size ≤ q
def GoesP (c : Cn) (l : List S64) (tb : Nat) (vp : Value) (me : Nat) (PA : Nat → Prop) (T' : Ts) (G' : Gs) (w : World) (e : Ending) (w' : World) : Prop :=
  e = .returned (.tuple #[]) ∧ Keep PA w w' ∧ ∃ ents' vt' vl' vw', ES c l G' ents' vt' vl' w' ∧ TB tb c.wb vp T' vw' me c.B w' ∧ ∀ q, PG c.wb vt' vl' q ∨ PT tb vw' q → PA q ∨ w.heap.size ≤ q
def StepPost (c : Cn) (l : List S64) (tb : Nat) (vp : Value) (me : Nat) (PA : Nat → Prop) (r : SR) (w : World) (e : Ending) (w' : World) : Prop :=
  match r with
  | .go T' G' => GoesP c l tb vp me PA T' G' w e w'
  | .stop o G' => EndP c l PA o G' w e w'
def PA (c : Cn) (tb : Nat) (vt vl vw : Value) (q : Nat) : Prop := PG c.wb vt vl q ∨ PT tb vw q
section
variable {c : Cn} {l : List S64} {G G' : Gs} {ents : List Ent} {vt vl vw vw' vp : Value} {w w1 : World} {T T' : Ts} {tb me : Nat}
theorem ES.keep {S : Nat → Prop} (h : ES c l G ents vt vl w) (hk : Keep S w w1) (hS : ∀ q, PG c.wb vt vl q → ¬ S q) (hP : ∀ q cs, w.heap[q]? = some (.cells cs 3 (0, 0)) → ¬ S q) (hB : ∀ q, q < c.w0.heap.size → ¬ S q) : ES c l G ents vt vl w1 :=
  ⟨h.eg.keep hk hS hP, h.bl.trans (hk.below h.bl.size hB), h.pr, h.lo⟩
theorem ES.below (h : ES c l G ents vt vl w) (hb : Below w.heap.size w w1) : ES c l G ents vt vl w1 := ⟨h.eg.below hb, h.bl.trans (hb.mono h.bl.size), h.pr, h.lo⟩
theorem ES.turn {ents' : List Ent} {vt' vl' : Value} {S : Nat → Prop} (h : ES c l G ents vt vl w) (he : EG c.B c.wb c.Ap l.length c.cp c.budget c.depth G' ents' vt' vl' w1) (hk : Keep S w w1) (hB : ∀ q, q < c.w0.heap.size → ¬ S q) : ES c l G' ents' vt' vl' w1 :=
  ⟨he, h.bl.trans (hk.below h.bl.size hB), h.pr, h.lo⟩
theorem ES.pLo (h : ES c l G ents vt vl w) : ∀ q, PG c.wb vt vl q → c.w0.heap.size ≤ q := fun q hq => Nat.le_trans h.lo (h.eg.pB q hq).1
theorem ES.code (h : ES c l G ents vt vl w) : k64.C w c.Ap l.length l := Kd.C_below h.pr h.bl
/-- what concerns the task alone leaves the rest. -/
theorem task_go (hg : ES c l G ents vt vl w) (ht : TB tb c.wb vp T vw me c.B w) (hlo : c.w0.heap.size ≤ tb) {e : Ending} (he : e = .returned (.tuple #[])) (h1 : TB tb c.wb vp T' vw' me c.B w1) (hk : Keep (fun q => q = tb) w w1) (hv : vw' = vw ∨ vw' = .slice none 0 0) : GoesP c l tb vp me (PA c tb vt vl vw) T' G w e w1 := by
  have hap := apart hg.eg ht
  have hnp := ht.notPath
  have hg1 : ES c l G ents vt vl w1 := hg.keep hk (fun q hq e2 => hap q hq (.inl e2)) (fun q cs hq e2 => hnp q cs hq (.inl e2)) (fun q hq e2 => by subst e2; omega)
  refine ⟨he, hk.mono (fun q _ e2 => .inr (.inl e2)), ents, vt, vl, vw', hg1, h1, fun q hq => .inl ?_⟩
  rcases hq with hq | hq | hq
  · exact .inl hq
  · exact .inr (.inl hq)
  · rcases hv with e2 | e2
    · rw [e2] at hq; exact .inr (.inr hq)
    · rw [e2] at hq; cases hq
theorem task_stop (hg : ES c l G ents vt vl w) {e : Ending} {why : Int} {S : Nat → Prop} (he : e = .panicked [{ v := failV why, recovered := false }]) (hb : Below w.heap.size w w1) (hS : ∀ q, PG c.wb vt vl q → S q) : EndP c l S (.fail why) G w e w1 :=
  ⟨he, Keep.of_below hb _, ents, vt, vl, hg.below hb, fun q hq => .inl (hS q hq)⟩
end
/-! ### what stays right -/
structure GInv (M : Nat) (budget : Int) (G : Gs) : Prop where
  log : G.log.length + G.left ≤ M
  told : G.told.length + G.left ≤ M
  steps : ∀ e ∈ G.log, 0 ≤ e.2 ∧ e.2 ≤ budget
structure TInv (code : List S61) (depth : Int) (path : List Int) (me : Nat) (T : Ts) (G : Gs) : Prop where
  rl : T.regs.length = 8
  hl : T.hands.length = 4
  wait : ∀ s ∈ T.wait, 0 ≤ s.1 ∧ s.1 < 8
  at_ : 0 ≤ T.at_ ∧ T.at_ < code.length
  kids : T.kids < G.log.length
  wl : T.wait.length ≤ T.kids
  me_ : me < G.log.length
  path_ : (path.length : Int) ≤ depth
/-- how tasks end that are begun: what stays right. -/
def RecOk (M : Nat) (budget : Int) (l : List S64) (depth : Int) (rec : Gs → List Int → List S61 → Nat → Ts → Out × Gs) : Prop :=
  ∀ G path (f : Nat) (hf : f < l.length) me T, GInv M budget G → TInv l[f].f1 depth path me T G → GInv M budget (rec G path l[f].f1 me T).2 ∧ G.log.length ≤ (rec G path l[f].f1 me T).2.log.length ∧ (rec G path l[f].f1 me T).2.left ≤ G.left
theorem setR_len (T : Ts) (i v : Int) : (setR T i v).regs.length = T.regs.length ∧ (setR T i v).hands = T.hands ∧ (setR T i v).wait = T.wait ∧ (setR T i v).kids = T.kids ∧ (setR T i v).at_ = T.at_ := ⟨List.length_set .., rfl, rfl, rfl, rfl⟩
theorem foldl_set_len (ws : List (Int × Int)) : ∀ r : List Int, (ws.foldl (fun r s => r.set s.1.toNat s.2) r).length = r.length := by
  induction ws with
  | nil => intro r; rfl
  | cons s ws ih => intro r; rw [List.foldl_cons, ih, List.length_set]
/-- the place of the next instruction. -/
theorem simple_inv {code : List S61} {l : List S64} {depth : Int} {path : List Int} {me : Nat} {T T' : Ts} {G : Gs} {x : S61} (hx : IOk l code.length x) (h : TInv code depth path me T G) (he : simple x T = .go T') : TInv code depth path me T' G := by
  have hs : ∀ i v, TInv code depth path me (setR T i v) G := fun i v => ⟨by rw [(setR_len T i v).1]; exact h.rl, h.hl, h.wait, h.at_, h.kids, h.wl, h.me_, h.path_⟩
  have hj : ∀ k : Int, 0 ≤ k ∧ k < code.length → TInv code depth path me { T with at_ := k } G := fun k hk => ⟨h.rl, h.hl, h.wait, hk, h.kids, h.wl, h.me_, h.path_⟩
  unfold simple at he
  by_cases e1 : x.f0 = 1
  · rw [if_pos e1] at he; cases he; exact hs _ _
  rw [if_neg e1] at he
  by_cases e2 : x.f0 = 2
  · rw [if_pos e2] at he; cases he; exact hs _ _
  rw [if_neg e2] at he
  by_cases e3 : x.f0 = 3
  · rw [if_pos e3] at he; cases he; exact hs _ _
  rw [if_neg e3] at he
  by_cases e4 : x.f0 = 4
  · rw [if_pos e4] at he; cases he; exact hs _ _
  rw [if_neg e4] at he
  by_cases e5 : x.f0 = 5
  · rw [if_pos e5] at he; cases he; exact hs _ _
  rw [if_neg e5] at he
  by_cases e6 : x.f0 = 6
  · rw [if_pos e6] at he
    by_cases ez : rg T x.f3 = 0
    · rw [if_pos ez] at he; cases he
    · rw [if_neg ez] at he; cases he; exact hs _ _
  rw [if_neg e6] at he
  by_cases e7 : x.f0 = 7
  · rw [if_pos e7] at he; cases he; exact hs _ _
  rw [if_neg e7] at he
  by_cases e8 : x.f0 = 8
  · rw [if_pos e8] at he; cases he; exact hs _ _
  rw [if_neg e8] at he
  by_cases e9 : x.f0 = 9
  · rw [if_pos e9] at he; cases he; exact hj _ (hx.k (.inl e9))
  rw [if_neg e9] at he
  by_cases e10 : x.f0 = 10
  · rw [if_pos e10] at he
    cases he
    by_cases ez : rg T x.f1 = 0
    · rw [if_pos ez]; exact hj _ (hx.k (.inr e10))
    · rw [if_neg ez]; exact h
  rw [if_neg e10] at he
  by_cases e12 : x.f0 = 12
  · rw [if_pos e12] at he
    cases he
    exact ⟨by unfold syncP; rw [foldl_set_len]; exact h.rl, h.hl, (fun s hs => by cases hs), h.at_, h.kids, Nat.zero_le _, h.me_, h.path_⟩
  rw [if_neg e12] at he
  by_cases e14 : x.f0 = 14
  · rw [if_pos e14] at he
    by_cases ez : (hd T x.f2).1 = true
    · rw [if_pos ez] at he; cases he; exact hs _ _
    · rw [if_neg ez] at he; cases he
  rw [if_neg e14] at he
  cases he
theorem args_len (l : List S64) (x : S61) (T : Ts) (h : T.regs.length = 8) : (argsOf l x T).length ≤ 8 := by
  unfold argsOf
  rw [List.length_take, List.length_drop]; omega
/-- what a task that is begun begins with. -/
theorem begin_inv {l : List S64} (hl : POk l) {M : Nat} {budget depth : Int} {path : List Int} {G : Gs} (hb : 0 ≤ budget) (hg : GInv M budget G) (hleft : G.log.length + 1 + G.left ≤ M) (f : Nat) (hf : f < l.length) (hp : (path.length : Int) ≤ depth) (args : List Int) (ha : args.length ≤ 8) (hands : List (Bool × Int)) (hh : hands.length = 4) :
    GInv M budget { G with log := G.log ++ [(path, 0)] } ∧ TInv l[f].f1 depth path G.log.length (newTask args hands) { G with log := G.log ++ [(path, 0)] } := by
  have hc := (hl.fn f hf).2.1
  refine ⟨⟨by simp; omega, hg.told, fun e he => ?_⟩, ⟨newRegs_len ha, hh, (fun s hs => by cases hs), ⟨by simp [newTask], by show (0 : Int) < l[f].f1.length; omega⟩, by simp [newTask], Nat.le_refl _, by simp, hp⟩⟩
  rcases List.mem_append.1 he with he | he
  · exact hg.steps e he
  · rw [List.mem_singleton.1 he]; exact ⟨Int.le_refl _, hb⟩
theorem step_inv {l : List S64} (hl : POk l) {M : Nat} {budget depth : Int} (hb : 0 ≤ budget) {rec : Gs → List Int → List S61 → Nat → Ts → Out × Gs} (hrec : RecOk M budget l depth rec) {code : List S61} {path : List Int} {me : Nat} {T : Ts} {G : Gs} {x : S61} (hx : IOk l code.length x) (hg : GInv M budget G) (h : TInv code depth path me T G) (hleft : G.log.length + 1 + G.left ≤ M) (htold : G.told.length + 1 + G.left ≤ M) :
    match stepP l depth rec path x T G with
    | .go T' G' => GInv M budget G' ∧ TInv code depth path me T' G' ∧ G.log.length ≤ G'.log.length ∧ G'.left ≤ G.left
    | .stop o G' => GInv M budget G' ∧ G.log.length ≤ G'.log.length ∧ G'.left ≤ G.left := by
  unfold stepP
  by_cases h11 : x.f0 = 11 ∨ x.f0 = 13
  · rw [if_pos h11]
    by_cases hd : (path.length : Int) = depth
    · rw [if_pos hd]
      exact ⟨hg, Nat.le_refl _, Nat.le_refl _⟩
    · rw [if_neg hd]
      have hcf := hx.cf h11
      obtain ⟨f, hf⟩ : ∃ f : Nat, x.f3 = f := ⟨x.f3.toNat, by omega⟩
      have hfl : f < l.length := by omega
      have hrd : rd_T64 l x.f3 = l[f] := by rw [hf]; simp [rd_T64, hfl]
      have hpl := h.path_
      have hbi := begin_inv hl hb hg hleft f hfl (path := path ++ [(T.kids : Int)]) (depth := depth) (by rw [List.length_append]; simp; omega) (argsOf l x T) (args_len l x T h.rl) T.hands h.hl
      have hr := hrec _ _ f hfl _ _ hbi.1 hbi.2
      rw [hrd]
      generalize rec { G with log := G.log ++ [(path ++ [(T.kids : Int)], 0)] } (path ++ [(T.kids : Int)]) l[f].f1 G.log.length (newTask (argsOf l x T) T.hands) = r at hr
      obtain ⟨o, G2⟩ := r
      have hlen : G.log.length + 1 ≤ G2.log.length := by have := hr.2.1; simpa using this
      have hle : G2.left ≤ G.left := hr.2.2
      cases o with
      | val v =>
        have hk := h.kids
        have hw := h.wl
        have hme := h.me_
        refine ⟨hr.1, ?_, by omega, hle⟩
        split
        · rename_i e11
          refine ⟨h.rl, h.hl, fun s hs => ?_, h.at_, by show T.kids + 1 < G2.log.length; omega, by show (T.wait ++ [(x.f1, v)]).length ≤ T.kids + 1; rw [List.length_append]; simp; omega, by omega, h.path_⟩
          rcases List.mem_append.1 hs with hs | hs
          · exact h.wait s hs
          · rw [List.mem_singleton.1 hs]
            exact hx.a (by omega) (by omega) (by omega) (by omega)
        · exact ⟨h.rl, by rw [List.length_set]; exact h.hl, h.wait, h.at_, by show T.kids + 1 < G2.log.length; omega, by show T.wait.length ≤ T.kids + 1; omega, by omega, h.path_⟩
      | fail why => exact ⟨hr.1, by show _ ≤ G2.log.length; omega, hle⟩
      | long => exact ⟨hr.1, by show _ ≤ G2.log.length; omega, hle⟩
  · rw [if_neg h11]
    by_cases h15 : x.f0 = 15
    · rw [if_pos h15]
      exact ⟨⟨hg.log, by simp; omega, hg.steps⟩, ⟨h.rl, h.hl, h.wait, h.at_, h.kids, h.wl, h.me_, h.path_⟩, Nat.le_refl _, Nat.le_refl _⟩
    · rw [if_neg h15]
      cases hs : simple x T with
      | go T' => exact ⟨hg, simple_inv hx h hs, Nat.le_refl _, Nat.le_refl _⟩
      | stop why => exact ⟨hg, Nat.le_refl _, Nat.le_refl _⟩
theorem bump_inv {M : Nat} {budget : Int} {G : Gs} {me : Nat} (hg : GInv M budget G) (hme : me < G.log.length) (hs : (G.log.getD me ([], 0)).2 ≠ budget) (hl : G.left ≠ 0) : GInv M budget { G with left := G.left - 1, log := bump G.log me } ∧ G.log.length + 1 + (G.left - 1) ≤ M ∧ G.told.length + 1 + (G.left - 1) ≤ M := by
  have h1 := hg.log
  have h2 := hg.told
  refine ⟨⟨by rw [bump_len]; show G.log.length + (G.left - 1) ≤ M; omega, by show G.told.length + (G.left - 1) ≤ M; omega, fun e he => ?_⟩, by omega, by omega⟩
  unfold bump at he
  have hg0 : G.log.getD me ([], 0) = G.log[me] := by rw [List.getD_eq_getElem?_getD, List.getElem?_eq_getElem hme]; rfl
  rcases List.mem_or_eq_of_mem_set he with he | he
  · exact hg.steps e he
  · have := hg.steps G.log[me] (List.getElem_mem hme)
    rw [he]
    rw [hg0] at hs ⊢
    show 0 ≤ G.log[me].2 + 1 ∧ G.log[me].2 + 1 ≤ budget
    omega
/-- behind an instruction that is not the last one there is another one. -/
theorem next_at {l : List S64} (hl : POk l) (f : Nat) (hf : f < l.length) {T : Ts} (h0 : 0 ≤ T.at_) (h1 : T.at_ < l[f].f1.length) : IOk l l[f].f1.length (rd_T61 l[f].f1 T.at_) ∧ ((rd_T61 l[f].f1 T.at_).f0 ≠ 9 → (rd_T61 l[f].f1 T.at_).f0 ≠ 16 → (rd_T61 l[f].f1 T.at_).f0 ≠ 17 → T.at_ + 1 < l[f].f1.length) := by
  obtain ⟨_, _, hi, hlast⟩ := hl.fn f hf
  refine ⟨?_, fun a b d => ?_⟩
  · have e : rd_T61 l[f].f1 T.at_ = l[f].f1[T.at_.toNat]'(by omega) := by simp [rd_T61, show T.at_.toNat < l[f].f1.length by omega]
    rw [e]; exact hi _ _
  · by_cases hlt : T.at_ + 1 < l[f].f1.length
    · exact hlt
    · exfalso
      have e : T.at_ = (l[f].f1.length : Int) - 1 := by omega
      rw [e] at a b d
      rcases hlast with h | h | h
      · exact a h
      · exact b h
      · exact d h
/-- the whole of a task's run keeps what is right. -/
theorem run_ok {l : List S64} (hl : POk l) {M : Nat} {budget depth : Int} (hb : 0 ≤ budget) : ∀ k, RecOk M budget l depth (runP l budget depth k) := by
  intro k
  induction k with
  | zero => intro G path f hf me T hg ht; exact ⟨hg, Nat.le_refl _, Nat.le_refl _⟩
  | succ k ih =>
    intro G path f hf me T hg ht
    unfold runP
    by_cases h1 : (G.log.getD me ([], 0)).2 = budget
    · rw [if_pos h1]; exact ⟨hg, Nat.le_refl _, Nat.le_refl _⟩
    rw [if_neg h1]
    by_cases h2 : G.left = 0
    · rw [if_pos h2]; exact ⟨hg, Nat.le_refl _, Nat.le_refl _⟩
    rw [if_neg h2]
    have hbu := bump_inv hg ht.me_ h1 h2
    by_cases h3 : (rd_T61 l[f].f1 T.at_).f0 = 17
    · rw [if_pos h3]
      exact ⟨hbu.1, by rw [bump_len]; exact Nat.le_refl _, Nat.sub_le _ _⟩
    rw [if_neg h3]
    have hna := next_at hl f hf ht.at_.1 ht.at_.2
    have hx := hna.1
    have hlen : (bump G.log me).length = G.log.length := bump_len _ _
    by_cases h9 : (rd_T61 l[f].f1 T.at_).f0 = 9
    · have hs : simple (rd_T61 l[f].f1 T.at_) { T with at_ := T.at_ + 1 } = .go { T with at_ := (rd_T61 l[f].f1 T.at_).f4 } := by
        unfold simple
        repeat (first | rw [if_pos h9] | rw [if_neg (by omega)])
      have hst : stepP l depth (runP l budget depth k) path (rd_T61 l[f].f1 T.at_) { T with at_ := T.at_ + 1 } { G with left := G.left - 1, log := bump G.log me } = .go { T with at_ := (rd_T61 l[f].f1 T.at_).f4 } { G with left := G.left - 1, log := bump G.log me } := by
        unfold stepP
        rw [if_neg (by omega), if_neg (by omega), hs]
      rw [hst]
      have hti : TInv l[f].f1 depth path me { T with at_ := (rd_T61 l[f].f1 T.at_).f4 } { G with left := G.left - 1, log := bump G.log me } := ⟨ht.rl, ht.hl, ht.wait, hx.k (.inl h9), by rw [hlen]; exact ht.kids, ht.wl, by rw [hlen]; exact ht.me_, ht.path_⟩
      have hr := ih _ path f hf me _ hbu.1 hti
      exact ⟨hr.1, by have := hr.2.1; rw [hlen] at this; exact this, by have := hr.2.2; exact Nat.le_trans this (Nat.sub_le _ _)⟩
    · by_cases h16 : (rd_T61 l[f].f1 T.at_).f0 = 16
      · have hst : stepP l depth (runP l budget depth k) path (rd_T61 l[f].f1 T.at_) { T with at_ := T.at_ + 1 } { G with left := G.left - 1, log := bump G.log me } = .stop (.fail (rd_T61 l[f].f1 T.at_).f4) { G with left := G.left - 1, log := bump G.log me } := by
          have hs : simple (rd_T61 l[f].f1 T.at_) { T with at_ := T.at_ + 1 } = .stop (rd_T61 l[f].f1 T.at_).f4 := by
            unfold simple
            repeat (first | rw [if_neg (by omega)])
          unfold stepP
          rw [if_neg (by omega), if_neg (by omega), hs]
        rw [hst]
        exact ⟨hbu.1, by rw [hlen]; exact Nat.le_refl _, Nat.sub_le _ _⟩
      · have hti : TInv l[f].f1 depth path me { T with at_ := T.at_ + 1 } { G with left := G.left - 1, log := bump G.log me } := ⟨ht.rl, ht.hl, ht.wait, ⟨by have := ht.at_.1; show 0 ≤ T.at_ + 1; omega, hna.2 h9 h16 h3⟩, by rw [hlen]; exact ht.kids, ht.wl, by rw [hlen]; exact ht.me_, ht.path_⟩
        have hst := step_inv hl hb ih hx hbu.1 hti (by rw [hlen]; exact hbu.2.1) hbu.2.2
        generalize stepP l depth (runP l budget depth k) path (rd_T61 l[f].f1 T.at_) { T with at_ := T.at_ + 1 } { G with left := G.left - 1, log := bump G.log me } = r at hst
        cases r with
        | stop o G' => exact ⟨hst.1, by have := hst.2.1; rw [hlen] at this; exact this, Nat.le_trans hst.2.2 (Nat.sub_le _ _)⟩
        | go T' G' =>
          have hr := ih _ path f hf me _ hst.1 hst.2.1
          have h4 := hst.2.2.1
          rw [hlen] at h4
          exact ⟨hr.1, Nat.le_trans h4 hr.2.1, Nat.le_trans hr.2.2 (Nat.le_trans hst.2.2.2 (Nat.sub_le _ _))⟩
end Go.Proofs.Ytbekjccehhaljaa.H

set_option linter.unusedVariables false
set_option linter.unusedSimpArgs false
namespace Go.Proofs.Ytbekjccehhaljaa.H
open Go.RowKit Go.Hay Go.Proofs.YtbekjccehhaljaaW.PrintWords Go.Proofs.YtbekjccehhaljaaW.PrintLast Go.Proofs.YtbekjccehhaljaaW.PrintMore


section
variable {c : Cn} {l : List S64} {G : Gs} {ents : List Ent} {vt vl vw vp : Value} {w : World} {T : Ts} {tb me : Nat}
set_option maxRecDepth 100000 in
set_option maxHeartbeats 4000000 in
theorem temit_any (hg : ES c l G ents vt vl w) (h : TB tb c.wb vp T vw me c.B w) (hlo : c.w0.heap.size ≤ tb) (x : S61) (ha : 0 ≤ x.f1 ∧ x.f1 < 8) (htl : G.told.length ≤ 1000000) : Calls Try.prog 109 #[.pointer (some ⟨tb, 0, none⟩), xv x] w (GoesP c l tb vp me (PA c tb vt vl vw) T { G with told := G.told ++ [rg T x.f1] } w) := by
  obtain ⟨x0, x1, x2, x3, x4⟩ := x
  try simp only at *
  obtain ⟨a, rfl⟩ : ∃ a : Nat, x1 = a := ⟨x1.toNat, by omega⟩
  have hrg : rg T (a : Int) = T.regs.getD a 0 := rfl
  obtain ⟨At, ct, rfl⟩ := Kd.R_slice hg.eg.told
  obtain ⟨W, hW⟩ : ∃ W, W = w.alloc (.cells #[.int .i64 x0, .int .i64 (a), .int .i64 (x2), .int .i64 (x3), .int .i64 x4] 61) := ⟨_, rfl⟩
  have hb1 : Below w.heap.size w W := by rw [hW]; exact (Below.refl w.heap.size w).alloc (Nat.le_refl _) _
  have hbx : W.heap[w.heap.size]? = some (.cells #[.int .i64 x0, .int .i64 (a), .int .i64 (x2), .int .i64 (x3), .int .i64 x4] 61 (0, 0)) := by rw [hW]; exact alloc_blk w _
  have h1 := h.below hb1
  have c0 := blk_cell hbx 0
  have c1 := blk_cell hbx 1
  have c2 := blk_cell hbx 2
  have c3 := blk_cell hbx 3
  have c4 := blk_cell hbx 4
  have t0 := h1.fix.1
  have H := Aside0.mk (And.intro h1 hb1)
  have HWW := Aside0.mk hW
  have hg1 := hg.below hb1
  have ha8 : ((a : Int) < 8) = True := eq_true ha.2
  have r := h1.reg a (by omega)
  rw [hrg]
  generalize T.regs.getD a 0 = y at r
  have HG := Aside0.mk (And.intro hg1 (And.intro (And.intro r t0) (And.intro hbx (And.intro htl hlo))))
  clear hg hg1 ha r hrg htl hlo
  unfold xv
  clear h h1 hb1 hbx hW
  go_enter Try.func109, Try.ntmps109
  go_wp2_with fail
  rw [← HWW.out]
  refine wp_region_seq2 (fun w' => w'.heap[tb]? = W.heap[tb]? ∧ w'.heap[c.wb]? = W.heap[c.wb]? ∧ w'.heap[w.heap.size]? = W.heap[w.heap.size]?) [24] [.take 0, .take 1, .take 2, .take 3, .take 4, .take 5, .take 6, .take 7, .take 8, .take 9, .take 10, .take 11, .take 12, .take 13, .take 14, .take 15, .take 16, .take 17, .take 18, .op 19, .op 20, .op 21, .op 22, .op 23, .fin 24] (by kernel_rfl) (by kernel_rfl) rfl (by kernel_rfl) (panic_viaE (P := Try.prog) (fn := Try.f109) (R := GoesP c l tb vp me (PA c tb (.slice At G.told.length ct) vl vw) T { G with told := G.told ++ [y] } w) (fun _ _ _ => rfl)) ?_
  have hs : W.drew.heap[tb]? = W.heap[tb]? ∧ W.drew.heap[c.wb]? = W.heap[c.wb]? ∧ W.drew.heap[w.heap.size]? = W.heap[w.heap.size]? := ⟨rfl, rfl, rfl⟩
  clear c0 c1 c2 c3 c4 t0
  repeat (
    (first
      | (refine runSeq2_take (v := ?_) (by rfl) (by rfl) (fun w' hS => ?_) hs ?_
         rotate_left
         · (have t0 := (World.cell?_of_block (w := W) (a := ⟨tb, 0, none⟩) hS.1).trans HG.out.2.1.2; have r := (World.cell?_of_block (w := W) (a := ⟨tb, 2 + a, none⟩) hS.1).trans HG.out.2.1.1; have c1 := (World.cell?_of_block (w := W) (a := ⟨w.heap.size, 1, none⟩) hS.2.2).trans (blk_cell HG.out.2.2.1 1); have q6 := (World.cell?_of_block (w := W) (a := ⟨c.wb, 6, none⟩) hS.2.1).trans (blk_cell HG.out.1.eg.node 6); go_simp; exact rfl))
      | refine runSeq2_skip (by rfl) (by rfl) hs ?_)
    (try simp only [Act.put, List.setIfInBounds_toArray, List.set_cons_zero, List.set_cons_succ]))
  refine runSeq2_op (by rfl) (by rfl) (fun K hK => ?_)
  go_simp
  have hb2 : Below W.heap.size W (W.drew.alloc (.cells #[.int .i64 y] 2)) := (Below.refl _ _).drew.alloc (by exact Nat.le_refl _) _
  refine hK _ _ ⟨hb2.block _ (HG.out.1.eg.pB _ (.inl rfl) |>.2 |> fun _ => blk_lt H.out.1.node), hb2.block _ (blk_lt HG.out.1.eg.node), hb2.block _ (blk_lt HG.out.2.2.1)⟩ ?_
  clear hK K
  refine runSeq2_op (by rfl) (by rfl) (fun K hK => ?_)
  have htold := (HG.out.1.eg.below hb2).told
  have hBs : c.B ≤ (W.drew.alloc (.cells #[.int .i64 y] 2)).heap.size := Nat.le_trans (Nat.le_trans HG.out.1.eg.lo (Nat.le_of_lt (blk_lt HG.out.1.eg.node))) hb2.size
  refine wp_append_nums .i64 c.B rfl (.tmp 15) (.tmp 23) 23 2 8 rfl Try.underlying23 info2 (by decide) (.slice At G.told.length ct) G.told [y] _ _ _ rfl rfl htold (reads_nums [y] (alloc_blk _ _) (by simp)) hBs (by have := HG.out.2.2.2.1; omega) ?_
  intro v9 w9 hR9 hbw hgr hat
  have hP := HG.out.1.eg.tell hb2 hR9 hgr hat
  have hne1 : ∀ q, q < W.heap.size → (Value.slice At G.told.length ct).ownBlock ≠ some q → w9.heap[q]? = W.heap[q]? := fun q hq hn => (hgr.block q (Nat.lt_of_lt_of_le hq hb2.size) (fun e => hn e.symm)).trans (hb2.block q hq)
  have hnt : ∀ q cs t, W.heap[q]? = some (.cells cs t (0, 0)) → t ≠ 2 → (Value.slice At G.told.length ct).ownBlock ≠ some q := by
    intro q cs t hq ht e
    obtain ⟨cs', h2⟩ := Kd.R_typed HG.out.1.eg.told q e
    rw [hq] at h2; cases h2; exact ht rfl
  have hE9 : w9.heap[tb]? = W.heap[tb]? ∧ w9.heap[c.wb]? = W.heap[c.wb]? ∧ w9.heap[w.heap.size]? = W.heap[w.heap.size]? := ⟨hne1 tb (blk_lt H.out.1.node) (hnt _ _ _ H.out.1.node (by decide)), hP.2.2.2, hne1 _ (blk_lt HG.out.2.2.1) (hnt _ _ _ HG.out.2.2.1 (by decide))⟩
  obtain ⟨A9, c9, rfl⟩ := Kd.R_slice hR9
  have q6 := (World.cell?_of_block (a := ⟨c.wb, 6, none⟩) hE9.2.1).trans (blk_cell HG.out.1.eg.node 6)
  have z6 := blk_frozen (hE9.2.1.trans HG.out.1.eg.node) 6
  generalize (G.told ++ [y]).length = L9 at hP ⊢
  have HP := Aside0.mk hP
  clear hP hR9 hbw hgr hat hne1 hnt htold hb2 hs
  refine hK _ _ hE9 ?_
  clear hK K
  refine runSeq2_op (by rfl) (by rfl) (fun K hK => ?_)
  go_simp
  refine hK _ _ hE9 ?_
  clear hK K
  refine runSeq2_op (by rfl) (by rfl) (fun K hK => ?_)
  go_simp
  refine hK _ _ hE9 ?_
  clear hK K
  refine runSeq2_op (by rfl) (by rfl) (fun K hK => ?_)
  go_simp
  refine hK _ _ hE9 ?_
  clear hK K
  refine runSeq2_fin (by rfl) (by rfl) (fun K hK => ?_)
  go_simp
  refine hK _ _ ?_
  refine runSeq2_nil ?_
  clear hK K hE9 z6 q6
  go_wp2_with fail
  go_end0
  have hlo := HG.out.2.2.2.2
  have hap := apart HG.out.1.eg H.out.1
  have hB0 : ∀ q, q < c.w0.heap.size → ¬ PG c.wb (.slice At G.told.length ct) vl q := fun q hq hp => by have := HG.out.1.pLo q hp; omega
  have hkw : Keep (PA c tb (.slice At G.told.length ct) vl vw) w (w9.setCell ⟨c.wb, 6, none⟩ (.slice A9 L9 c9)) := (Keep.of_below H.out.2 _).trans (HP.out.2.1.mono (fun q _ h => .inl h))
  refine ⟨rfl, hkw, ents, .slice A9 L9 c9, vl, vw, HG.out.1.turn HP.out.1 HP.out.2.1 hB0, H.out.1.keep HP.out.2.1 (fun q hq hp => hap q hp hq), fun q hq => ?_⟩
  rcases hq with hq | hq
  · rcases HP.out.2.2.1 q hq with h2 | h2
    · exact .inl (.inl h2)
    · exact .inr (Nat.le_trans H.out.2.size h2)
  · exact .inl (.inr hq)
end
end Go.Proofs.Ytbekjccehhaljaa.H

set_option linter.unusedVariables false
set_option linter.unusedSimpArgs false
namespace Go.Proofs.Ytbekjccehhaljaa.H
open Go.RowKit Go.Hay Go.Proofs.YtbekjccehhaljaaW.PrintWords Go.Proofs.YtbekjccehhaljaaW.PrintLast Go.Proofs.YtbekjccehhaljaaW.PrintMore
theorem nums_at {k : IntKind} {e B g n cap : Nat} {ok : Nat → Prop} {W : World} {xs : List Int} (h : (Kd.int k).R e W B ok (.slice (some ⟨g, 0, none⟩) n cap) xs) {i : Nat} (hi : i < xs.length) : W.cell? ⟨g, i, none⟩ = some (.int k xs[i]) ∧ W.frozen? ⟨g, i, none⟩ = false := by
  have hq := Kd.R_reads' h
  obtain ⟨ad, e1, hc⟩ := hq.2.2.2.2 (by omega)
  cases e1
  obtain ⟨cs, h1, h2, h3⟩ := hc i _ (List.getElem?_eq_getElem hi)
  have h2 : cs = [.int k xs[i]] := h2
  subst h2
  have q0 := h3 0 _ rfl
  rw [add_plain] at q0
  obtain ⟨g', cp, hv, _, _, C, hC⟩ := Kd.R_form h (by omega)
  injection hv with hA _ _
  cases hA
  have q1 : W.cell? ⟨g, i * 1, none⟩ = some (.int k xs[i]) := q0
  rw [Nat.mul_one] at q1
  exact ⟨q1, blk_frozen hC _⟩
theorem PathAt.of_R {w : World} {base n cap : Nat} {ok : Nat → Prop} {A : Option Addr} {xs : List Int} (h : (Kd.int .i64).R 3 w base ok (.slice A n cap) xs) (hx : 0 < xs.length) : PathAt w A xs ∧ A ≠ none ∧ n = xs.length ∧ xs.length ≤ cap := by
  obtain ⟨g, cp, hv, _, _, C, hC⟩ := Kd.R_form h hx
  injection hv with hA hn hc
  subst hA
  have hq := Kd.R_reads' h
  refine ⟨.inr ⟨g, C, rfl, hC, ?_⟩, by simp, hq.1, by have := hq.2.1; omega⟩
  have hlen : xs.length ≤ C.toList.length := by
    have h1 := (nums_at h (i := xs.length - 1) (by omega)).1
    rw [blk_cell hC] at h1
    have := (Array.getElem?_eq_some_iff.1 h1).1
    have e2 := Array.length_toList (xs := C)
    omega
  apply List.ext_getElem
  · rw [List.length_take, List.length_map]; omega
  · intro i h1 h2
    have hi : i < xs.length := by simpa using h2
    have h3 := (nums_at h hi).1
    rw [blk_cell hC] at h3
    obtain ⟨hlt, h4⟩ := Array.getElem?_eq_some_iff.1 h3
    rw [List.getElem_take, List.getElem_map, Array.getElem_toList]
    exact h4
/-- what beginning a task comes to. -/
def BeginC (c : Cn) (l : List S64) (M k : Nat) : Prop :=
  ∀ (G : Gs) (ents : List Ent) (vt vl : Value) (w : World) (f : Nat) (A : Option Addr) (cpath : Nat) (path : List Int) (Aa : Option Addr) (ca : Nat) (args : List Int) (hands : List (Bool × Int)),
    ES c l G ents vt vl w → GInv M c.budget G → G.log.length + 1 + G.left ≤ M → f < l.length → PathAt w A path → path.length ≤ cpath → (A = none → cpath = 0) → (path.length : Int) ≤ c.depth → args.length ≤ 8 →
    (Kd.int .i64).C w Aa args.length args → args.length ≤ ca → hands.length = 4 → G.left < k →
    Calls Try.prog 38 #[.pointer (some ⟨c.wb, 0, none⟩), .int .i64 f, .slice A path.length cpath, .slice Aa args.length ca, .agg (hcells hands).toArray] w
      (EndP c l (PG c.wb vt vl) (beginP l c.budget c.depth k G f path args hands).1 (beginP l c.budget c.depth k G f path args hands).2 w)
def PK (c : Cn) (tb : Nat) (vt vl : Value) (q : Nat) : Prop := PG c.wb vt vl q ∨ q = tb
def KidP (c : Cn) (l : List S64) (tb : Nat) (vp : Value) (vw : Value) (me : Nat) (PK : Nat → Prop) (T : Ts) (r : Out × Gs) (w : World) (e : Ending) (w' : World) : Prop :=
  match r with
  | (.val v, G2) => e = .returned (.int .i64 v) ∧ Keep PK w w' ∧ ∃ ents' vt' vl', ES c l G2 ents' vt' vl' w' ∧ TB tb c.wb vp { T with kids := T.kids + 1 } vw me c.B w' ∧ ∀ q, PG c.wb vt' vl' q → PK q ∨ w.heap.size ≤ q
  | (o, G2) => EndP c l PK o G2 w e w'
def kidR (l : List S64) (budget depth : Int) (k : Nat) (G : Gs) (path : List Int) (x : S61) (T : Ts) : Out × Gs :=
  if (path.length : Int) = depth then (.fail 4, G) else beginP l budget depth k G x.f3 (path ++ [(T.kids : Int)]) (argsOf l x T) T.hands
theorem slice_regs (tb b ar : Nat) (hb : b < 8) (har : b + ar ≤ 8) (w : World) : (Instr.sliceAt 122 (.pointer (some ⟨tb, 2, none⟩)) (some (.int .i64 (b : Int))) (some (.int .i64 ((b : Int) + (ar : Int)))) none).run Try.prog w = .ok (.slice (some ⟨tb, 2 + b, none⟩) ar (8 - b)) w := by
  have hal : Try.prog.arrayLen 122 = 8 := by kernel_rfl
  have hel : Try.prog.elem 122 = 2 := by kernel_rfl
  have hsz : ∀ w, (sizeOf 2).run Try.prog w = .ok 1 w := fun _ => by kernel_rfl
  have ht : Try.prog.underlying 122 = some (.array (Try.prog.arrayLen 122) (Try.prog.elem 122)) := by rw [hal, hel]; exact Try.underlying122
  rw [run_sliceAt_array_lh w 122 ⟨tb, 2, none⟩ ht .i64 .i64 (b : Int) ((b : Int) + (ar : Int)) (by omega) (by omega) (by rw [hal]; omega), hel, hsz, hal]
  show Result.ok (slicedAt _ _ _ _ _) w = _
  have e1 : ((b : Int) + (ar : Int)).toNat = b + ar := by omega
  unfold slicedAt
  rw [e1, Int.toNat_natCast, if_neg (by omega), Nat.add_sub_cancel_left, Nat.mul_one]
  by_cases hb0 : b = 0
  · subst hb0; rfl
  · unfold Addr.add; simp [hb0]
theorem TB.argsC {tb wb me B : Nat} {vp vw : Value} {T : Ts} {w : World} (h : TB tb wb vp T vw me B w) (b ar : Nat) (hb : b + ar ≤ 8) : ((T.regs.drop b).take ar).length = ar ∧ (Kd.int .i64).C w (some ⟨tb, 2 + b, none⟩) ((T.regs.drop b).take ar).length ((T.regs.drop b).take ar) := by
  have hl : ((T.regs.drop b).take ar).length = ar := by rw [List.length_take, List.length_drop, h.rl]; omega
  refine ⟨hl, rfl, by omega, fun _ => ⟨_, rfl, fun j p hj => ⟨[.int .i64 p], rfl, rfl, fun i u hu => ?_⟩⟩⟩
  have hlt := (List.getElem?_eq_some_iff.1 hj).1
  match i, hu with
  | 0, hu =>
    cases hu
    have e : (⟨tb, 2 + b, none⟩ : Addr).add (j * (Kd.int .i64).sz + 0) = ⟨tb, 2 + (b + j), none⟩ := by
      have e2 : j * (Kd.int .i64).sz + 0 = j := Nat.mul_one j
      rw [e2]
      unfold Addr.add
      by_cases hj0 : j = 0
      · subst hj0; simp
      · simp [hj0]; omega
    rw [e, h.reg (b + j) (by omega)]
    rw [List.getElem?_take_of_lt (by omega), List.getElem?_drop] at hj
    rw [List.getD_eq_getElem?_getD, hj]; rfl
theorem TB.hand8 {tb wb me B : Nat} {vp vw : Value} {T : Ts} {w : World} (h : TB tb wb vp T vw me B w) : ∃ h0 h1 h2 h3, T.hands = [h0, h1, h2, h3] ∧ w.cell? ⟨tb, 10, none⟩ = some (.bool h0.1) ∧ w.cell? ⟨tb, 11, none⟩ = some (.int .i64 h0.2) ∧ w.cell? ⟨tb, 12, none⟩ = some (.bool h1.1) ∧ w.cell? ⟨tb, 13, none⟩ = some (.int .i64 h1.2) ∧ w.cell? ⟨tb, 14, none⟩ = some (.bool h2.1) ∧ w.cell? ⟨tb, 15, none⟩ = some (.int .i64 h2.2) ∧ w.cell? ⟨tb, 16, none⟩ = some (.bool h3.1) ∧ w.cell? ⟨tb, 17, none⟩ = some (.int .i64 h3.2) := by
  obtain ⟨r0, r1, r2, r3, r4, r5, r6, r7, h0, h1, h2, h3, hr, hh, hc⟩ := h.cells
  have hn := h.node
  rw [hc] at hn
  exact ⟨h0, h1, h2, h3, hh, blk_cell hn 10, blk_cell hn 11, blk_cell hn 12, blk_cell hn 13, blk_cell hn 14, blk_cell hn 15, blk_cell hn 16, blk_cell hn 17⟩
theorem ES.task {c : Cn} {l : List S64} {G : Gs} {ents : List Ent} {vt vl vw vp : Value} {w w1 : World} {T : Ts} {tb me : Nat} (hg : ES c l G ents vt vl w) (ht : TB tb c.wb vp T vw me c.B w) (hlo : c.w0.heap.size ≤ tb) (hk : Keep (fun q => q = tb) w w1) : ES c l G ents vt vl w1 :=
  hg.keep hk (fun q hq e2 => apart hg.eg ht q hq (.inl e2)) (fun q cs hq e2 => ht.notPath q cs hq (.inl e2)) (fun q hq e2 => by subst e2; omega)
section
variable {c : Cn} {l : List S64} {G : Gs} {ents : List Ent} {vt vl vw : Value} {w : World} {T : Ts} {tb me : Nat}
set_option maxRecDepth 100000 in
set_option maxHeartbeats 8000000 in
theorem kid_no {A : Option Addr} {cp : Nat} {path : List Int} (hg : ES c l G ents vt vl w) (h : TB tb c.wb (.slice A path.length cp) T vw me c.B w) (x : S61) (hd : (path.length : Int) = c.depth) :
    Calls Try.prog 115 #[.pointer (some ⟨tb, 0, none⟩), xv x] w (EndP c l (PK c tb vt vl) (.fail 4) G w) := by
  obtain ⟨x0, x1, x2, x3, x4⟩ := x
  try simp only at *
  obtain ⟨W, hW⟩ : ∃ W, W = w.alloc (.cells #[.int .i64 x0, .int .i64 (x1), .int .i64 (x2), .int .i64 (x3), .int .i64 x4] 61) := ⟨_, rfl⟩
  have hb1 : Below w.heap.size w W := by rw [hW]; exact (Below.refl w.heap.size w).alloc (Nat.le_refl _) _
  have hbx : W.heap[w.heap.size]? = some (.cells #[.int .i64 x0, .int .i64 (x1), .int .i64 (x2), .int .i64 (x3), .int .i64 x4] 61 (0, 0)) := by rw [hW]; exact alloc_blk w _
  have h1 := h.below hb1
  have c0 := blk_cell hbx 0
  have c1 := blk_cell hbx 1
  have c2 := blk_cell hbx 2
  have c3 := blk_cell hbx 3
  have c4 := blk_cell hbx 4
  have t0 := h1.fix.1
  have H := Aside0.mk (And.intro h1 hb1)
  have HWW := Aside0.mk hW
  have t1 := h1.fix.2.1
  have hg1 := hg.below hb1
  have q2 := blk_cell hg1.eg.node 2
  have hdd : ((path.length : Int) == c.depth) = true := by simpa using hd
  have hdd2 : ((path.length : Int) = c.depth) = True := eq_true hd
  have HG := Aside0.mk hg
  clear hg hg1 hd
  unfold xv
  clear h h1 hb1 hbx hW
  go_enter Try.func115, Try.ntmps115
  go_wp2_with fail
  rw [← HWW.out]
  go_quiet (fail)
  go_wp2_with fail
  refine (fail_any 4 _).mono ?_
  rintro e w' ⟨rfl, hb⟩
  exact ⟨rfl, task_stop HG.out rfl ((pw_below_drewN H.out.2 _).trans (hb.mono (pw_below_drewN H.out.2 _).size)) (fun q hq => .inl hq)⟩
set_option maxRecDepth 100000 in
set_option maxHeartbeats 8000000 in
theorem kid_any {M k : Nat} {A : Option Addr} {cp : Nat} {path : List Int} {code : List S61} (hl : POk l) (hB : BeginC c l M k) (hg : ES c l G ents vt vl w) (h : TB tb c.wb (.slice A path.length cp) T vw me c.B w) (hlo : c.w0.heap.size ≤ tb) (hgi : GInv M c.budget G) (hti : TInv code c.depth path me T G) (hM : M ≤ 1000000) (hdp : c.depth ≤ 900)
    (hp : PathAt w A path) (hcp : path.length ≤ cp) (hcn : A = none → cp = 0) (x : S61) (hx : IOk l code.length x) (hop : x.f0 = 11 ∨ x.f0 = 13) (hleft : G.log.length + 1 + G.left ≤ M) (hk : G.left < k) (hd : (path.length : Int) ≠ c.depth) :
    Calls Try.prog 115 #[.pointer (some ⟨tb, 0, none⟩), xv x] w (KidP c l tb (.slice A path.length cp) vw me (PK c tb vt vl) T (beginP l c.budget c.depth k G x.f3 (path ++ [(T.kids : Int)]) (argsOf l x T) T.hands) w) := by
  have hxb := hx.b (.inr hop)
  have hxf := hx.cf hop
  obtain ⟨x0, x1, x2, x3, x4⟩ := x
  try simp only at *
  obtain ⟨b, rfl⟩ : ∃ b : Nat, x2 = b := ⟨x2.toNat, by omega⟩
  obtain ⟨f, rfl⟩ : ∃ f : Nat, x3 = f := ⟨x3.toNat, by omega⟩
  obtain ⟨W, hW⟩ : ∃ W, W = w.alloc (.cells #[.int .i64 x0, .int .i64 (x1), .int .i64 (b), .int .i64 (f), .int .i64 x4] 61) := ⟨_, rfl⟩
  have hb1 : Below w.heap.size w W := by rw [hW]; exact (Below.refl w.heap.size w).alloc (Nat.le_refl _) _
  have hbx : W.heap[w.heap.size]? = some (.cells #[.int .i64 x0, .int .i64 (x1), .int .i64 (b), .int .i64 (f), .int .i64 x4] 61 (0, 0)) := by rw [hW]; exact alloc_blk w _
  have h1 := h.below hb1
  have c0 := blk_cell hbx 0
  have c1 := blk_cell hbx 1
  have c2 := blk_cell hbx 2
  have c3 := blk_cell hbx 3
  have c4 := blk_cell hbx 4
  have t0 := h1.fix.1
  have H := Aside0.mk (And.intro h1 hb1)
  have HWW := Aside0.mk hW
  have t1 := h1.fix.2.1
  have hg1 := hg.below hb1
  have q2 := blk_cell hg1.eg.node 2
  have hpl := hti.path_
  have hdd : ((path.length : Int) == c.depth) = false := by simpa using hd
  have hdd2 : ((path.length : Int) = c.depth) = False := eq_false hd
  have HG := Aside0.mk (And.intro hg (And.intro hg1 (And.intro hgi (And.intro hti (And.intro hleft (And.intro hk hlo))))))
  have HP := Aside0.mk (And.intro (hp.below hb1) (And.intro hcp (And.intro hcn hpl)))
  have HX := Aside0.mk (And.intro hxb hxf)
  have HD3 := Aside0.mk hd
  have HBX := Aside0.mk hbx
  clear hg hg1 hd hgi hti hp hcp hcn hpl hx hop hleft hk hlo hxb hxf
  unfold xv
  clear h h1 hb1 hbx hW
  go_enter Try.func115, Try.ntmps115
  go_wp2_with fail
  rw [← HWW.out]
  go_quiet (fail)
  go_wp2_with fail
  clear hdd hdd2 q2
  have hs0 : Below W.heap.size W (W.drewN nq) := pw_below_drewN (Below.refl _ _) _
  obtain ⟨W1, hW1⟩ : ∃ W1, W1 = W.drewN nq := ⟨_, rfl⟩
  rw [← hW1] at hs0 ⊢
  have t0 := (H.out.1.below hs0).fix.1
  have t1 := (H.out.1.below hs0).fix.2.1
  have t19 := (H.out.1.below hs0).fix.2.2.2.1
  have H1 := Aside0.mk hs0
  clear hs0 hW1 c0 c1 c2 c3 c4
  refine wp_region_seq2 (fun w' => Below W1.heap.size W1 w') [] [.take 0, .take 1, .take 2, .take 3, .take 5, .take 6, .take 7, .take 8, .pair 4 9, .op 10, .op 11] (by kernel_rfl) (by kernel_rfl) rfl (by kernel_rfl) (panic_viaE (P := Try.prog) (fn := Try.f115) (R := KidP c l tb (.slice A path.length cp) vw me (PK c tb vt vl) T (beginP l c.budget c.depth k G f (path ++ [(T.kids : Int)]) (argsOf l ⟨x0, x1, b, f, x4⟩ T) T.hands) w) (fun _ _ _ => rfl)) ?_
  have hs : Below W1.heap.size W1 W1.drew := (Below.refl _ _).drew
  repeat (
    (first
      | (refine runSeq2_take (v := ?_) (by rfl) (by rfl) (fun w' hS => ?_) hs ?_
         rotate_left
         · (have u0 := (hS.cell (World.block_lt_of_cell? W1 _ t0)).trans t0; have u1 := (hS.cell (World.block_lt_of_cell? W1 _ t1)).trans t1; have u19 := (hS.cell (World.block_lt_of_cell? W1 _ t19)).trans t19; go_simp; exact rfl))
      | refine runSeq2_skip (by rfl) (by rfl) hs ?_)
    (try simp only [Act.put, List.setIfInBounds_toArray, List.set_cons_zero, List.set_cons_succ]))
  have hlen : path.length ≤ 1000 := by have := HP.out.2.2.2; omega
  have hCp := fun {w' : World} (hb : Below W1.heap.size W1 w') => (HP.out.1.below H1.out).below hb
  refine runSeq2_pairM (di := 26) (dj := 31) (fun v u w' => (Kd.int .i64).R 3 w' W1.heap.size (fun _ => True) v path ∧ ∃ bl, u = .slice (some ⟨bl, 0, none⟩) 1 1 ∧ w'.heap[bl]? = some (.cells #[.int .i64 (T.kids : Int)] 3 (0, 0))) (by decide) ?_ ?_ ?_
  · refine wpOp_at (by rfl) (by rfl) (fun K hK => ?_)
    go_simp
    refine (clonei_any A cp path _ ((hCp hs).C hlen) (fun e => by have h1 := HP.out.2.2.1 e; have h2 := HP.out.2.1; exact ⟨h1, List.eq_nil_of_length_eq_zero (by omega)⟩) hlen).mono ?_
    rintro e w1 ⟨v, rfl, hR, hb⟩
    have hs1 := hs.trans (hb.mono hs.size)
    refine hK _ _ ⟨v, rfl, hs1, ?_⟩
    clear hK K
    refine wpOp_at (by rfl) (by rfl) (fun K hK => ?_)
    go_simp
    exact hK _ _ ⟨_, rfl, hs1.alloc hs1.size _, Kd.R_lower (Kd.R_alloc hR _) hs.size, _, rfl, alloc_blk _ _⟩
  · refine wpOp_at (by rfl) (by rfl) (fun K hK => ?_)
    go_simp
    have hs1 := hs.alloc hs.size (.cells #[.int .i64 (T.kids : Int)] 3)
    refine hK _ _ ⟨_, rfl, hs1, ?_⟩
    clear hK K
    refine wpOp_at (by rfl) (by rfl) (fun K hK => ?_)
    go_simp
    refine (clonei_any A cp path _ ((hCp hs1).C hlen) (fun e => by have h1 := HP.out.2.2.1 e; have h2 := HP.out.2.1; exact ⟨h1, List.eq_nil_of_length_eq_zero (by omega)⟩) hlen).mono ?_
    rintro e w1 ⟨v, rfl, hR, hb⟩
    have ha := alloc_blk W1.drew (.cells #[.int .i64 (T.kids : Int)] 3)
    exact hK _ _ ⟨v, rfl, hs1.trans (hb.mono hs1.size), Kd.R_lower hR hs1.size, _, rfl, (hb.block _ (blk_lt ha)).trans ha⟩
  · rintro vv uu w3 hs3 ⟨hR3, bl, rfl, hbl⟩
    (try simp only [Act.put, List.setIfInBounds_toArray, List.set_cons_zero, List.set_cons_succ])
    refine runSeq2_op (by rfl) (by rfl) (fun K hK => ?_)
    refine wp_append_nums .i64 W1.heap.size rfl (.tmp 26) (.tmp 31) 52 3 8 rfl Try.underlying52 info3 (by decide) vv path [(T.kids : Int)] (some ⟨bl, 0, none⟩) 1 1 rfl rfl hR3 (reads_nums [(T.kids : Int)] hbl (by simp)) hs3.size (by omega) ?_
    intro v1 W3 hR4 hb4 hg4 hat4
    have hs4 := hs3.trans hb4
    refine hK _ _ hs4 ?_
    clear hK K hR3 hbl hs3 hb4 hg4 hat4 hs w3
    (try simp only [Act.put, List.setIfInBounds_toArray, List.set_cons_zero, List.set_cons_succ])
    obtain ⟨A', c', rfl⟩ := Kd.R_slice hR4
    have hpp := PathAt.of_R hR4 (by simp)
    refine runSeq2_op (by rfl) (by rfl) (fun K hK => ?_)
    go_simp
    refine hK _ _ hs4 ?_
    clear hK K
    refine runSeq2_nil ?_
    have hWs : Below W.heap.size W W3 := H1.out.trans (hs4.mono H1.out.size)
    have h3 := H.out.1.below hWs
    have h4 := h3.setKids (T.kids + 1) ((T.kids : Int) + 1) (by omega)
    have z19 := h3.frozen 19
    have t19 := h3.fix.2.2.2.1
    have H3 := Aside0.mk (And.intro hWs (And.intro h3 (And.intro h4 hpp)))
    have hkb : (T.kids : Int) < 1000000 := by have h1 := HG.out.2.2.2.1.kids; have h2 := HG.out.2.2.1.log; omega
    clear hR4 hs4 hpp hWs h3 h4 t0 t1 hCp
    go_wp2_with fail
    have hk4 : Keep (fun q => q = tb) W3 (W3.setCell ⟨tb, 19, none⟩ (.int .i64 ((T.kids : Int) + 1))) := (Keep.refl (fun q => q = tb) W3).set (p := ⟨tb, 19, none⟩) (.inr rfl) _
    have hE4 := (HG.out.2.1.below H3.out.1).task H3.out.2.1 HG.out.2.2.2.2.2.2 hk4
    have hbx4 : (W3.setCell ⟨tb, 19, none⟩ (.int .i64 ((T.kids : Int) + 1))).heap[w.heap.size]? = some (.cells #[.int .i64 x0, .int .i64 x1, .int .i64 b, .int .i64 f, .int .i64 x4] 61 (0, 0)) := hk4.blk ((H3.out.1.block _ (blk_lt HBX.out)).trans HBX.out) (fun e => by have h1 := H3.out.2.1.node; rw [← e, (H3.out.1.block _ (blk_lt HBX.out)).trans HBX.out] at h1; cases h1)
    have hp4 := hk4
    have hpath4 := H3.out.2.2.2.1.keep hk4 (fun q cs hq e2 => H3.out.2.1.notPath q cs hq (.inl e2))
    obtain ⟨W4, hW4⟩ : ∃ W4, W4 = W3.setCell ⟨tb, 19, none⟩ (.int .i64 ((T.kids : Int) + 1)) := ⟨_, rfl⟩
    have hT4 := H3.out.2.2.1
    rw [← hW4] at hk4 hE4 hbx4 hpath4 hT4 ⊢
    have H4 := Aside0.mk (And.intro hE4 (And.intro hbx4 (And.intro hT4 (And.intro hpath4 hk4))))
    have hfl : f < l.length := by have := HX.out.2; omega
    have hrd : rd_T64 l (f : Int) = l[f] := by simp [rd_T64, hfl]
    have har := (hl.fn f hfl).1
    have harb := HX.out.2.2.2
    rw [hrd] at harb
    have hargs : argsOf l ⟨x0, x1, b, f, x4⟩ T = (T.regs.drop b).take l[f].f0.toNat := by unfold argsOf; simp only [hrd]; rfl
    obtain ⟨ar, har2⟩ : ∃ ar : Nat, l[f].f0 = ar := ⟨l[f].f0.toNat, by omega⟩
    have HAR := Aside0.mk (And.intro hargs (And.intro har2 (And.intro hfl (And.intro hrd har))))
    obtain ⟨adp, Ai, ci, hap, p0, p1, hci, hCi⟩ := at_T64 hE4.code (f : Int) (by omega) (by omega)
    rw [hrd, Int.toNat_natCast] at p0
    rw [har2] at p0 harb
    have t0 := hT4.fix.1
    have q0 := blk_cell hE4.eg.node 0
    have c2 := blk_cell hbx4 2
    have c3 := blk_cell hbx4 3
    have hb8 : b < 8 := by have := HX.out.1; omega
    rw [hap] at q0
    have hfl2 : ((f : Int) < (l.length : Int)) = True := eq_true (by omega)
    clear hE4 hbx4 hpath4 hT4 hk4 hp4 hW4 p1 hci hCi hrd har har2 hargs z19 t19
    have hsl := slice_regs tb b ar hb8 (by omega)
    have hwr : IntKind.i64.wrap ((b : Int) + (ar : Int)) = (b : Int) + (ar : Int) := IntWalk.i64_in _ (by omega)
    go_quiet (fail)
    clear hsl hwr
    go_wp2_with fail
    have hs0 : Below W4.heap.size W4 (W4.drewN nq) := pw_below_drewN (Below.refl _ _) _
    obtain ⟨W5, hW5⟩ : ∃ W5, W5 = W4.drewN nq := ⟨_, rfl⟩
    rw [← hW5] at hs0 ⊢
    have HARG := HAR.out.1
    rw [HAR.out.2.1, Int.toNat_natCast] at HARG
    rw [HARG]
    obtain ⟨xs, hxs⟩ : ∃ xs, xs = (T.regs.drop b).take ar := ⟨_, rfl⟩
    have hxl : xs.length = ar := by rw [hxs]; exact (H.out.1.argsC b ar (by omega)).1
    obtain ⟨h0, h1, h2, h3, hh, q10, q11, q12, q13, q14, q15, q16, q17⟩ := (H4.out.2.2.1.below hs0).hand8
    replace hh : T.hands = [h0, h1, h2, h3] := hh
    rw [← hxs]
    obtain ⟨r, hr⟩ : ∃ r, r = beginP l c.budget c.depth k G f (path ++ [(T.kids : Int)]) xs T.hands := ⟨_, rfl⟩
    rw [← hr]
    have t0 := (H4.out.2.2.1.below hs0).fix.1
    have c3 := blk_cell ((hs0.block _ (blk_lt H4.out.2.1)).trans H4.out.2.1) 3
    have HRE := Aside0.mk (show beginP l c.budget c.depth k G f (path ++ [(T.kids : Int)]) (argsOf l ⟨x0, x1, b, f, x4⟩ T) T.hands = r from by rw [HARG, ← hxs]; exact hr.symm)
    have H5 := Aside0.mk (And.intro hs0 (And.intro hxl (And.intro hxs hr)))
    have HH := Aside0.mk hh
    clear hW5 hs0 hxl hxs hr hh HARG c2 p0 q0 hfl2 hap
    refine wp_region_seq2 (fun w' => Below W5.heap.size W5 w') [13, 14] [.take 0, .take 1, .take 2, .take 3, .take 4, .take 5, .take 6, .take 7, .take 9, .take 10, .take 11, .take 12, .op 8, .fin 13, .fin 14] (by kernel_rfl) (by kernel_rfl) rfl (by kernel_rfl) (panic_viaE (P := Try.prog) (fn := Try.f115) (R := KidP c l tb (.slice A path.length cp) vw me (PK c tb vt vl) T r w) (fun _ _ _ => rfl)) ?_
    have hs : Below W5.heap.size W5 W5.drew := (Below.refl _ _).drew
    have hmv : ∀ {w' : World} {p : Addr} {v : Value}, Below W5.heap.size W5 w' → W5.cell? p = some v → w'.cell? p = some v := fun hS hq => (hS.cell (World.block_lt_of_cell? W5 _ hq)).trans hq
    have HMV := Aside0.mk (And.intro t0 (And.intro c3 (And.intro q10 (And.intro q11 (And.intro q12 (And.intro q13 (And.intro q14 (And.intro q15 (And.intro q16 q17)))))))))
    clear t0 c3 q10 q11 q12 q13 q14 q15 q16 q17
    repeat (
      (first
        | (refine runSeq2_take (v := ?_) (by rfl) (by rfl) (fun w' hS => ?_) hs ?_
           rotate_left
           · (have u0 := hmv hS HMV.out.1; have u3 := hmv hS HMV.out.2.1; have u10 := hmv hS HMV.out.2.2.1; have u11 := hmv hS HMV.out.2.2.2.1; have u12 := hmv hS HMV.out.2.2.2.2.1; have u13 := hmv hS HMV.out.2.2.2.2.2.1; have u14 := hmv hS HMV.out.2.2.2.2.2.2.1; have u15 := hmv hS HMV.out.2.2.2.2.2.2.2.1; have u16 := hmv hS HMV.out.2.2.2.2.2.2.2.2.1; have u17 := hmv hS HMV.out.2.2.2.2.2.2.2.2.2; go_simp; exact rfl))
        | refine runSeq2_skip (by rfl) (by rfl) hs ?_)
      (try simp only [Act.put, List.setIfInBounds_toArray, List.set_cons_zero, List.set_cons_succ]))
    refine runSeq2_op (by rfl) (by rfl) (fun K hK => ?_)
    go_simp
    have hT5 := (H4.out.2.2.1.below H5.out.1).below hs
    have hC5 : (Kd.int .i64).C W5.drew (some ⟨tb, 2 + b, none⟩) xs.length xs := by have h9 := (hT5.argsC b ar (by omega)).2; rw [H5.out.2.2.1]; exact h9
    have hcl := clone64_any (some ⟨tb, 2 + b, none⟩) (8 - b) xs W5.drew hC5 (fun e => by cases e) (by have := H5.out.2.1; omega)
    rw [H5.out.2.1] at hcl
    refine hcl.mono ?_
    rintro e w6 ⟨v, rfl, hR6, hb6⟩
    have hs6 := hs.trans (hb6.mono hs.size)
    obtain ⟨Aa, ca, rfl⟩ := Kd.R_slice hR6
    obtain ⟨_, hca, hCa⟩ := Kd.R_reads' hR6
    refine hK _ _ hs6 ?_
    clear hK K hcl hC5 hT5 hR6 hb6 hs hmv
    have hES := (H4.out.1.below H5.out.1).below (hs6.mono (Nat.le_refl _))
    have hTB := (H4.out.2.2.1.below H5.out.1).below hs6
    have hti := HG.out.2.2.2.1
    have hcall := hB G ents vt vl w6 f A' c' (path ++ [(T.kids : Int)]) Aa ca xs T.hands hES HG.out.2.2.1 HG.out.2.2.2.2.1 HAR.out.2.2.1 ((H4.out.2.2.2.1.below H5.out.1).below hs6) H3.out.2.2.2.2.2.2 (fun e => absurd e H3.out.2.2.2.2.1) (by have h9 := HP.out.2.2.2; have h8 := HD3.out; rw [List.length_append]; simp; omega) (by rw [H5.out.2.1]; omega) hCa hca hti.hl HG.out.2.2.2.2.2.1
    rw [← H5.out.2.2.2, H5.out.2.1, List.length_append, show [(T.kids : Int)].length = 1 from rfl, HH.out] at hcall
    rw [H5.out.2.1]
    have HC := Aside0.mk hcall
    have H6 := Aside0.mk (And.intro hs6 (And.intro hES hTB))
    clear hcall hs6 hES hTB hti hca hCa
    (try simp only [Act.put, List.setIfInBounds_toArray, List.set_cons_zero, List.set_cons_succ])
    refine runSeq2_fin (by rfl) (by rfl) (fun K hK => ?_)
    go_simp
    refine HC.out.mono ?_
    rintro e w7 ⟨hend, hk7, ents', vt', vl', hE7, hq7⟩
    have hap := apart H6.out.2.1.eg H6.out.2.2
    have hT7 := H6.out.2.2.keep hk7 (fun q hq hp => hap q hp hq)
    have hsz : w.heap.size ≤ w6.heap.size := Nat.le_trans (Nat.le_trans H.out.2.size H3.out.1.size) (Nat.le_trans H4.out.2.2.2.2.size (Nat.le_trans H5.out.1.size H6.out.1.size))
    have hk3 : Keep (PK c tb vt vl) w W3 := (Keep.of_below H.out.2 _).trans (Keep.of_below H3.out.1 _)
    have hk4 : Keep (PK c tb vt vl) w W4 := hk3.trans (H4.out.2.2.2.2.mono (fun q _ h => .inr h))
    have hk6 : Keep (PK c tb vt vl) w w6 := (hk4.trans (Keep.of_below H5.out.1 _)).trans (Keep.of_below H6.out.1 _)
    have hkw : Keep (PK c tb vt vl) w w7 := hk6.trans (hk7.mono (fun q _ h => .inl h))
    have hqw : ∀ q, PG c.wb vt' vl' q → PK c tb vt vl q ∨ w.heap.size ≤ q := fun q hq => by
      rcases hq7 q hq with h9 | h9
      · exact .inl (.inl h9)
      · exact .inr (Nat.le_trans hsz h9)
    have H7 := Aside0.mk (And.intro hkw (And.intro hE7 (And.intro hT7 hqw)))
    clear hk7 hE7 hq7 hap hT7 hsz hk3 hk4 hk6 hkw hqw HC
    obtain ⟨o, G2⟩ := r
    cases o with
    | val v =>
      have hend : e = .returned (.int .i64 v) := hend
      subst hend
      refine hK _ _ ?_
      clear hK K
      (try simp only [Act.put, List.setIfInBounds_toArray, List.set_cons_zero, List.set_cons_succ])
      refine runSeq2_fin (by rfl) (by rfl) (fun K hK => ?_)
      go_simp
      refine hK _ _ ?_
      clear hK K
      refine runSeq2_nil ?_
      go_wp2_with fail
      go_ret
      rw [HRE.out]
      exact ⟨rfl, H7.out.1, ents', vt', vl', H7.out.2.1, H7.out.2.2.1, H7.out.2.2.2⟩
    | fail why =>
      have hend : e = .panicked [{ v := failV why, recovered := false }] := hend
      subst hend
      exact ⟨rfl, rfl, H7.out.1, ents', vt', vl', H7.out.2.1, H7.out.2.2.2⟩
    | long =>
      have hend : e = .panicked [{ v := longV, recovered := false }] := hend
      subst hend
      exact ⟨rfl, rfl, H7.out.1, ents', vt', vl', H7.out.2.1, H7.out.2.2.2⟩
end
end Go.Proofs.Ytbekjccehhaljaa.H

set_option linter.unusedVariables false
set_option linter.unusedSimpArgs false
namespace Go.Proofs.Ytbekjccehhaljaa.H
open Go.RowKit Go.Hay Go.Proofs.YtbekjccehhaljaaW.PrintWords Go.Proofs.YtbekjccehhaljaaW.PrintLast Go.Proofs.YtbekjccehhaljaaW.PrintMore
/-- what a task needs that begins another one. -/
structure KidOk (c : Cn) (l : List S64) (M k : Nat) (tb : Nat) (A : Option Addr) (cp : Nat) (path : List Int) (code : List S61) (me : Nat) (T : Ts) (G : Gs) (x : S61) (w : World) : Prop where
  hl : POk l
  hB : BeginC c l M k
  hlo : c.w0.heap.size ≤ tb
  hgi : GInv M c.budget G
  hti : TInv code c.depth path me T G
  hM : M ≤ 1000000
  hdp : c.depth ≤ 900
  hp : PathAt w A path
  hcp : path.length ≤ cp
  hcn : A = none → cp = 0
  hx : IOk l code.length x
  hop : x.f0 = 11 ∨ x.f0 = 13
  hleft : G.log.length + 1 + G.left ≤ M
  hk : G.left < k
section
variable {c : Cn} {l : List S64} {G : Gs} {ents : List Ent} {vt vl vw : Value} {w : World} {T : Ts} {tb me M k : Nat} {A : Option Addr} {cp : Nat} {path : List Int} {code : List S61} {x : S61}
theorem KidOk.below {w1 : World} (h : KidOk c l M k tb A cp path code me T G x w) (hb : Below w.heap.size w w1) : KidOk c l M k tb A cp path code me T G x w1 := ⟨h.hl, h.hB, h.hlo, h.hgi, h.hti, h.hM, h.hdp, h.hp.below hb, h.hcp, h.hcn, h.hx, h.hop, h.hleft, h.hk⟩
theorem kid_all (h : KidOk c l M k tb A cp path code me T G x w) (hg : ES c l G ents vt vl w) (ht : TB tb c.wb (.slice A path.length cp) T vw me c.B w) :
    Calls Try.prog 115 #[.pointer (some ⟨tb, 0, none⟩), xv x] w (KidP c l tb (.slice A path.length cp) vw me (PK c tb vt vl) T (kidR l c.budget c.depth k G path x T) w) := by
  unfold kidR
  by_cases hd : (path.length : Int) = c.depth
  · rw [if_pos hd]; exact kid_no hg ht x hd
  · rw [if_neg hd]; exact kid_any h.hl h.hB hg ht h.hlo h.hgi h.hti h.hM h.hdp h.hp h.hcp h.hcn x h.hx h.hop h.hleft h.hk hd
def spawnT (T : Ts) (a v : Int) : Ts := { T with kids := T.kids + 1, wait := T.wait ++ [(a, v)] }
def futureT (T : Ts) (a v : Int) : Ts := { T with kids := T.kids + 1, hands := T.hands.set a.toNat (true, v) }
def begunR (f : Int → Ts) (r : Out × Gs) : SR :=
  match r with
  | (.val v, G2) => .go (f v) G2
  | (o, G2) => .stop o G2
theorem stepP_spawn (hop : x.f0 = 11) : stepP l c.depth (runP l c.budget c.depth k) path x T G = begunR (spawnT T x.f1) (kidR l c.budget c.depth k G path x T) := by
  unfold stepP kidR beginP
  rw [if_pos (.inl hop)]
  by_cases hd : (path.length : Int) = c.depth
  · rw [if_pos hd, if_pos hd]; rfl
  · rw [if_neg hd, if_neg hd]
    generalize runP l c.budget c.depth k _ _ _ _ _ = r
    obtain ⟨o, G2⟩ := r
    cases o with
    | val v => show SR.go _ _ = SR.go _ _; rw [if_pos hop]; rfl
    | fail why => rfl
    | long => rfl
theorem stepP_future (hop : x.f0 = 13) : stepP l c.depth (runP l c.budget c.depth k) path x T G = begunR (futureT T x.f1) (kidR l c.budget c.depth k G path x T) := by
  unfold stepP kidR beginP
  rw [if_pos (.inr hop)]
  by_cases hd : (path.length : Int) = c.depth
  · rw [if_pos hd, if_pos hd]; rfl
  · rw [if_neg hd, if_neg hd]
    generalize runP l c.budget c.depth k _ _ _ _ _ = r
    obtain ⟨o, G2⟩ := r
    cases o with
    | val v => show SR.go _ _ = SR.go _ _; rw [if_neg (by omega)]; rfl
    | fail why => rfl
    | long => rfl
def SpawnP (c : Cn) (l : List S64) (tb : Nat) (vp : Value) (me : Nat) (PA : Nat → Prop) (f : Int → Ts) (r : Out × Gs) (w : World) (e : Ending) (w' : World) : Prop := StepPost c l tb vp me PA (begunR f r) w e w'
theorem SpawnP.val {vp : Value} {S : Nat → Prop} {f : Int → Ts} {v : Int} {G2 : Gs} {e : Ending} {w' : World} (h : GoesP c l tb vp me S (f v) G2 w e w') : SpawnP c l tb vp me S f (.val v, G2) w e w' := h
theorem SpawnP.stop {vp : Value} {S : Nat → Prop} {f : Int → Ts} {o : Out} {G2 : Gs} {e : Ending} {w' : World} (ho : ∀ v, o ≠ .val v) (h : EndP c l S o G2 w e w') : SpawnP c l tb vp me S f (o, G2) w e w' := by
  unfold SpawnP begunR
  cases o with
  | val v => exact absurd rfl (ho v)
  | fail why => exact h
  | long => exact h

set_option maxRecDepth 100000 in
set_option maxHeartbeats 8000000 in
theorem tspawn_any (hk : KidOk c l M k tb A cp path code me T G x w) (hg : ES c l G ents vt vl w) (h : TB tb c.wb (.slice A path.length cp) T vw me c.B w) :
    Calls Try.prog 106 #[.pointer (some ⟨tb, 0, none⟩), xv x] w (SpawnP c l tb (.slice A path.length cp) me (PA c tb vt vl vw) (spawnT T x.f1) (kidR l c.budget c.depth k G path x T) w) := by
  obtain ⟨r, hr⟩ : ∃ r, r = kidR l c.budget c.depth k G path x T := ⟨_, rfl⟩
  rw [← hr]
  obtain ⟨Aw, cw, rfl⟩ := Kd.R_slice h.wait
  obtain ⟨x0, x1, x2, x3, x4⟩ := x
  try simp only at *
  obtain ⟨W, hW⟩ : ∃ W, W = w.alloc (.cells #[.int .i64 x0, .int .i64 (x1), .int .i64 (x2), .int .i64 (x3), .int .i64 x4] 61) := ⟨_, rfl⟩
  have hb1 : Below w.heap.size w W := by rw [hW]; exact (Below.refl w.heap.size w).alloc (Nat.le_refl _) _
  have hbx : W.heap[w.heap.size]? = some (.cells #[.int .i64 x0, .int .i64 (x1), .int .i64 (x2), .int .i64 (x3), .int .i64 x4] 61 (0, 0)) := by rw [hW]; exact alloc_blk w _
  have h1 := h.below hb1
  have c0 := blk_cell hbx 0
  have c1 := blk_cell hbx 1
  have c2 := blk_cell hbx 2
  have c3 := blk_cell hbx 3
  have c4 := blk_cell hbx 4
  have t0 := h1.fix.1
  have H := Aside0.mk (And.intro h1 hb1)
  have HWW := Aside0.mk hW
  have hkid := fun {w1 : World} (hb : Below w.heap.size w w1) => kid_all (hk.below hb) (hg.below hb) (h.below hb)
  rw [← hr] at hkid
  have HK := Aside0.mk (fun {w1 : World} (hb : Below w.heap.size w w1) => hkid hb)
  have t18 := h1.fix.2.2.1
  have HX := Aside0.mk (And.intro hbx (And.intro hg (And.intro hk t18)))
  have hne : w.heap.size ≠ tb := fun e => by have h2 := h1.node; rw [← e, hbx] at h2; cases h2
  have HNE := Aside0.mk hne
  clear hg hk hkid hr c0 c1 c2 c3 c4 hne
  unfold xv
  clear h h1 hb1 hbx hW
  go_enter Try.func106, Try.ntmps106
  go_wp2_with fail
  rw [← HWW.out]
  refine wp_region_seq2 (fun w' => w'.cell? ⟨tb, 18, none⟩ = some (.slice Aw T.wait.length cw) ∧ w'.heap[w.heap.size]? = some (.cells #[.int .i64 x0, .int .i64 x1, .int .i64 x2, .int .i64 x3, .int .i64 x4] 61 (0, 0))) [15] [.take 0, .take 1, .take 2, .take 3, .take 4, .take 5, .take 6, .take 7, .take 8, .op 9, .op 10, .op 11, .op 12, .op 13, .op 14, .fin 15] (by kernel_rfl) (by kernel_rfl) rfl (by kernel_rfl) (panic_viaE (P := Try.prog) (fn := Try.f106) (R := SpawnP c l tb (.slice A path.length cp) me (PA c tb vt vl (.slice Aw T.wait.length cw)) (spawnT T x1) r w) (fun _ _ _ => rfl)) ?_
  have hs : W.drew.cell? ⟨tb, 18, none⟩ = some (.slice Aw T.wait.length cw) ∧ W.drew.heap[w.heap.size]? = some (.cells #[.int .i64 x0, .int .i64 x1, .int .i64 x2, .int .i64 x3, .int .i64 x4] 61 (0, 0)) := ⟨HX.out.2.2.2, HX.out.1⟩
  clear t18 t0
  repeat (
    (first
      | (refine runSeq2_take (v := ?_) (by rfl) (by rfl) (fun w' hS => ?_) hs ?_
         rotate_left
         · (have u18 := hS.1; have hb9 := hS.2; have c0 := blk_cell hb9 0; have c1 := blk_cell hb9 1; have c2 := blk_cell hb9 2; have c3 := blk_cell hb9 3; have c4 := blk_cell hb9 4; go_simp; exact rfl))
      | refine runSeq2_skip (by rfl) (by rfl) hs ?_)
    (try simp only [Act.put, List.setIfInBounds_toArray, List.set_cons_zero, List.set_cons_succ]))
  clear hs
  have hs : Below W.heap.size W W.drew := (Below.refl _ _).drew
  refine runSeq2_op (by rfl) (by rfl) (fun K hK => ?_)
  go_simp
  refine (HK.out (H.out.2.trans (hs.mono H.out.2.size))).mono ?_
  intro e w1 hkid
  obtain ⟨o, G2⟩ := r
  cases o with
  | val v =>
    obtain ⟨rfl, hk1, ents', vt', vl', hE1, hT1, hq1⟩ := hkid
    have u18 := hT1.fix.2.2.1
    have hbx1 : w1.heap[w.heap.size]? = W.heap[w.heap.size]? := hk1.block _ (by have := blk_lt HX.out.1; simpa using this) (fun hp => hp.elim (fun hp => (HX.out.2.1.below (H.out.2.trans (hs.mono H.out.2.size))).eg.not (show W.drew.heap[w.heap.size]? = _ from HX.out.1) (by decide) hp) HNE.out)
    refine hK _ _ ⟨u18, hbx1.trans HX.out.1⟩ ?_
    clear hK K
    have hz1 := (blk_lt hT1.node)
    refine runSeq2_op (by rfl) (by rfl) (fun K hK => ?_)
    go_simp
    refine hK _ _ ⟨u18, hbx1.trans HX.out.1⟩ ?_
    clear hK K
    refine runSeq2_op (by rfl) (by rfl) (fun K hK => ?_)
    go_simp
    have hb2 : Below w1.heap.size w1 (w1.alloc (.cells #[.int .i64 x1, .int .i64 v] 192)) := (Below.refl _ _).alloc (Nat.le_refl _) _
    have hbx2 := (hb2.block _ (blk_lt (hbx1.trans HX.out.1))).trans (hbx1.trans HX.out.1)
    have u18b := (hT1.below hb2).fix.2.2.1
    refine hK _ _ ⟨u18b, hbx2⟩ ?_
    clear hK K
    refine runSeq2_op (by rfl) (by rfl) (fun K hK => ?_)
    have hB1 : c.B ≤ w1.heap.size := Nat.le_trans hE1.eg.lo (Nat.le_of_lt (blk_lt hE1.eg.node))
    refine wp_append_rows kSt (Rr := kSt.M (w1.alloc (.cells #[.int .i64 x1, .int .i64 v] 192)) c.B (fun _ => False)) c.B rfl (.tmp 8) (.tmp 15) 141 192 (.agg #[(.int .i64 0), (.int .i64 0)]) 16 rfl Try.underlying141 info192 rfl (by decide) (by decide) (.slice Aw T.wait.length cw) T.wait [(x1, v)] _ _ _ (fun _ => True) (fun _ => False) rfl rfl (hT1.below hb2).wait (reads_one (alloc_blk _ _) (kSt_mkM _ _ _ ((x1, v) : Int × Int))) (fun _ _ h => h) (fun _ h => h.elim) (fun _ _ => trivial) (Nat.le_trans hB1 hb2.size) (by have h8 := HX.out.2.2.1.hti.wl; have h9 := HX.out.2.2.1.hti.kids; have h7 := HX.out.2.2.1.hgi.log; have h6 := HX.out.2.2.1.hM; omega) ?_
    intro v9 w9 hR9 hbw hgr hat
    have hn9 : ∀ q, q < w1.heap.size → (Value.slice Aw T.wait.length cw).ownBlock ≠ some q → w9.heap[q]? = w1.heap[q]? := fun q hq hn => (hgr.block q (Nat.lt_of_lt_of_le hq hb2.size) (fun e => hn e.symm)).trans (hb2.block q hq)
    have htb9 := hn9 tb hz1 hT1.new
    have hbx9 : w9.heap[w.heap.size]? = _ := (hn9 _ (blk_lt (hbx1.trans HX.out.1)) (fun e => by
      obtain ⟨cs, h2⟩ := Kd.R_typed hT1.wait _ e
      rw [hbx1.trans HX.out.1] at h2; cases h2)).trans (hbx1.trans HX.out.1)
    have hv9 : v9.ownBlock ≠ some tb := by
      intro e
      rcases hat with h2 | ⟨q', h2, h3⟩
      · rw [h2] at e; exact hT1.new e
      · rw [h2] at e; cases e
        have := hb2.size; omega
    have h9 := hT1.setWait htb9 hR9 hv9
    have hk9 : Keep (PT tb (.slice Aw T.wait.length cw)) w1 (w9.setCell ⟨tb, 18, none⟩ v9) := ((Keep.of_below hb2 _).trans ((Keep.grown hgr).mono (fun q _ h2 => .inr h2.symm))).set (p := ⟨tb, 18, none⟩) (.inr (.inl rfl)) _
    have hp9 : ∀ q, PT tb v9 q → PT tb (.slice Aw T.wait.length cw) q ∨ w1.heap.size ≤ q := by
      intro q hq
      rcases hq with rfl | hq
      · exact .inl (.inl rfl)
      · rcases hat with h2 | ⟨q', h2, h3⟩
        · rw [h2] at hq; exact .inl (.inr hq)
        · rw [h2] at hq; cases hq
          exact .inr (Nat.le_trans hb2.size h3)
    have z18 := blk_frozen (htb9.trans hT1.node) 18
    have u18c := (World.cell?_of_block (a := ⟨tb, 18, none⟩) htb9).trans hT1.fix.2.2.1
    obtain ⟨A9, c9, rfl⟩ := Kd.R_slice hR9
    generalize (T.wait ++ [(x1, v)]).length = L9 at h9 hk9 hp9 ⊢
    have H9 := Aside0.mk (And.intro h9 (And.intro hk9 (And.intro hp9 (And.intro hE1 (And.intro hT1 (And.intro hk1 (And.intro hq1 hs)))))))
    clear h9 hk9 hp9 hE1 hT1 hk1 hq1 hv9 hn9 hR9 hbw hgr hat hb2 hbx2 u18b hB1 hz1 hbx1 u18 hs
    refine hK _ _ ⟨u18c, hbx9⟩ ?_
    clear hK K
    refine runSeq2_op (by rfl) (by rfl) (fun K hK => ?_)
    go_simp
    refine hK _ _ ⟨u18c, hbx9⟩ ?_
    clear hK K
    refine runSeq2_op (by rfl) (by rfl) (fun K hK => ?_)
    go_simp
    refine hK _ _ ⟨u18c, hbx9⟩ ?_
    clear hK K
    refine runSeq2_fin (by rfl) (by rfl) (fun K hK => ?_)
    go_simp
    refine hK _ _ ?_
    refine runSeq2_nil ?_
    clear hK K htb9 hbx9 z18 u18c
    go_wp2_with fail
    go_end0
    obtain ⟨h9, hk9, hp9, hE1, hT1, hk1, hq1, hs⟩ := H9.out
    have hap := apart hE1.eg hT1
    have hlo := HX.out.2.2.1.hlo
    have hE9 := hE1.keep hk9 (fun q hq hp => hap q hq hp) (fun q cs hq hp => hT1.notPath q cs hq hp) (fun q hq hp => by
      rcases hp with rfl | hp
      · omega
      · have h2 := (R_own hT1.wait q hp).2.1; have h3 := hE1.lo; omega)
    have hkk := ((Keep.of_below (H.out.2.trans (hs.mono H.out.2.size)) (PA c tb vt vl (.slice Aw T.wait.length cw))).trans (hk1.mono (fun q _ h8 => h8.elim Or.inl (fun h7 => .inr (.inl h7))))).trans (hk9.mono (fun q _ h8 => .inr h8))
    have hsz : w.heap.size ≤ W.drew.heap.size := Nat.le_trans H.out.2.size hs.size
    refine SpawnP.val ⟨rfl, hkk, ents', vt', vl', _, hE9, h9, fun q hq => ?_⟩
    rcases hq with hq | hq
    · rcases hq1 q hq with h2 | h2
      · exact .inl (h2.elim Or.inl (fun h7 => .inr (.inl h7)))
      · exact .inr (Nat.le_trans hsz h2)
    · rcases hp9 q hq with h2 | h2
      · exact .inl (.inr h2)
      · exact .inr (Nat.le_trans hsz (Nat.le_trans hk1.size h2))
  | fail why =>
    have hend : e = .panicked [{ v := failV why, recovered := false }] := hkid.1
    subst hend
    obtain ⟨_, hk1, ents', vt', vl', hE1, hq1⟩ := hkid
    refine ⟨rfl, ?_⟩
    refine SpawnP.stop (by intro v h9; cases h9) ⟨rfl, (Keep.of_below (H.out.2.trans (hs.mono H.out.2.size)) _).trans (hk1.mono (fun q _ h9 => h9.elim Or.inl (fun h8 => .inr (.inl h8)))), ents', vt', vl', hE1, fun q hq => ?_⟩
    rcases hq1 q hq with h9 | h9
    · exact .inl (h9.elim Or.inl (fun h8 => .inr (.inl h8)))
    · exact .inr (Nat.le_trans (Nat.le_trans H.out.2.size hs.size) h9)
  | long =>
    have hend : e = .panicked [{ v := longV, recovered := false }] := hkid.1
    subst hend
    obtain ⟨_, hk1, ents', vt', vl', hE1, hq1⟩ := hkid
    refine ⟨rfl, ?_⟩
    refine SpawnP.stop (by intro v h9; cases h9) ⟨rfl, (Keep.of_below (H.out.2.trans (hs.mono H.out.2.size)) _).trans (hk1.mono (fun q _ h9 => h9.elim Or.inl (fun h8 => .inr (.inl h8)))), ents', vt', vl', hE1, fun q hq => ?_⟩
    rcases hq1 q hq with h9 | h9
    · exact .inl (h9.elim Or.inl (fun h8 => .inr (.inl h8)))
    · exact .inr (Nat.le_trans (Nat.le_trans H.out.2.size hs.size) h9)
set_option maxRecDepth 100000 in
set_option maxHeartbeats 8000000 in
theorem tfuture_any (ha : 0 ≤ x.f1 ∧ x.f1 < 4) (hk : KidOk c l M k tb A cp path code me T G x w) (hg : ES c l G ents vt vl w) (h : TB tb c.wb (.slice A path.length cp) T vw me c.B w) :
    Calls Try.prog 107 #[.pointer (some ⟨tb, 0, none⟩), xv x] w (SpawnP c l tb (.slice A path.length cp) me (PA c tb vt vl vw) (futureT T x.f1) (kidR l c.budget c.depth k G path x T) w) := by
  obtain ⟨r, hr⟩ : ∃ r, r = kidR l c.budget c.depth k G path x T := ⟨_, rfl⟩
  rw [← hr]
  obtain ⟨Aw, cw, rfl⟩ := Kd.R_slice h.wait
  obtain ⟨x0, x1, x2, x3, x4⟩ := x
  try simp only at *
  obtain ⟨a, rfl⟩ : ∃ a : Nat, x1 = a := ⟨x1.toNat, by omega⟩
  have ha4 : ((a : Int) < 4) = True := eq_true ha.2
  have HA := Aside0.mk ha.2
  clear ha
  obtain ⟨W, hW⟩ : ∃ W, W = w.alloc (.cells #[.int .i64 x0, .int .i64 (a), .int .i64 (x2), .int .i64 (x3), .int .i64 x4] 61) := ⟨_, rfl⟩
  have hb1 : Below w.heap.size w W := by rw [hW]; exact (Below.refl w.heap.size w).alloc (Nat.le_refl _) _
  have hbx : W.heap[w.heap.size]? = some (.cells #[.int .i64 x0, .int .i64 (a), .int .i64 (x2), .int .i64 (x3), .int .i64 x4] 61 (0, 0)) := by rw [hW]; exact alloc_blk w _
  have h1 := h.below hb1
  have c0 := blk_cell hbx 0
  have c1 := blk_cell hbx 1
  have c2 := blk_cell hbx 2
  have c3 := blk_cell hbx 3
  have c4 := blk_cell hbx 4
  have t0 := h1.fix.1
  have H := Aside0.mk (And.intro h1 hb1)
  have HWW := Aside0.mk hW
  have hkid := fun {w1 : World} (hb : Below w.heap.size w w1) => kid_all (hk.below hb) (hg.below hb) (h.below hb)
  rw [← hr] at hkid
  have HK := Aside0.mk (fun {w1 : World} (hb : Below w.heap.size w w1) => hkid hb)
  have t18 := h1.fix.2.2.1
  have HX := Aside0.mk (And.intro hbx (And.intro hg (And.intro hk t18)))
  have hne : w.heap.size ≠ tb := fun e => by have h2 := h1.node; rw [← e, hbx] at h2; cases h2
  have HNE := Aside0.mk hne
  clear hg hk hkid hr c0 c1 c2 c3 c4 hne
  unfold xv
  clear h h1 hb1 hbx hW
  go_enter Try.func107, Try.ntmps107
  go_wp2_with fail
  rw [← HWW.out]
  refine wp_region_seq2 (fun w' => w'.heap[w.heap.size]? = some (.cells #[.int .i64 x0, .int .i64 a, .int .i64 x2, .int .i64 x3, .int .i64 x4] 61 (0, 0))) [10] [.take 0, .take 1, .take 2, .take 3, .take 4, .take 7, .take 8, .op 5, .op 6, .op 9, .fin 10] (by kernel_rfl) (by kernel_rfl) rfl (by kernel_rfl) (panic_viaE (P := Try.prog) (fn := Try.f107) (R := SpawnP c l tb (.slice A path.length cp) me (PA c tb vt vl (.slice Aw T.wait.length cw)) (futureT T a) r w) (fun _ _ _ => rfl)) ?_
  have hs : W.drew.heap[w.heap.size]? = some (.cells #[.int .i64 x0, .int .i64 a, .int .i64 x2, .int .i64 x3, .int .i64 x4] 61 (0, 0)) := HX.out.1
  clear t18 t0
  repeat (
    (first
      | (refine runSeq2_take (v := ?_) (by rfl) (by rfl) (fun w' hS => ?_) hs ?_
         rotate_left
         · (have c0 := blk_cell hS 0; have c1 := blk_cell hS 1; have c2 := blk_cell hS 2; have c3 := blk_cell hS 3; have c4 := blk_cell hS 4; go_simp; exact rfl))
      | refine runSeq2_skip (by rfl) (by rfl) hs ?_)
    (try simp only [Act.put, List.setIfInBounds_toArray, List.set_cons_zero, List.set_cons_succ]))
  clear hs
  have hs : Below W.heap.size W W.drew := (Below.refl _ _).drew
  refine runSeq2_op (by rfl) (by rfl) (fun K hK => ?_)
  go_simp
  refine (HK.out (H.out.2.trans (hs.mono H.out.2.size))).mono ?_
  intro e w1 hkid
  obtain ⟨o, G2⟩ := r
  cases o with
  | val v =>
    obtain ⟨rfl, hk1, ents', vt', vl', hE1, hT1, hq1⟩ := hkid
    have hbx1 : w1.heap[w.heap.size]? = W.heap[w.heap.size]? := hk1.block _ (by have := blk_lt HX.out.1; simpa using this) (fun hp => hp.elim (fun hp => (HX.out.2.1.below (H.out.2.trans (hs.mono H.out.2.size))).eg.not (show W.drew.heap[w.heap.size]? = _ from HX.out.1) (by decide) hp) HNE.out)
    refine hK _ _ (hbx1.trans HX.out.1) ?_
    clear hK K
    refine runSeq2_op (by rfl) (by rfl) (fun K hK => ?_)
    go_simp
    refine hK _ _ (hbx1.trans HX.out.1) ?_
    clear hK K
    refine runSeq2_op (by rfl) (by rfl) (fun K hK => ?_)
    go_simp
    refine hK _ _ (hbx1.trans HX.out.1) ?_
    clear hK K
    have g0 := (hT1.hand a (by have := HA.out; omega)).1
    have g1 := (hT1.hand a (by have := HA.out; omega)).2
    have z0 := hT1.frozen (10 + a * 2)
    have z1 := hT1.frozen (10 + a * 2 + 1)
    have h9 := hT1.setHand a (by have := HA.out; omega) true v
    have hk9 : Keep (fun q => q = tb) w1 ((w1.setCell ⟨tb, 10 + a * 2, none⟩ (.bool true)).setCell ⟨tb, 10 + a * 2 + 1, none⟩ (.int .i64 v)) := ((Keep.refl (fun q => q = tb) w1).set (p := ⟨tb, 10 + a * 2, none⟩) (.inr rfl) _).set (p := ⟨tb, 10 + a * 2 + 1, none⟩) (.inr rfl) _
    have H9 := Aside0.mk (And.intro h9 (And.intro hk9 (And.intro hE1 (And.intro hT1 (And.intro hk1 (And.intro hq1 hs))))))
    clear h9 hk9 hE1 hT1 hk1 hq1 hs hbx1
    refine runSeq2_fin (by rfl) (by rfl) (fun K hK => ?_)
    go_simp
    refine hK _ _ ?_
    refine runSeq2_nil ?_
    clear hK K z0 z1 g0 g1
    go_wp2_with fail
    go_end0
    obtain ⟨h9, hk9, hE1, hT1, hk1, hq1, hs⟩ := H9.out
    have hE9 := hE1.task hT1 HX.out.2.2.1.hlo hk9
    have hkk := ((Keep.of_below (H.out.2.trans (hs.mono H.out.2.size)) (PA c tb vt vl (.slice Aw T.wait.length cw))).trans (hk1.mono (fun q _ h8 => h8.elim Or.inl (fun h7 => .inr (.inl h7))))).trans (hk9.mono (fun q _ h8 => .inr (.inl h8)))
    have hsz : w.heap.size ≤ W.drew.heap.size := Nat.le_trans H.out.2.size hs.size
    refine SpawnP.val ⟨rfl, hkk, ents', vt', vl', _, hE9, h9, fun q hq => ?_⟩
    rcases hq with hq | hq
    · rcases hq1 q hq with h2 | h2
      · exact .inl (h2.elim Or.inl (fun h7 => .inr (.inl h7)))
      · exact .inr (Nat.le_trans hsz h2)
    · exact .inl (.inr hq)
  | fail why =>
    have hend : e = .panicked [{ v := failV why, recovered := false }] := hkid.1
    subst hend
    obtain ⟨_, hk1, ents', vt', vl', hE1, hq1⟩ := hkid
    refine ⟨rfl, ?_⟩
    refine SpawnP.stop (by intro v h9; cases h9) ⟨rfl, (Keep.of_below (H.out.2.trans (hs.mono H.out.2.size)) _).trans (hk1.mono (fun q _ h9 => h9.elim Or.inl (fun h8 => .inr (.inl h8)))), ents', vt', vl', hE1, fun q hq => ?_⟩
    rcases hq1 q hq with h9 | h9
    · exact .inl (h9.elim Or.inl (fun h8 => .inr (.inl h8)))
    · exact .inr (Nat.le_trans (Nat.le_trans H.out.2.size hs.size) h9)
  | long =>
    have hend : e = .panicked [{ v := longV, recovered := false }] := hkid.1
    subst hend
    obtain ⟨_, hk1, ents', vt', vl', hE1, hq1⟩ := hkid
    refine ⟨rfl, ?_⟩
    refine SpawnP.stop (by intro v h9; cases h9) ⟨rfl, (Keep.of_below (H.out.2.trans (hs.mono H.out.2.size)) _).trans (hk1.mono (fun q _ h9 => h9.elim Or.inl (fun h8 => .inr (.inl h8)))), ents', vt', vl', hE1, fun q hq => ?_⟩
    rcases hq1 q hq with h9 | h9
    · exact .inl (h9.elim Or.inl (fun h8 => .inr (.inl h8)))
    · exact .inr (Nat.le_trans (Nat.le_trans H.out.2.size hs.size) h9)
end
end Go.Proofs.Ytbekjccehhaljaa.H

set_option linter.unusedVariables false
set_option linter.unusedSimpArgs false
namespace Go.Proofs.Ytbekjccehhaljaa.H
open Go.RowKit Go.Hay Go.Maps Go.Proofs.YtbekjccehhaljaaW.PrintWords Go.Proofs.YtbekjccehhaljaaW.PrintLast Go.Proofs.YtbekjccehhaljaaW.PrintMore
/-- which function does an operation. -/
def deedF (op : Int) : Nat :=
  if op = 1 then 96 else
  if op = 2 then 97 else
  if op = 3 then 98 else
  if op = 4 then 99 else
  if op = 5 then 100 else
  if op = 6 then 101 else
  if op = 7 then 102 else
  if op = 8 then 103 else
  if op = 9 then 104 else
  if op = 10 then 105 else
  if op = 11 then 106 else
  if op = 12 then 75 else
  if op = 13 then 107 else
  if op = 14 then 108 else
  if op = 15 then 109 else
  110
theorem deedF_1 : deedF 1 = 96 := by decide
theorem deedF_2 : deedF 2 = 97 := by decide
theorem deedF_3 : deedF 3 = 98 := by decide
theorem deedF_4 : deedF 4 = 99 := by decide
theorem deedF_5 : deedF 5 = 100 := by decide
theorem deedF_6 : deedF 6 = 101 := by decide
theorem deedF_7 : deedF 7 = 102 := by decide
theorem deedF_8 : deedF 8 = 103 := by decide
theorem deedF_9 : deedF 9 = 104 := by decide
theorem deedF_10 : deedF 10 = 105 := by decide
theorem deedF_11 : deedF 11 = 106 := by decide
theorem deedF_12 : deedF 12 = 75 := by decide
theorem deedF_13 : deedF 13 = 107 := by decide
theorem deedF_14 : deedF 14 = 108 := by decide
theorem deedF_15 : deedF 15 = 109 := by decide
theorem deedF_16 : deedF 16 = 110 := by decide
section
variable {c : Cn} {l : List S64} {G : Gs} {ents : List Ent} {vt vl vw : Value} {w : World} {T : Ts} {tb me M k : Nat} {A : Option Addr} {cp : Nat} {path : List Int} {code : List S61}
theorem StepPost.go {vp : Value} {S : Nat → Prop} {T' : Ts} {G' : Gs} {e : Ending} {w' : World} {r : SR} (hr : r = .go T' G') (h : GoesP c l tb vp me S T' G' w e w') : StepPost c l tb vp me S r w e w' := by subst hr; exact h
theorem StepPost.stop {vp : Value} {S : Nat → Prop} {o : Out} {G' : Gs} {e : Ending} {w' : World} {r : SR} (hr : r = .stop o G') (h : EndP c l S o G' w e w') : StepPost c l tb vp me S r w e w' := by subst hr; exact h
theorem stepP_go {rec : Gs → List Int → List S61 → Nat → Ts → Out × Gs} {x : S61} {T' : Ts} (h : x.f0 ≠ 11 ∧ x.f0 ≠ 13 ∧ x.f0 ≠ 15) (hs : simple x T = .go T') : stepP l c.depth rec path x T G = .go T' G := by
  unfold stepP
  rw [if_neg (by omega), if_neg h.2.2, hs]
theorem stepP_stop {rec : Gs → List Int → List S61 → Nat → Ts → Out × Gs} {x : S61} {why : Int} (h : x.f0 ≠ 11 ∧ x.f0 ≠ 13 ∧ x.f0 ≠ 15) (hs : simple x T = .stop why) : stepP l c.depth rec path x T G = .stop (.fail why) G := by
  unfold stepP
  rw [if_neg (by omega), if_neg h.2.2, hs]
/-- what any operation but ret does. -/
structure StepOk (c : Cn) (l : List S64) (M k : Nat) (tb : Nat) (A : Option Addr) (cp : Nat) (path : List Int) (code : List S61) (me : Nat) (T : Ts) (G : Gs) (x : S61) (w : World) : Prop where
  hl : POk l
  hB : BeginC c l M k
  hlo : c.w0.heap.size ≤ tb
  hgi : GInv M c.budget G
  hti : TInv code c.depth path me T G
  hM : M ≤ 1000000
  hdp : c.depth ≤ 900
  hp : PathAt w A path
  hcp : path.length ≤ cp
  hcn : A = none → cp = 0
  hx : IOk l code.length x
  hleft : G.log.length + 1 + G.left ≤ M
  hk : G.left < k
theorem step_any {x : S61} (h : StepOk c l M k tb A cp path code me T G x w) (hg : ES c l G ents vt vl w) (ht : TB tb c.wb (.slice A path.length cp) T vw me c.B w) (h17 : x.f0 ≠ 17) :
    Calls Try.prog (deedF x.f0) #[.pointer (some ⟨tb, 0, none⟩), xv x] w (StepPost c l tb (.slice A path.length cp) me (PA c tb vt vl vw) (stepP l c.depth (runP l c.budget c.depth k) path x T G) w) := by
  have hx := h.hx
  have hop := hx.op
  have hlo := h.hlo
  have go : ∀ {T' : Ts}, (x.f0 ≠ 11 ∧ x.f0 ≠ 13 ∧ x.f0 ≠ 15) → simple x T = .go T' → ∀ {e : Ending} {w' : World}, GoP tb c.wb (.slice A path.length cp) T' vw me c.B w e w' → StepPost c l tb (.slice A path.length cp) me (PA c tb vt vl vw) (stepP l c.depth (runP l c.budget c.depth k) path x T G) w e w' :=
    fun hn hs e w' hp => StepPost.go (stepP_go hn hs) (task_go hg ht hlo hp.1 hp.2.1 hp.2.2 (.inl rfl))
  have st : ∀ {why : Int}, (x.f0 ≠ 11 ∧ x.f0 ≠ 13 ∧ x.f0 ≠ 15) → simple x T = .stop why → ∀ {e : Ending} {w' : World}, StopP why w e w' → StepPost c l tb (.slice A path.length cp) me (PA c tb vt vl vw) (stepP l c.depth (runP l c.budget c.depth k) path x T G) w e w' :=
    fun hn hs e w' hp => StepPost.stop (stepP_stop hn hs) (task_stop hg hp.1 hp.2 (fun q hq => .inl hq))
  have hcases : x.f0 = 1 ∨ x.f0 = 2 ∨ x.f0 = 3 ∨ x.f0 = 4 ∨ x.f0 = 5 ∨ x.f0 = 6 ∨ x.f0 = 7 ∨ x.f0 = 8 ∨ x.f0 = 9 ∨ x.f0 = 10 ∨ x.f0 = 11 ∨ x.f0 = 12 ∨ x.f0 = 13 ∨ x.f0 = 14 ∨ x.f0 = 15 ∨ x.f0 = 16 := by omega
  rcases hcases with e | e | e | e | e | e | e | e | e | e | e | e | e | e | e | e
  · rw [e, deedF_1]
    exact (tset_any ht x (hx.a (by omega) (by omega) (by omega) (by omega))).mono fun _ _ hp => go (by omega) (by unfold simple; repeat (first | rw [if_pos e] | rw [if_neg (by omega)])) hp
  · rw [e, deedF_2]
    exact (tmove_any ht x (hx.a (by omega) (by omega) (by omega) (by omega)) (hx.b (.inl (by omega)))).mono fun _ _ hp => go (by omega) (by unfold simple; repeat (first | rw [if_pos e] | rw [if_neg (by omega)])) hp
  · rw [e, deedF_3]
    exact (tadd_any ht x (hx.a (by omega) (by omega) (by omega) (by omega)) (hx.b (.inl (by omega))) (hx.c (by omega))).mono fun _ _ hp => go (by omega) (by unfold simple; repeat (first | rw [if_pos e] | rw [if_neg (by omega)])) hp
  · rw [e, deedF_4]
    exact (tsub_any ht x (hx.a (by omega) (by omega) (by omega) (by omega)) (hx.b (.inl (by omega))) (hx.c (by omega))).mono fun _ _ hp => go (by omega) (by unfold simple; repeat (first | rw [if_pos e] | rw [if_neg (by omega)])) hp
  · rw [e, deedF_5]
    exact (tmul_any ht x (hx.a (by omega) (by omega) (by omega) (by omega)) (hx.b (.inl (by omega))) (hx.c (by omega))).mono fun _ _ hp => go (by omega) (by unfold simple; repeat (first | rw [if_pos e] | rw [if_neg (by omega)])) hp
  · rw [e, deedF_6]
    by_cases hz : rg T x.f3 = 0
    · exact (tdiv_no ht x (hx.a (by omega) (by omega) (by omega) (by omega)) (hx.b (.inl (by omega))) (hx.c (by omega)) hz).mono fun _ _ hp => st (by omega) (by unfold simple; repeat (first | rw [if_pos e] | rw [if_pos hz] | rw [if_neg (by omega)])) hp
    · exact (tdiv_any ht x (hx.a (by omega) (by omega) (by omega) (by omega)) (hx.b (.inl (by omega))) (hx.c (by omega)) hz).mono fun _ _ hp => go (by omega) (by unfold simple; repeat (first | rw [if_pos e] | rw [if_neg hz] | rw [if_neg (by omega)])) hp
  · rw [e, deedF_7]
    exact (tless_any ht x (hx.a (by omega) (by omega) (by omega) (by omega)) (hx.b (.inl (by omega))) (hx.c (by omega))).mono fun _ _ hp => go (by omega) (by unfold simple; repeat (first | rw [if_pos e] | rw [if_neg (by omega)])) hp
  · rw [e, deedF_8]
    exact (tsame_any ht x (hx.a (by omega) (by omega) (by omega) (by omega)) (hx.b (.inl (by omega))) (hx.c (by omega))).mono fun _ _ hp => go (by omega) (by unfold simple; repeat (first | rw [if_pos e] | rw [if_neg (by omega)])) hp
  · rw [e, deedF_9]
    exact (tjump_any ht x).mono fun _ _ hp => go (by omega) (by unfold simple; repeat (first | rw [if_pos e] | rw [if_neg (by omega)])) hp
  · rw [e, deedF_10]
    exact (tzero_any ht x (hx.a (by omega) (by omega) (by omega) (by omega))).mono fun _ _ hp => go (by omega) (by unfold simple; repeat (first | rw [if_pos e] | rw [if_neg (by omega)])) hp
  · rw [e, deedF_11]
    rw [stepP_spawn e]
    exact tspawn_any ⟨h.hl, h.hB, h.hlo, h.hgi, h.hti, h.hM, h.hdp, h.hp, h.hcp, h.hcn, h.hx, .inl e, h.hleft, h.hk⟩ hg ht
  · rw [e, deedF_12]
    refine (sync_any ht x h.hti.wait (by have h1 := h.hti.wl; have h2 := h.hti.kids; have h3 := h.hgi.log; have h4 := h.hM; omega)).mono fun _ _ hp => ?_
    exact StepPost.go (stepP_go (by omega) (by unfold simple; repeat (first | rw [if_pos e] | rw [if_neg (by omega)]))) (task_go hg ht hlo hp.1 hp.2.1 hp.2.2 (.inr rfl))
  · rw [e, deedF_13]
    rw [stepP_future e]
    exact tfuture_any (hx.a13 e) ⟨h.hl, h.hB, h.hlo, h.hgi, h.hti, h.hM, h.hdp, h.hp, h.hcp, h.hcn, h.hx, .inr e, h.hleft, h.hk⟩ hg ht
  · rw [e, deedF_14]
    cases hz : (hd T x.f2).1 with
    | true => exact (ttouch_any ht x (hx.a (by omega) (by omega) (by omega) (by omega)) (hx.b14 e) hz).mono fun _ _ hp => go (by omega) (by unfold simple; repeat (first | rw [if_pos e] | rw [if_pos hz] | rw [if_neg (by omega)])) hp
    | false => exact (ttouch_no ht x (hx.b14 e) hz).mono fun _ _ hp => st (by omega) (by unfold simple; repeat (first | rw [if_pos e] | rw [if_neg (by rw [hz]; decide)] | rw [if_neg (by omega)])) hp
  · rw [e, deedF_15]
    refine (temit_any hg ht hlo x (hx.a (by omega) (by omega) (by omega) (by omega)) (by have h3 := h.hgi.told; have h4 := h.hM; omega)).mono fun _ _ hp => ?_
    exact StepPost.go (by unfold stepP; rw [if_neg (by omega), if_pos e]) hp
  · rw [e, deedF_16]
    exact (tfail_any ht x).mono fun _ _ hp => st (by omega) (by unfold simple; repeat (first | rw [if_neg (by omega)])) hp
end
/-! ### the table -/
theorem zeroF (w : World) : (zeroValue 175).run Try.prog w = .ok .nilFunc w := by kernel_rfl
def DeedAt (mb : Nat) (w : World) : Prop := ∃ D : DataW Unit, w.ownsMap Try.prog 3 Rfn mb 16 D ∧ ∀ op : Int, 1 ≤ op → op ≤ 16 → D.atKey (.int .i64 op) (.lit (.int .i64 (-1))) = .lit (.int .i64 (deedF op))
theorem DeedAt.heap {mb : Nat} {w w1 : World} (h : DeedAt mb w) (hk : w1.heap[mb]? = w.heap[mb]?) : DeedAt mb w1 := by
  obtain ⟨D, ⟨es, clock, h1, h2⟩, h3⟩ := h
  exact ⟨D, ⟨es, clock, hk.trans h1, h2⟩, h3⟩
theorem DeedAt.notCells {mb : Nat} {w : World} (h : DeedAt mb w) : ∀ cs t f, w.heap[mb]? ≠ some (.cells cs t f) := by
  obtain ⟨D, ⟨es, clock, h1, h2⟩, h3⟩ := h
  intro cs t f e
  rw [h1] at e; cases e
theorem DeedAt.lt {mb : Nat} {w : World} (h : DeedAt mb w) : mb < w.heap.size := by
  obtain ⟨D, hm, _⟩ := h
  exact hm.lt
theorem DeedAt.look {mb : Nat} {w : World} (h : DeedAt mb w) (op : Int) (h1 : 1 ≤ op) (h2 : op ≤ 16) : (Instr.lookup 172 (.map (some mb)) (.int .i64 op) false).run Try.prog w = .ok (.func (.func (deedF op)) #[] #[]) w := by
  obtain ⟨D, hm, hD⟩ := h
  obtain ⟨v, ps, hrun, hv⟩ := hm.lookup law3 Try.underlying172 (zeroF w) (zd := .lit (.int .i64 (-1))) (zp := []) rfl (key := .int .i64 op) (kl := .int .i64 op) (keyOf_int_mk Try.underlying3 (WalkArith.wf_i64 (by omega)))
  rw [hD op h1 h2] at hv
  rw [hrun, Rfn_inv hv]
/-- the table as_ it is filled. -/
structure TabI (w : World) (mb n : Nat) (w' : World) : Prop where
  map : ∃ D : DataW Unit, w'.ownsMap Try.prog 3 Rfn mb n D ∧ ∀ op : Int, 1 ≤ op → op ≤ n → D.atKey (.int .i64 op) (.lit (.int .i64 (-1))) = .lit (.int .i64 (deedF op))
  below : Below w.heap.size w w'
  mb_ : mb = w.heap.size
theorem TabI.put {w w1 w2 : World} {mb n : Nat} (h : TabI w mb n w1) {D : DataW Unit} (hD : ∀ op : Int, 1 ≤ op → op ≤ n → D.atKey (.int .i64 op) (.lit (.int .i64 (-1))) = .lit (.int .i64 (deedF op))) (hi : IsMap D) (hm : w2.ownsMap Try.prog 3 Rfn mb (n + 1) (D.put (.int .i64 ((n : Int) + 1)) (.lit (.int .i64 (deedF ((n : Int) + 1)))))) (hg : w1.grownBy w2 (some mb)) : TabI w mb (n + 1) w2 := by
  refine ⟨⟨_, hm, fun op h1 h2 => ?_⟩, h.below.grown hg h.below.size (fun j hj => by cases hj; rw [h.mb_]; exact Nat.le_refl _), h.mb_⟩
  by_cases e : (n : Int) + 1 = op
  · subst e
    rw [atKey_put_same hi (by simp [WideAt.IsKeyLit])]
  · rw [atKey_put_other (by simp; exact fun h => e h.symm), hD op h1 (by omega)]
def DeedsP (w : World) (e : Ending) (w' : World) : Prop := e = .returned (.map (some w.heap.size)) ∧ Below w.heap.size w w' ∧ DeedAt w.heap.size w'
set_option maxRecDepth 100000 in
set_option maxHeartbeats 8000000 in
theorem deeds_any (w : World) : Calls Try.prog 73 #[] w (DeedsP w) := by
  have hmm := @run_makeMap Try.prog
  have H0 := Aside0.mk (show TabI w w.heap.size 0 (w.alloc (.map #[] 0)) from ⟨⟨.map [], World.ownsMap_made _ _ _ _, fun op h1 h2 => by omega⟩, (Below.refl _ _).alloc (Nat.le_refl _) _, rfl⟩)
  go_enter Try.func73, Try.ntmps73
  go_wp2_with (first | (obtain ⟨D, hm, hD⟩ := H0.out.map; refine wpList_insert_own _ rfl (.tmp 1) _ _ 172 rfl 3 175 law3 Try.underlying172 Rfn w.heap.size 0 D rfl hm (by unfold maxLen; decide) (.int .i64 1) (.func (.func 96) #[] #[]) (.int .i64 1) rfl rfl (keyOf_int_mk Try.underlying3 (by decide)) (.lit (.int .i64 96)) [] (Rfn_mk 96) ?_; intro w1 hm1 hg1; have H1 := Aside0.mk (H0.out.put hD hm.isMap (w2 := w1) hm1 hg1); clear hm hD hm1 hg1) | (obtain ⟨D, hm, hD⟩ := H1.out.map; refine wpList_insert_own _ rfl (.tmp 1) _ _ 172 rfl 3 175 law3 Try.underlying172 Rfn w.heap.size 1 D rfl hm (by unfold maxLen; decide) (.int .i64 2) (.func (.func 97) #[] #[]) (.int .i64 2) rfl rfl (keyOf_int_mk Try.underlying3 (by decide)) (.lit (.int .i64 97)) [] (Rfn_mk 97) ?_; intro w2 hm1 hg1; have H2 := Aside0.mk (H1.out.put hD hm.isMap (w2 := w2) hm1 hg1); clear hm hD hm1 hg1) | (obtain ⟨D, hm, hD⟩ := H2.out.map; refine wpList_insert_own _ rfl (.tmp 1) _ _ 172 rfl 3 175 law3 Try.underlying172 Rfn w.heap.size 2 D rfl hm (by unfold maxLen; decide) (.int .i64 3) (.func (.func 98) #[] #[]) (.int .i64 3) rfl rfl (keyOf_int_mk Try.underlying3 (by decide)) (.lit (.int .i64 98)) [] (Rfn_mk 98) ?_; intro w3 hm1 hg1; have H3 := Aside0.mk (H2.out.put hD hm.isMap (w2 := w3) hm1 hg1); clear hm hD hm1 hg1) | (obtain ⟨D, hm, hD⟩ := H3.out.map; refine wpList_insert_own _ rfl (.tmp 1) _ _ 172 rfl 3 175 law3 Try.underlying172 Rfn w.heap.size 3 D rfl hm (by unfold maxLen; decide) (.int .i64 4) (.func (.func 99) #[] #[]) (.int .i64 4) rfl rfl (keyOf_int_mk Try.underlying3 (by decide)) (.lit (.int .i64 99)) [] (Rfn_mk 99) ?_; intro w4 hm1 hg1; have H4 := Aside0.mk (H3.out.put hD hm.isMap (w2 := w4) hm1 hg1); clear hm hD hm1 hg1) | (obtain ⟨D, hm, hD⟩ := H4.out.map; refine wpList_insert_own _ rfl (.tmp 1) _ _ 172 rfl 3 175 law3 Try.underlying172 Rfn w.heap.size 4 D rfl hm (by unfold maxLen; decide) (.int .i64 5) (.func (.func 100) #[] #[]) (.int .i64 5) rfl rfl (keyOf_int_mk Try.underlying3 (by decide)) (.lit (.int .i64 100)) [] (Rfn_mk 100) ?_; intro w5 hm1 hg1; have H5 := Aside0.mk (H4.out.put hD hm.isMap (w2 := w5) hm1 hg1); clear hm hD hm1 hg1) | (obtain ⟨D, hm, hD⟩ := H5.out.map; refine wpList_insert_own _ rfl (.tmp 1) _ _ 172 rfl 3 175 law3 Try.underlying172 Rfn w.heap.size 5 D rfl hm (by unfold maxLen; decide) (.int .i64 6) (.func (.func 101) #[] #[]) (.int .i64 6) rfl rfl (keyOf_int_mk Try.underlying3 (by decide)) (.lit (.int .i64 101)) [] (Rfn_mk 101) ?_; intro w6 hm1 hg1; have H6 := Aside0.mk (H5.out.put hD hm.isMap (w2 := w6) hm1 hg1); clear hm hD hm1 hg1) | (obtain ⟨D, hm, hD⟩ := H6.out.map; refine wpList_insert_own _ rfl (.tmp 1) _ _ 172 rfl 3 175 law3 Try.underlying172 Rfn w.heap.size 6 D rfl hm (by unfold maxLen; decide) (.int .i64 7) (.func (.func 102) #[] #[]) (.int .i64 7) rfl rfl (keyOf_int_mk Try.underlying3 (by decide)) (.lit (.int .i64 102)) [] (Rfn_mk 102) ?_; intro w7 hm1 hg1; have H7 := Aside0.mk (H6.out.put hD hm.isMap (w2 := w7) hm1 hg1); clear hm hD hm1 hg1) | (obtain ⟨D, hm, hD⟩ := H7.out.map; refine wpList_insert_own _ rfl (.tmp 1) _ _ 172 rfl 3 175 law3 Try.underlying172 Rfn w.heap.size 7 D rfl hm (by unfold maxLen; decide) (.int .i64 8) (.func (.func 103) #[] #[]) (.int .i64 8) rfl rfl (keyOf_int_mk Try.underlying3 (by decide)) (.lit (.int .i64 103)) [] (Rfn_mk 103) ?_; intro w8 hm1 hg1; have H8 := Aside0.mk (H7.out.put hD hm.isMap (w2 := w8) hm1 hg1); clear hm hD hm1 hg1) | (obtain ⟨D, hm, hD⟩ := H8.out.map; refine wpList_insert_own _ rfl (.tmp 1) _ _ 172 rfl 3 175 law3 Try.underlying172 Rfn w.heap.size 8 D rfl hm (by unfold maxLen; decide) (.int .i64 9) (.func (.func 104) #[] #[]) (.int .i64 9) rfl rfl (keyOf_int_mk Try.underlying3 (by decide)) (.lit (.int .i64 104)) [] (Rfn_mk 104) ?_; intro w9 hm1 hg1; have H9 := Aside0.mk (H8.out.put hD hm.isMap (w2 := w9) hm1 hg1); clear hm hD hm1 hg1) | (obtain ⟨D, hm, hD⟩ := H9.out.map; refine wpList_insert_own _ rfl (.tmp 1) _ _ 172 rfl 3 175 law3 Try.underlying172 Rfn w.heap.size 9 D rfl hm (by unfold maxLen; decide) (.int .i64 10) (.func (.func 105) #[] #[]) (.int .i64 10) rfl rfl (keyOf_int_mk Try.underlying3 (by decide)) (.lit (.int .i64 105)) [] (Rfn_mk 105) ?_; intro w10 hm1 hg1; have H10 := Aside0.mk (H9.out.put hD hm.isMap (w2 := w10) hm1 hg1); clear hm hD hm1 hg1) | (obtain ⟨D, hm, hD⟩ := H10.out.map; refine wpList_insert_own _ rfl (.tmp 1) _ _ 172 rfl 3 175 law3 Try.underlying172 Rfn w.heap.size 10 D rfl hm (by unfold maxLen; decide) (.int .i64 11) (.func (.func 106) #[] #[]) (.int .i64 11) rfl rfl (keyOf_int_mk Try.underlying3 (by decide)) (.lit (.int .i64 106)) [] (Rfn_mk 106) ?_; intro w11 hm1 hg1; have H11 := Aside0.mk (H10.out.put hD hm.isMap (w2 := w11) hm1 hg1); clear hm hD hm1 hg1) | (obtain ⟨D, hm, hD⟩ := H11.out.map; refine wpList_insert_own _ rfl (.tmp 1) _ _ 172 rfl 3 175 law3 Try.underlying172 Rfn w.heap.size 11 D rfl hm (by unfold maxLen; decide) (.int .i64 12) (.func (.func 75) #[] #[]) (.int .i64 12) rfl rfl (keyOf_int_mk Try.underlying3 (by decide)) (.lit (.int .i64 75)) [] (Rfn_mk 75) ?_; intro w12 hm1 hg1; have H12 := Aside0.mk (H11.out.put hD hm.isMap (w2 := w12) hm1 hg1); clear hm hD hm1 hg1) | (obtain ⟨D, hm, hD⟩ := H12.out.map; refine wpList_insert_own _ rfl (.tmp 1) _ _ 172 rfl 3 175 law3 Try.underlying172 Rfn w.heap.size 12 D rfl hm (by unfold maxLen; decide) (.int .i64 13) (.func (.func 107) #[] #[]) (.int .i64 13) rfl rfl (keyOf_int_mk Try.underlying3 (by decide)) (.lit (.int .i64 107)) [] (Rfn_mk 107) ?_; intro w13 hm1 hg1; have H13 := Aside0.mk (H12.out.put hD hm.isMap (w2 := w13) hm1 hg1); clear hm hD hm1 hg1) | (obtain ⟨D, hm, hD⟩ := H13.out.map; refine wpList_insert_own _ rfl (.tmp 1) _ _ 172 rfl 3 175 law3 Try.underlying172 Rfn w.heap.size 13 D rfl hm (by unfold maxLen; decide) (.int .i64 14) (.func (.func 108) #[] #[]) (.int .i64 14) rfl rfl (keyOf_int_mk Try.underlying3 (by decide)) (.lit (.int .i64 108)) [] (Rfn_mk 108) ?_; intro w14 hm1 hg1; have H14 := Aside0.mk (H13.out.put hD hm.isMap (w2 := w14) hm1 hg1); clear hm hD hm1 hg1) | (obtain ⟨D, hm, hD⟩ := H14.out.map; refine wpList_insert_own _ rfl (.tmp 1) _ _ 172 rfl 3 175 law3 Try.underlying172 Rfn w.heap.size 14 D rfl hm (by unfold maxLen; decide) (.int .i64 15) (.func (.func 109) #[] #[]) (.int .i64 15) rfl rfl (keyOf_int_mk Try.underlying3 (by decide)) (.lit (.int .i64 109)) [] (Rfn_mk 109) ?_; intro w15 hm1 hg1; have H15 := Aside0.mk (H14.out.put hD hm.isMap (w2 := w15) hm1 hg1); clear hm hD hm1 hg1) | (obtain ⟨D, hm, hD⟩ := H15.out.map; refine wpList_insert_own _ rfl (.tmp 1) _ _ 172 rfl 3 175 law3 Try.underlying172 Rfn w.heap.size 15 D rfl hm (by unfold maxLen; decide) (.int .i64 16) (.func (.func 110) #[] #[]) (.int .i64 16) rfl rfl (keyOf_int_mk Try.underlying3 (by decide)) (.lit (.int .i64 110)) [] (Rfn_mk 110) ?_; intro w16 hm1 hg1; have H16 := Aside0.mk (H15.out.put hD hm.isMap (w2 := w16) hm1 hg1); clear hm hD hm1 hg1))
  go_ret
  obtain ⟨D, hm, hD⟩ := H16.out.map
  exact ⟨rfl, H16.out.below, D, hm, fun op h1 h2 => hD op h1 (by omega)⟩
end Go.Proofs.Ytbekjccehhaljaa.H

set_option linter.unusedVariables false
set_option linter.unusedSimpArgs false
namespace Go.Proofs.Ytbekjccehhaljaa.H
open Go.RowKit Go.Hay Go.Proofs.YtbekjccehhaljaaW.PrintWords Go.Proofs.YtbekjccehhaljaaW.PrintLast Go.Proofs.YtbekjccehhaljaaW.PrintMore
/-- what is fixed in a task's run. -/
structure Rn (c : Cn) (l : List S64) (M : Nat) (tb : Nat) (A : Option Addr) (cp : Nat) (path : List Int) (f : Nat) (code : List S61) (Ac : Option Addr) (cc me : Nat) : Prop where
  hl : POk l
  hlo : c.w0.heap.size ≤ tb
  hM : M ≤ 1000000
  hdp : c.depth ≤ 900
  hb : 0 ≤ c.budget ∧ c.budget ≤ 1000000
  hcp : path.length ≤ cp
  hcn : A = none → cp = 0
  hf : ∃ h : f < l.length, code = l[f].f1
  hc : k61.C c.w0 Ac code.length code
  hcc : code.length ≤ cc
/-- a round's beginning. -/
def RunI (c : Cn) (l : List S64) (M tb : Nat) (A : Option Addr) (cp : Nat) (path : List Int) (code : List S61) (me mb : Nat) (S : Nat → Prop) (w : World) (r : Out × Gs) (gk : Nat) (wr : World) : Prop :=
  ∃ (T : Ts) (G : Gs) (ents : List Ent) (vt vl vw : Value), ES c l G ents vt vl wr ∧ TB tb c.wb (.slice A path.length cp) T vw me c.B wr ∧ GInv M c.budget G ∧ TInv code c.depth path me T G ∧ G.left < gk ∧ Keep S w wr ∧ (∀ q, PA c tb vt vl vw q → S q ∨ w.heap.size ≤ q) ∧ DeedAt mb wr ∧ PathAt wr A path ∧ runP l c.budget c.depth gk G path code me T = r
/-- what a run comes to. -/
def RunP (c : Cn) (l : List S64) (S : Nat → Prop) (r : Out × Gs) (w : World) (e : Ending) (w' : World) : Prop := EndP c l S r.1 r.2 w e w'
section
variable {c : Cn} {l : List S64} {M k tb cp f cc me : Nat} {A Ac : Option Addr} {path : List Int} {G : Gs} {ents : List Ent} {vt vl vw : Value} {w : World} {T : Ts} {code : List S61}
theorem runP_go {b d : Int} {x : S61} {T' : Ts} {G' : Gs} {gk : Nat} (h1 : (G.log.getD me ([], 0)).2 ≠ b) (h2 : G.left ≠ 0) (hx : rd_T61 code T.at_ = x) (h3 : x.f0 ≠ 17) (hs : stepP l d (runP l b d gk) path x { T with at_ := T.at_ + 1 } { G with left := G.left - 1, log := bump G.log me } = .go T' G') : runP l b d (gk + 1) G path code me T = runP l b d gk G' path code me T' := by
  rw [runP.eq_2, if_neg h1, if_neg h2, hx, if_neg h3, hs]
theorem runP_stop {b d : Int} {x : S61} {o : Out} {G' : Gs} {gk : Nat} (h1 : (G.log.getD me ([], 0)).2 ≠ b) (h2 : G.left ≠ 0) (hx : rd_T61 code T.at_ = x) (h3 : x.f0 ≠ 17) (hs : stepP l d (runP l b d gk) path x { T with at_ := T.at_ + 1 } { G with left := G.left - 1, log := bump G.log me } = .stop o G') : runP l b d (gk + 1) G path code me T = (o, G') := by
  rw [runP.eq_2, if_neg h1, if_neg h2, hx, if_neg h3, hs]
theorem runP_ret {b d : Int} {x : S61} {gk : Nat} (h1 : (G.log.getD me ([], 0)).2 ≠ b) (h2 : G.left ≠ 0) (hx : rd_T61 code T.at_ = x) (h3 : x.f0 = 17) : runP l b d (gk + 1) G path code me T = (.val (rg (syncP { T with at_ := T.at_ + 1 }) x.f1), { G with left := G.left - 1, log := bump G.log me }) := by
  rw [runP.eq_2, if_neg h1, if_neg h2, hx, if_pos h3]
theorem stepP_noval {d : Int} {rec : Gs → List Int → List S61 → Nat → Ts → Out × Gs} {x : S61} {o : Out} {G' : Gs} (h : stepP l d rec path x T G = .stop o G') : ∀ v, o ≠ .val v := by
  unfold stepP at h
  split at h
  · split at h
    · cases h; intro v e; cases e
    · generalize rec _ _ _ _ _ = r at h
      obtain ⟨o2, G2⟩ := r
      cases o2 with
      | val v => cases h
      | fail why => cases h; intro v e; cases e
      | long => cases h; intro v e; cases e
  · split at h
    · cases h
    · split at h
      · cases h
      · cases h; intro v e; cases e
theorem deed_enter {op : Int} (h : 1 ≤ op ∧ op ≤ 16) (args : Array Value) (w : World) : (callFunc (deedF op) args).run Try.prog w = .ok (.enter (deedF op) args) w := by
  have hcases : op = 1 ∨ op = 2 ∨ op = 3 ∨ op = 4 ∨ op = 5 ∨ op = 6 ∨ op = 7 ∨ op = 8 ∨ op = 9 ∨ op = 10 ∨ op = 11 ∨ op = 12 ∨ op = 13 ∨ op = 14 ∨ op = 15 ∨ op = 16 := by omega
  rcases hcases with rfl | rfl | rfl | rfl | rfl | rfl | rfl | rfl | rfl | rfl | rfl | rfl | rfl | rfl | rfl | rfl
  · rw [deedF_1]; exact Try.call96 args w
  · rw [deedF_2]; exact Try.call97 args w
  · rw [deedF_3]; exact Try.call98 args w
  · rw [deedF_4]; exact Try.call99 args w
  · rw [deedF_5]; exact Try.call100 args w
  · rw [deedF_6]; exact Try.call101 args w
  · rw [deedF_7]; exact Try.call102 args w
  · rw [deedF_8]; exact Try.call103 args w
  · rw [deedF_9]; exact Try.call104 args w
  · rw [deedF_10]; exact Try.call105 args w
  · rw [deedF_11]; exact Try.call106 args w
  · rw [deedF_12]; exact Try.call75 args w
  · rw [deedF_13]; exact Try.call107 args w
  · rw [deedF_14]; exact Try.call108 args w
  · rw [deedF_15]; exact Try.call109 args w
  · rw [deedF_16]; exact Try.call110 args w
def NextInv (M : Nat) (budget depth : Int) (code : List S61) (path : List Int) (me : Nat) (G : Gs) (r : SR) : Prop :=
  match r with
  | .go T' G' => GInv M budget G' ∧ TInv code depth path me T' G' ∧ G'.left ≤ G.left
  | .stop _ _ => True
/-- any operation but ret, behind the counting. -/
theorem step_all {x : S61} (hl : POk l) (hB : BeginC c l M k) (hlo : c.w0.heap.size ≤ tb) (hgi : GInv M c.budget G) (hti : TInv code c.depth path me T G) (hM : M ≤ 1000000) (hdp : c.depth ≤ 900) (hb : 0 ≤ c.budget) (hp : PathAt w A path) (hcp : path.length ≤ cp) (hcn : A = none → cp = 0) (hx : IOk l code.length x) (hnext : x.f0 ≠ 9 → x.f0 ≠ 16 → x.f0 ≠ 17 → T.at_ + 1 < code.length) (hleft : G.log.length + 1 + G.left ≤ M) (htold : G.told.length + 1 + G.left ≤ M) (hk : G.left < k)
    (hg : ES c l G ents vt vl w) (ht : TB tb c.wb (.slice A path.length cp) { T with at_ := T.at_ + 1 } vw me c.B w) (h17 : x.f0 ≠ 17) :
    Calls Try.prog (deedF x.f0) #[.pointer (some ⟨tb, 0, none⟩), xv x] w (StepPost c l tb (.slice A path.length cp) me (PA c tb vt vl vw) (stepP l c.depth (runP l c.budget c.depth k) path x { T with at_ := T.at_ + 1 } G) w) ∧
      NextInv M c.budget c.depth code path me G (stepP l c.depth (runP l c.budget c.depth k) path x { T with at_ := T.at_ + 1 } G) := by
  by_cases h9 : x.f0 = 9
  · have hs : simple x { T with at_ := T.at_ + 1 } = .go { T with at_ := x.f4 } := by
      unfold simple
      repeat (first | rw [if_pos h9] | rw [if_neg (by omega)])
    refine ⟨?_, ?_⟩
    · rw [h9, deedF_9]
      exact (tjump_any ht x).mono fun _ _ hp => StepPost.go (stepP_go (by omega) hs) (task_go hg ht hlo hp.1 hp.2.1 hp.2.2 (.inl rfl))
    · rw [stepP_go (by omega) hs]
      exact ⟨hgi, ⟨hti.rl, hti.hl, hti.wait, hx.k (.inl h9), hti.kids, hti.wl, hti.me_, hti.path_⟩, Nat.le_refl _⟩
  by_cases h16 : x.f0 = 16
  · have hs : simple x { T with at_ := T.at_ + 1 } = .stop x.f4 := by
      unfold simple
      repeat (first | rw [if_neg (by omega)])
    refine ⟨?_, ?_⟩
    · rw [h16, deedF_16]
      exact (tfail_any ht x).mono fun _ _ hp => StepPost.stop (stepP_stop (by omega) hs) (task_stop hg hp.1 hp.2 (fun q hq => .inl hq))
    · rw [stepP_stop (by omega) hs]
      trivial
  have hti2 : TInv code c.depth path me { T with at_ := T.at_ + 1 } G := ⟨hti.rl, hti.hl, hti.wait, ⟨by have := hti.at_; show 0 ≤ T.at_ + 1; omega, hnext h9 h16 h17⟩, hti.kids, hti.wl, hti.me_, hti.path_⟩
  refine ⟨step_any ⟨hl, hB, hlo, hgi, hti2, hM, hdp, hp, hcp, hcn, hx, hleft, hk⟩ hg ht h17, ?_⟩
  have h := step_inv hl hb (run_ok hl hb k) hx hgi hti2 hleft htold
  generalize stepP l c.depth (runP l c.budget c.depth k) path x { T with at_ := T.at_ + 1 } G = r at h ⊢
  cases r with
  | go T' G' => exact ⟨h.1, h.2.1, h.2.2.2⟩
  | stop o G' => trivial
set_option maxRecDepth 100000 in
set_option maxHeartbeats 8000000 in
theorem run_any (hR : Rn c l M tb A cp path f code Ac cc me) (hB : ∀ j, j < k → BeginC c l M j) (hg : ES c l G ents vt vl w) (ht : TB tb c.wb (.slice A path.length cp) T vw me c.B w) (hgi : GInv M c.budget G) (hti : TInv code c.depth path me T G) (hk : G.left < k) (hp : PathAt w A path) :
    Calls Try.prog 53 #[.pointer (some ⟨tb, 0, none⟩), .slice Ac code.length cc] w (RunP c l (PA c tb vt vl vw) (runP l c.budget c.depth k G path code me T) w) := by
  obtain ⟨r, hr⟩ : ∃ r, r = runP l c.budget c.depth k G path code me T := ⟨_, rfl⟩
  rw [← hr]
  obtain ⟨S, hS⟩ : ∃ S, S = PA c tb vt vl vw := ⟨_, rfl⟩
  rw [← hS]
  have HSS := Aside0.mk hS
  clear hS
  have H0 := Aside0.mk (And.intro hR (And.intro hB (And.intro hg (And.intro ht (And.intro hgi (And.intro hti (And.intro hk (And.intro hp hr))))))))
  clear hr hR hB hg ht hgi hti hk hp
  go_enter Try.func53, Try.ntmps53
  go_wp2_with (refine (deeds_any _).mono ?_; rintro e w1 ⟨rfl, hb1, hD1⟩)
  have H1 := Aside0.mk (show RunI c l M tb A cp path code me w.heap.size S w r k w1 from by
    obtain ⟨hR, hB, hg, ht, hgi, hti, hk, hp, hr⟩ := H0.out
    exact ⟨T, G, ents, vt, vl, vw, hg.below hb1, ht.below hb1, hgi, hti, hk, Keep.of_below hb1 _, fun q hq => .inl (by rw [HSS.out]; exact hq), hD1, hp.below hb1, hr.symm⟩)
  clear hb1 hD1
  go_loopg [] k (fun gk wr => gk ≤ k ∧ Aside0 (RunI c l M tb A cp path code me w.heap.size S w r gk wr))
  case atStart => exact ⟨Nat.le_refl _, H1⟩
  case round =>
    clear H1 HSS
    obtain ⟨hgk, HI⟩ := hrel
    have hR := H0.out.1
    have hB := H0.out.2.1
    obtain ⟨T, G, ents, vt, vl, vw, hE, hT, hgi, hti, hlk, hK, hP, hD, hp, hr⟩ := HI.out
    cases gk with
    | zero => exact absurd hlk (Nat.not_lt_zero _)
    | succ gk =>
    have hme := hti.me_
    have hmel : me < ents.length := by rw [hE.eg.ok.1]; exact hme
    obtain ⟨g, cl, hv, hvo⟩ := hE.eg.row (Nat.lt_of_le_of_lt (Nat.zero_le _) hmel)
    subst hv
    have t0 := hT.fix.1
    have t20 := hT.fix.2.2.2.2.1
    have t21 := hT.fix.2.2.2.2.2
    have q7 := blk_cell hE.eg.node 7
    have q1 := blk_cell hE.eg.node 1
    have q3 := blk_cell hE.eg.node 3
    obtain ⟨e0, e1, f0, f1⟩ := ent_at hE.eg.log hmel
    obtain ⟨s, hs⟩ : ∃ s, s = ents[me].s := ⟨_, rfl⟩
    have hs2 : s = (G.log.getD me ([], 0)).2 := by
      rw [hs, (hE.eg.ok.2 me hmel hme).1, List.getD_eq_getElem?_getD, List.getElem?_eq_getElem hme]; rfl
    rw [← hs] at e1
    have hmm : ((me : Int) < (ents.length : Nat)) = True := eq_true (by omega)
    have HS := Aside0.mk (And.intro hs2 (And.intro hme hmel))
    have HE := Aside0.mk (And.intro hE (And.intro hT (And.intro hgi (And.intro hti (And.intro hlk (And.intro hK (And.intro hP (And.intro hD (And.intro hp hr)))))))))
    have HRB := Aside0.mk (And.intro hR hB)
    clear hR hB hE hT hgi hti hlk hK hP hD hp hr hs hs2 hme hmel hvo e0 f0 f1 HI
    by_cases hbu : s = c.budget
    · have hbb : (s == c.budget) = true := by simpa using hbu
      have hbb2 : (s = c.budget) = True := eq_true hbu
      have HBU := Aside0.mk hbu
      clear hbu
      go_wp2_with fail
      go_quiet (fail)
      go_wp2_with fail
      go_quiet (fail)
      go_wp2_with fail
      refine (fail_any 3 _).mono ?_
      rintro e w' ⟨rfl, hb⟩
      refine ⟨rfl, ?_⟩
      obtain ⟨hE, hT, hgi, hti, hlk, hK, hP, hD, hp, hr⟩ := HE.out
      have hb0 := (pw_below_drewN (Below.refl wr.heap.size wr) _).trans (hb.mono (pw_below_drewN (Below.refl wr.heap.size wr) _).size)
      have e9 : r = (.fail 3, G) := by rw [← hr]; unfold runP; rw [if_pos (HS.out.1.symm.trans HBU.out)]
      rw [e9]
      exact ⟨rfl, hK.trans (Keep.of_below hb0 _), ents, vt, _, hE.below hb0, fun q hq => hP q (.inl hq)⟩
    · have hbb : (s == c.budget) = false := by simpa using hbu
      have hbb2 : (s = c.budget) = False := eq_false hbu
      have HBU := Aside0.mk hbu
      clear hbu
      by_cases hl0 : G.left = 0
      · have hll : ((G.left : Int) == 0) = true := by simpa using hl0
        have hll2 : ((G.left : Int) = 0) = True := eq_true (by omega)
        have HL := Aside0.mk hl0
        clear hl0
        go_wp2_with fail
        go_quiet (fail)
        go_wp2_with fail
        go_quiet (fail)
        go_wp2_with fail
        refine ⟨rfl, ?_⟩
        obtain ⟨hE, hT, hgi, hti, hlk, hK, hP, hD, hp, hr⟩ := HE.out
        have hb0 := fun n => (pw_below_drewN (Below.refl wr.heap.size wr) n)
        have e9 : r = (.long, G) := by rw [← hr]; unfold runP; rw [if_neg (fun e => HBU.out (HS.out.1.trans e)), if_pos HL.out]
        rw [e9]
        exact ⟨rfl, hK.trans (Keep.of_below (hb0 _) _), ents, vt, _, hE.below (hb0 _), fun q hq => hP q (.inl hq)⟩
      · have hll : ((G.left : Int) == 0) = false := by simpa using hl0
        have hll2 : ((G.left : Int) = 0) = False := eq_false (by omega)
        have HL := Aside0.mk hl0
        clear hl0
        obtain ⟨a1, ha1⟩ : ∃ a1 : Nat, a1 = G.left - 1 := ⟨_, rfl⟩
        have hsb : 0 ≤ s ∧ s ≤ 1000000 := by
          have h9 := HE.out.2.2.1.steps (G.log.getD me ([], 0)) (by rw [List.getD_eq_getElem?_getD, List.getElem?_eq_getElem HS.out.2.1]; exact List.getElem_mem _)
          rw [← HS.out.1] at h9
          have := HRB.out.1.hb; omega
        have hle1 : G.left ≤ 1000000 := by have h9 := HE.out.2.2.1.log; have := HRB.out.1.hM; omega
        have hw1 : IntKind.i64.wrap ((G.left : Int) - 1) = (a1 : Int) := (IntWalk.i64_in _ (by omega)).trans (by have := HL.out; omega)
        have hw2 : IntKind.i64.wrap (s + 1) = s + 1 := IntWalk.i64_in _ (by omega)
        have HA1 := Aside0.mk ha1
        clear hle1 ha1
        go_wp2_with fail
        go_quiet (fail)
        generalize nq = n1
        go_wp2_with fail
        go_quiet (fail)
        go_upto_region 7 with (fail)
        obtain ⟨W1, hW1⟩ : ∃ W1, W1 = wr.drewN (n1 + nq) := ⟨_, rfl⟩
        have hb1 : Below wr.heap.size wr W1 := by rw [hW1]; exact pw_below_drewN (Below.refl _ _) _
        rw [← hW1]
        have hx1 : ∀ a v, wr.cell? a = some v → W1.cell? a = some v := fun a v h => by rw [hW1]; exact h
        clear hW1 hbb hbb2 hll hll2 q1 q7 t21 hmm hsb
        have hE1 := HE.out.1.below hb1
        have hT1 := HE.out.2.1.below hb1
        have hmel := HS.out.2.2
        have t0 := hx1 _ _ t0
        have q3 := hx1 _ _ q3
        obtain ⟨W2, hW2⟩ : ∃ W2, W2 = W1.setCell ⟨c.wb, 3, none⟩ (.int .i64 (a1 : Int)) := ⟨_, rfl⟩
        have hk2 : Keep (fun q => q = c.wb) W1 W2 := by rw [hW2]; exact (Keep.refl (fun q => q = c.wb) W1).set (p := ⟨c.wb, 3, none⟩) (.inr rfl) _
        have hg2 := hE1.eg.setLeft a1 _ rfl
        rw [← hW2] at hg2
        have hB2 : c.w0.heap.size ≤ c.wb := Nat.le_trans hE1.lo hE1.eg.lo
        have hE2 := hE1.turn hg2 hk2 (fun q hq e => by subst e; omega)
        have hT2 := hT1.keep hk2 (fun q hq e => apart hE1.eg hT1 q (.inl e) hq)
        obtain ⟨e0, e1, f0, f1⟩ := ent_at hE2.eg.log hmel
        have z3 := blk_frozen hE1.eg.node 3
        have H2 := Aside0.mk (And.intro hb1 (And.intro hk2 (And.intro hE2 (And.intro hT2 (And.intro hE1 hT1)))))
        have HW2 := Aside0.mk hW2
        clear hx1 hE1 hT1 hmel hk2 hg2 hB2 hE2 hT2 hb1 e0 e1 f0 f1 hW2 t20
        go_upto_region 8 with (fail)
        rw [← HW2.out]
        have hE2 := H2.out.2.2.1
        have hT2 := H2.out.2.2.2.1
        have hmel := HS.out.2.2
        obtain ⟨e0, e1, f0, f1⟩ := ent_at hE2.eg.log hmel
        have hes : ents[me].s = s := by
          have hmeG := HS.out.2.1
          have h9 : (G.log.getD me ([], 0)).2 = (G.log[me]'hmeG).2 := by rw [List.getD_eq_getElem?_getD, List.getElem?_eq_getElem hmeG]; rfl
          exact (HE.out.1.eg.ok.2 me hmel hmeG).1.trans (h9.symm.trans HS.out.1.symm)
        rw [hes] at e1
        obtain ⟨W3, hW3⟩ : ∃ W3, W3 = W2.setCell ⟨g, me * 2 + 1, none⟩ (.int .i64 (s + 1)) := ⟨_, rfl⟩
        have hk3 : Keep (fun q => q = g) W2 W3 := by rw [hW3]; exact (Keep.refl (fun q => q = g) W2).set (p := ⟨g, me * 2 + 1, none⟩) (.inr rfl) _
        obtain ⟨ents3, hl3, hg3⟩ := hE2.eg.bump rfl hmel (s + 1) (by rw [← HS.out.1])
        rw [← hW3] at hg3
        have hPg : PG c.wb vt (.slice (some ⟨g, 0, none⟩) ents.length cl) g := .inr (.inr rfl)
        have hE3 := hE2.turn hg3 hk3 (fun q hq e => by subst e; have := hE2.pLo q hPg; omega)
        have hT3 := hT2.keep hk3 (fun q hq e => apart hE2.eg hT2 q (by subst e; exact hPg) hq)
        have H3 := Aside0.mk (And.intro hk3 (And.intro hE3 hT3))
        have HW3 := Aside0.mk hW3
        have HL3 := Aside0.mk hl3
        clear hE2 hT2 hmel e0 f0 hes hk3 hg3 hPg hE3 hT3 hW3 HW2 t0 q3 hl3 z3 hw1
        go_upto_region 9 with (fail)
        rw [← HW3.out]
        clear HW3 e1 f1 hw2
        have hE3 := H3.out.2.1
        have hT3 := H3.out.2.2
        have hti := HE.out.2.2.2.1
        obtain ⟨a, ha⟩ : ∃ a : Nat, T.at_ = a := ⟨T.at_.toNat, by have := hti.at_; omega⟩
        have hal : a < code.length := by have := hti.at_; omega
        have hcl : code.length ≤ 64 := by obtain ⟨hf, hc⟩ := HRB.out.1.hf; rw [hc]; exact ((HRB.out.1.hl.fn f hf).2.1).2
        have t0 := hT3.fix.1
        have t20 := hT3.fix.2.2.2.2.1
        rw [ha] at t20
        have z20 := hT3.frozen 20
        have hCC := Kd.C_below HRB.out.1.hc hE3.bl
        obtain ⟨ad, had, hx0, hx1, hx2, hx3, hx4⟩ := at_T61 hCC (a : Int) (by omega) (by omega)
        subst had
        obtain ⟨x, hx⟩ : ∃ x, x = rd_T61 code (a : Int) := ⟨_, rfl⟩
        rw [← hx] at hx0 hx1 hx2 hx3 hx4
        obtain ⟨x0, x1, x2, x3, x4⟩ := x
        simp only [Int.toNat_natCast] at hx0 hx1 hx2 hx3 hx4
        have hmm : ((a : Int) < (code.length : Nat)) = True := eq_true (by omega)
        have hw3 : IntKind.i64.wrap ((a : Int) + 1) = (a : Int) + 1 := IntWalk.i64_in _ (by omega)
        obtain ⟨W4, hW4⟩ : ∃ W4, W4 = W3.alloc (.cells #[.int .i64 x0, .int .i64 x1, .int .i64 x2, .int .i64 x3, .int .i64 x4] 61) := ⟨_, rfl⟩
        have HW4 := Aside0.mk hW4
        have HX := Aside0.mk (And.intro hx (And.intro ha (And.intro hal hcl)))
        have hu61 := Try.underlying61
        clear hW4 hx ha hal hcl hE3 hT3 hti hCC t20 z20
        have t20 := H3.out.2.2.fix.2.2.2.2.1
        rw [HX.out.2.1] at t20
        go_upto_region 10 with (fail)
        rw [← HW4.out]
        obtain ⟨bx, hbx⟩ : ∃ bx, bx = W3.heap.size := ⟨_, rfl⟩
        rw [← hbx]
        have hb4 : Below W3.heap.size W3 W4 := by rw [HW4.out]; exact (Below.refl W3.heap.size W3).alloc (Nat.le_refl _) _
        have h4x : W4.heap[bx]? = some (.cells #[.int .i64 x0, .int .i64 x1, .int .i64 x2, .int .i64 x3, .int .i64 x4] 61 (0, 0)) := by rw [HW4.out, hbx]; exact alloc_blk W3 _
        have hT4 := H3.out.2.2.below hb4
        have hE4 := H3.out.2.1.below hb4
        have hne : bx ≠ tb := fun e => by have h2 := H3.out.2.2.lt tb (.inl rfl); omega
        obtain ⟨W5, hW5⟩ : ∃ W5, W5 = W4.setCell ⟨tb, 20, none⟩ (.int .i64 ((a : Int) + 1)) := ⟨_, rfl⟩
        have hk5 : Keep (fun q => q = tb) W4 W5 := by rw [hW5]; exact (Keep.refl (fun q => q = tb) W4).set (p := ⟨tb, 20, none⟩) (.inr rfl) _
        have hT5 := hT4.setAt ((a : Int) + 1)
        rw [← hW5] at hT5
        have hE5 := hE4.task hT4 HRB.out.1.hlo hk5
        have h5x := hk5.blk h4x hne
        have t0 := hT4.fix.1
        have t20 := hT4.fix.2.2.2.2.1
        rw [HX.out.2.1] at t20
        have z20 := hT4.frozen 20
        have H5 := Aside0.mk (And.intro hb4 (And.intro hk5 (And.intro hE5 (And.intro hT5 (And.intro h5x hbx)))))
        have HW5 := Aside0.mk hW5
        have HW3 := Aside0.mk hw3
        clear hbx hb4 h4x hT4 hE4 hne hk5 hT5 hE5 h5x hW5 hx0 hx1 hx2 hx3 hx4 HW4 hmm
        go_upto_region 11 with (fail)
        rw [← HW5.out]
        clear hw3 HW5 HW3
        have hx := HX.out.1
        have h5x := H5.out.2.2.2.2.1
        have c0 := blk_cell h5x 0
        have c1 := blk_cell h5x 1
        have c2 := blk_cell h5x 2
        have c3 := blk_cell h5x 3
        have c4 := blk_cell h5x 4
        have hIO : IOk l code.length ⟨x0, x1, x2, x3, x4⟩ ∧ (x0 ≠ 9 → x0 ≠ 16 → x0 ≠ 17 → T.at_ + 1 < code.length) := by
          obtain ⟨hf, hc⟩ := HRB.out.1.hf
          have hti := HE.out.2.2.2.1
          have h := next_at HRB.out.1.hl f hf (T := T) hti.at_.1 (by rw [← hc]; exact hti.at_.2)
          rw [← hc, HX.out.2.1, ← HX.out.1] at h
          rw [HX.out.2.1]
          exact h
        have hbi := bump_inv HE.out.2.2.1 HE.out.2.2.2.1.me_ (fun e => HBU.out (HS.out.1.trans e)) HL.out
        rw [← HA1.out] at hbi
        have hkk : Keep (PA c tb vt (.slice (some ⟨g, 0, none⟩) ents.length cl) vw) wr W5 :=
          ((((Keep.of_below H2.out.1 _).trans (H2.out.2.1.mono (fun q _ e => .inl (.inl e)))).trans (H3.out.1.mono (fun q _ e => .inl (.inr (.inr (by rw [e]; rfl)))))).trans (Keep.of_below H5.out.1 _)).trans (H5.out.2.1.mono (fun q _ e => .inr (.inl e)))
        have hti5 : TInv code c.depth path me T { left := a1, told := G.told, log := bump G.log me } := by
          have h := HE.out.2.2.2.1
          exact ⟨h.rl, h.hl, h.wait, h.at_, by rw [bump_len]; exact h.kids, h.wl, by rw [bump_len]; exact h.me_, h.path_⟩
        have hap : ∀ q, PA c tb vt (.slice (some ⟨g, 0, none⟩) ents.length cl) vw q → ∃ cs t f, wr.heap[q]? = some (.cells cs t f) := by
          intro q hq
          rcases hq with hq | hq
          · obtain ⟨cs, t, h, _⟩ := HE.out.1.eg.typed q hq; exact ⟨cs, t, _, h⟩
          · obtain ⟨cs, t, h, _⟩ := HE.out.2.1.typed q hq; exact ⟨cs, t, _, h⟩
        have hD := HE.out.2.2.2.2.2.2.2.1
        have hD5 : DeedAt w.heap.size W5 := hD.heap (hkk.block _ hD.lt (fun hp => by
          obtain ⟨cs, t, f', h⟩ := hap _ hp
          exact hD.notCells cs t f' h))
        have hp5 : PathAt W5 A path := HE.out.2.2.2.2.2.2.2.2.1.keep hkk (fun q cs hq hp => hp.elim (HE.out.1.eg.notPath q cs hq) (HE.out.2.1.notPath q cs hq))
        have H6 := Aside0.mk (And.intro hIO (And.intro hbi (And.intro hkk (And.intro hti5 (And.intro hD5 hp5)))))
        clear t0 t20 z20 hx h5x hIO hbi hkk hti5 hap hD hp5 q3 e1
        by_cases h17 : x0 = 17
        · subst h17
          go_wp2_with fail
          have hti := HE.out.2.2.2.1
          refine (sync_any (x := ⟨17, x1, x2, x3, x4⟩) H5.out.2.2.2.1 hti.wait (by have h1 := hti.wl; have h2 := hti.kids; have h3 := HE.out.2.2.1.log; have h4 := HRB.out.1.hM; show T.wait.length ≤ 1000000; omega)).mono ?_
          rintro e w6 ⟨rfl, hT6, hk6⟩
          have hx1 := H6.out.1.1.a (by show (17 : Int) ≠ 9; decide) (by show (17 : Int) ≠ 12; decide) (by show (17 : Int) ≠ 13; decide) (by show (17 : Int) ≠ 16; decide)
          obtain ⟨b1, rfl⟩ : ∃ b1 : Nat, x1 = b1 := ⟨x1.toNat, by have : 0 ≤ x1 := hx1.1; omega⟩
          have hb1 : b1 < 8 := by have : (b1 : Int) < 8 := hx1.2; omega
          have hbb : ((b1 : Int) < 8) = True := eq_true hx1.2
          have hne : bx ≠ tb := fun e => by have h2 := H3.out.2.2.lt tb (.inl rfl); have h3 := H5.out.2.2.2.2.2; omega
          have c1' := hk6.cell (a := ⟨bx, 1, none⟩) c1 hne
          have r1 := hT6.reg b1 hb1
          have H7 := Aside0.mk (And.intro hT6 hk6)
          clear hti hT6 hk6 hx1 hb1 hne c0 c1 c2 c3 c4
          go_wp2_with fail
          go_quiet (fail)
          go_wp2_with fail
          go_ret
          obtain ⟨hT6, hk6⟩ := H7.out
          obtain ⟨hE, hT, hgi, hti, hlk, hK, hP, hD, hp, hr⟩ := HE.out
          obtain ⟨hIO, hbi, hkk, hti5, hD5, hp5⟩ := H6.out
          have e9 := runP_ret (l := l) (d := c.depth) (gk := gk) (path := path) (fun e => HBU.out (HS.out.1.trans e)) HL.out (by rw [HX.out.2.1, ← HX.out.1]) rfl
          rw [hr, HX.out.2.1, ← HA1.out] at e9
          rw [e9]
          have hE6 := H5.out.2.2.1.task H5.out.2.2.2.1 HRB.out.1.hlo hk6
          have hbd := fun n => pw_below_drewN (Below.refl w6.heap.size w6) n
          refine ⟨?_, (hK.then (hkk.trans (hk6.mono (fun q _ e => .inr (.inl e)))) (fun q hq hp => (hP q hp).elim id (fun h => absurd hq (by omega)))).trans (Keep.of_below (hbd _) _), ents3, vt, _, hE6.below (hbd _), fun q hq => hP q (.inl hq)⟩
          show _ = _
          unfold rg
          rw [Int.toNat_natCast]
          rfl
        · have h17b : (x0 == 17) = false := by simpa using h17
          have h17c : (x0 = 17) = False := eq_false h17
          have H17 := Aside0.mk h17
          clear h17
          have hop := And.intro H6.out.1.1.op.1 (show x0 ≤ 16 by have := H6.out.1.1.op.2; have h9 := H17.out; have : x0 ≤ 17 := this; omega)
          have hlook := hD5.look x0 hop.1 hop.2
          have hent := fun args w => deed_enter hop args w
          clear hD5 hop
          go_wp2_with fail
          obtain ⟨hE, hT, hgi, hti, hlk, hK, hP, hD, hp, hr⟩ := HE.out
          obtain ⟨hIO, hbi, hkk, hti5, hD5, hp5⟩ := H6.out
          have hT5 := H5.out.2.2.2.1
          rw [← HX.out.2.1] at hT5
          have hal := HA1.out
          have h0 := HL.out
          have hst := step_all (k := gk) (x := ⟨x0, x1, x2, x3, x4⟩) HRB.out.1.hl (HRB.out.2 gk (by omega)) HRB.out.1.hlo hbi.1 hti5 HRB.out.1.hM HRB.out.1.hdp HRB.out.1.hb.1 hp5 HRB.out.1.hcp HRB.out.1.hcn hIO.1 hIO.2 (by rw [bump_len]; exact hbi.2.1) hbi.2.2 (by show a1 < gk; omega) H5.out.2.2.1 hT5 H17.out
          obtain ⟨hst, hni⟩ := hst
          obtain ⟨sr, hsr⟩ : ∃ sr, sr = stepP l c.depth (runP l c.budget c.depth gk) path ⟨x0, x1, x2, x3, x4⟩ { T with at_ := T.at_ + 1 } { left := a1, told := G.told, log := bump G.log me } := ⟨_, rfl⟩
          rw [← hsr] at hst hni
          refine hst.mono ?_
          intro e w6 hpost
          have hbud : (G.log.getD me ([], 0)).2 ≠ c.budget := fun e => HBU.out (HS.out.1.trans e)
          have hxx : rd_T61 code T.at_ = ⟨x0, x1, x2, x3, x4⟩ := by rw [HX.out.2.1, ← HX.out.1]
          have hall := hK.then hkk (fun q hq hp => (hP q hp).elim id (fun h => absurd hq (by omega)))
          have hsz : w.heap.size ≤ W5.heap.size := hall.size
          have hPA : ∀ q, PA c tb vt (.slice (some ⟨g, 0, none⟩) ents.length cl) vw q → q < W5.heap.size := fun q hq => by
            have h2 := hkk.size
            rcases hq with hq | hq
            · exact Nat.lt_of_lt_of_le (hE.eg.pB q hq).2 h2
            · exact Nat.lt_of_lt_of_le (hT.lt q hq) h2
          rw [hal] at hsr
          cases sr with
          | go T' G' =>
            obtain ⟨rfl, hk6, ents6, vt6, vl6, vw6, hE6, hT6, hq6⟩ := hpost
            have e9 := (runP_go hbud h0 hxx H17.out hsr.symm).symm.trans hr
            have HR6 := Aside0.mk (show RunI c l M tb A cp path code me w.heap.size S w r gk w6 from
              ⟨T', G', ents6, vt6, vl6, vw6, hE6, hT6, hni.1, hni.2.1, by have := hni.2.2; have h3 : G'.left ≤ a1 := this; omega,
                hall.then hk6 (fun q hq hp => (hP q hp).elim id (fun h => absurd hq (by omega))),
                fun q hq => (hq6 q hq).elim (fun h => hP q h) (fun h => .inr (by omega)),
                hD5.heap (hk6.block _ hD5.lt (fun hp => by
                  rcases hp with hp | hp
                  · obtain ⟨cs, t, h, _⟩ := H5.out.2.2.1.eg.typed _ hp; exact hD5.notCells cs t _ h
                  · obtain ⟨cs, t, h, _⟩ := hT5.typed _ hp; exact hD5.notCells cs t _ h)), hp5.keep hk6 (fun q cs hq hp => hp.elim (H5.out.2.2.1.eg.notPath q cs hq) (hT5.notPath q cs hq)), e9⟩)
            clear hE hT hgi hti hlk hK hP hD hp hr hIO hbi hkk hti5 hD5 hp5 hT5 hal h0 hsr hbud hxx hall hsz hPA hk6 hE6 hT6 hq6 hni e9 hst
            go_wp2_with fail
            go_roundg gk
            case rel => exact ⟨by omega, HR6⟩
            case measure => omega
          | stop o G' =>
            have hno := stepP_noval hsr.symm
            have e9 := (runP_stop hbud h0 hxx H17.out hsr.symm).symm.trans hr
            obtain ⟨he, hk6, ents6, vt6, vl6, hE6, hq6⟩ := hpost
            have hfin : RunP c l S r w e w6 := by
              rw [← e9]
              exact ⟨he, hall.then hk6 (fun q hq hp => (hP q hp).elim id (fun h => absurd hq (by omega))), ents6, vt6, vl6, hE6, fun q hq => (hq6 q hq).elim (fun h => hP q h) (fun h => .inr (by omega))⟩
            cases o with
            | val v => exact absurd rfl (hno v)
            | fail why =>
              have he : e = .panicked [{ v := failV why, recovered := false }] := he
              subst he
              exact ⟨rfl, hfin⟩
            | long =>
              have he : e = .panicked [{ v := longV, recovered := false }] := he
              subst he
              exact ⟨rfl, hfin⟩
end
end Go.Proofs.Ytbekjccehhaljaa.H

set_option linter.unusedVariables false
set_option linter.unusedSimpArgs false
namespace Go.Proofs.Ytbekjccehhaljaa.H
open Go.RowKit Go.Hay Go.Proofs.YtbekjccehhaljaaW.PrintWords Go.Proofs.YtbekjccehhaljaaW.PrintLast Go.Proofs.YtbekjccehhaljaaW.PrintMore
theorem slice_regs_all (tb : Nat) (w : World) : (Instr.sliceAt 122 (.pointer (some ⟨tb, 2, none⟩)) none none none).run Try.prog w = .ok (.slice (some ⟨tb, 2, none⟩) 8 8) w := by
  have hal : Try.prog.arrayLen 122 = 8 := by kernel_rfl
  have hel : Try.prog.elem 122 = 2 := by kernel_rfl
  have ht : Try.prog.underlying 122 = some (.array (Try.prog.arrayLen 122) (Try.prog.elem 122)) := by rw [hal, hel]; exact Try.underlying122
  have hsz : ∀ w, (sizeOf 2).run Try.prog w = .ok 1 w := fun _ => by kernel_rfl
  rw [run_sliceAt_array_all w 122 ⟨tb, 2, none⟩ ht, hal, hel, hsz]
  rfl
theorem splice_regs (p v : Value) (rest : List Value) (args : List Int) (h : args.length ≤ 8) :
    splice ([p, v] ++ ((List.replicate 8 (0 : Int)).map (Value.int .i64) ++ rest)) 2 (args.map (Value.int .i64)) = [p, v] ++ ((newRegs args).map (Value.int .i64) ++ rest) := by
  obtain ⟨n, hn⟩ : ∃ n, n = args.length := ⟨_, rfl⟩
  have e1 : args.take 8 = args := List.take_of_length_le h
  unfold splice newRegs
  rw [e1, List.length_map, List.map_append, ← hn]
  have e2 : ([p, v] ++ ((List.replicate 8 (0 : Int)).map (Value.int .i64) ++ rest)).take 2 = [p, v] := rfl
  have e3 : ([p, v] ++ ((List.replicate 8 (0 : Int)).map (Value.int .i64) ++ rest)).drop (2 + n) = (List.replicate (8 - n) (0 : Int)).map (Value.int .i64) ++ rest := by
    have : ([p, v] ++ ((List.replicate 8 (0 : Int)).map (Value.int .i64) ++ rest)).drop (2 + n) = ((List.replicate 8 (0 : Int)).map (Value.int .i64) ++ rest).drop n := by
      rw [Nat.add_comm]; rfl
    rw [this, List.drop_append_of_le_length (by simp; omega), ← List.map_drop, List.drop_replicate]
  rw [e2, e3, List.append_assoc]
theorem args_cells {w : World} {A : Option Addr} {xs : List Int} (h : (Kd.int .i64).C w A xs.length xs) (hx : 0 < xs.length) : ∃ ad, A = some ad ∧ ∀ j v, (xs.map (Value.int .i64))[j]? = some v → w.cell? (ad.add j) = some v := by
  obtain ⟨_, _, h3⟩ := h
  obtain ⟨ad, e, h4⟩ := h3 hx
  refine ⟨ad, e, fun j v hj => ?_⟩
  rw [List.getElem?_map] at hj
  cases hp : xs[j]? with
  | none => rw [hp] at hj; cases hj
  | some p =>
    rw [hp] at hj
    cases hj
    obtain ⟨cs, h5, h6, h7⟩ := h4 j p hp
    have h6 : cs = [.int .i64 p] := h6
    subst h6
    have := h7 0 _ rfl
    have e2 : j * (Kd.int .i64).sz + 0 = j := Nat.mul_one j
    rwa [e2] at this
/-- a task's block, newly filled. -/
theorem TB.fresh {tb wb me B : Nat} {vp : Value} {args : List Int} {hands : List (Bool × Int)} {w : World} (h : w.heap[tb]? = some (.cells (splice (tcells wb vp (newTask [] hands) (.slice none 0 0) me) 2 (args.map (Value.int .i64))).toArray 143 (0, 0))) (ha : args.length ≤ 8) (hh : hands.length = 4) : TB tb wb vp (newTask args hands) (.slice none 0 0) me B w := by
  have e : splice (tcells wb vp (newTask [] hands) (.slice none 0 0) me) 2 (args.map (Value.int .i64)) = tcells wb vp (newTask args hands) (.slice none 0 0) me := splice_regs _ _ _ args ha
  rw [e] at h
  exact ⟨h, Kd.R_nil _ _ _ _ _, newRegs_len ha, hh⟩
section
variable {c : Cn} {l : List S64} {M k : Nat}
theorem note_any {G : Gs} {ents : List Ent} {vt vl v9 vp vw : Value} {w W w9 : World} {T : Ts} {tb me cp : Nat} {A : Option Addr} {path : List Int} (hg : ES c l G ents vt vl w) (hb : Below w.heap.size w W) (hR : kEnt.R 54 w9 c.B (fun _ => True) v9 (ents ++ [⟨A, path.length, cp, 0⟩])) (hgr : W.grownBy w9 vl.ownBlock) (hat : v9.ownBlock = vl.ownBlock ∨ ∃ q, v9.ownBlock = some q ∧ W.heap.size ≤ q)
    (hp : PathAt w A path) (hcp : path.length ≤ cp) (hpl : path.length ≤ 1000) (ht : TB tb c.wb vp T vw me c.B W) (hwt : w.heap.size ≤ tb) (hvw : vw.ownBlock = none) :
    ES c l { G with log := G.log ++ [(path, 0)] } (ents ++ [⟨A, path.length, cp, 0⟩]) vt v9 (w9.setCell ⟨c.wb, 7, none⟩ v9) ∧ Keep (PG c.wb vt vl) w (w9.setCell ⟨c.wb, 7, none⟩ v9) ∧ (∀ q, PG c.wb vt v9 q → PG c.wb vt vl q ∨ w.heap.size ≤ q) ∧ w9.heap[c.wb]? = w.heap[c.wb]? ∧ TB tb c.wb vp T vw me c.B (w9.setCell ⟨c.wb, 7, none⟩ v9) := by
  obtain ⟨h1, h2, h3, h4⟩ := hg.eg.note hb hR ⟨rfl, rfl, hcp, hpl, hp⟩ hgr hat
  refine ⟨hg.turn h1 h2 (fun q hq e => by have := hg.pLo q e; omega), h2, h3, h4, ?_⟩
  have hk : Keep (fun q => some q = vl.ownBlock ∨ q = c.wb) W (w9.setCell ⟨c.wb, 7, none⟩ v9) := ((Keep.grown hgr).mono (T := fun q => some q = vl.ownBlock ∨ q = c.wb) (fun q _ e => .inl e)).set (p := ⟨c.wb, 7, none⟩) (.inr (.inr rfl)) _
  refine ht.keep hk (fun q hq hs => ?_)
  have hq2 : w.heap.size ≤ q := by
    rcases hq with rfl | hq
    · exact hwt
    · rw [hvw] at hq; cases hq
  rcases hs with e | e
  · have := (R_own hg.eg.log q e.symm).2.2; omega
  · have := blk_lt hg.eg.node; omega
/-- the entry is appended. -/
theorem wpList_note {ops : Array Oper} {rest : List Oper} {o : Oper} {a : Act} {Q : Exit → Act → World → Prop} (hgd : o.guard = none) (s x : Operand)
    (ho : o.op = .call { callee := .builtin .append, args := #[s, x], argTypes := #[29, 29] })
    {G : Gs} {ents : List Ent} {vt vp vw : Value} {w W3 : World} {T : Ts} {tb me cp cl m : Nat} {A Al : Option Addr} {path : List Int} (hg : ES c l G ents vt (.slice Al ents.length cl) w) (hb : Below w.heap.size w W3) (hl : (ents.length + 1) * 32 ≤ 140737488355328)
    (hp : PathAt w A path) (hcp : path.length ≤ cp) (hpl : path.length ≤ 1000) (ht : TB tb c.wb vp T vw me c.B W3) (hwt : w.heap.size ≤ tb) (hvw : vw.ownBlock = none)
    (hs : a.eval s = .slice Al ents.length cl) (hx : a.eval x = .slice (some ⟨W3.heap.size, 0, none⟩) 1 m)
    (h : ∀ A9 L9 c9 w9, (ES c l { G with log := G.log ++ [(path, 0)] } (ents ++ [⟨A, path.length, cp, 0⟩]) vt (.slice A9 L9 c9) (w9.setCell ⟨c.wb, 7, none⟩ (.slice A9 L9 c9)) ∧ Keep (PG c.wb vt (.slice Al ents.length cl)) w (w9.setCell ⟨c.wb, 7, none⟩ (.slice A9 L9 c9)) ∧ (∀ q, PG c.wb vt (.slice A9 L9 c9) q → PG c.wb vt (.slice Al ents.length cl) q ∨ w.heap.size ≤ q) ∧ w9.heap[c.wb]? = w.heap[c.wb]? ∧ TB tb c.wb vp T vw me c.B (w9.setCell ⟨c.wb, 7, none⟩ (.slice A9 L9 c9))) → wpList Try.prog ops Q rest (a.put o.dst (.slice A9 L9 c9)) w9) :
    wpList Try.prog ops Q (o :: rest) a (W3.alloc (.cells #[.slice A path.length cp, .int .i64 0] 54)) := by
  have hba : Below W3.heap.size W3 (W3.alloc (.cells #[.slice A path.length cp, .int .i64 0] 54)) := (Below.refl _ _).alloc (Nat.le_refl _) _
  have hlog := ((hg.below hb).below hba).eg.log
  have hbase : c.B ≤ (W3.alloc (.cells #[.slice A path.length cp, .int .i64 0] 54)).heap.size := by
    have h1 : c.B ≤ w.heap.size := Nat.le_trans hg.eg.lo (Nat.le_of_lt (blk_lt hg.eg.node))
    exact Nat.le_trans (Nat.le_trans h1 hb.size) hba.size
  refine wpList_plain hgd (fun K hK => ?_)
  refine wp_append_rows kEnt (Rr := kEnt.M (W3.alloc (.cells #[.slice A path.length cp, .int .i64 0] 54)) c.B (fun _ => False)) c.B hgd s x 29 54 (.agg #[.slice none 0 0, .int .i64 0]) 32 ho Try.underlying29 info54 rfl (by decide) (by decide) (.slice Al ents.length cl) ents [⟨A, path.length, cp, 0⟩] _ _ _ (fun _ => True) (fun _ => False) hs hx hlog (reads_one (alloc_blk _ _) (kEnt_mkM _ _ _ ⟨A, path.length, cp, 0⟩)) (fun _ _ h => h) (fun _ h => h.elim) (fun _ _ => trivial) hbase hl ?_
  intro v9 w9 hR9 hbw hgr hat
  have HN := note_any (tb := tb) (me := me) hg (hb.alloc hb.size _) hR9 hgr hat hp hcp hpl (ht.below hba) hwt hvw
  obtain ⟨A9, c9, rfl⟩ := Kd.R_slice hR9
  exact hK _ _ (h A9 _ c9 w9 HN)
set_option maxRecDepth 100000 in
set_option maxHeartbeats 8000000 in
theorem begin_any (hl : POk l) (hM : M ≤ 1000000) (hdp : c.depth ≤ 900) (hb : 0 ≤ c.budget ∧ c.budget ≤ 1000000) (hB : ∀ j, j < k → BeginC c l M j) : BeginC c l M k := by
  intro G ents vt vl w f A cpath path Aa ca args hands hg hgi hleft hf hp hcp hcn hpd hal haC hac hhl hk
  obtain ⟨h0, h1, h2, h3, rfl⟩ := four hhl
  obtain ⟨Al, cl, rfl⟩ := Kd.R_slice hg.eg.log
  obtain ⟨r, hr⟩ : ∃ r, r = beginP l c.budget c.depth k G f path args [h0, h1, h2, h3] := ⟨_, rfl⟩
  rw [← hr]
  obtain ⟨W, hW⟩ : ∃ W, W = w.alloc (.cells #[.bool h0.1, .int .i64 h0.2, .bool h1.1, .int .i64 h1.2, .bool h2.1, .int .i64 h2.2, .bool h3.1, .int .i64 h3.2] 118) := ⟨_, rfl⟩
  have hb1 : Below w.heap.size w W := by rw [hW]; exact (Below.refl w.heap.size w).alloc (Nat.le_refl _) _
  have hbx : W.heap[w.heap.size]? = some (.cells #[.bool h0.1, .int .i64 h0.2, .bool h1.1, .int .i64 h1.2, .bool h2.1, .int .i64 h2.2, .bool h3.1, .int .i64 h3.2] 118 (0, 0)) := by rw [hW]; exact alloc_blk w _
  have hlen : ents.length = G.log.length := hg.eg.ok.1
  have HLEN := Aside0.mk hlen
  clear hlen
  have HW := Aside0.mk hW
  have H1 := Aside0.mk (And.intro hb1 hbx)
  have H0 := Aside0.mk (And.intro hg (And.intro hgi (And.intro hleft (And.intro hf (And.intro hp (And.intro hcp (And.intro hcn (And.intro hpd (And.intro hal (And.intro haC (And.intro hac (And.intro hk hr))))))))))))
  have HF := Aside0.mk (And.intro hl (And.intro hM (And.intro hdp (And.intro hb hB))))
  have hE1 := hg.below hb1
  have q7 := blk_cell hE1.eg.node 7
  have x0 := blk_cell hbx 0
  have x1 := blk_cell hbx 1
  have x2 := blk_cell hbx 2
  have x3 := blk_cell hbx 3
  have x4 := blk_cell hbx 4
  have x5 := blk_cell hbx 5
  have x6 := blk_cell hbx 6
  have x7 := blk_cell hbx 7
  clear hg hgi hleft hf hp hcp hcn hpd hal haC hac hk hr hl hM hdp hb hB hW hb1 hbx hE1 hhl
  unfold hcells
  simp only [List.flatMap_cons, List.flatMap_nil, List.cons_append, List.nil_append, List.append_nil]
  go_enter Try.func38, Try.ntmps38
  go_wp2_with fail
  rw [← HW.out]
  have HMV := Aside0.mk (And.intro q7 (And.intro x0 (And.intro x1 (And.intro x2 (And.intro x3 (And.intro x4 (And.intro x5 (And.intro x6 x7))))))))
  clear q7 x0 x1 x2 x3 x4 x5 x6 x7
  refine wp_region_seq2 (fun w' => Below W.heap.size W w') [] [.take 0, .take 1, .take 2, .take 3, .take 4, .take 5, .take 6, .take 7, .take 8, .op 9, .op 10, .op 11] (by kernel_rfl) (by kernel_rfl) rfl (by kernel_rfl) (panic_viaE (P := Try.prog) (fn := Try.f38) (R := EndP c l (PG c.wb vt (.slice Al ents.length cl)) r.1 r.2 w) (fun _ _ _ => rfl)) ?_
  have hs : Below W.heap.size W W.drew := (Below.refl _ _).drew
  have hmv : ∀ {w' : World} {p : Addr} {v : Value}, Below W.heap.size W w' → W.cell? p = some v → w'.cell? p = some v := fun hS hq => (hS.cell (World.block_lt_of_cell? W _ hq)).trans hq
  repeat (
    (first
      | (refine runSeq2_take (v := ?_) (by rfl) (by rfl) (fun w' hS => ?_) hs ?_
         rotate_left
         · (have u7 := hmv hS HMV.out.1; have y0 := hmv hS HMV.out.2.1; have y1 := hmv hS HMV.out.2.2.1; have y2 := hmv hS HMV.out.2.2.2.1; have y3 := hmv hS HMV.out.2.2.2.2.1; have y4 := hmv hS HMV.out.2.2.2.2.2.1; have y5 := hmv hS HMV.out.2.2.2.2.2.2.1; have y6 := hmv hS HMV.out.2.2.2.2.2.2.2.1; have y7 := hmv hS HMV.out.2.2.2.2.2.2.2.2; go_simp; exact rfl))
      | refine runSeq2_skip (by rfl) (by rfl) hs ?_)
    (try simp only [Act.put, List.setIfInBounds_toArray, List.set_cons_zero, List.set_cons_succ]))
  clear hmv
  refine runSeq2_op (by rfl) (by rfl) (fun K hK => ?_)
  go_simp
  refine hK _ _ hs ?_
  clear hK K
  refine runSeq2_op (by rfl) (by rfl) (fun K hK => ?_)
  go_simp
  obtain ⟨tb, htb⟩ : ∃ tb, tb = W.heap.size := ⟨_, rfl⟩
  rw [← htb]
  obtain ⟨W2, hW2⟩ : ∃ W2, W2 = (W.alloc (.cells #[.pointer (some ⟨c.wb, 0, none⟩), .slice A path.length cpath, .int .i64 0, .int .i64 0, .int .i64 0, .int .i64 0, .int .i64 0, .int .i64 0, .int .i64 0, .int .i64 0, .bool h0.1, .int .i64 h0.2, .bool h1.1, .int .i64 h1.2, .bool h2.1, .int .i64 h2.2, .bool h3.1, .int .i64 h3.2, .slice none 0 0, .int .i64 0, .int .i64 0, .int .i64 ents.length] 143)).drew := ⟨_, rfl⟩
  have hs2 : Below W.heap.size W W2 := by rw [hW2]; exact ((Below.refl W.heap.size W).alloc (Nat.le_refl _) _).drew
  have hb2 : Below w.heap.size w W2 := H1.out.1.trans (hs2.mono H1.out.1.size)
  have hn2 : W2.heap[tb]? = some (.cells (tcells c.wb (.slice A path.length cpath) (newTask [] [h0, h1, h2, h3]) (.slice none 0 0) G.log.length).toArray 143 (0, 0)) := by rw [hW2, htb, ← HLEN.out]; exact alloc_blk W _
  have hwt : w.heap.size ≤ tb := by rw [htb]; exact H1.out.1.size
  rw [← hW2]
  refine hK _ _ hs2 ?_
  clear hK K hs hW2 htb
  (try simp only [Act.put, List.setIfInBounds_toArray, List.set_cons_zero, List.set_cons_succ])
  refine runSeq2_op (by rfl) (by rfl) (fun K hK => ?_)
  go_simp
  refine hK _ _ hs2 ?_
  clear hK K
  refine runSeq2_nil ?_
  have H2 := Aside0.mk (And.intro hb2 (And.intro hn2 hwt))
  clear hs2 hb2 hn2 hwt
  have hsl := slice_regs_all tb
  have LEN := Aside0.mk (show (ents.length + 1) * 32 ≤ 140737488355328 from by have h1 := H0.out.2.2.1; have h2 := HF.out.2.1; have h3 := HLEN.out; omega)
  have LEN2 := Aside0.mk (show path.length ≤ 1000 from by have h1 := H0.out.2.2.2.2.2.2.2.1; have h2 := HF.out.2.2.1; omega)
  obtain ⟨cs, hcs⟩ : ∃ cs, cs = args.map (Value.int .i64) := ⟨_, rfl⟩
  have hcl : cs.length = args.length := by rw [hcs, List.length_map]
  have HCS := Aside0.mk (And.intro hcs hcl)
  clear hcs hcl
  have hs1 : 0 < cs.length → some (⟨tb, 2, none⟩ : Addr) = some ⟨tb, 2, none⟩ ∧ ∃ ad, Aa = some ad ∧ ∀ j v, cs[j]? = some v → W2.cell? (ad.add j) = some v := by
    intro hp
    rw [HCS.out.2] at hp
    obtain ⟨ad, e, h⟩ := args_cells (Kd.C_below H0.out.2.2.2.2.2.2.2.2.2.1 H2.out.1) hp
    rw [← HCS.out.1] at h
    exact ⟨rfl, ad, e, h⟩
  have hs2 : 2 + cs.length ≤ (tcells c.wb (.slice A path.length cpath) (newTask [] [h0, h1, h2, h3]) (.slice none 0 0) G.log.length).length := by
    have h9 : (tcells c.wb (.slice A path.length cpath) (newTask [] [h0, h1, h2, h3]) (.slice none 0 0) G.log.length).length = 22 := rfl
    have h8 := H0.out.2.2.2.2.2.2.2.2.1
    rw [h9, HCS.out.2]; omega
  have hs3 : ∀ v ∈ cs, v.oneCell' = true := by
    intro v hv
    rw [HCS.out.1] at hv
    obtain ⟨x, _, rfl⟩ := List.mem_map.1 hv
    rfl
  have hs0 : cs.length = Nat.min args.length 8 := by rw [HCS.out.2]; exact (Nat.min_eq_left H0.out.2.2.2.2.2.2.2.2.1).symm
  have HS := Aside0.mk (And.intro hs0 (And.intro hs1 (And.intro hs2 hs3)))
  clear hs0 hs1 hs2 hs3
  go_upto_region 4 with (first | (refine wpList_copy_splice rfl (.tmp 26) (.tmp 27) 23 23 rfl 2 Try.underlying23 (by kernel_rfl) (some ⟨tb, 2, none⟩) Aa 8 8 args.length ca rfl rfl tb 2 (tcells c.wb (.slice A path.length cpath) (newTask [] [h0, h1, h2, h3]) (.slice none 0 0) G.log.length) 143 H2.out.2.1 cs HS.out.1 HS.out.2.1 HS.out.2.2.1 HS.out.2.2.2 w.heap.size w H2.out.1 H2.out.2.2 ?_; intro W3 hn3 hb3; have hn3 := hn3.out; rw [HCS.out.1] at hn3; have HT3 := Aside0.mk (And.intro (TB.fresh (B := c.B) hn3 H0.out.2.2.2.2.2.2.2.2.1 rfl) hb3); have q7 := blk_cell (H0.out.1.below hb3).eg.node 7; clear hn3 hb3) | (at_builtin; refine wpList_note (m := 1) (by rfl) (.tmp 34) (.tmp 37) (by rfl) H0.out.1 HT3.out.2 LEN.out H0.out.2.2.2.2.1 H0.out.2.2.2.2.2.1 LEN2.out HT3.out.1 H2.out.2.2 rfl (by rfl) (by rfl) ?_; intro A9 L9 c9 w9 HN; have HN := Aside0.mk HN; clear q7; have q7 := (World.cell?_of_block (a := ⟨c.wb, 7, none⟩) HN.out.2.2.2.1).trans (blk_cell H0.out.1.eg.node 7); have z7 := blk_frozen (HN.out.2.2.2.1.trans H0.out.1.eg.node) 7) | fail)
  obtain ⟨W8, hW8⟩ : ∃ W8, W8 = w9.setCell ⟨c.wb, 7, none⟩ (.slice A9 L9 c9) := ⟨_, rfl⟩
  have hN := HN.out
  rw [← hW8] at hN ⊢
  obtain ⟨hE8, hK8, hP8, _, hT8⟩ := hN
  have hf := H0.out.2.2.2.1
  have hrd : rd_T64 l (f : Int) = l[f] := by simp [rd_T64, hf]
  obtain ⟨adp, Ai, ci, hap, p0, p1, hci, hCi⟩ := at_T64 hE8.pr (f : Int) (by omega) (by omega)
  rw [hrd] at p0 p1 hci hCi
  rw [Int.toNat_natCast] at p1
  replace p1 := (hE8.bl.cell (World.block_lt_of_cell? _ _ p1)).trans p1
  have q0 := blk_cell hE8.eg.node 0
  have hfl2 : ((f : Int) < (l.length : Nat)) = True := eq_true (by omega)
  rw [hap] at q0
  have hbi := begin_inv HF.out.1 HF.out.2.2.2.1.1 H0.out.2.1 H0.out.2.2.1 f hf (path := path) (depth := c.depth) H0.out.2.2.2.2.2.2.2.1 args H0.out.2.2.2.2.2.2.2.2.1 [h0, h1, h2, h3] rfl
  have hRn : Rn c l M tb A cpath path f l[f].f1 Ai ci G.log.length := ⟨HF.out.1, Nat.le_trans H0.out.1.bl.size H2.out.2.2, HF.out.2.1, HF.out.2.2.1, HF.out.2.2.2.1, H0.out.2.2.2.2.2.1, H0.out.2.2.2.2.2.2.1, ⟨hf, rfl⟩, hCi, hci⟩
  have hrun := run_any (k := k) hRn HF.out.2.2.2.2 hE8 hT8 hbi.1 hbi.2 H0.out.2.2.2.2.2.2.2.2.2.2.2.1 (H0.out.2.2.2.2.1.keep hK8 (fun q cs hq hp => H0.out.1.eg.notPath q cs hq hp))
  have hre := H0.out.2.2.2.2.2.2.2.2.2.2.2.2
  unfold beginP at hre
  rw [hrd] at hre
  rw [← hre] at hrun
  have HR := Aside0.mk hrun
  have H8 := Aside0.mk (And.intro hE8 (And.intro hK8 (And.intro hP8 hT8)))
  clear hrun hre hRn hbi hE8 hK8 hP8 hT8 hW8 hrd p0 hci hCi hap q7 z7
  go_wp2_with fail
  refine HR.out.mono ?_
  intro e w' hpost
  have hfin : EndP c l (PG c.wb vt (.slice Al ents.length cl)) r.1 r.2 w e w' := by
    obtain ⟨he, hk9, ents', vt', vl', hE', hq'⟩ := hpost
    obtain ⟨hE8, hK8, hP8, hT8⟩ := H8.out
    have hPA : ∀ q, PA c tb vt (.slice A9 L9 c9) (.slice none 0 0) q → PG c.wb vt (.slice Al ents.length cl) q ∨ w.heap.size ≤ q := by
      intro q hq
      rcases hq with hq | hq | hq
      · exact hP8 q hq
      · rw [hq]; exact .inr H2.out.2.2
      · cases hq
    exact ⟨he, hK8.then hk9 (fun q hq hp => (hPA q hp).elim id (fun h => absurd hq (by omega))), ents', vt', vl', hE', fun q hq => (hq' q hq).elim (hPA q) (fun h => .inr (Nat.le_trans hK8.size h))⟩
  have hends : ends r.1 e := hfin.1
  have HFIN := Aside0.mk hfin
  clear hpost hfin
  obtain ⟨o, G'⟩ := r
  cases o with
  | val v =>
    have he : e = .returned (.int .i64 v) := hends
    clear hends
    subst he
    go_wp2_with fail
    go_ret
    exact HFIN.out
  | fail why =>
    have he : e = .panicked [{ v := failV why, recovered := false }] := hends
    clear hends
    subst he
    exact ⟨rfl, HFIN.out⟩
  | long =>
    have he : e = .panicked [{ v := longV, recovered := false }] := hends
    clear hends
    subst he
    exact ⟨rfl, HFIN.out⟩
/-- every task's beginning, at any fuel. -/
theorem begin_all (hl : POk l) (hM : M ≤ 1000000) (hdp : c.depth ≤ 900) (hb : 0 ≤ c.budget ∧ c.budget ≤ 1000000) : ∀ k, BeginC c l M k := by
  intro k
  induction k using Nat.strongRecOn with
  | _ k ih => exact begin_any hl hM hdp hb ih
end
end Go.Proofs.Ytbekjccehhaljaa.H

set_option linter.unusedVariables false
set_option linter.unusedSimpArgs false
namespace Go.Proofs.Ytbekjccehhaljaa.H
open Go.RowKit Go.Hay Go.Proofs.YtbekjccehhaljaaW.PrintWords Go.Proofs.YtbekjccehhaljaaW.PrintLast Go.Proofs.YtbekjccehhaljaaW.PrintMore
theorem assert_ff (v : Value) (w : World) : (Instr.typeAssert (.iface 113 v) 20 113 true).run Try.prog w = .ok (.tuple #[v, .bool true]) w := by kernel_rfl
theorem assert_lf (v : Value) (w : World) : (Instr.typeAssert (.iface 114 v) 20 113 true).run Try.prog w = .ok (.tuple #[.agg #[.int .i64 0], .bool false]) w := by kernel_rfl
theorem assert_ll (v : Value) (w : World) : (Instr.typeAssert (.iface 114 v) 20 114 true).run Try.prog w = .ok (.tuple #[v, .bool true]) w := by kernel_rfl
section
variable {pb wb ob eb nt ct nl cl : Nat} {At Al : Option Addr} {w : World} {c0 c1 c2 c3 v0 v1 o0 o1 o2 o3 ev : Value}
set_option maxRecDepth 100000 in
set_option maxHeartbeats 4000000 in
theorem ecatch_fail (why : Int) (hp : w.heap[pb]? = some (.cells #[.pointer (some ⟨wb, 0, none⟩)] 109 (0, 0))) (hw : w.heap[wb]? = some (.cells #[c0, c1, c2, c3, v0, v1, .slice At nt ct, .slice Al nl cl] 111 (0, 0))) (ho : w.heap[ob]? = some (.cells #[o0, o1, o2, o3] 77 (0, 0))) (he : w.heap[eb]? = some (.cells #[ev] 34 (0, 0))) :
    CallsD Try.prog 37 #[.pointer (some ⟨pb, 0, none⟩), .pointer (some ⟨ob, 0, none⟩), .pointer (some ⟨eb, 0, none⟩)] (.panicking [{ v := failV why, recovered := false }]) w fun x u' w' =>
      x = .returned (.tuple #[]) ∧ u' = .panicking [{ v := failV why, recovered := true }] ∧ Keep (fun q => q = wb ∨ q = ob ∨ q = eb) w w' ∧ w'.heap[ob]? = some (.cells #[.int .i64 0, .int .i64 why, .slice At nt ct, .slice Al nl cl] 77 (0, 0)) ∧ w'.heap[eb]? = some (.cells #[.int .i64 0] 34 (0, 0)) := by
  have huf := Try.underlying113
  have ha := assert_ff (.agg #[.int .i64 why])
  have n1 : ob ≠ wb := fun e => by rw [e, hw] at ho; cases ho
  have n2 : eb ≠ wb := fun e => by rw [e, hw] at he; cases he
  have n3 : eb ≠ ob := fun e => by rw [e, ho] at he; cases he
  obtain ⟨W1, hW1⟩ : ∃ W1, W1 = w.alloc (.cells #[.int .i64 why] 113) := ⟨_, rfl⟩
  have hb1 : Below w.heap.size w W1 := by rw [hW1]; exact (Below.refl w.heap.size w).alloc (Nat.le_refl _) _
  have hbx : W1.heap[w.heap.size]? = some (.cells #[.int .i64 why] 113 (0, 0)) := by rw [hW1]; exact alloc_blk w _
  have hp1 := (hb1.block _ (blk_lt hp)).trans hp
  have hw1 := (hb1.block _ (blk_lt hw)).trans hw
  have ho1 := (hb1.block _ (blk_lt ho)).trans ho
  have he1 := (hb1.block _ (blk_lt he)).trans he
  have H1 := Aside0.mk (And.intro hb1 (And.intro hp1 (And.intro hw1 (And.intro ho1 he1))))
  have HN := Aside0.mk (And.intro n1 (And.intro n2 n3))
  have HW1 := Aside0.mk hW1
  have HBX := Aside0.mk hbx
  clear hb1 hp1 hw1 ho1 he1 n1 n2 n3 hW1 hp hw ho he hbx
  refine callsD_of_wpS Try.func37 rfl fun c₀ cs hu => ?_
  apply wpS_seq
  apply wpS_region
  simp [wpOpsS, go_sem, recoverD, hu, Try.ntmps37, Exit.thenS]
  refine wpS_body ?_
  simp only [Array.replicate_succ, Array.replicate_zero, List.push_toArray, List.append_toArray, List.nil_append, List.cons_append, List.setIfInBounds_toArray, List.set_cons_zero, List.set_cons_succ, failV]
  go_upto_region 7 with (fail)
  rw [← HW1.out]
  have p0 := blk_cell H1.out.2.1 0
  have x0 := blk_cell HBX.out 0
  have z5 := blk_frozen H1.out.2.2.1 5
  have z4 := blk_frozen H1.out.2.2.1 4
  have y5 := blk_cell H1.out.2.2.1 5
  have y4 := blk_cell H1.out.2.2.1 4
  go_upto_region 8 with (fail)
  obtain ⟨W2, hW2⟩ : ∃ W2, W2 = (W1.setCell ⟨wb, 5, none⟩ (.int .i64 why)).setCell ⟨wb, 4, none⟩ (.int .i64 0) := ⟨_, rfl⟩
  rw [← hW2]
  have hk2 : Keep (fun q => q = wb) W1 W2 := by rw [hW2]; exact ((Keep.refl (fun q => q = wb) W1).set (p := ⟨wb, 5, none⟩) (.inr rfl) _).set (p := ⟨wb, 4, none⟩) (.inr rfl) _
  have hn2 : W2.heap[wb]? = some (.cells #[c0, c1, c2, c3, .int .i64 0, .int .i64 why, .slice At nt ct, .slice Al nl cl] 111 (0, 0)) := by rw [hW2]; exact blk_set (blk_set H1.out.2.2.1 5 _) 4 _
  have hpw : pb ≠ wb := fun e => by have h1 := H1.out.2.1; have h2 := H1.out.2.2.1; rw [e, h2] at h1; cases h1
  have hp2 := hk2.blk H1.out.2.1 hpw
  have ho2 := hk2.blk H1.out.2.2.2.1 HN.out.1
  have he2 := hk2.blk H1.out.2.2.2.2 HN.out.2.1
  have H2 := Aside0.mk (And.intro hk2 (And.intro hn2 (And.intro hp2 (And.intro ho2 he2))))
  clear p0 x0 z5 z4 y5 y4 hpw hW2
  have p0 := blk_cell hp2 0
  have r4 := blk_cell hn2 4
  have r5 := blk_cell hn2 5
  have r6 := blk_cell hn2 6
  have r7 := blk_cell hn2 7
  have s0 := blk_cell ho2 0
  have s1 := blk_cell ho2 1
  have s2 := blk_cell ho2 2
  have s3 := blk_cell ho2 3
  have z0 := blk_frozen ho2 0
  have z1 := blk_frozen ho2 1
  have z2 := blk_frozen ho2 2
  have z3 := blk_frozen ho2 3
  have e0 := blk_cell he2 0
  have f0 := blk_frozen he2 0
  clear hk2 hn2 hp2 ho2 he2
  have n3 := HN.out.2.2
  go_wp2_with fail
  go_end0
  have d1 := blk_set (blk_set (blk_set (blk_set H2.out.2.2.2.1 0 (.int .i64 0)) 1 (.int .i64 why)) 2 (.slice At nt ct)) 3 (.slice Al nl cl)
  have e1 := H2.out.2.2.2.2
  have e2 := blk_set (blk_farC (p := ⟨ob, 3, none⟩) (blk_farC (p := ⟨ob, 2, none⟩) (blk_farC (p := ⟨ob, 1, none⟩) (blk_farC (p := ⟨ob, 0, none⟩) e1 n3 (.int .i64 0)) n3 (.int .i64 why)) n3 (.slice At nt ct)) n3 (.slice Al nl cl)) 0 (.int .i64 0)
  have d2 := blk_farC (p := ⟨eb, 0, none⟩) d1 (Ne.symm n3) (.int .i64 0)
  have hk9 := (((((Keep.refl (fun q => q = wb ∨ q = ob ∨ q = eb) W2).set (p := ⟨ob, 0, none⟩) (.inr (.inr (.inl rfl))) (.int .i64 0)).set (p := ⟨ob, 1, none⟩) (.inr (.inr (.inl rfl))) (.int .i64 why)).set (p := ⟨ob, 2, none⟩) (.inr (.inr (.inl rfl))) (.slice At nt ct)).set (p := ⟨ob, 3, none⟩) (.inr (.inr (.inl rfl))) (.slice Al nl cl)).set (p := ⟨eb, 0, none⟩) (.inr (.inr (.inr rfl))) (.int .i64 0)
  exact ⟨rfl, trivial, ((Keep.of_below H1.out.1 _).trans (H2.out.1.mono (fun q _ e => .inl e))).trans hk9, d2, e2⟩
set_option maxRecDepth 100000 in
set_option maxHeartbeats 4000000 in
theorem ecatch_long (hp : w.heap[pb]? = some (.cells #[.pointer (some ⟨wb, 0, none⟩)] 109 (0, 0))) (ho : w.heap[ob]? = some (.cells #[o0, o1, o2, o3] 77 (0, 0))) (he : w.heap[eb]? = some (.cells #[ev] 34 (0, 0))) :
    CallsD Try.prog 37 #[.pointer (some ⟨pb, 0, none⟩), .pointer (some ⟨ob, 0, none⟩), .pointer (some ⟨eb, 0, none⟩)] (.panicking [{ v := longV, recovered := false }]) w fun x u' w' =>
      x = .returned (.tuple #[]) ∧ u' = .panicking [{ v := longV, recovered := true }] ∧ Keep (fun q => q = ob ∨ q = eb) w w' ∧ w'.heap[ob]? = some (.cells #[.int .i64 0, .int .i64 0, .slice none 0 0, .slice none 0 0] 77 (0, 0)) ∧ w'.heap[eb]? = some (.cells #[.int .i64 3] 34 (0, 0)) := by
  have hul := Try.underlying114
  have ha := assert_lf (.agg #[])
  have ha2 := assert_ll (.agg #[])
  have n3 : eb ≠ ob := fun e => by rw [e, ho] at he; cases he
  obtain ⟨W1, hW1⟩ : ∃ W1, W1 = w.alloc (.cells #[] 114) := ⟨_, rfl⟩
  have hb1 : Below w.heap.size w W1 := by rw [hW1]; exact (Below.refl w.heap.size w).alloc (Nat.le_refl _) _
  have ho1 := (hb1.block _ (blk_lt ho)).trans ho
  have he1 := (hb1.block _ (blk_lt he)).trans he
  have H1 := Aside0.mk (And.intro hb1 (And.intro ho1 he1))
  have HN := Aside0.mk n3
  have HW1 := Aside0.mk hW1
  clear hb1 ho1 he1 hW1 hp ho he
  refine callsD_of_wpS Try.func37 rfl fun c₀ cs hu => ?_
  apply wpS_seq
  apply wpS_region
  simp [wpOpsS, go_sem, recoverD, hu, Try.ntmps37, Exit.thenS]
  refine wpS_body ?_
  simp only [Array.replicate_succ, Array.replicate_zero, List.push_toArray, List.append_toArray, List.nil_append, List.cons_append, List.setIfInBounds_toArray, List.set_cons_zero, List.set_cons_succ, longV]
  go_upto_region 11 with (fail)
  rw [← HW1.out]
  have s0 := blk_cell H1.out.2.1 0
  have s1 := blk_cell H1.out.2.1 1
  have s2 := blk_cell H1.out.2.1 2
  have s3 := blk_cell H1.out.2.1 3
  have z0 := blk_frozen H1.out.2.1 0
  have z1 := blk_frozen H1.out.2.1 1
  have z2 := blk_frozen H1.out.2.1 2
  have z3 := blk_frozen H1.out.2.1 3
  have e0 := blk_cell H1.out.2.2 0
  have f0 := blk_frozen H1.out.2.2 0
  go_wp2_with fail
  go_end0
  have d1 := blk_set (blk_set (blk_set (blk_set H1.out.2.1 0 (.int .i64 0)) 1 (.int .i64 0)) 2 (.slice none 0 0)) 3 (.slice none 0 0)
  have e1 := H1.out.2.2
  have e2 := blk_set (blk_farC (p := ⟨ob, 3, none⟩) (blk_farC (p := ⟨ob, 2, none⟩) (blk_farC (p := ⟨ob, 1, none⟩) (blk_farC (p := ⟨ob, 0, none⟩) e1 n3 (.int .i64 0)) n3 (.int .i64 0)) n3 (.slice none 0 0)) n3 (.slice none 0 0)) 0 (.int .i64 3)
  have d2 := blk_farC (p := ⟨eb, 0, none⟩) d1 (Ne.symm n3) (.int .i64 3)
  have hk9 := (((((Keep.refl (fun q => q = ob ∨ q = eb) W1).set (p := ⟨ob, 0, none⟩) (.inr (.inl rfl)) (.int .i64 0)).set (p := ⟨ob, 1, none⟩) (.inr (.inl rfl)) (.int .i64 0)).set (p := ⟨ob, 2, none⟩) (.inr (.inl rfl)) (.slice none 0 0)).set (p := ⟨ob, 3, none⟩) (.inr (.inl rfl)) (.slice none 0 0)).set (p := ⟨eb, 0, none⟩) (.inr (.inr rfl)) (.int .i64 3)
  exact ⟨rfl, trivial, (Keep.of_below H1.out.1 _).trans hk9, d2, e2⟩
theorem ecatch_idle (p q r : Addr) (w : World) :
    CallsD Try.prog 37 #[.pointer (some p), .pointer (some q), .pointer (some r)] .returning w fun x u' w' =>
      x = .returned (.tuple #[]) ∧ u' = .returning ∧ w = w' := by
  refine callsD_of_wpS Try.func37 rfl fun c₀ cs hu => ?_
  apply wpS_seq
  apply wpS_region
  simp [wpOpsS, go_sem, recoverD, hu, Try.ntmps37, Exit.thenS]
  refine wpS_body_same hu ?_
  simp only [Array.replicate_succ, Array.replicate_zero, List.push_toArray, List.append_toArray, List.nil_append, List.cons_append, List.setIfInBounds_toArray, List.set_cons_zero, List.set_cons_succ]
  go_wp2
  go_end0
  exact ⟨rfl, trivial, rfl⟩
end
end Go.Proofs.Ytbekjccehhaljaa.H

set_option linter.unusedVariables false
set_option linter.unusedSimpArgs false
namespace Go.Proofs.Ytbekjccehhaljaa.H
open Go.RowKit Go.Hay Go.Proofs.YtbekjccehhaljaaW.PrintWords Go.Proofs.YtbekjccehhaljaaW.PrintLast Go.Proofs.YtbekjccehhaljaaW.PrintMore
structure S54 where
  f0 : List Int
  f1 : Int
def z54 : S54 := ⟨[], 0⟩
def k54 : Kd S54 := Kd.iso (Kd.pair (Kd.slice 3 (Kd.int .i64)) (Kd.int .i64)) (fun x : S54 => (x.f0, x.f1))
theorem k54_open {w : World} {x : S54} {cs : List Value} (h : k54.K w x cs) : ∃ A0 c0, cs = [.slice A0 x.f0.length c0, .int .i64 x.f1] ∧ x.f0.length ≤ c0 ∧ (Kd.int .i64).C w A0 x.f0.length x.f0 := by
  obtain ⟨_, _, rfl, ⟨A0, c0, rfl, l0, g0⟩, rfl⟩ := h
  exact ⟨A0, c0, rfl, l0, g0⟩
theorem k54_mk (w : World) (x : S54) {A0 : Option Addr} {c0 : Nat} (l0 : x.f0.length ≤ c0) (g0 : (Kd.int .i64).C w A0 x.f0.length x.f0) : k54.K w x [.slice A0 x.f0.length c0, .int .i64 x.f1] := ⟨[.slice A0 x.f0.length c0], [.int .i64 x.f1], rfl, ⟨A0, c0, rfl, l0, g0⟩, rfl⟩
def rd_T54 (xs : List S54) (i : Int) : S54 := xs.getD i.toNat z54
theorem at_T54 {w : World} {A : Option Addr} {n : Nat} {xs : List S54} (h : Kd.C k54 w A n xs) (i : Int) (h0 : 0 ≤ i) (h1 : i < n) : ∃ ad A0 c0, A = some ad ∧ w.cell? (ad.add (i.toNat * 2)) = some (.slice A0 (rd_T54 xs i).f0.length c0) ∧ w.cell? ⟨(ad.add (i.toNat * 2)).block, (ad.add (i.toNat * 2)).off + 1, none⟩ = some (.int .i64 (rd_T54 xs i).f1) ∧ (rd_T54 xs i).f0.length ≤ c0 ∧ (Kd.int .i64).C w A0 (rd_T54 xs i).f0.length (rd_T54 xs i).f0 := by
  obtain ⟨ad, c, e, _, hK, hc0⟩ := Kd.C_get h z54 i h0 h1
  have hc : ∀ j u, c[j]? = some u → w.cell? (ad.add (i.toNat * 2 + j)) = some u := hc0
  obtain ⟨A0, c0, rfl, l0, g0⟩ := k54_open hK
  exact ⟨ad, A0, c0, e, hc 0 _ rfl, by rw [← add_field _ _ 1 (by omega)]; exact hc 1 _ rfl, l0, g0⟩
end Go.Proofs.Ytbekjccehhaljaa.H

