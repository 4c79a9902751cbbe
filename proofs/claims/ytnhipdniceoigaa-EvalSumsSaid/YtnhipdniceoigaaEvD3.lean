/- What a task's operations do: a touch, a sync, a number that is told. -/
import Derived.Test.YtnhipdniceoigaaEvD2
set_option linter.unusedVariables false
set_option linter.unusedSimpArgs false
namespace Go.Proofs.Ytnhipdniceoigaa.H
open Go.RowKit Go.Hay Go.Proofs.YtnhipdniceoigaaW.PrintWords Go.Proofs.YtnhipdniceoigaaW.PrintLast Go.Proofs.YtnhipdniceoigaaW.PrintMore
theorem info2 : (Try.prog.info? 2).map (fun i => (i.zero, i.size, i.bytes)) = some (some (.int .i64 0), 1, 8) := by kernel_rfl
theorem info49 : (Try.prog.info? 49).map (fun i => (i.zero, i.size, i.bytes)) = some (some (.agg #[.slice none 0 0, .int .i64 0]), 2, 32) := by kernel_rfl
theorem info122 : (Try.prog.info? 122).map (fun i => (i.zero, i.size, i.bytes)) = some (some (.agg #[.int .i64 0, .int .i64 0]), 2, 16) := by kernel_rfl
section
variable {tb wb me B : Nat} {vp vw : Value} {T : Ts} {w : World}
set_option maxRecDepth 100000 in
set_option maxHeartbeats 4000000 in
theorem ttouch_any (h : TB tb wb vp T vw me B w) (x : S55) (ha : 0 ≤ x.f1 ∧ x.f1 < 8) (hb : 0 ≤ x.f2 ∧ x.f2 < 4) (hn : (hd T x.f2).1 = true) : Calls Try.prog 50 #[.pointer (some ⟨tb, 0, none⟩), xv x] w (GoP tb wb vp (setR T x.f1 (hd T x.f2).2) vw me B w) := by
  obtain ⟨x0, x1, x2, x3, x4⟩ := x
  try simp only at *
  obtain ⟨a, rfl⟩ : ∃ a : Nat, x1 = a := ⟨x1.toNat, by omega⟩
  obtain ⟨b, rfl⟩ : ∃ b : Nat, x2 = b := ⟨x2.toNat, by omega⟩
  have hn' : (T.hands.getD b (false, 0)).1 = true := hn
  have hn2 : (hd T (b : Int)).2 = (T.hands.getD b (false, 0)).2 := rfl
  obtain ⟨W, hW⟩ : ∃ W, W = w.alloc (.cells #[.int .i64 x0, .int .i64 (a), .int .i64 (b), .int .i64 (x3), .int .i64 x4] 55) := ⟨_, rfl⟩
  have hb1 : Below w.heap.size w W := by rw [hW]; exact (Below.refl w.heap.size w).alloc (Nat.le_refl _) _
  have hbx : W.heap[w.heap.size]? = some (.cells #[.int .i64 x0, .int .i64 (a), .int .i64 (b), .int .i64 (x3), .int .i64 x4] 55 (0, 0)) := by rw [hW]; exact alloc_blk w _
  have h1 := h.below hb1
  have c0 := blk_cell hbx 0
  have c1 := blk_cell hbx 1
  have c2 := blk_cell hbx 2
  have c3 := blk_cell hbx 3
  have c4 := blk_cell hbx 4
  have t0 := h1.fix.1
  have H := Aside0.mk (And.intro h1 hb1)
  have HWW := Aside0.mk hW
  have ha8 : ((a : Int) < 8) = True := eq_true ha.2
  have hb4 : ((b : Int) < 4) = True := eq_true hb.2
  have r := h1.reg a (by omega)
  have r1 := (h1.hand b (by omega)).1
  have r2 := (h1.hand b (by omega)).2
  rw [hn'] at r1
  rw [hn2]
  have HA := Aside0.mk ha.2
  clear ha hb hn hn' hn2
  generalize (T.hands.getD b (false, 0)).2 = y at r2
  unfold xv
  clear h h1 hb1 hbx hW
  go_enter Try.func50, Try.ntmps50
  go_wp2_with fail
  rw [← HWW.out]
  have z := H.out.1.frozen (2 + a)
  go_quiet (fail)
  go_wp2_with fail
  refine wp_region_seq2 (fun w' => Drawn0 W w') [14] [.take 0, .take 1, .take 2, .take 3, .take 4, .take 5, .take 6, .take 7, .take 8, .take 9, .take 10, .take 11, .take 12, .take 13, .fin 14] (by kernel_rfl) (by kernel_rfl) rfl (by kernel_rfl) (panic_viaE (P := Try.prog) (fn := Try.f50) (R := GoP tb wb vp (setR T a y) vw me B w) (fun _ _ _ => rfl)) ?_
  have hs : Drawn0 W (W.drewN nq).drew := (Drawn0.step ⟨_, rfl⟩ 1)
  repeat (
    (first
      | (refine runSeq2_take (v := ?_) (by rfl) (by rfl) (fun w' hS => ?_) hs ?_
         rotate_left
         · (obtain ⟨n, rfl⟩ := hS; go_simp; exact rfl))
      | refine runSeq2_skip (by rfl) (by rfl) hs ?_)
    (try simp only [Act.put, List.setIfInBounds_toArray, List.set_cons_zero, List.set_cons_succ]))
  refine runSeq2_fin (by rfl) (by rfl) (fun K hK => ?_)
  go_simp
  refine hK _ _ ?_
  refine runSeq2_nil ?_
  clear hK K hs
  go_wp2_with fail
  go_end0
  exact ⟨rfl, (H.out.1.drewN _).setReg a (by have := HA.out; omega) _, ((Keep.of_below H.out.2 (fun q => q = tb)).drewN _).set (p := ⟨tb, 2 + a, none⟩) (.inr rfl) _⟩
set_option maxRecDepth 100000 in
set_option maxHeartbeats 4000000 in
theorem ttouch_no (h : TB tb wb vp T vw me B w) (x : S55) (hb : 0 ≤ x.f2 ∧ x.f2 < 4) (hn : (hd T x.f2).1 = false) : Calls Try.prog 50 #[.pointer (some ⟨tb, 0, none⟩), xv x] w (StopP 2 w) := by
  obtain ⟨x0, x1, x2, x3, x4⟩ := x
  try simp only at *
  obtain ⟨b, rfl⟩ : ∃ b : Nat, x2 = b := ⟨x2.toNat, by omega⟩
  have hn' : (T.hands.getD b (false, 0)).1 = false := hn
  obtain ⟨W, hW⟩ : ∃ W, W = w.alloc (.cells #[.int .i64 x0, .int .i64 (x1), .int .i64 (b), .int .i64 (x3), .int .i64 x4] 55) := ⟨_, rfl⟩
  have hb1 : Below w.heap.size w W := by rw [hW]; exact (Below.refl w.heap.size w).alloc (Nat.le_refl _) _
  have hbx : W.heap[w.heap.size]? = some (.cells #[.int .i64 x0, .int .i64 (x1), .int .i64 (b), .int .i64 (x3), .int .i64 x4] 55 (0, 0)) := by rw [hW]; exact alloc_blk w _
  have h1 := h.below hb1
  have c0 := blk_cell hbx 0
  have c1 := blk_cell hbx 1
  have c2 := blk_cell hbx 2
  have c3 := blk_cell hbx 3
  have c4 := blk_cell hbx 4
  have t0 := h1.fix.1
  have H := Aside0.mk (And.intro h1 hb1)
  have HWW := Aside0.mk hW
  have hb4 : ((b : Int) < 4) = True := eq_true hb.2
  have r1 := (h1.hand b (by omega)).1
  rw [hn'] at r1
  clear hb hn hn'
  unfold xv
  clear h h1 hb1 hbx hW
  go_enter Try.func50, Try.ntmps50
  go_wp2_with fail
  rw [← HWW.out]
  go_quiet (fail)
  go_wp2_with fail
  refine (fail_any 2 _).mono ?_
  rintro e w' ⟨rfl, hb⟩
  exact ⟨rfl, rfl, (pw_below_drewN H.out.2 _).trans (hb.mono (pw_below_drewN H.out.2 _).size)⟩
theorem st_at {e B g n cap : Nat} {ok : Nat → Prop} {W : World} {xs : List (Int × Int)} (h : kSt.R e W B ok (.slice (some ⟨g, 0, none⟩) n cap) xs) {i : Nat} (hi : i < xs.length) : W.cell? ⟨g, i * 2, none⟩ = some (.int .i64 xs[i].1) ∧ W.cell? ⟨g, i * 2 + 1, none⟩ = some (.int .i64 xs[i].2) := by
  have hq := Kd.R_reads' h
  obtain ⟨ad, e1, hc⟩ := hq.2.2.2.2 (by omega)
  cases e1
  obtain ⟨cs, h1, h2, h3⟩ := hc i _ (List.getElem?_eq_getElem hi)
  obtain rfl := kSt_open h2
  have q0 := h3 0 _ rfl
  have q1 := h3 1 _ rfl
  rw [add_plain] at q0 q1
  exact ⟨q0, q1⟩
/-- the first i that wait are stored. -/
def syncTo (T : Ts) (i : Nat) : Ts := { T with regs := (T.wait.take i).foldl (fun r s => r.set s.1.toNat s.2) T.regs }
theorem syncTo_next {T : Ts} {i : Nat} (h : i < T.wait.length) : syncTo T (i + 1) = { syncTo T i with regs := (syncTo T i).regs.set T.wait[i].1.toNat T.wait[i].2 } := by
  unfold syncTo
  rw [List.take_succ_eq_append_getElem h, List.foldl_append]; rfl
def SyncP (tb wb : Nat) (vp : Value) (T : Ts) (me B : Nat) (w : World) (e : Ending) (w' : World) : Prop := e = .returned (.tuple #[]) ∧ TB tb wb vp (syncP T) (.slice none 0 0) me B w' ∧ Keep (fun q => q = tb) w w'
set_option maxRecDepth 100000 in
set_option maxHeartbeats 4000000 in
theorem sync_any (h : TB tb wb vp T vw me B w) (x : S55) (hw : ∀ s ∈ T.wait, 0 ≤ s.1 ∧ s.1 < 8) (hl : T.wait.length ≤ 1000000) : Calls Try.prog 34 #[.pointer (some ⟨tb, 0, none⟩), xv x] w (SyncP tb wb vp T me B w) := by
  obtain ⟨x0, x1, x2, x3, x4⟩ := x
  try simp only at *
  obtain ⟨A, c, rfl⟩ := Kd.R_slice h.wait
  obtain ⟨W, hW⟩ : ∃ W, W = w.alloc (.cells #[.int .i64 x0, .int .i64 (x1), .int .i64 (x2), .int .i64 (x3), .int .i64 x4] 55) := ⟨_, rfl⟩
  have hb1 : Below w.heap.size w W := by rw [hW]; exact (Below.refl w.heap.size w).alloc (Nat.le_refl _) _
  have hbx : W.heap[w.heap.size]? = some (.cells #[.int .i64 x0, .int .i64 (x1), .int .i64 (x2), .int .i64 (x3), .int .i64 x4] 55 (0, 0)) := by rw [hW]; exact alloc_blk w _
  have h1 := h.below hb1
  have c0 := blk_cell hbx 0
  have c1 := blk_cell hbx 1
  have c2 := blk_cell hbx 2
  have c3 := blk_cell hbx 3
  have c4 := blk_cell hbx 4
  have t0 := h1.fix.1
  have H := Aside0.mk (And.intro h1 hb1)
  have HWW := Aside0.mk hW
  have q0 := h1.fix.2.2.1
  have HB := Aside0.mk (And.intro (show TB tb wb vp (syncTo T 0) (.slice A T.wait.length c) me B W from h1) (Keep.of_below hb1 (fun q => q = tb)))
  have HW := Aside0.mk hw
  clear hw c0 c1 c2 c3 c4
  clear HWW
  subst hW
  unfold xv
  clear h h1 hb1 hbx
  go_enter Try.func34, Try.ntmps34
  go_wp2_with fail
  go_loopw [11] (fun v11 wr => ∃ (i : Nat), v11 = .int .i64 i ∧ i ≤ T.wait.length ∧ Aside0 (TB tb wb vp (syncTo T i) (.slice A T.wait.length c) me B wr ∧ Keep (fun q => q = tb) w wr)) (fun v11 _ => T.wait.length - (intOf v11).toNat)
  case atStart => exact ⟨0, rfl, Nat.zero_le _, HB⟩
  case round =>
    clear HB
    obtain ⟨i, rfl, hi, HB⟩ := hrel
    by_cases hlt : i < T.wait.length
    · obtain ⟨g, cp, hv, _, _, C, hC⟩ := Kd.R_form HB.out.1.wait (show 0 < T.wait.length by omega)
      cases hv
      obtain ⟨p0, p1⟩ := st_at HB.out.1.wait hlt
      replace p0 : wr.cell? ⟨g, i * 2, none⟩ = some (.int .i64 T.wait[i].1) := p0
      replace p1 : wr.cell? ⟨g, i * 2 + 1, none⟩ = some (.int .i64 T.wait[i].2) := p1
      have hx := HW.out T.wait[i] (List.getElem_mem hlt)
      have HN := syncTo_next hlt
      obtain ⟨a, ha⟩ : ∃ a : Nat, T.wait[i].1 = a := ⟨T.wait[i].1.toNat, by omega⟩
      rw [ha] at p0 HN
      rw [Int.toNat_natCast] at HN
      have ha8 : ((a : Int) < 8) = True := eq_true (by omega)
      have HA := Aside0.mk (show a < 8 by omega)
      generalize T.wait[i].2 = y at p1 HN
      have HNN := Aside0.mk HN
      obtain ⟨W2, hW2⟩ : ∃ W2, W2 = wr.alloc (.cells #[.int .i64 a, .int .i64 y] 122) := ⟨_, rfl⟩
      have hb2 : Below wr.heap.size wr W2 := by rw [hW2]; exact (Below.refl wr.heap.size wr).alloc (Nat.le_refl _) _
      have hbx2 : W2.heap[wr.heap.size]? = some (.cells #[.int .i64 a, .int .i64 y] 122 (0, 0)) := by rw [hW2]; exact alloc_blk wr _
      have hT2 := HB.out.1.below hb2
      have s0 := blk_cell hbx2 0
      have s1 := blk_cell hbx2 1
      have z := hT2.frozen (2 + a)
      have r := hT2.reg a (by omega)
      have HB2 := Aside0.mk (And.intro hT2 (HB.out.2.trans (Keep.of_below hb2 _)))
      have HW2 := Aside0.mk hW2
      clear hC ha HN hx hb2 hbx2 hT2 hW2 HB
      go_wp2_with fail
      rw [← HW2.out]
      refine wp_region_seq2 (fun w' => Drawn0 W2 w') [8] [.take 0, .take 1, .take 2, .take 3, .take 4, .take 5, .take 6, .take 7, .fin 8] (by kernel_rfl) (by kernel_rfl) rfl (by kernel_rfl) (panic_viaE (P := Try.prog) (fn := Try.f34) (R := SyncP tb wb vp T me B w) (fun _ _ _ => rfl)) ?_
      have hs : Drawn0 W2 W2.drew := (Drawn0.refl W2).step 1
      repeat (
        (first
          | (refine runSeq2_take (v := ?_) (by rfl) (by rfl) (fun w' hS => ?_) hs ?_
             rotate_left
             · (obtain ⟨n, rfl⟩ := hS; go_simp; exact rfl))
          | refine runSeq2_skip (by rfl) (by rfl) hs ?_)
        (try simp only [Act.put, List.setIfInBounds_toArray, List.set_cons_zero, List.set_cons_succ]))
      refine runSeq2_fin (by rfl) (by rfl) (fun K hK => ?_)
      go_simp
      refine hK _ _ ?_
      refine runSeq2_nil ?_
      clear hK K hs
      have HB3 := Aside0.mk (show TB tb wb vp (syncTo T (i + 1)) (.slice (some ⟨g, 0, none⟩) T.wait.length c) me B (W2.setCell ⟨tb, 2 + a, none⟩ (.int .i64 y)).drew ∧ Keep (fun q => q = tb) w (W2.setCell ⟨tb, 2 + a, none⟩ (.int .i64 y)).drew from ⟨by rw [HNN.out]; exact (HB2.out.1.setReg a HA.out y).drewN 1, (HB2.out.2.set (p := ⟨tb, 2 + a, none⟩) (.inr rfl) _).drew⟩)
      clear HB2 HW2 HNN s0 s1 z r p0 p1
      go_wp2_with fail
      go_roundw
      case rel => exact ⟨i + 1, by go_num, by omega, HB3⟩
      case measure => simp [intOf]; omega
    · obtain rfl : i = T.wait.length := by omega
      have z := HB.out.1.frozen 18
      have q0 := HB.out.1.fix.2.2.1
      go_wp2_with fail
      go_end0
      have h9 := HB.out.1.setWait (xs := []) (v9 := .slice none 0 0) rfl (Kd.R_nil _ _ _ _ _) (by intro e; cases e)
      refine ⟨rfl, ?_, HB.out.2.set (p := ⟨tb, 18, none⟩) (.inr rfl) _⟩
      have e : ({ syncTo T T.wait.length with wait := [] } : Ts) = syncP T := by unfold syncTo syncP; rw [List.take_length]
      rw [← e]; exact h9
end
end Go.Proofs.Ytnhipdniceoigaa.H
