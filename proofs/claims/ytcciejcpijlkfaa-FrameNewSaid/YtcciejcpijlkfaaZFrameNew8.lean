/- What the proof of FrameNew stands on, part 8: this session's own texts and the words that the kit's print lays, those that are used. -/
import Derived.Test.YtcciejcpijlkfaaZFrameNew7
set_option linter.unusedVariables false
set_option linter.unusedSimpArgs false
namespace Go.Proofs.Ytcciejcpijlkfaa.H
open Go.RowKit Go.Hay Go.Proofs.YtcciejcpijlkfaaW.PrintWords Go.Proofs.YtcciejcpijlkfaaW.PrintLast Go.Proofs.YtcciejcpijlkfaaW.PrintMore
theorem goes_any (w : World) : Calls Try.prog 62 #[] w fun e w' => e = .returned (efV efGoes none 0 none 0) ∧ Below w.heap.size w w' := by
  have hu := Try.underlying36
  go_enter Try.func62, Try.ntmps62
  go_wp2_with fail
  exact ⟨rfl, _, eff_results (e := efGoes) rfl rfl (alloc_blk w _), rfl, (Below.refl _ _).alloc (Nat.le_refl _) _⟩
def ftruthV (b : Bool) : Int := if b = true then 1 else 0
theorem ftruth_less (y u : Int) : ftruthV (decide (y < u)) = lessV y u := by unfold ftruthV lessV; by_cases h : y < u <;> simp [h]
theorem ftruth_same (y u : Int) : ftruthV (y == u) = sameV y u := by unfold ftruthV sameV; by_cases h : y = u <;> simp [h]
theorem ftruth_any (b : Bool) (w : World) : Calls Try.prog 63 #[.bool b] w fun e w' => e = .returned (.int .i64 (ftruthV b)) ∧ w = w' := by
  cases b with
  | false =>
    go_enter Try.func63, Try.ntmps63
    go_wp2_with fail
    go_ret
    exact ⟨rfl, rfl⟩
  | true =>
    go_enter Try.func63, Try.ntmps63
    go_wp2_with fail
    go_ret
    exact ⟨rfl, rfl⟩
theorem ffails_any (why : Int) (w : World) : Calls Try.prog 27 #[.int .i64 why] w fun e w' => e = .returned (efV (efFails why) none 0 none 0) ∧ Below w.heap.size w w' := by
  have hu := Try.underlying36
  go_enter Try.func27, Try.ntmps27
  go_wp2_with fail
  exact ⟨rfl, _, eff_results (e := efFails why) rfl rfl (alloc_blk w _), rfl, (Below.refl _ _).alloc (Nat.le_refl _) _⟩
section
variable {A : Option Addr} {n c : Nat} {b d : Int} {fb : Nat} {vp : Value} {F : Fr} {w : World}
set_option maxRecDepth 100000 in
set_option maxHeartbeats 4000000 in
theorem dset_any (h : FB fb F vp w) (x : S65) (ha : 0 ≤ x.f1 ∧ x.f1 < 8) : Calls Try.prog 40 #[dV A n c b d fb, xvF x] w (DoP fb vp (efGoes, fSet F x.f1 x.f4) w) := by
  obtain ⟨x0, x1, x2, x3, x4⟩ := x
  obtain ⟨W, hW⟩ : ∃ W, W = (((w.alloc (.cells #[.slice A n c, .int .i64 b, .int .i64 d, .pointer (some ⟨fb, 0, none⟩)] 115)).alloc (.cells #[.int .i64 x0, .int .i64 x1, .int .i64 x2, .int .i64 x3, .int .i64 x4] 65)).alloc (.cells #[.int .i64 0, .int .i64 0, .int .i64 0, .int .i64 0, .int .i64 0, .int .i64 0, .slice none 0 0, .slice none 0 0] 36)) := ⟨_, rfl⟩
  have hD : DW w A n c b d fb ⟨x0, x1, x2, x3, x4⟩ W := by rw [hW]; exact DW.start w A n c b d fb ⟨x0, x1, x2, x3, x4⟩
  have HD := Aside0.mk hD
  have HW := Aside0.mk hW
  have H := Aside0.mk (And.intro h (h.below hD.below))
  clear hW hD h
  unfold dV xvF
  have ha : 0 ≤ x1 ∧ x1 < 8 := ha
  obtain ⟨a, rfl⟩ : ∃ a : Nat, x1 = a := ⟨x1.toNat, by omega⟩
  have ha8 : ((a : Int) < 8) = True := eq_true ha.2
  have HA := Aside0.mk (show a < 8 by omega)
  clear ha
  go_enter Try.func40, Try.ntmps40
  go_upto_region 1 with (fail)
  rw [← HW.out]
  refine wp_region_T (fun w' => Drawn0 W w') [9] (.takes [0, 1, 2, 3, 4, 5, 6, 7, 8] (.fin 9 .done)) (by kernel_rfl) (by kernel_rfl) (by kernel_rfl) (by kernel_rfl) (panic_via (P := Try.prog) (fn := Try.f40) (R := DoP fb vp (efGoes, fSet F a x4) w) (fun _ _ _ => rfl)) ?_
  have hs : Drawn0 W W.drew := (Drawn0.refl W).step 1
  simp only [Turns.takes]
  repeat (
    (first
      | (refine runT_take (v := ?_) (by rfl) (by rfl) (fun w' hS => ?_) hs ?_
         rotate_left
         · (obtain ⟨n, rfl⟩ := hS; have d0 := blk_cell HD.out.c0 0; have d1 := blk_cell HD.out.c0 1; have d2 := blk_cell HD.out.c0 2; have d3 := blk_cell HD.out.c0 3; have c0 := blk_cell HD.out.c1 0; have c1 := blk_cell HD.out.c1 1; have c2 := blk_cell HD.out.c1 2; have c3 := blk_cell HD.out.c1 3; have c4 := blk_cell HD.out.c1 4; go_simp; exact rfl))
      | refine runT_skip (by rfl) (by rfl) hs ?_)
    (try simp only [Act.put, List.setIfInBounds_toArray, List.set_cons_zero, List.set_cons_succ]))
  clear hs
  obtain ⟨wd, hwd⟩ : ∃ wd, wd = W.drew := ⟨_, rfl⟩
  rw [← hwd]
  have Hbd := Aside0.mk (show Below W.heap.size W wd by rw [hwd]; exact (Below.refl _ _).drew)
  clear hwd
  have hF := H.out.2.below (Hbd.out)
  have r := hF.reg a HA.out
  have z := hF.frozen (5 + a)
  refine runT_fin (by rfl) (by rfl) (fun K hK => ?_)
  go_simp
  refine hK _ _ ?_
  clear hK K
  refine runT_done ?_
  obtain ⟨W1, hW1⟩ : ∃ W1, W1 = wd.setCell ⟨fb, 5 + a, none⟩ (.int .i64 x4) := ⟨_, rfl⟩
  rw [← hW1]
  have hF1 := hF.setReg a HA.out x4
  rw [← hW1] at hF1
  have hk1 : Keep (fun q => q = fb) wd W1 := by rw [hW1]; exact (Keep.refl (fun q => q = fb) wd).set (p := ⟨fb, 5 + a, none⟩) (.inr rfl) _
  have H1 := Aside0.mk (And.intro hF1 hk1)
  clear hF r z hF1 hk1 hW1
  go_upto_region 2 with (fail)
  go_wp2_with fail
  refine (goes_any _).mono ?_
  rintro e w2 ⟨rfl, hb2⟩
  have hk2 : Keep (fun q => q = fb) wd w2 := H1.out.2.then (Keep.of_below hb2 (fun _ => False)) (fun _ _ h => h.elim)
  have hF2 := H1.out.1.below hb2
  have hc2 : w2.heap[w.heap.size + 1 + 1]? = some zEff := hk2.blk ((Hbd.out.block _ (blk_lt HD.out.c2)).trans HD.out.c2) (by have := H.out.1.lt; omega)
  have HC2 := Aside0.mk hc2
  have H2 := Aside0.mk (And.intro hF2 hk2)
  have q0 := blk_cell hc2 0
  have q1 := blk_cell hc2 1
  have q2 := blk_cell hc2 2
  have q3 := blk_cell hc2 3
  have q4 := blk_cell hc2 4
  have q5 := blk_cell hc2 5
  have q6 := blk_cell hc2 6
  have q7 := blk_cell hc2 7
  have f0 := blk_frozen hc2 0
  have f1 := blk_frozen hc2 1
  have f2 := blk_frozen hc2 2
  have f3 := blk_frozen hc2 3
  have f4 := blk_frozen hc2 4
  have f5 := blk_frozen hc2 5
  have f6 := blk_frozen hc2 6
  have f7 := blk_frozen hc2 7
  clear hb2 hk2 hF2 hc2
  try unfold efV
  go_wp2_with fail
  obtain ⟨hs1, hs2⟩ := storeE_at HC2.out (efGoes) (none) (0) (none) (0)
  refine ⟨rfl, _, eff_results (e := efGoes) (Aa := none) (ca := 0) (Ab := none) (cb := 0) rfl rfl hs1, none, 0, none, 0, rfl, ?_, H2.out.1.keep hs2 (by have := H.out.1.lt; omega), ?_⟩
  · exact EfC.plain _ _ _ ⟨rfl, rfl⟩
  · exact ((Keep.of_below (HD.out.below.trans (Hbd.out.mono HD.out.below.size)) (fun q => q = fb)).trans H2.out.2).then hs2 (fun q hq e => by omega)
set_option maxRecDepth 100000 in
set_option maxHeartbeats 4000000 in
theorem dmove_any (h : FB fb F vp w) (x : S65) (ha : 0 ≤ x.f1 ∧ x.f1 < 8) (hb : 0 ≤ x.f2 ∧ x.f2 < 8) : Calls Try.prog 41 #[dV A n c b d fb, xvF x] w (DoP fb vp (efGoes, fSet F x.f1 (fR F x.f2)) w) := by
  obtain ⟨x0, x1, x2, x3, x4⟩ := x
  obtain ⟨W, hW⟩ : ∃ W, W = (((w.alloc (.cells #[.slice A n c, .int .i64 b, .int .i64 d, .pointer (some ⟨fb, 0, none⟩)] 115)).alloc (.cells #[.int .i64 x0, .int .i64 x1, .int .i64 x2, .int .i64 x3, .int .i64 x4] 65)).alloc (.cells #[.int .i64 0, .int .i64 0, .int .i64 0, .int .i64 0, .int .i64 0, .int .i64 0, .slice none 0 0, .slice none 0 0] 36)) := ⟨_, rfl⟩
  have hD : DW w A n c b d fb ⟨x0, x1, x2, x3, x4⟩ W := by rw [hW]; exact DW.start w A n c b d fb ⟨x0, x1, x2, x3, x4⟩
  have HD := Aside0.mk hD
  have HW := Aside0.mk hW
  have H := Aside0.mk (And.intro h (h.below hD.below))
  clear hW hD h
  unfold dV xvF
  have ha : 0 ≤ x1 ∧ x1 < 8 := ha
  obtain ⟨a, rfl⟩ : ∃ a : Nat, x1 = a := ⟨x1.toNat, by omega⟩
  have h8a : ((a : Int) < 8) = True := eq_true ha.2
  have HA := Aside0.mk (show a < 8 by omega)
  clear ha
  have hb : 0 ≤ x2 ∧ x2 < 8 := hb
  obtain ⟨b2, rfl⟩ : ∃ b2 : Nat, x2 = b2 := ⟨x2.toNat, by omega⟩
  have h8b : ((b2 : Int) < 8) = True := eq_true hb.2
  have HB := Aside0.mk (show b2 < 8 by omega)
  clear hb
  have r2 := H.out.2.reg b2 HB.out
  have hrg : fR F (b2 : Int) = F.regs.getD b2 0 := rfl
  rw [hrg]
  obtain ⟨y, hy⟩ : ∃ y, y = F.regs.getD b2 0 := ⟨_, rfl⟩
  rw [← hy] at r2 ⊢
  clear hrg hy
  go_enter Try.func41, Try.ntmps41
  go_upto_region 1 with (fail)
  rw [← HW.out]
  refine wp_region_T (fun w' => Drawn0 W w') [15] (.takes [0, 1, 2, 3, 4, 5, 6, 7, 8, 9, 10, 11, 12, 13, 14] (.fin 15 .done)) (by kernel_rfl) (by kernel_rfl) (by kernel_rfl) (by kernel_rfl) (panic_via (P := Try.prog) (fn := Try.f41) (R := DoP fb vp (efGoes, fSet F a y) w) (fun _ _ _ => rfl)) ?_
  have hs : Drawn0 W W.drew := (Drawn0.refl W).step 1
  simp only [Turns.takes]
  repeat (
    (first
      | (refine runT_take (v := ?_) (by rfl) (by rfl) (fun w' hS => ?_) hs ?_
         rotate_left
         · (obtain ⟨n, rfl⟩ := hS; have d0 := blk_cell HD.out.c0 0; have d1 := blk_cell HD.out.c0 1; have d2 := blk_cell HD.out.c0 2; have d3 := blk_cell HD.out.c0 3; have c0 := blk_cell HD.out.c1 0; have c1 := blk_cell HD.out.c1 1; have c2 := blk_cell HD.out.c1 2; have c3 := blk_cell HD.out.c1 3; have c4 := blk_cell HD.out.c1 4; go_simp; exact rfl))
      | refine runT_skip (by rfl) (by rfl) hs ?_)
    (try simp only [Act.put, List.setIfInBounds_toArray, List.set_cons_zero, List.set_cons_succ]))
  clear hs
  obtain ⟨wd, hwd⟩ : ∃ wd, wd = W.drew := ⟨_, rfl⟩
  rw [← hwd]
  have Hbd := Aside0.mk (show Below W.heap.size W wd by rw [hwd]; exact (Below.refl _ _).drew)
  clear hwd
  have hF := H.out.2.below (Hbd.out)
  have r := hF.reg a HA.out
  have z := hF.frozen (5 + a)
  refine runT_fin (by rfl) (by rfl) (fun K hK => ?_)
  go_simp
  refine hK _ _ ?_
  clear hK K
  refine runT_done ?_
  obtain ⟨W1, hW1⟩ : ∃ W1, W1 = wd.setCell ⟨fb, 5 + a, none⟩ (.int .i64 y) := ⟨_, rfl⟩
  rw [← hW1]
  have hF1 := hF.setReg a HA.out y
  rw [← hW1] at hF1
  have hk1 : Keep (fun q => q = fb) wd W1 := by rw [hW1]; exact (Keep.refl (fun q => q = fb) wd).set (p := ⟨fb, 5 + a, none⟩) (.inr rfl) _
  have H1 := Aside0.mk (And.intro hF1 hk1)
  clear hF r z hF1 hk1 hW1
  go_upto_region 2 with (fail)
  go_wp2_with fail
  refine (goes_any _).mono ?_
  rintro e w2 ⟨rfl, hb2⟩
  have hk2 : Keep (fun q => q = fb) wd w2 := H1.out.2.then (Keep.of_below hb2 (fun _ => False)) (fun _ _ h => h.elim)
  have hF2 := H1.out.1.below hb2
  have hc2 : w2.heap[w.heap.size + 1 + 1]? = some zEff := hk2.blk ((Hbd.out.block _ (blk_lt HD.out.c2)).trans HD.out.c2) (by have := H.out.1.lt; omega)
  have HC2 := Aside0.mk hc2
  have H2 := Aside0.mk (And.intro hF2 hk2)
  have q0 := blk_cell hc2 0
  have q1 := blk_cell hc2 1
  have q2 := blk_cell hc2 2
  have q3 := blk_cell hc2 3
  have q4 := blk_cell hc2 4
  have q5 := blk_cell hc2 5
  have q6 := blk_cell hc2 6
  have q7 := blk_cell hc2 7
  have f0 := blk_frozen hc2 0
  have f1 := blk_frozen hc2 1
  have f2 := blk_frozen hc2 2
  have f3 := blk_frozen hc2 3
  have f4 := blk_frozen hc2 4
  have f5 := blk_frozen hc2 5
  have f6 := blk_frozen hc2 6
  have f7 := blk_frozen hc2 7
  clear hb2 hk2 hF2 hc2
  try unfold efV
  go_wp2_with fail
  obtain ⟨hs1, hs2⟩ := storeE_at HC2.out (efGoes) (none) (0) (none) (0)
  refine ⟨rfl, _, eff_results (e := efGoes) (Aa := none) (ca := 0) (Ab := none) (cb := 0) rfl rfl hs1, none, 0, none, 0, rfl, ?_, H2.out.1.keep hs2 (by have := H.out.1.lt; omega), ?_⟩
  · exact EfC.plain _ _ _ ⟨rfl, rfl⟩
  · exact ((Keep.of_below (HD.out.below.trans (Hbd.out.mono HD.out.below.size)) (fun q => q = fb)).trans H2.out.2).then hs2 (fun q hq e => by omega)
set_option maxRecDepth 100000 in
set_option maxHeartbeats 4000000 in
theorem djump_any (h : FB fb F vp w) (x : S65) : Calls Try.prog 43 #[dV A n c b d fb, xvF x] w (DoP fb vp (efGoes, { F with at_ := x.f4 }) w) := by
  obtain ⟨x0, x1, x2, x3, x4⟩ := x
  obtain ⟨W, hW⟩ : ∃ W, W = (((w.alloc (.cells #[.slice A n c, .int .i64 b, .int .i64 d, .pointer (some ⟨fb, 0, none⟩)] 115)).alloc (.cells #[.int .i64 x0, .int .i64 x1, .int .i64 x2, .int .i64 x3, .int .i64 x4] 65)).alloc (.cells #[.int .i64 0, .int .i64 0, .int .i64 0, .int .i64 0, .int .i64 0, .int .i64 0, .slice none 0 0, .slice none 0 0] 36)) := ⟨_, rfl⟩
  have hD : DW w A n c b d fb ⟨x0, x1, x2, x3, x4⟩ W := by rw [hW]; exact DW.start w A n c b d fb ⟨x0, x1, x2, x3, x4⟩
  have HD := Aside0.mk hD
  have HW := Aside0.mk hW
  have H := Aside0.mk (And.intro h (h.below hD.below))
  clear hW hD h
  unfold dV xvF
  go_enter Try.func43, Try.ntmps43
  go_upto_region 1 with (fail)
  rw [← HW.out]
  obtain ⟨wd, hwd⟩ : ∃ wd, wd = W := ⟨_, rfl⟩
  rw [← hwd]
  have Hbd := Aside0.mk (show Below W.heap.size W wd by rw [hwd]; exact (Below.refl _ _))
  clear hwd
  have HDD := Aside0.mk (HD.out.below2 Hbd.out)
  have d0 := blk_cell (HDD.out).c0 0
  have d1 := blk_cell (HDD.out).c0 1
  have d2 := blk_cell (HDD.out).c0 2
  have d3 := blk_cell (HDD.out).c0 3
  have c0 := blk_cell (HDD.out).c1 0
  have c1 := blk_cell (HDD.out).c1 1
  have c2 := blk_cell (HDD.out).c1 2
  have c3 := blk_cell (HDD.out).c1 3
  have c4 := blk_cell (HDD.out).c1 4
  have hF := H.out.2.below (Hbd.out)
  have t1 := hF.fix.2.1
  have z1 := hF.frozen 1
  go_upto_region 2 with (fail)
  obtain ⟨W1, hW1⟩ : ∃ W1, W1 = wd.setCell ⟨fb, 1, none⟩ (.int .i64 x4) := ⟨_, rfl⟩
  rw [← hW1]
  have hF1 := hF.setAt x4
  rw [← hW1] at hF1
  have hk1 : Keep (fun q => q = fb) wd W1 := by rw [hW1]; exact (Keep.refl (fun q => q = fb) wd).set (p := ⟨fb, 1, none⟩) (.inr rfl) _
  have H1 := Aside0.mk (And.intro hF1 hk1)
  clear hF t1 z1 hF1 hk1 hW1 d0 d1 d2 d3 c0 c1 c2 c3 c4
  go_wp2_with fail
  refine (goes_any _).mono ?_
  rintro e w2 ⟨rfl, hb2⟩
  have hk2 : Keep (fun q => q = fb) wd w2 := H1.out.2.then (Keep.of_below hb2 (fun _ => False)) (fun _ _ h => h.elim)
  have hF2 := H1.out.1.below hb2
  have hc2 : w2.heap[w.heap.size + 1 + 1]? = some zEff := hk2.blk ((Hbd.out.block _ (blk_lt HD.out.c2)).trans HD.out.c2) (by have := H.out.1.lt; omega)
  have HC2 := Aside0.mk hc2
  have H2 := Aside0.mk (And.intro hF2 hk2)
  have q0 := blk_cell hc2 0
  have q1 := blk_cell hc2 1
  have q2 := blk_cell hc2 2
  have q3 := blk_cell hc2 3
  have q4 := blk_cell hc2 4
  have q5 := blk_cell hc2 5
  have q6 := blk_cell hc2 6
  have q7 := blk_cell hc2 7
  have f0 := blk_frozen hc2 0
  have f1 := blk_frozen hc2 1
  have f2 := blk_frozen hc2 2
  have f3 := blk_frozen hc2 3
  have f4 := blk_frozen hc2 4
  have f5 := blk_frozen hc2 5
  have f6 := blk_frozen hc2 6
  have f7 := blk_frozen hc2 7
  clear hb2 hk2 hF2 hc2
  try unfold efV
  go_wp2_with fail
  obtain ⟨hs1, hs2⟩ := storeE_at HC2.out (efGoes) (none) (0) (none) (0)
  refine ⟨rfl, _, eff_results (e := efGoes) (Aa := none) (ca := 0) (Ab := none) (cb := 0) rfl rfl hs1, none, 0, none, 0, rfl, ?_, H2.out.1.keep hs2 (by have := H.out.1.lt; omega), ?_⟩
  · exact EfC.plain _ _ _ ⟨rfl, rfl⟩
  · exact ((Keep.of_below (HD.out.below.trans (Hbd.out.mono HD.out.below.size)) (fun q => q = fb)).trans H2.out.2).then hs2 (fun q hq e => by omega)
set_option maxRecDepth 100000 in
set_option maxHeartbeats 4000000 in
theorem dzero_any (h : FB fb F vp w) (x : S65) (ha : 0 ≤ x.f1 ∧ x.f1 < 8) : Calls Try.prog 44 #[dV A n c b d fb, xvF x] w (DoP fb vp (efGoes, if fR F x.f1 = 0 then { F with at_ := x.f4 } else F) w) := by
  obtain ⟨x0, x1, x2, x3, x4⟩ := x
  obtain ⟨W, hW⟩ : ∃ W, W = (((w.alloc (.cells #[.slice A n c, .int .i64 b, .int .i64 d, .pointer (some ⟨fb, 0, none⟩)] 115)).alloc (.cells #[.int .i64 x0, .int .i64 x1, .int .i64 x2, .int .i64 x3, .int .i64 x4] 65)).alloc (.cells #[.int .i64 0, .int .i64 0, .int .i64 0, .int .i64 0, .int .i64 0, .int .i64 0, .slice none 0 0, .slice none 0 0] 36)) := ⟨_, rfl⟩
  have hD : DW w A n c b d fb ⟨x0, x1, x2, x3, x4⟩ W := by rw [hW]; exact DW.start w A n c b d fb ⟨x0, x1, x2, x3, x4⟩
  have HD := Aside0.mk hD
  have HW := Aside0.mk hW
  have H := Aside0.mk (And.intro h (h.below hD.below))
  clear hW hD h
  unfold dV xvF
  have ha : 0 ≤ x1 ∧ x1 < 8 := ha
  obtain ⟨a, rfl⟩ : ∃ a : Nat, x1 = a := ⟨x1.toNat, by omega⟩
  have h8a : ((a : Int) < 8) = True := eq_true ha.2
  have HA := Aside0.mk (show a < 8 by omega)
  clear ha
  have hrg : fR F (a : Int) = F.regs.getD a 0 := rfl
  have r := H.out.2.reg a HA.out
  show Calls _ _ _ _ (DoP fb vp (efGoes, if fR F (a : Int) = 0 then { F with at_ := x4 } else F) w)
  rw [hrg]
  generalize F.regs.getD a 0 = y at r
  have d3 := blk_cell HD.out.c0 3
  have c1 := blk_cell HD.out.c1 1
  by_cases hy : y = 0
  · rw [if_pos hy]
    have hy1 : (y == 0) = true := by simp [hy]
    clear hrg
    go_enter Try.func44, Try.ntmps44
    go_upto_region 1 with (fail)
    rw [← HW.out]
    go_quiet (fail)
    clear d3 c1 r hy hy1
    obtain ⟨wd, hwd⟩ : ∃ wd, wd = (W.drewN nq) := ⟨_, rfl⟩
    rw [← hwd]
    have Hbd := Aside0.mk (show Below W.heap.size W wd by rw [hwd]; exact (pw_below_drewN (Below.refl _ _) _))
    clear hwd
    have HDD := Aside0.mk (HD.out.below2 Hbd.out)
    have d0 := blk_cell (HDD.out).c0 0
    have d1 := blk_cell (HDD.out).c0 1
    have d2 := blk_cell (HDD.out).c0 2
    have d3 := blk_cell (HDD.out).c0 3
    have c0 := blk_cell (HDD.out).c1 0
    have c1 := blk_cell (HDD.out).c1 1
    have c2 := blk_cell (HDD.out).c1 2
    have c3 := blk_cell (HDD.out).c1 3
    have c4 := blk_cell (HDD.out).c1 4
    have hF := H.out.2.below (Hbd.out)
    have t1 := hF.fix.2.1
    have z1 := hF.frozen 1
    go_upto_region 3 with (fail)
    obtain ⟨W1, hW1⟩ : ∃ W1, W1 = wd.setCell ⟨fb, 1, none⟩ (.int .i64 x4) := ⟨_, rfl⟩
    rw [← hW1]
    have hF1 := hF.setAt x4
    rw [← hW1] at hF1
    have hk1 : Keep (fun q => q = fb) wd W1 := by rw [hW1]; exact (Keep.refl (fun q => q = fb) wd).set (p := ⟨fb, 1, none⟩) (.inr rfl) _
    have H1 := Aside0.mk (And.intro hF1 hk1)
    clear hF t1 z1 hF1 hk1 hW1 d0 d1 d2 d3 c0 c1 c2 c3 c4
    go_wp2_with fail
    refine (goes_any _).mono ?_
    rintro e w2 ⟨rfl, hb2⟩
    have hk2 : Keep (fun q => q = fb) wd w2 := H1.out.2.then (Keep.of_below hb2 (fun _ => False)) (fun _ _ h => h.elim)
    have hF2 := H1.out.1.below hb2
    have hc2 : w2.heap[w.heap.size + 1 + 1]? = some zEff := hk2.blk ((Hbd.out.block _ (blk_lt HD.out.c2)).trans HD.out.c2) (by have := H.out.1.lt; omega)
    have HC2 := Aside0.mk hc2
    have H2 := Aside0.mk (And.intro hF2 hk2)
    have q0 := blk_cell hc2 0
    have q1 := blk_cell hc2 1
    have q2 := blk_cell hc2 2
    have q3 := blk_cell hc2 3
    have q4 := blk_cell hc2 4
    have q5 := blk_cell hc2 5
    have q6 := blk_cell hc2 6
    have q7 := blk_cell hc2 7
    have f0 := blk_frozen hc2 0
    have f1 := blk_frozen hc2 1
    have f2 := blk_frozen hc2 2
    have f3 := blk_frozen hc2 3
    have f4 := blk_frozen hc2 4
    have f5 := blk_frozen hc2 5
    have f6 := blk_frozen hc2 6
    have f7 := blk_frozen hc2 7
    clear hb2 hk2 hF2 hc2
    try unfold efV
    go_wp2_with fail
    obtain ⟨hs1, hs2⟩ := storeE_at HC2.out (efGoes) (none) (0) (none) (0)
    refine ⟨rfl, _, eff_results (e := efGoes) (Aa := none) (ca := 0) (Ab := none) (cb := 0) rfl rfl hs1, none, 0, none, 0, rfl, ?_, H2.out.1.keep hs2 (by have := H.out.1.lt; omega), ?_⟩
    · exact EfC.plain _ _ _ ⟨rfl, rfl⟩
    · exact ((Keep.of_below (HD.out.below.trans (Hbd.out.mono HD.out.below.size)) (fun q => q = fb)).trans H2.out.2).then hs2 (fun q hq e => by omega)
  · rw [if_neg hy]
    have hy1 : (y == 0) = false := by simp [hy]
    clear hrg
    go_enter Try.func44, Try.ntmps44
    go_upto_region 1 with (fail)
    rw [← HW.out]
    go_quiet (fail)
    clear d3 c1 r hy hy1
    obtain ⟨wd, hwd⟩ : ∃ wd, wd = (W.drewN nq) := ⟨_, rfl⟩
    rw [← hwd]
    have Hbd := Aside0.mk (show Below W.heap.size W wd by rw [hwd]; exact (pw_below_drewN (Below.refl _ _) _))
    clear hwd
    have H1 := Aside0.mk (And.intro (H.out.2.below Hbd.out) (Keep.refl (fun q => q = fb) wd))
    go_upto_region 3 with (fail)
    obtain ⟨W1, hW1⟩ : ∃ W1, W1 = wd := ⟨_, rfl⟩
    go_wp2_with fail
    refine (goes_any _).mono ?_
    rintro e w2 ⟨rfl, hb2⟩
    have hk2 : Keep (fun q => q = fb) wd w2 := H1.out.2.then (Keep.of_below hb2 (fun _ => False)) (fun _ _ h => h.elim)
    have hF2 := H1.out.1.below hb2
    have hc2 : w2.heap[w.heap.size + 1 + 1]? = some zEff := hk2.blk ((Hbd.out.block _ (blk_lt HD.out.c2)).trans HD.out.c2) (by have := H.out.1.lt; omega)
    have HC2 := Aside0.mk hc2
    have H2 := Aside0.mk (And.intro hF2 hk2)
    have q0 := blk_cell hc2 0
    have q1 := blk_cell hc2 1
    have q2 := blk_cell hc2 2
    have q3 := blk_cell hc2 3
    have q4 := blk_cell hc2 4
    have q5 := blk_cell hc2 5
    have q6 := blk_cell hc2 6
    have q7 := blk_cell hc2 7
    have f0 := blk_frozen hc2 0
    have f1 := blk_frozen hc2 1
    have f2 := blk_frozen hc2 2
    have f3 := blk_frozen hc2 3
    have f4 := blk_frozen hc2 4
    have f5 := blk_frozen hc2 5
    have f6 := blk_frozen hc2 6
    have f7 := blk_frozen hc2 7
    clear hb2 hk2 hF2 hc2
    try unfold efV
    go_wp2_with fail
    obtain ⟨hs1, hs2⟩ := storeE_at HC2.out (efGoes) (none) (0) (none) (0)
    refine ⟨rfl, _, eff_results (e := efGoes) (Aa := none) (ca := 0) (Ab := none) (cb := 0) rfl rfl hs1, none, 0, none, 0, rfl, ?_, H2.out.1.keep hs2 (by have := H.out.1.lt; omega), ?_⟩
    · exact EfC.plain _ _ _ ⟨rfl, rfl⟩
    · exact ((Keep.of_below (HD.out.below.trans (Hbd.out.mono HD.out.below.size)) (fun q => q = fb)).trans H2.out.2).then hs2 (fun q hq e => by omega)
set_option maxRecDepth 100000 in
set_option maxHeartbeats 4000000 in
theorem dsync_any (h : FB fb F vp w) (x : S65) : Calls Try.prog 46 #[dV A n c b d fb, xvF x] w (DoP fb vp (⟨5, 0, 0, 0, 0, 0, [], []⟩, F) w) := by
  obtain ⟨x0, x1, x2, x3, x4⟩ := x
  obtain ⟨W, hW⟩ : ∃ W, W = (((w.alloc (.cells #[.slice A n c, .int .i64 b, .int .i64 d, .pointer (some ⟨fb, 0, none⟩)] 115)).alloc (.cells #[.int .i64 x0, .int .i64 x1, .int .i64 x2, .int .i64 x3, .int .i64 x4] 65)).alloc (.cells #[.int .i64 0, .int .i64 0, .int .i64 0, .int .i64 0, .int .i64 0, .int .i64 0, .slice none 0 0, .slice none 0 0] 36)) := ⟨_, rfl⟩
  have hD : DW w A n c b d fb ⟨x0, x1, x2, x3, x4⟩ W := by rw [hW]; exact DW.start w A n c b d fb ⟨x0, x1, x2, x3, x4⟩
  have HD := Aside0.mk hD
  have HW := Aside0.mk hW
  have H := Aside0.mk (And.intro h (h.below hD.below))
  clear hW hD h
  unfold dV xvF
  have hu := Try.underlying36
  go_enter Try.func46, Try.ntmps46
  go_upto_region 1 with (fail)
  rw [← HW.out]
  obtain ⟨wd, hwd⟩ : ∃ wd, wd = W := ⟨_, rfl⟩
  rw [← hwd]
  have Hbd := Aside0.mk (show Below W.heap.size W wd by rw [hwd]; exact (Below.refl _ _))
  clear hwd
  have H1 := Aside0.mk (And.intro (H.out.2.below Hbd.out) (Keep.refl (fun q => q = fb) wd))
  have hc2 := HD.out.c2
  have hc2 : wd.heap[w.heap.size + 1 + 1]? = some zEff := (Hbd.out.block _ (blk_lt HD.out.c2)).trans HD.out.c2
  have HC2 := Aside0.mk hc2
  have H2 := H1
  have q0 := blk_cell hc2 0
  have q1 := blk_cell hc2 1
  have q2 := blk_cell hc2 2
  have q3 := blk_cell hc2 3
  have q4 := blk_cell hc2 4
  have q5 := blk_cell hc2 5
  have q6 := blk_cell hc2 6
  have q7 := blk_cell hc2 7
  have f0 := blk_frozen hc2 0
  have f1 := blk_frozen hc2 1
  have f2 := blk_frozen hc2 2
  have f3 := blk_frozen hc2 3
  have f4 := blk_frozen hc2 4
  have f5 := blk_frozen hc2 5
  have f6 := blk_frozen hc2 6
  have f7 := blk_frozen hc2 7
  clear hc2
  go_wp2_with fail
  obtain ⟨hs1, hs2⟩ := storeE_at HC2.out (⟨5, 0, 0, 0, 0, 0, [], []⟩) (none) (0) (none) (0)
  refine ⟨rfl, _, eff_results (e := ⟨5, 0, 0, 0, 0, 0, [], []⟩) (Aa := none) (ca := 0) (Ab := none) (cb := 0) rfl rfl hs1, none, 0, none, 0, rfl, ?_, H2.out.1.keep hs2 (by have := H.out.1.lt; omega), ?_⟩
  · exact EfC.plain _ _ _ ⟨rfl, rfl⟩
  · exact ((Keep.of_below (HD.out.below.trans (Hbd.out.mono HD.out.below.size)) (fun q => q = fb)).trans H2.out.2).then hs2 (fun q hq e => by omega)
set_option maxRecDepth 100000 in
set_option maxHeartbeats 4000000 in
theorem dret_any (h : FB fb F vp w) (x : S65) : Calls Try.prog 51 #[dV A n c b d fb, xvF x] w (DoP fb vp (⟨7, 0, x.f1, 0, 0, 0, [], []⟩, F) w) := by
  obtain ⟨x0, x1, x2, x3, x4⟩ := x
  obtain ⟨W, hW⟩ : ∃ W, W = (((w.alloc (.cells #[.slice A n c, .int .i64 b, .int .i64 d, .pointer (some ⟨fb, 0, none⟩)] 115)).alloc (.cells #[.int .i64 x0, .int .i64 x1, .int .i64 x2, .int .i64 x3, .int .i64 x4] 65)).alloc (.cells #[.int .i64 0, .int .i64 0, .int .i64 0, .int .i64 0, .int .i64 0, .int .i64 0, .slice none 0 0, .slice none 0 0] 36)) := ⟨_, rfl⟩
  have hD : DW w A n c b d fb ⟨x0, x1, x2, x3, x4⟩ W := by rw [hW]; exact DW.start w A n c b d fb ⟨x0, x1, x2, x3, x4⟩
  have HD := Aside0.mk hD
  have HW := Aside0.mk hW
  have H := Aside0.mk (And.intro h (h.below hD.below))
  clear hW hD h
  unfold dV xvF
  have hu := Try.underlying36
  go_enter Try.func51, Try.ntmps51
  go_upto_region 1 with (fail)
  rw [← HW.out]
  obtain ⟨wd, hwd⟩ : ∃ wd, wd = W := ⟨_, rfl⟩
  rw [← hwd]
  have Hbd := Aside0.mk (show Below W.heap.size W wd by rw [hwd]; exact (Below.refl _ _))
  clear hwd
  have HDD := Aside0.mk (HD.out.below2 Hbd.out)
  have d0 := blk_cell (HDD.out).c0 0
  have d1 := blk_cell (HDD.out).c0 1
  have d2 := blk_cell (HDD.out).c0 2
  have d3 := blk_cell (HDD.out).c0 3
  have c0 := blk_cell (HDD.out).c1 0
  have c1 := blk_cell (HDD.out).c1 1
  have c2 := blk_cell (HDD.out).c1 2
  have c3 := blk_cell (HDD.out).c1 3
  have c4 := blk_cell (HDD.out).c1 4
  have H1 := Aside0.mk (And.intro (H.out.2.below Hbd.out) (Keep.refl (fun q => q = fb) wd))
  have hc2 : wd.heap[w.heap.size + 1 + 1]? = some zEff := (Hbd.out.block _ (blk_lt HD.out.c2)).trans HD.out.c2
  have HC2 := Aside0.mk hc2
  have H2 := H1
  have q0 := blk_cell hc2 0
  have q1 := blk_cell hc2 1
  have q2 := blk_cell hc2 2
  have q3 := blk_cell hc2 3
  have q4 := blk_cell hc2 4
  have q5 := blk_cell hc2 5
  have q6 := blk_cell hc2 6
  have q7 := blk_cell hc2 7
  have f0 := blk_frozen hc2 0
  have f1 := blk_frozen hc2 1
  have f2 := blk_frozen hc2 2
  have f3 := blk_frozen hc2 3
  have f4 := blk_frozen hc2 4
  have f5 := blk_frozen hc2 5
  have f6 := blk_frozen hc2 6
  have f7 := blk_frozen hc2 7
  clear hc2
  go_wp2_with fail
  obtain ⟨hs1, hs2⟩ := storeE_at HC2.out (⟨7, 0, x1, 0, 0, 0, [], []⟩) (none) (0) (none) (0)
  refine ⟨rfl, _, eff_results (e := ⟨7, 0, x1, 0, 0, 0, [], []⟩) (Aa := none) (ca := 0) (Ab := none) (cb := 0) rfl rfl hs1, none, 0, none, 0, rfl, ?_, H2.out.1.keep hs2 (by have := H.out.1.lt; omega), ?_⟩
  · exact EfC.plain _ _ _ ⟨rfl, rfl⟩
  · exact ((Keep.of_below (HD.out.below.trans (Hbd.out.mono HD.out.below.size)) (fun q => q = fb)).trans H2.out.2).then hs2 (fun q hq e => by omega)
set_option maxRecDepth 100000 in
set_option maxHeartbeats 4000000 in
theorem dfail_any (h : FB fb F vp w) (x : S65) : Calls Try.prog 50 #[dV A n c b d fb, xvF x] w (DoP fb vp (efFails x.f4, F) w) := by
  obtain ⟨x0, x1, x2, x3, x4⟩ := x
  obtain ⟨W, hW⟩ : ∃ W, W = (((w.alloc (.cells #[.slice A n c, .int .i64 b, .int .i64 d, .pointer (some ⟨fb, 0, none⟩)] 115)).alloc (.cells #[.int .i64 x0, .int .i64 x1, .int .i64 x2, .int .i64 x3, .int .i64 x4] 65)).alloc (.cells #[.int .i64 0, .int .i64 0, .int .i64 0, .int .i64 0, .int .i64 0, .int .i64 0, .slice none 0 0, .slice none 0 0] 36)) := ⟨_, rfl⟩
  have hD : DW w A n c b d fb ⟨x0, x1, x2, x3, x4⟩ W := by rw [hW]; exact DW.start w A n c b d fb ⟨x0, x1, x2, x3, x4⟩
  have HD := Aside0.mk hD
  have HW := Aside0.mk hW
  have H := Aside0.mk (And.intro h (h.below hD.below))
  clear hW hD h
  unfold dV xvF
  go_enter Try.func50, Try.ntmps50
  go_upto_region 1 with (fail)
  rw [← HW.out]
  obtain ⟨wd, hwd⟩ : ∃ wd, wd = W := ⟨_, rfl⟩
  rw [← hwd]
  have Hbd := Aside0.mk (show Below W.heap.size W wd by rw [hwd]; exact (Below.refl _ _))
  clear hwd
  have HDD := Aside0.mk (HD.out.below2 Hbd.out)
  have d0 := blk_cell (HDD.out).c0 0
  have d1 := blk_cell (HDD.out).c0 1
  have d2 := blk_cell (HDD.out).c0 2
  have d3 := blk_cell (HDD.out).c0 3
  have c0 := blk_cell (HDD.out).c1 0
  have c1 := blk_cell (HDD.out).c1 1
  have c2 := blk_cell (HDD.out).c1 2
  have c3 := blk_cell (HDD.out).c1 3
  have c4 := blk_cell (HDD.out).c1 4
  have H1 := Aside0.mk (And.intro (H.out.2.below Hbd.out) (Keep.refl (fun q => q = fb) wd))
  obtain ⟨W1, hW1⟩ : ∃ W1, W1 = wd := ⟨_, rfl⟩
  go_wp2_with fail
  refine (ffails_any _ _).mono ?_
  rintro e w2 ⟨rfl, hb2⟩
  clear d0 d1 d2 d3 c0 c1 c2 c3 c4
  have hk2 : Keep (fun q => q = fb) wd w2 := H1.out.2.then (Keep.of_below hb2 (fun _ => False)) (fun _ _ h => h.elim)
  have hF2 := H1.out.1.below hb2
  have hc2 : w2.heap[w.heap.size + 1 + 1]? = some zEff := hk2.blk ((Hbd.out.block _ (blk_lt HD.out.c2)).trans HD.out.c2) (by have := H.out.1.lt; omega)
  have HC2 := Aside0.mk hc2
  have H2 := Aside0.mk (And.intro hF2 hk2)
  have q0 := blk_cell hc2 0
  have q1 := blk_cell hc2 1
  have q2 := blk_cell hc2 2
  have q3 := blk_cell hc2 3
  have q4 := blk_cell hc2 4
  have q5 := blk_cell hc2 5
  have q6 := blk_cell hc2 6
  have q7 := blk_cell hc2 7
  have f0 := blk_frozen hc2 0
  have f1 := blk_frozen hc2 1
  have f2 := blk_frozen hc2 2
  have f3 := blk_frozen hc2 3
  have f4 := blk_frozen hc2 4
  have f5 := blk_frozen hc2 5
  have f6 := blk_frozen hc2 6
  have f7 := blk_frozen hc2 7
  clear hb2 hk2 hF2 hc2
  try unfold efV
  go_wp2_with fail
  obtain ⟨hs1, hs2⟩ := storeE_at HC2.out ((efFails x4)) (none) (0) (none) (0)
  refine ⟨rfl, _, eff_results (e := (efFails x4)) (Aa := none) (ca := 0) (Ab := none) (cb := 0) rfl rfl hs1, none, 0, none, 0, rfl, ?_, H2.out.1.keep hs2 (by have := H.out.1.lt; omega), ?_⟩
  · exact EfC.plain _ _ _ ⟨rfl, rfl⟩
  · exact ((Keep.of_below (HD.out.below.trans (Hbd.out.mono HD.out.below.size)) (fun q => q = fb)).trans H2.out.2).then hs2 (fun q hq e => by omega)
set_option maxRecDepth 100000 in
set_option maxHeartbeats 4000000 in
theorem demit_any (h : FB fb F vp w) (x : S65) (ha : 0 ≤ x.f1 ∧ x.f1 < 8) : Calls Try.prog 49 #[dV A n c b d fb, xvF x] w (DoP fb vp (⟨2, fR F x.f1, 0, 0, 0, 0, [], []⟩, F) w) := by
  obtain ⟨x0, x1, x2, x3, x4⟩ := x
  obtain ⟨W, hW⟩ : ∃ W, W = (((w.alloc (.cells #[.slice A n c, .int .i64 b, .int .i64 d, .pointer (some ⟨fb, 0, none⟩)] 115)).alloc (.cells #[.int .i64 x0, .int .i64 x1, .int .i64 x2, .int .i64 x3, .int .i64 x4] 65)).alloc (.cells #[.int .i64 0, .int .i64 0, .int .i64 0, .int .i64 0, .int .i64 0, .int .i64 0, .slice none 0 0, .slice none 0 0] 36)) := ⟨_, rfl⟩
  have hD : DW w A n c b d fb ⟨x0, x1, x2, x3, x4⟩ W := by rw [hW]; exact DW.start w A n c b d fb ⟨x0, x1, x2, x3, x4⟩
  have HD := Aside0.mk hD
  have HW := Aside0.mk hW
  have H := Aside0.mk (And.intro h (h.below hD.below))
  clear hW hD h
  unfold dV xvF
  have ha : 0 ≤ x1 ∧ x1 < 8 := ha
  obtain ⟨a, rfl⟩ : ∃ a : Nat, x1 = a := ⟨x1.toNat, by omega⟩
  have h8a : ((a : Int) < 8) = True := eq_true ha.2
  have HA := Aside0.mk (show a < 8 by omega)
  clear ha
  have hrg : fR F (a : Int) = F.regs.getD a 0 := rfl
  have r := H.out.2.reg a HA.out
  show Calls _ _ _ _ (DoP fb vp (⟨2, fR F (a : Int), 0, 0, 0, 0, [], []⟩, F) w)
  rw [hrg]
  generalize F.regs.getD a 0 = y at r
  clear hrg
  have hu := Try.underlying36
  go_enter Try.func49, Try.ntmps49
  go_upto_region 1 with (fail)
  rw [← HW.out]
  refine wp_region_T (fun w' => Drawn0 W w') [9] (.takes [0, 1, 2, 3, 4, 5, 6, 7, 8] (.fin 9 .done)) (by kernel_rfl) (by kernel_rfl) (by kernel_rfl) (by kernel_rfl) (panic_via (P := Try.prog) (fn := Try.f49) (R := DoP fb vp (⟨2, y, 0, 0, 0, 0, [], []⟩, F) w) (fun _ _ _ => rfl)) ?_
  have hs : Drawn0 W W.drew := (Drawn0.refl W).step 1
  simp only [Turns.takes]
  repeat (
    (first
      | (refine runT_take (v := ?_) (by rfl) (by rfl) (fun w' hS => ?_) hs ?_
         rotate_left
         · (obtain ⟨n, rfl⟩ := hS; have d0 := blk_cell HD.out.c0 0; have d1 := blk_cell HD.out.c0 1; have d2 := blk_cell HD.out.c0 2; have d3 := blk_cell HD.out.c0 3; have c0 := blk_cell HD.out.c1 0; have c1 := blk_cell HD.out.c1 1; have c2 := blk_cell HD.out.c1 2; have c3 := blk_cell HD.out.c1 3; have c4 := blk_cell HD.out.c1 4; go_simp; exact rfl))
      | refine runT_skip (by rfl) (by rfl) hs ?_)
    (try simp only [Act.put, List.setIfInBounds_toArray, List.set_cons_zero, List.set_cons_succ]))
  clear hs
  obtain ⟨wd, hwd⟩ : ∃ wd, wd = W.drew := ⟨_, rfl⟩
  rw [← hwd]
  have Hbd := Aside0.mk (show Below W.heap.size W wd by rw [hwd]; exact (Below.refl _ _).drew)
  clear hwd
  have H1 := Aside0.mk (And.intro (H.out.2.below Hbd.out) (Keep.refl (fun q => q = fb) wd))
  have hc2 : wd.heap[w.heap.size + 1 + 1]? = some zEff := (Hbd.out.block _ (blk_lt HD.out.c2)).trans HD.out.c2
  have HC2 := Aside0.mk hc2
  have H2 := H1
  have q0 := blk_cell hc2 0
  have q1 := blk_cell hc2 1
  have q2 := blk_cell hc2 2
  have q3 := blk_cell hc2 3
  have q4 := blk_cell hc2 4
  have q5 := blk_cell hc2 5
  have q6 := blk_cell hc2 6
  have q7 := blk_cell hc2 7
  have f0 := blk_frozen hc2 0
  have f1 := blk_frozen hc2 1
  have f2 := blk_frozen hc2 2
  have f3 := blk_frozen hc2 3
  have f4 := blk_frozen hc2 4
  have f5 := blk_frozen hc2 5
  have f6 := blk_frozen hc2 6
  have f7 := blk_frozen hc2 7
  clear hc2
  refine runT_fin (by rfl) (by rfl) (fun K hK => ?_)
  go_simp
  refine hK _ _ ?_
  clear hK K
  refine runT_done ?_
  go_wp2_with fail
  obtain ⟨hs1, hs2⟩ := storeE_at HC2.out (⟨2, y, 0, 0, 0, 0, [], []⟩) (none) (0) (none) (0)
  refine ⟨rfl, _, eff_results (e := ⟨2, y, 0, 0, 0, 0, [], []⟩) (Aa := none) (ca := 0) (Ab := none) (cb := 0) rfl rfl hs1, none, 0, none, 0, rfl, ?_, H2.out.1.keep hs2 (by have := H.out.1.lt; omega), ?_⟩
  · exact EfC.plain _ _ _ ⟨rfl, rfl⟩
  · exact ((Keep.of_below (HD.out.below.trans (Hbd.out.mono HD.out.below.size)) (fun q => q = fb)).trans H2.out.2).then hs2 (fun q hq e => by omega)
set_option maxRecDepth 100000 in
set_option maxHeartbeats 4000000 in
theorem dtouch_yes (h : FB fb F vp w) (x : S65) (ha : 0 ≤ x.f2 ∧ x.f2 < 4) (hz : fH F x.f2 ≠ 0) : Calls Try.prog 48 #[dV A n c b d fb, xvF x] w (DoP fb vp (⟨6, 0, x.f1, 0, fH F x.f2, 0, [], []⟩, F) w) := by
  obtain ⟨x0, x1, x2, x3, x4⟩ := x
  obtain ⟨W, hW⟩ : ∃ W, W = (((w.alloc (.cells #[.slice A n c, .int .i64 b, .int .i64 d, .pointer (some ⟨fb, 0, none⟩)] 115)).alloc (.cells #[.int .i64 x0, .int .i64 x1, .int .i64 x2, .int .i64 x3, .int .i64 x4] 65)).alloc (.cells #[.int .i64 0, .int .i64 0, .int .i64 0, .int .i64 0, .int .i64 0, .int .i64 0, .slice none 0 0, .slice none 0 0] 36)) := ⟨_, rfl⟩
  have hD : DW w A n c b d fb ⟨x0, x1, x2, x3, x4⟩ W := by rw [hW]; exact DW.start w A n c b d fb ⟨x0, x1, x2, x3, x4⟩
  have HD := Aside0.mk hD
  have HW := Aside0.mk hW
  have H := Aside0.mk (And.intro h (h.below hD.below))
  clear hW hD h
  unfold dV xvF
  have ha : 0 ≤ x2 ∧ x2 < 4 := ha
  obtain ⟨a, rfl⟩ : ∃ a : Nat, x2 = a := ⟨x2.toNat, by omega⟩
  have h8a : ((a : Int) < 4) = True := eq_true ha.2
  have HA := Aside0.mk (show a < 4 by omega)
  clear ha
  have hrg : fH F (a : Int) = F.hands.getD a 0 := rfl
  have r := H.out.2.hand a HA.out
  have hz : fH F (a : Int) ≠ 0 := hz
  show Calls _ _ _ _ (DoP fb vp (⟨6, 0, x1, 0, fH F (a : Int), 0, [], []⟩, F) w)
  rw [hrg] at hz ⊢
  obtain ⟨y, hyr⟩ : ∃ y, F.hands.getD a 0 = y := ⟨_, rfl⟩
  rw [hyr] at r hz ⊢
  have HYR := Aside0.mk hyr
  clear hyr
  have d3 := blk_cell HD.out.c0 3
  have c2 := blk_cell HD.out.c1 2
  have hy1 : (y == 0) = false := by simp [hz]
  clear hrg
  have hu := Try.underlying36
  go_enter Try.func48, Try.ntmps48
  go_upto_region 1 with (fail)
  rw [← HW.out]
  go_quiet (fail)
  clear d3 c2 r hy1
  go_wp2_with fail
  have hbW : Below W.heap.size W (W.drewN nq) := pw_below_drewN (Below.refl _ _) _
  have HD := Aside0.mk (HD.out.below2 hbW)
  have H := Aside0.mk (And.intro H.out.1 (H.out.2.below hbW))
  clear HW hbW
  generalize W.drewN nq = W at HD H ⊢
  have r := H.out.2.hand a HA.out
  rw [HYR.out] at r
  clear hz
  refine wp_region_T (fun w' => Drawn0 W w') [11] (.takes [0, 1, 2, 3, 4, 5, 6, 7, 8, 9, 10] (.fin 11 .done)) (by kernel_rfl) (by kernel_rfl) (by kernel_rfl) (by kernel_rfl) (panic_via (P := Try.prog) (fn := Try.f48) (R := DoP fb vp (⟨6, 0, x1, 0, y, 0, [], []⟩, F) w) (fun _ _ _ => rfl)) ?_
  have hs : Drawn0 W W.drew := (Drawn0.refl W).step 1
  simp only [Turns.takes]
  repeat (
    (first
      | (refine runT_take (v := ?_) (by rfl) (by rfl) (fun w' hS => ?_) hs ?_
         rotate_left
         · (obtain ⟨n, rfl⟩ := hS; have d0 := blk_cell HD.out.c0 0; have d1 := blk_cell HD.out.c0 1; have d2 := blk_cell HD.out.c0 2; have d3 := blk_cell HD.out.c0 3; have c0 := blk_cell HD.out.c1 0; have c1 := blk_cell HD.out.c1 1; have c2 := blk_cell HD.out.c1 2; have c3 := blk_cell HD.out.c1 3; have c4 := blk_cell HD.out.c1 4; go_simp; exact rfl))
      | refine runT_skip (by rfl) (by rfl) hs ?_)
    (try simp only [Act.put, List.setIfInBounds_toArray, List.set_cons_zero, List.set_cons_succ]))
  clear hs
  obtain ⟨wd, hwd⟩ : ∃ wd, wd = W.drew := ⟨_, rfl⟩
  rw [← hwd]
  have Hbd := Aside0.mk (show Below W.heap.size W wd by rw [hwd]; exact (Below.refl _ _).drew)
  clear hwd
  have H1 := Aside0.mk (And.intro (H.out.2.below Hbd.out) (Keep.refl (fun q => q = fb) wd))
  have hc2 : wd.heap[w.heap.size + 1 + 1]? = some zEff := (Hbd.out.block _ (blk_lt HD.out.c2)).trans HD.out.c2
  have HC2 := Aside0.mk hc2
  have H2 := H1
  have q0 := blk_cell hc2 0
  have q1 := blk_cell hc2 1
  have q2 := blk_cell hc2 2
  have q3 := blk_cell hc2 3
  have q4 := blk_cell hc2 4
  have q5 := blk_cell hc2 5
  have q6 := blk_cell hc2 6
  have q7 := blk_cell hc2 7
  have f0 := blk_frozen hc2 0
  have f1 := blk_frozen hc2 1
  have f2 := blk_frozen hc2 2
  have f3 := blk_frozen hc2 3
  have f4 := blk_frozen hc2 4
  have f5 := blk_frozen hc2 5
  have f6 := blk_frozen hc2 6
  have f7 := blk_frozen hc2 7
  clear hc2
  refine runT_fin (by rfl) (by rfl) (fun K hK => ?_)
  go_simp
  refine hK _ _ ?_
  clear hK K
  refine runT_done ?_
  go_wp2_with fail
  obtain ⟨hs1, hs2⟩ := storeE_at HC2.out (⟨6, 0, x1, 0, y, 0, [], []⟩) (none) (0) (none) (0)
  refine ⟨rfl, _, eff_results (e := ⟨6, 0, x1, 0, y, 0, [], []⟩) (Aa := none) (ca := 0) (Ab := none) (cb := 0) rfl rfl hs1, none, 0, none, 0, rfl, ?_, H2.out.1.keep hs2 (by have := H.out.1.lt; omega), ?_⟩
  · exact EfC.plain _ _ _ ⟨rfl, rfl⟩
  · exact ((Keep.of_below (HD.out.below.trans (Hbd.out.mono HD.out.below.size)) (fun q => q = fb)).trans H2.out.2).then hs2 (fun q hq e => by omega)
set_option maxRecDepth 100000 in
set_option maxHeartbeats 4000000 in
theorem dtouch_no (h : FB fb F vp w) (x : S65) (ha : 0 ≤ x.f2 ∧ x.f2 < 4) (hz : fH F x.f2 = 0) : Calls Try.prog 48 #[dV A n c b d fb, xvF x] w (DoP fb vp (efFails 2, F) w) := by
  obtain ⟨x0, x1, x2, x3, x4⟩ := x
  obtain ⟨W, hW⟩ : ∃ W, W = (((w.alloc (.cells #[.slice A n c, .int .i64 b, .int .i64 d, .pointer (some ⟨fb, 0, none⟩)] 115)).alloc (.cells #[.int .i64 x0, .int .i64 x1, .int .i64 x2, .int .i64 x3, .int .i64 x4] 65)).alloc (.cells #[.int .i64 0, .int .i64 0, .int .i64 0, .int .i64 0, .int .i64 0, .int .i64 0, .slice none 0 0, .slice none 0 0] 36)) := ⟨_, rfl⟩
  have hD : DW w A n c b d fb ⟨x0, x1, x2, x3, x4⟩ W := by rw [hW]; exact DW.start w A n c b d fb ⟨x0, x1, x2, x3, x4⟩
  have HD := Aside0.mk hD
  have HW := Aside0.mk hW
  have H := Aside0.mk (And.intro h (h.below hD.below))
  clear hW hD h
  unfold dV xvF
  have ha : 0 ≤ x2 ∧ x2 < 4 := ha
  obtain ⟨a, rfl⟩ : ∃ a : Nat, x2 = a := ⟨x2.toNat, by omega⟩
  have h8a : ((a : Int) < 4) = True := eq_true ha.2
  have HA := Aside0.mk (show a < 4 by omega)
  clear ha
  have hrg : fH F (a : Int) = F.hands.getD a 0 := rfl
  have r := H.out.2.hand a HA.out
  have hz : fH F (a : Int) = 0 := hz
  show Calls _ _ _ _ (DoP fb vp (efFails 2, F) w)
  rw [hrg] at hz
  generalize F.hands.getD a 0 = y at r hz
  have d3 := blk_cell HD.out.c0 3
  have c2 := blk_cell HD.out.c1 2
  have hy1 : (y == 0) = true := by simp [hz]
  clear hrg
  have hu := Try.underlying36
  go_enter Try.func48, Try.ntmps48
  go_upto_region 1 with (fail)
  rw [← HW.out]
  go_quiet (fail)
  clear d3 c2 r hz hy1
  obtain ⟨wd, hwd⟩ : ∃ wd, wd = (W.drewN nq) := ⟨_, rfl⟩
  rw [← hwd]
  have Hbd := Aside0.mk (show Below W.heap.size W wd by rw [hwd]; exact (pw_below_drewN (Below.refl _ _) _))
  clear hwd
  have H1 := Aside0.mk (And.intro (H.out.2.below Hbd.out) (Keep.refl (fun q => q = fb) wd))
  obtain ⟨W1, hW1⟩ : ∃ W1, W1 = wd := ⟨_, rfl⟩
  go_wp2_with fail
  refine (ffails_any _ _).mono ?_
  rintro e w2 ⟨rfl, hb2⟩
  have hk2 : Keep (fun q => q = fb) wd w2 := H1.out.2.then (Keep.of_below hb2 (fun _ => False)) (fun _ _ h => h.elim)
  have hF2 := H1.out.1.below hb2
  have hc2 : w2.heap[w.heap.size + 1 + 1]? = some zEff := hk2.blk ((Hbd.out.block _ (blk_lt HD.out.c2)).trans HD.out.c2) (by have := H.out.1.lt; omega)
  have HC2 := Aside0.mk hc2
  have H2 := Aside0.mk (And.intro hF2 hk2)
  have q0 := blk_cell hc2 0
  have q1 := blk_cell hc2 1
  have q2 := blk_cell hc2 2
  have q3 := blk_cell hc2 3
  have q4 := blk_cell hc2 4
  have q5 := blk_cell hc2 5
  have q6 := blk_cell hc2 6
  have q7 := blk_cell hc2 7
  have f0 := blk_frozen hc2 0
  have f1 := blk_frozen hc2 1
  have f2 := blk_frozen hc2 2
  have f3 := blk_frozen hc2 3
  have f4 := blk_frozen hc2 4
  have f5 := blk_frozen hc2 5
  have f6 := blk_frozen hc2 6
  have f7 := blk_frozen hc2 7
  clear hb2 hk2 hF2 hc2
  try unfold efV
  go_wp2_with fail
  obtain ⟨hs1, hs2⟩ := storeE_at HC2.out ((efFails 2)) (none) (0) (none) (0)
  refine ⟨rfl, _, eff_results (e := (efFails 2)) (Aa := none) (ca := 0) (Ab := none) (cb := 0) rfl rfl hs1, none, 0, none, 0, rfl, ?_, H2.out.1.keep hs2 (by have := H.out.1.lt; omega), ?_⟩
  · exact EfC.plain _ _ _ ⟨rfl, rfl⟩
  · exact ((Keep.of_below (HD.out.below.trans (Hbd.out.mono HD.out.below.size)) (fun q => q = fb)).trans H2.out.2).then hs2 (fun q hq e => by omega)
end
end Go.Proofs.Ytcciejcpijlkfaa.H

set_option linter.unusedVariables false
set_option linter.unusedSimpArgs false
namespace Go.Proofs.Ytcciejcpijlkfaa.H
open Go.RowKit Go.Hay Go.Proofs.YtcciejcpijlkfaaW.PrintWords Go.Proofs.YtcciejcpijlkfaaW.PrintLast Go.Proofs.YtcciejcpijlkfaaW.PrintMore
theorem infoC2 : (Try.prog.info? 2).map (fun i => (i.zero, i.size, i.bytes)) = some (some (.int .i64 0), 1, 8) := by kernel_rfl
theorem infoC3 : (Try.prog.info? 3).map (fun i => (i.zero, i.size, i.bytes)) = some (some (.int .i64 0), 1, 8) := by kernel_rfl
set_option maxRecDepth 100000 in
set_option maxHeartbeats 4000000 in
theorem clonei_any (A : Option Addr) (c : Nat) (xs : List Int) (w : World) (hC : (Kd.int .i64).C w A xs.length xs) (hc : A = none → c = 0 ∧ xs = []) (hl : xs.length ≤ 1000) :
    Calls Try.prog 31 #[.slice A xs.length c] w fun e w' => ∃ v, e = .returned v ∧ (Kd.int .i64).R 3 w' w.heap.size (fun _ => True) v xs ∧ Below w.heap.size w w' := by
  cases A with
  | none =>
    obtain ⟨rfl, rfl⟩ := hc rfl
    have HB := Aside0.mk (Below.refl w.heap.size w)
    have he : ∀ w : World, (binOp .eql 23 (.slice none 0 0) (.slice none 0 0)).run Try.prog w = .ok (.bool true) w := fun _ => rfl
    clear hC
    go_enter Try.func31, Try.ntmps31
    go_wp2_with fail
    go_ret
    exact ⟨_, rfl, Kd.R_nil _ _ _ _ _, HB.out⟩
  | some ad =>
    have HC := Aside0.mk hC
    have HB := Aside0.mk (Below.refl w.heap.size w)
    have he : ∀ w : World, (binOp .eql 23 (.slice (some ad) xs.length c) (.slice none 0 0)).run Try.prog w = .ok (.bool false) w := fun _ => rfl
    have hl8 : (0 + xs.length) * 8 ≤ 140737488355328 := by omega
    clear hC
    go_enter Try.func31, Try.ntmps31
    have hnew : (Kd.int .i64).R 3 (w.alloc (.cells #[] 3)) w.heap.size (fun _ => True) (.slice (some ⟨w.heap.size, 0, none⟩) 0 0) [] :=
      ⟨fun _ _ => trivial, [], ⟨rfl, .inr ⟨w.heap.size, 0, #[], rfl, Nat.le_refl _, alloc_blk _ _, Nat.le_refl _, by decide, rfl, rfl⟩⟩, Reps.none _ _⟩
    go_wp2_with (first | ((with_reducible refine gate_builtin (b := .append) (xs := #[.tmp 5, .tmp 6]) rfl ?_); refine Kd.R_append_rows (Kd.int .i64) (w0 := w) w.heap.size rfl (.tmp 5) (.tmp 6) 23 3 (.int .i64 0) 8 rfl Try.underlying23 infoC3 rfl (by decide) (by omega) _ [] xs _ _ _ (fun _ => True) (fun _ => False) rfl rfl ?aO ?aR (fun _ _ h => h) (fun _ h => h.elim) ?aF ?aB ?aS ?aL ?_))
    case aO => exact hnew
    case aR => exact Kd.C_alloc HC.out _
    case aF => exact fun _ _ => trivial
    case aB => exact HB.out.alloc (Nat.le_refl _) _
    case aS => simp
    case aL => simpa using hl8
    intro v1 w1 hR hb1 _ _
    have HR1 := Aside0.mk hR
    have HB1 := Aside0.mk hb1
    clear hR hb1 hnew
    go_wp2_with fail
    go_ret
    exact ⟨v1, rfl, HR1.out, HB1.out⟩
set_option maxRecDepth 100000 in
set_option maxHeartbeats 4000000 in
theorem clone64_any (A : Option Addr) (c : Nat) (xs : List Int) (w : World) (hC : (Kd.int .i64).C w A xs.length xs) (hc : A = none → c = 0 ∧ xs = []) (hl : xs.length ≤ 1000) :
    Calls Try.prog 82 #[.slice A xs.length c] w fun e w' => ∃ v, e = .returned v ∧ (Kd.int .i64).R 2 w' w.heap.size (fun _ => True) v xs ∧ Below w.heap.size w w' := by
  cases A with
  | none =>
    obtain ⟨rfl, rfl⟩ := hc rfl
    have HB := Aside0.mk (Below.refl w.heap.size w)
    have he : ∀ w : World, (binOp .eql 34 (.slice none 0 0) (.slice none 0 0)).run Try.prog w = .ok (.bool true) w := fun _ => rfl
    clear hC
    go_enter Try.func82, Try.ntmps82
    go_wp2_with fail
    go_ret
    exact ⟨_, rfl, Kd.R_nil _ _ _ _ _, HB.out⟩
  | some ad =>
    have HC := Aside0.mk hC
    have HB := Aside0.mk (Below.refl w.heap.size w)
    have he : ∀ w : World, (binOp .eql 34 (.slice (some ad) xs.length c) (.slice none 0 0)).run Try.prog w = .ok (.bool false) w := fun _ => rfl
    have hl8 : (0 + xs.length) * 8 ≤ 140737488355328 := by omega
    clear hC
    go_enter Try.func82, Try.ntmps82
    have hnew : (Kd.int .i64).R 2 (w.alloc (.cells #[] 2)) w.heap.size (fun _ => True) (.slice (some ⟨w.heap.size, 0, none⟩) 0 0) [] :=
      ⟨fun _ _ => trivial, [], ⟨rfl, .inr ⟨w.heap.size, 0, #[], rfl, Nat.le_refl _, alloc_blk _ _, Nat.le_refl _, by decide, rfl, rfl⟩⟩, Reps.none _ _⟩
    go_wp2_with (first | ((with_reducible refine gate_builtin (b := .append) (xs := #[.tmp 5, .tmp 6]) rfl ?_); refine Kd.R_append_rows (Kd.int .i64) (w0 := w) w.heap.size rfl (.tmp 5) (.tmp 6) 34 2 (.int .i64 0) 8 rfl Try.underlying34 infoC2 rfl (by decide) (by omega) _ [] xs _ _ _ (fun _ => True) (fun _ => False) rfl rfl ?aO ?aR (fun _ _ h => h) (fun _ h => h.elim) ?aF ?aB ?aS ?aL ?_))
    case aO => exact hnew
    case aR => exact Kd.C_alloc HC.out _
    case aF => exact fun _ _ => trivial
    case aB => exact HB.out.alloc (Nat.le_refl _) _
    case aS => simp
    case aL => simpa using hl8
    intro v1 w1 hR hb1 _ _
    have HR1 := Aside0.mk hR
    have HB1 := Aside0.mk hb1
    clear hR hb1 hnew
    go_wp2_with fail
    go_ret
    exact ⟨v1, rfl, HR1.out, HB1.out⟩
end Go.Proofs.Ytcciejcpijlkfaa.H

