/- What the proof of FrameCounts stands on, part 3: this session's own texts and the words that the kit's print lays, those that are used. -/
import Derived.Test.YtcciejcpijlkfaaZFrameCounts2
import Derived.Maps.OwnOps
import Derived.Maps.OwnSet
import Derived.Maps.Views
set_option linter.unusedVariables false
set_option linter.unusedSimpArgs false
namespace Go.Proofs.Ytcciejcpijlkfaa.H
open Go.RowKit Go.Hay Go.Proofs.YtcciejcpijlkfaaW.PrintWords Go.Proofs.YtcciejcpijlkfaaW.PrintLast Go.Proofs.YtcciejcpijlkfaaW.PrintMore
theorem goes_any (w : World) : Calls Try.prog 62 #[] w fun e w' => e = .returned (efV efGoes none 0 none 0) ∧ Below w.heap.size w w' := by
  have hu := Try.underlying36
  go_enter Try.func62, Try.ntmps62
  go_wp2_with fail
  exact ⟨rfl, _, eff_results (e := efGoes) rfl rfl (alloc_blk w _), rfl, (Below.refl _ _).alloc (Nat.le_refl _) _⟩
def ftruthV (b : Bool) : Int := if b = true then 1 else 0
theorem ftruth_less (y u : Int) : ftruthV (decide (y < u)) = lessV y u := by unfold ftruthV lessV; by_cases h : y < u <;> simp [h]
theorem ftruth_same (y u : Int) : ftruthV (y == u) = sameV y u := by unfold ftruthV sameV; by_cases h : y = u <;> simp [h]
theorem ftruth_any (b : Bool) (w : World) : Calls Try.prog 63 #[.bool b] w fun e w' => e = .returned (.int .i64 (ftruthV b)) ∧ w = w' := by
  cases b with
  | false =>
    go_enter Try.func63, Try.ntmps63
    go_wp2_with fail
    go_ret
    exact ⟨rfl, rfl⟩
  | true =>
    go_enter Try.func63, Try.ntmps63
    go_wp2_with fail
    go_ret
    exact ⟨rfl, rfl⟩
theorem ffails_any (why : Int) (w : World) : Calls Try.prog 27 #[.int .i64 why] w fun e w' => e = .returned (efV (efFails why) none 0 none 0) ∧ Below w.heap.size w w' := by
  have hu := Try.underlying36
  go_enter Try.func27, Try.ntmps27
  go_wp2_with fail
  exact ⟨rfl, _, eff_results (e := efFails why) rfl rfl (alloc_blk w _), rfl, (Below.refl _ _).alloc (Nat.le_refl _) _⟩
section
variable {A : Option Addr} {n c : Nat} {b d : Int} {fb : Nat} {vp : Value} {F : Fr} {w : World}
set_option maxRecDepth 100000 in
set_option maxHeartbeats 4000000 in
theorem dset_any (h : FB fb F vp w) (x : S65) (ha : 0 ≤ x.f1 ∧ x.f1 < 8) : Calls Try.prog 40 #[dV A n c b d fb, xvF x] w (DoP fb vp (efGoes, fSet F x.f1 x.f4) w) := by
  obtain ⟨x0, x1, x2, x3, x4⟩ := x
  obtain ⟨W, hW⟩ : ∃ W, W = (((w.alloc (.cells #[.slice A n c, .int .i64 b, .int .i64 d, .pointer (some ⟨fb, 0, none⟩)] 115)).alloc (.cells #[.int .i64 x0, .int .i64 x1, .int .i64 x2, .int .i64 x3, .int .i64 x4] 65)).alloc (.cells #[.int .i64 0, .int .i64 0, .int .i64 0, .int .i64 0, .int .i64 0, .int .i64 0, .slice none 0 0, .slice none 0 0] 36)) := ⟨_, rfl⟩
  have hD : DW w A n c b d fb ⟨x0, x1, x2, x3, x4⟩ W := by rw [hW]; exact DW.start w A n c b d fb ⟨x0, x1, x2, x3, x4⟩
  have HD := Aside0.mk hD
  have HW := Aside0.mk hW
  have H := Aside0.mk (And.intro h (h.below hD.below))
  clear hW hD h
  unfold dV xvF
  have ha : 0 ≤ x1 ∧ x1 < 8 := ha
  obtain ⟨a, rfl⟩ : ∃ a : Nat, x1 = a := ⟨x1.toNat, by omega⟩
  have ha8 : ((a : Int) < 8) = True := eq_true ha.2
  have HA := Aside0.mk (show a < 8 by omega)
  clear ha
  go_enter Try.func40, Try.ntmps40
  go_upto_region 1 with (fail)
  rw [← HW.out]
  refine wp_region_T (fun w' => Drawn0 W w') [9] (.takes [0, 1, 2, 3, 4, 5, 6, 7, 8] (.fin 9 .done)) (by kernel_rfl) (by kernel_rfl) (by kernel_rfl) (by kernel_rfl) (panic_via (P := Try.prog) (fn := Try.f40) (R := DoP fb vp (efGoes, fSet F a x4) w) (fun _ _ _ => rfl)) ?_
  have hs : Drawn0 W W.drew := (Drawn0.refl W).step 1
  simp only [Turns.takes]
  repeat (
    (first
      | (refine runT_take (v := ?_) (by rfl) (by rfl) (fun w' hS => ?_) hs ?_
         rotate_left
         · (obtain ⟨n, rfl⟩ := hS; have d0 := blk_cell HD.out.c0 0; have d1 := blk_cell HD.out.c0 1; have d2 := blk_cell HD.out.c0 2; have d3 := blk_cell HD.out.c0 3; have c0 := blk_cell HD.out.c1 0; have c1 := blk_cell HD.out.c1 1; have c2 := blk_cell HD.out.c1 2; have c3 := blk_cell HD.out.c1 3; have c4 := blk_cell HD.out.c1 4; go_simp; exact rfl))
      | refine runT_skip (by rfl) (by rfl) hs ?_)
    (try simp only [Act.put, List.setIfInBounds_toArray, List.set_cons_zero, List.set_cons_succ]))
  clear hs
  obtain ⟨wd, hwd⟩ : ∃ wd, wd = W.drew := ⟨_, rfl⟩
  rw [← hwd]
  have Hbd := Aside0.mk (show Below W.heap.size W wd by rw [hwd]; exact (Below.refl _ _).drew)
  clear hwd
  have hF := H.out.2.below (Hbd.out)
  have r := hF.reg a HA.out
  have z := hF.frozen (5 + a)
  refine runT_fin (by rfl) (by rfl) (fun K hK => ?_)
  go_simp
  refine hK _ _ ?_
  clear hK K
  refine runT_done ?_
  obtain ⟨W1, hW1⟩ : ∃ W1, W1 = wd.setCell ⟨fb, 5 + a, none⟩ (.int .i64 x4) := ⟨_, rfl⟩
  rw [← hW1]
  have hF1 := hF.setReg a HA.out x4
  rw [← hW1] at hF1
  have hk1 : Keep (fun q => q = fb) wd W1 := by rw [hW1]; exact (Keep.refl (fun q => q = fb) wd).set (p := ⟨fb, 5 + a, none⟩) (.inr rfl) _
  have H1 := Aside0.mk (And.intro hF1 hk1)
  clear hF r z hF1 hk1 hW1
  go_upto_region 2 with (fail)
  go_wp2_with fail
  refine (goes_any _).mono ?_
  rintro e w2 ⟨rfl, hb2⟩
  have hk2 : Keep (fun q => q = fb) wd w2 := H1.out.2.then (Keep.of_below hb2 (fun _ => False)) (fun _ _ h => h.elim)
  have hF2 := H1.out.1.below hb2
  have hc2 : w2.heap[w.heap.size + 1 + 1]? = some zEff := hk2.blk ((Hbd.out.block _ (blk_lt HD.out.c2)).trans HD.out.c2) (by have := H.out.1.lt; omega)
  have HC2 := Aside0.mk hc2
  have H2 := Aside0.mk (And.intro hF2 hk2)
  have q0 := blk_cell hc2 0
  have q1 := blk_cell hc2 1
  have q2 := blk_cell hc2 2
  have q3 := blk_cell hc2 3
  have q4 := blk_cell hc2 4
  have q5 := blk_cell hc2 5
  have q6 := blk_cell hc2 6
  have q7 := blk_cell hc2 7
  have f0 := blk_frozen hc2 0
  have f1 := blk_frozen hc2 1
  have f2 := blk_frozen hc2 2
  have f3 := blk_frozen hc2 3
  have f4 := blk_frozen hc2 4
  have f5 := blk_frozen hc2 5
  have f6 := blk_frozen hc2 6
  have f7 := blk_frozen hc2 7
  clear hb2 hk2 hF2 hc2
  try unfold efV
  go_wp2_with fail
  obtain ⟨hs1, hs2⟩ := storeE_at HC2.out (efGoes) (none) (0) (none) (0)
  refine ⟨rfl, _, eff_results (e := efGoes) (Aa := none) (ca := 0) (Ab := none) (cb := 0) rfl rfl hs1, none, 0, none, 0, rfl, ?_, H2.out.1.keep hs2 (by have := H.out.1.lt; omega), ?_⟩
  · exact EfC.plain _ _ _ ⟨rfl, rfl⟩
  · exact ((Keep.of_below (HD.out.below.trans (Hbd.out.mono HD.out.below.size)) (fun q => q = fb)).trans H2.out.2).then hs2 (fun q hq e => by omega)
set_option maxRecDepth 100000 in
set_option maxHeartbeats 4000000 in
theorem dmove_any (h : FB fb F vp w) (x : S65) (ha : 0 ≤ x.f1 ∧ x.f1 < 8) (hb : 0 ≤ x.f2 ∧ x.f2 < 8) : Calls Try.prog 41 #[dV A n c b d fb, xvF x] w (DoP fb vp (efGoes, fSet F x.f1 (fR F x.f2)) w) := by
  obtain ⟨x0, x1, x2, x3, x4⟩ := x
  obtain ⟨W, hW⟩ : ∃ W, W = (((w.alloc (.cells #[.slice A n c, .int .i64 b, .int .i64 d, .pointer (some ⟨fb, 0, none⟩)] 115)).alloc (.cells #[.int .i64 x0, .int .i64 x1, .int .i64 x2, .int .i64 x3, .int .i64 x4] 65)).alloc (.cells #[.int .i64 0, .int .i64 0, .int .i64 0, .int .i64 0, .int .i64 0, .int .i64 0, .slice none 0 0, .slice none 0 0] 36)) := ⟨_, rfl⟩
  have hD : DW w A n c b d fb ⟨x0, x1, x2, x3, x4⟩ W := by rw [hW]; exact DW.start w A n c b d fb ⟨x0, x1, x2, x3, x4⟩
  have HD := Aside0.mk hD
  have HW := Aside0.mk hW
  have H := Aside0.mk (And.intro h (h.below hD.below))
  clear hW hD h
  unfold dV xvF
  have ha : 0 ≤ x1 ∧ x1 < 8 := ha
  obtain ⟨a, rfl⟩ : ∃ a : Nat, x1 = a := ⟨x1.toNat, by omega⟩
  have h8a : ((a : Int) < 8) = True := eq_true ha.2
  have HA := Aside0.mk (show a < 8 by omega)
  clear ha
  have hb : 0 ≤ x2 ∧ x2 < 8 := hb
  obtain ⟨b2, rfl⟩ : ∃ b2 : Nat, x2 = b2 := ⟨x2.toNat, by omega⟩
  have h8b : ((b2 : Int) < 8) = True := eq_true hb.2
  have HB := Aside0.mk (show b2 < 8 by omega)
  clear hb
  have r2 := H.out.2.reg b2 HB.out
  have hrg : fR F (b2 : Int) = F.regs.getD b2 0 := rfl
  rw [hrg]
  obtain ⟨y, hy⟩ : ∃ y, y = F.regs.getD b2 0 := ⟨_, rfl⟩
  rw [← hy] at r2 ⊢
  clear hrg hy
  go_enter Try.func41, Try.ntmps41
  go_upto_region 1 with (fail)
  rw [← HW.out]
  refine wp_region_T (fun w' => Drawn0 W w') [15] (.takes [0, 1, 2, 3, 4, 5, 6, 7, 8, 9, 10, 11, 12, 13, 14] (.fin 15 .done)) (by kernel_rfl) (by kernel_rfl) (by kernel_rfl) (by kernel_rfl) (panic_via (P := Try.prog) (fn := Try.f41) (R := DoP fb vp (efGoes, fSet F a y) w) (fun _ _ _ => rfl)) ?_
  have hs : Drawn0 W W.drew := (Drawn0.refl W).step 1
  simp only [Turns.takes]
  repeat (
    (first
      | (refine runT_take (v := ?_) (by rfl) (by rfl) (fun w' hS => ?_) hs ?_
         rotate_left
         · (obtain ⟨n, rfl⟩ := hS; have d0 := blk_cell HD.out.c0 0; have d1 := blk_cell HD.out.c0 1; have d2 := blk_cell HD.out.c0 2; have d3 := blk_cell HD.out.c0 3; have c0 := blk_cell HD.out.c1 0; have c1 := blk_cell HD.out.c1 1; have c2 := blk_cell HD.out.c1 2; have c3 := blk_cell HD.out.c1 3; have c4 := blk_cell HD.out.c1 4; go_simp; exact rfl))
      | refine runT_skip (by rfl) (by rfl) hs ?_)
    (try simp only [Act.put, List.setIfInBounds_toArray, List.set_cons_zero, List.set_cons_succ]))
  clear hs
  obtain ⟨wd, hwd⟩ : ∃ wd, wd = W.drew := ⟨_, rfl⟩
  rw [← hwd]
  have Hbd := Aside0.mk (show Below W.heap.size W wd by rw [hwd]; exact (Below.refl _ _).drew)
  clear hwd
  have hF := H.out.2.below (Hbd.out)
  have r := hF.reg a HA.out
  have z := hF.frozen (5 + a)
  refine runT_fin (by rfl) (by rfl) (fun K hK => ?_)
  go_simp
  refine hK _ _ ?_
  clear hK K
  refine runT_done ?_
  obtain ⟨W1, hW1⟩ : ∃ W1, W1 = wd.setCell ⟨fb, 5 + a, none⟩ (.int .i64 y) := ⟨_, rfl⟩
  rw [← hW1]
  have hF1 := hF.setReg a HA.out y
  rw [← hW1] at hF1
  have hk1 : Keep (fun q => q = fb) wd W1 := by rw [hW1]; exact (Keep.refl (fun q => q = fb) wd).set (p := ⟨fb, 5 + a, none⟩) (.inr rfl) _
  have H1 := Aside0.mk (And.intro hF1 hk1)
  clear hF r z hF1 hk1 hW1
  go_upto_region 2 with (fail)
  go_wp2_with fail
  refine (goes_any _).mono ?_
  rintro e w2 ⟨rfl, hb2⟩
  have hk2 : Keep (fun q => q = fb) wd w2 := H1.out.2.then (Keep.of_below hb2 (fun _ => False)) (fun _ _ h => h.elim)
  have hF2 := H1.out.1.below hb2
  have hc2 : w2.heap[w.heap.size + 1 + 1]? = some zEff := hk2.blk ((Hbd.out.block _ (blk_lt HD.out.c2)).trans HD.out.c2) (by have := H.out.1.lt; omega)
  have HC2 := Aside0.mk hc2
  have H2 := Aside0.mk (And.intro hF2 hk2)
  have q0 := blk_cell hc2 0
  have q1 := blk_cell hc2 1
  have q2 := blk_cell hc2 2
  have q3 := blk_cell hc2 3
  have q4 := blk_cell hc2 4
  have q5 := blk_cell hc2 5
  have q6 := blk_cell hc2 6
  have q7 := blk_cell hc2 7
  have f0 := blk_frozen hc2 0
  have f1 := blk_frozen hc2 1
  have f2 := blk_frozen hc2 2
  have f3 := blk_frozen hc2 3
  have f4 := blk_frozen hc2 4
  have f5 := blk_frozen hc2 5
  have f6 := blk_frozen hc2 6
  have f7 := blk_frozen hc2 7
  clear hb2 hk2 hF2 hc2
  try unfold efV
  go_wp2_with fail
  obtain ⟨hs1, hs2⟩ := storeE_at HC2.out (efGoes) (none) (0) (none) (0)
  refine ⟨rfl, _, eff_results (e := efGoes) (Aa := none) (ca := 0) (Ab := none) (cb := 0) rfl rfl hs1, none, 0, none, 0, rfl, ?_, H2.out.1.keep hs2 (by have := H.out.1.lt; omega), ?_⟩
  · exact EfC.plain _ _ _ ⟨rfl, rfl⟩
  · exact ((Keep.of_below (HD.out.below.trans (Hbd.out.mono HD.out.below.size)) (fun q => q = fb)).trans H2.out.2).then hs2 (fun q hq e => by omega)
set_option maxRecDepth 100000 in
set_option maxHeartbeats 4000000 in
theorem djump_any (h : FB fb F vp w) (x : S65) : Calls Try.prog 43 #[dV A n c b d fb, xvF x] w (DoP fb vp (efGoes, { F with at_ := x.f4 }) w) := by
  obtain ⟨x0, x1, x2, x3, x4⟩ := x
  obtain ⟨W, hW⟩ : ∃ W, W = (((w.alloc (.cells #[.slice A n c, .int .i64 b, .int .i64 d, .pointer (some ⟨fb, 0, none⟩)] 115)).alloc (.cells #[.int .i64 x0, .int .i64 x1, .int .i64 x2, .int .i64 x3, .int .i64 x4] 65)).alloc (.cells #[.int .i64 0, .int .i64 0, .int .i64 0, .int .i64 0, .int .i64 0, .int .i64 0, .slice none 0 0, .slice none 0 0] 36)) := ⟨_, rfl⟩
  have hD : DW w A n c b d fb ⟨x0, x1, x2, x3, x4⟩ W := by rw [hW]; exact DW.start w A n c b d fb ⟨x0, x1, x2, x3, x4⟩
  have HD := Aside0.mk hD
  have HW := Aside0.mk hW
  have H := Aside0.mk (And.intro h (h.below hD.below))
  clear hW hD h
  unfold dV xvF
  go_enter Try.func43, Try.ntmps43
  go_upto_region 1 with (fail)
  rw [← HW.out]
  obtain ⟨wd, hwd⟩ : ∃ wd, wd = W := ⟨_, rfl⟩
  rw [← hwd]
  have Hbd := Aside0.mk (show Below W.heap.size W wd by rw [hwd]; exact (Below.refl _ _))
  clear hwd
  have HDD := Aside0.mk (HD.out.below2 Hbd.out)
  have d0 := blk_cell (HDD.out).c0 0
  have d1 := blk_cell (HDD.out).c0 1
  have d2 := blk_cell (HDD.out).c0 2
  have d3 := blk_cell (HDD.out).c0 3
  have c0 := blk_cell (HDD.out).c1 0
  have c1 := blk_cell (HDD.out).c1 1
  have c2 := blk_cell (HDD.out).c1 2
  have c3 := blk_cell (HDD.out).c1 3
  have c4 := blk_cell (HDD.out).c1 4
  have hF := H.out.2.below (Hbd.out)
  have t1 := hF.fix.2.1
  have z1 := hF.frozen 1
  go_upto_region 2 with (fail)
  obtain ⟨W1, hW1⟩ : ∃ W1, W1 = wd.setCell ⟨fb, 1, none⟩ (.int .i64 x4) := ⟨_, rfl⟩
  rw [← hW1]
  have hF1 := hF.setAt x4
  rw [← hW1] at hF1
  have hk1 : Keep (fun q => q = fb) wd W1 := by rw [hW1]; exact (Keep.refl (fun q => q = fb) wd).set (p := ⟨fb, 1, none⟩) (.inr rfl) _
  have H1 := Aside0.mk (And.intro hF1 hk1)
  clear hF t1 z1 hF1 hk1 hW1 d0 d1 d2 d3 c0 c1 c2 c3 c4
  go_wp2_with fail
  refine (goes_any _).mono ?_
  rintro e w2 ⟨rfl, hb2⟩
  have hk2 : Keep (fun q => q = fb) wd w2 := H1.out.2.then (Keep.of_below hb2 (fun _ => False)) (fun _ _ h => h.elim)
  have hF2 := H1.out.1.below hb2
  have hc2 : w2.heap[w.heap.size + 1 + 1]? = some zEff := hk2.blk ((Hbd.out.block _ (blk_lt HD.out.c2)).trans HD.out.c2) (by have := H.out.1.lt; omega)
  have HC2 := Aside0.mk hc2
  have H2 := Aside0.mk (And.intro hF2 hk2)
  have q0 := blk_cell hc2 0
  have q1 := blk_cell hc2 1
  have q2 := blk_cell hc2 2
  have q3 := blk_cell hc2 3
  have q4 := blk_cell hc2 4
  have q5 := blk_cell hc2 5
  have q6 := blk_cell hc2 6
  have q7 := blk_cell hc2 7
  have f0 := blk_frozen hc2 0
  have f1 := blk_frozen hc2 1
  have f2 := blk_frozen hc2 2
  have f3 := blk_frozen hc2 3
  have f4 := blk_frozen hc2 4
  have f5 := blk_frozen hc2 5
  have f6 := blk_frozen hc2 6
  have f7 := blk_frozen hc2 7
  clear hb2 hk2 hF2 hc2
  try unfold efV
  go_wp2_with fail
  obtain ⟨hs1, hs2⟩ := storeE_at HC2.out (efGoes) (none) (0) (none) (0)
  refine ⟨rfl, _, eff_results (e := efGoes) (Aa := none) (ca := 0) (Ab := none) (cb := 0) rfl rfl hs1, none, 0, none, 0, rfl, ?_, H2.out.1.keep hs2 (by have := H.out.1.lt; omega), ?_⟩
  · exact EfC.plain _ _ _ ⟨rfl, rfl⟩
  · exact ((Keep.of_below (HD.out.below.trans (Hbd.out.mono HD.out.below.size)) (fun q => q = fb)).trans H2.out.2).then hs2 (fun q hq e => by omega)
set_option maxRecDepth 100000 in
set_option maxHeartbeats 4000000 in
theorem dzero_any (h : FB fb F vp w) (x : S65) (ha : 0 ≤ x.f1 ∧ x.f1 < 8) : Calls Try.prog 44 #[dV A n c b d fb, xvF x] w (DoP fb vp (efGoes, if fR F x.f1 = 0 then { F with at_ := x.f4 } else F) w) := by
  obtain ⟨x0, x1, x2, x3, x4⟩ := x
  obtain ⟨W, hW⟩ : ∃ W, W = (((w.alloc (.cells #[.slice A n c, .int .i64 b, .int .i64 d, .pointer (some ⟨fb, 0, none⟩)] 115)).alloc (.cells #[.int .i64 x0, .int .i64 x1, .int .i64 x2, .int .i64 x3, .int .i64 x4] 65)).alloc (.cells #[.int .i64 0, .int .i64 0, .int .i64 0, .int .i64 0, .int .i64 0, .int .i64 0, .slice none 0 0, .slice none 0 0] 36)) := ⟨_, rfl⟩
  have hD : DW w A n c b d fb ⟨x0, x1, x2, x3, x4⟩ W := by rw [hW]; exact DW.start w A n c b d fb ⟨x0, x1, x2, x3, x4⟩
  have HD := Aside0.mk hD
  have HW := Aside0.mk hW
  have H := Aside0.mk (And.intro h (h.below hD.below))
  clear hW hD h
  unfold dV xvF
  have ha : 0 ≤ x1 ∧ x1 < 8 := ha
  obtain ⟨a, rfl⟩ : ∃ a : Nat, x1 = a := ⟨x1.toNat, by omega⟩
  have h8a : ((a : Int) < 8) = True := eq_true ha.2
  have HA := Aside0.mk (show a < 8 by omega)
  clear ha
  have hrg : fR F (a : Int) = F.regs.getD a 0 := rfl
  have r := H.out.2.reg a HA.out
  show Calls _ _ _ _ (DoP fb vp (efGoes, if fR F (a : Int) = 0 then { F with at_ := x4 } else F) w)
  rw [hrg]
  generalize F.regs.getD a 0 = y at r
  have d3 := blk_cell HD.out.c0 3
  have c1 := blk_cell HD.out.c1 1
  by_cases hy : y = 0
  · rw [if_pos hy]
    have hy1 : (y == 0) = true := by simp [hy]
    clear hrg
    go_enter Try.func44, Try.ntmps44
    go_upto_region 1 with (fail)
    rw [← HW.out]
    go_quiet (fail)
    clear d3 c1 r hy hy1
    obtain ⟨wd, hwd⟩ : ∃ wd, wd = (W.drewN nq) := ⟨_, rfl⟩
    rw [← hwd]
    have Hbd := Aside0.mk (show Below W.heap.size W wd by rw [hwd]; exact (pw_below_drewN (Below.refl _ _) _))
    clear hwd
    have HDD := Aside0.mk (HD.out.below2 Hbd.out)
    have d0 := blk_cell (HDD.out).c0 0
    have d1 := blk_cell (HDD.out).c0 1
    have d2 := blk_cell (HDD.out).c0 2
    have d3 := blk_cell (HDD.out).c0 3
    have c0 := blk_cell (HDD.out).c1 0
    have c1 := blk_cell (HDD.out).c1 1
    have c2 := blk_cell (HDD.out).c1 2
    have c3 := blk_cell (HDD.out).c1 3
    have c4 := blk_cell (HDD.out).c1 4
    have hF := H.out.2.below (Hbd.out)
    have t1 := hF.fix.2.1
    have z1 := hF.frozen 1
    go_upto_region 3 with (fail)
    obtain ⟨W1, hW1⟩ : ∃ W1, W1 = wd.setCell ⟨fb, 1, none⟩ (.int .i64 x4) := ⟨_, rfl⟩
    rw [← hW1]
    have hF1 := hF.setAt x4
    rw [← hW1] at hF1
    have hk1 : Keep (fun q => q = fb) wd W1 := by rw [hW1]; exact (Keep.refl (fun q => q = fb) wd).set (p := ⟨fb, 1, none⟩) (.inr rfl) _
    have H1 := Aside0.mk (And.intro hF1 hk1)
    clear hF t1 z1 hF1 hk1 hW1 d0 d1 d2 d3 c0 c1 c2 c3 c4
    go_wp2_with fail
    refine (goes_any _).mono ?_
    rintro e w2 ⟨rfl, hb2⟩
    have hk2 : Keep (fun q => q = fb) wd w2 := H1.out.2.then (Keep.of_below hb2 (fun _ => False)) (fun _ _ h => h.elim)
    have hF2 := H1.out.1.below hb2
    have hc2 : w2.heap[w.heap.size + 1 + 1]? = some zEff := hk2.blk ((Hbd.out.block _ (blk_lt HD.out.c2)).trans HD.out.c2) (by have := H.out.1.lt; omega)
    have HC2 := Aside0.mk hc2
    have H2 := Aside0.mk (And.intro hF2 hk2)
    have q0 := blk_cell hc2 0
    have q1 := blk_cell hc2 1
    have q2 := blk_cell hc2 2
    have q3 := blk_cell hc2 3
    have q4 := blk_cell hc2 4
    have q5 := blk_cell hc2 5
    have q6 := blk_cell hc2 6
    have q7 := blk_cell hc2 7
    have f0 := blk_frozen hc2 0
    have f1 := blk_frozen hc2 1
    have f2 := blk_frozen hc2 2
    have f3 := blk_frozen hc2 3
    have f4 := blk_frozen hc2 4
    have f5 := blk_frozen hc2 5
    have f6 := blk_frozen hc2 6
    have f7 := blk_frozen hc2 7
    clear hb2 hk2 hF2 hc2
    try unfold efV
    go_wp2_with fail
    obtain ⟨hs1, hs2⟩ := storeE_at HC2.out (efGoes) (none) (0) (none) (0)
    refine ⟨rfl, _, eff_results (e := efGoes) (Aa := none) (ca := 0) (Ab := none) (cb := 0) rfl rfl hs1, none, 0, none, 0, rfl, ?_, H2.out.1.keep hs2 (by have := H.out.1.lt; omega), ?_⟩
    · exact EfC.plain _ _ _ ⟨rfl, rfl⟩
    · exact ((Keep.of_below (HD.out.below.trans (Hbd.out.mono HD.out.below.size)) (fun q => q = fb)).trans H2.out.2).then hs2 (fun q hq e => by omega)
  · rw [if_neg hy]
    have hy1 : (y == 0) = false := by simp [hy]
    clear hrg
    go_enter Try.func44, Try.ntmps44
    go_upto_region 1 with (fail)
    rw [← HW.out]
    go_quiet (fail)
    clear d3 c1 r hy hy1
    obtain ⟨wd, hwd⟩ : ∃ wd, wd = (W.drewN nq) := ⟨_, rfl⟩
    rw [← hwd]
    have Hbd := Aside0.mk (show Below W.heap.size W wd by rw [hwd]; exact (pw_below_drewN (Below.refl _ _) _))
    clear hwd
    have H1 := Aside0.mk (And.intro (H.out.2.below Hbd.out) (Keep.refl (fun q => q = fb) wd))
    go_upto_region 3 with (fail)
    obtain ⟨W1, hW1⟩ : ∃ W1, W1 = wd := ⟨_, rfl⟩
    go_wp2_with fail
    refine (goes_any _).mono ?_
    rintro e w2 ⟨rfl, hb2⟩
    have hk2 : Keep (fun q => q = fb) wd w2 := H1.out.2.then (Keep.of_below hb2 (fun _ => False)) (fun _ _ h => h.elim)
    have hF2 := H1.out.1.below hb2
    have hc2 : w2.heap[w.heap.size + 1 + 1]? = some zEff := hk2.blk ((Hbd.out.block _ (blk_lt HD.out.c2)).trans HD.out.c2) (by have := H.out.1.lt; omega)
    have HC2 := Aside0.mk hc2
    have H2 := Aside0.mk (And.intro hF2 hk2)
    have q0 := blk_cell hc2 0
    have q1 := blk_cell hc2 1
    have q2 := blk_cell hc2 2
    have q3 := blk_cell hc2 3
    have q4 := blk_cell hc2 4
    have q5 := blk_cell hc2 5
    have q6 := blk_cell hc2 6
    have q7 := blk_cell hc2 7
    have f0 := blk_frozen hc2 0
    have f1 := blk_frozen hc2 1
    have f2 := blk_frozen hc2 2
    have f3 := blk_frozen hc2 3
    have f4 := blk_frozen hc2 4
    have f5 := blk_frozen hc2 5
    have f6 := blk_frozen hc2 6
    have f7 := blk_frozen hc2 7
    clear hb2 hk2 hF2 hc2
    try unfold efV
    go_wp2_with fail
    obtain ⟨hs1, hs2⟩ := storeE_at HC2.out (efGoes) (none) (0) (none) (0)
    refine ⟨rfl, _, eff_results (e := efGoes) (Aa := none) (ca := 0) (Ab := none) (cb := 0) rfl rfl hs1, none, 0, none, 0, rfl, ?_, H2.out.1.keep hs2 (by have := H.out.1.lt; omega), ?_⟩
    · exact EfC.plain _ _ _ ⟨rfl, rfl⟩
    · exact ((Keep.of_below (HD.out.below.trans (Hbd.out.mono HD.out.below.size)) (fun q => q = fb)).trans H2.out.2).then hs2 (fun q hq e => by omega)
set_option maxRecDepth 100000 in
set_option maxHeartbeats 4000000 in
theorem dsync_any (h : FB fb F vp w) (x : S65) : Calls Try.prog 46 #[dV A n c b d fb, xvF x] w (DoP fb vp (⟨5, 0, 0, 0, 0, 0, [], []⟩, F) w) := by
  obtain ⟨x0, x1, x2, x3, x4⟩ := x
  obtain ⟨W, hW⟩ : ∃ W, W = (((w.alloc (.cells #[.slice A n c, .int .i64 b, .int .i64 d, .pointer (some ⟨fb, 0, none⟩)] 115)).alloc (.cells #[.int .i64 x0, .int .i64 x1, .int .i64 x2, .int .i64 x3, .int .i64 x4] 65)).alloc (.cells #[.int .i64 0, .int .i64 0, .int .i64 0, .int .i64 0, .int .i64 0, .int .i64 0, .slice none 0 0, .slice none 0 0] 36)) := ⟨_, rfl⟩
  have hD : DW w A n c b d fb ⟨x0, x1, x2, x3, x4⟩ W := by rw [hW]; exact DW.start w A n c b d fb ⟨x0, x1, x2, x3, x4⟩
  have HD := Aside0.mk hD
  have HW := Aside0.mk hW
  have H := Aside0.mk (And.intro h (h.below hD.below))
  clear hW hD h
  unfold dV xvF
  have hu := Try.underlying36
  go_enter Try.func46, Try.ntmps46
  go_upto_region 1 with (fail)
  rw [← HW.out]
  obtain ⟨wd, hwd⟩ : ∃ wd, wd = W := ⟨_, rfl⟩
  rw [← hwd]
  have Hbd := Aside0.mk (show Below W.heap.size W wd by rw [hwd]; exact (Below.refl _ _))
  clear hwd
  have H1 := Aside0.mk (And.intro (H.out.2.below Hbd.out) (Keep.refl (fun q => q = fb) wd))
  have hc2 := HD.out.c2
  have hc2 : wd.heap[w.heap.size + 1 + 1]? = some zEff := (Hbd.out.block _ (blk_lt HD.out.c2)).trans HD.out.c2
  have HC2 := Aside0.mk hc2
  have H2 := H1
  have q0 := blk_cell hc2 0
  have q1 := blk_cell hc2 1
  have q2 := blk_cell hc2 2
  have q3 := blk_cell hc2 3
  have q4 := blk_cell hc2 4
  have q5 := blk_cell hc2 5
  have q6 := blk_cell hc2 6
  have q7 := blk_cell hc2 7
  have f0 := blk_frozen hc2 0
  have f1 := blk_frozen hc2 1
  have f2 := blk_frozen hc2 2
  have f3 := blk_frozen hc2 3
  have f4 := blk_frozen hc2 4
  have f5 := blk_frozen hc2 5
  have f6 := blk_frozen hc2 6
  have f7 := blk_frozen hc2 7
  clear hc2
  go_wp2_with fail
  obtain ⟨hs1, hs2⟩ := storeE_at HC2.out (⟨5, 0, 0, 0, 0, 0, [], []⟩) (none) (0) (none) (0)
  refine ⟨rfl, _, eff_results (e := ⟨5, 0, 0, 0, 0, 0, [], []⟩) (Aa := none) (ca := 0) (Ab := none) (cb := 0) rfl rfl hs1, none, 0, none, 0, rfl, ?_, H2.out.1.keep hs2 (by have := H.out.1.lt; omega), ?_⟩
  · exact EfC.plain _ _ _ ⟨rfl, rfl⟩
  · exact ((Keep.of_below (HD.out.below.trans (Hbd.out.mono HD.out.below.size)) (fun q => q = fb)).trans H2.out.2).then hs2 (fun q hq e => by omega)
set_option maxRecDepth 100000 in
set_option maxHeartbeats 4000000 in
theorem dret_any (h : FB fb F vp w) (x : S65) : Calls Try.prog 51 #[dV A n c b d fb, xvF x] w (DoP fb vp (⟨7, 0, x.f1, 0, 0, 0, [], []⟩, F) w) := by
  obtain ⟨x0, x1, x2, x3, x4⟩ := x
  obtain ⟨W, hW⟩ : ∃ W, W = (((w.alloc (.cells #[.slice A n c, .int .i64 b, .int .i64 d, .pointer (some ⟨fb, 0, none⟩)] 115)).alloc (.cells #[.int .i64 x0, .int .i64 x1, .int .i64 x2, .int .i64 x3, .int .i64 x4] 65)).alloc (.cells #[.int .i64 0, .int .i64 0, .int .i64 0, .int .i64 0, .int .i64 0, .int .i64 0, .slice none 0 0, .slice none 0 0] 36)) := ⟨_, rfl⟩
  have hD : DW w A n c b d fb ⟨x0, x1, x2, x3, x4⟩ W := by rw [hW]; exact DW.start w A n c b d fb ⟨x0, x1, x2, x3, x4⟩
  have HD := Aside0.mk hD
  have HW := Aside0.mk hW
  have H := Aside0.mk (And.intro h (h.below hD.below))
  clear hW hD h
  unfold dV xvF
  have hu := Try.underlying36
  go_enter Try.func51, Try.ntmps51
  go_upto_region 1 with (fail)
  rw [← HW.out]
  obtain ⟨wd, hwd⟩ : ∃ wd, wd = W := ⟨_, rfl⟩
  rw [← hwd]
  have Hbd := Aside0.mk (show Below W.heap.size W wd by rw [hwd]; exact (Below.refl _ _))
  clear hwd
  have HDD := Aside0.mk (HD.out.below2 Hbd.out)
  have d0 := blk_cell (HDD.out).c0 0
  have d1 := blk_cell (HDD.out).c0 1
  have d2 := blk_cell (HDD.out).c0 2
  have d3 := blk_cell (HDD.out).c0 3
  have c0 := blk_cell (HDD.out).c1 0
  have c1 := blk_cell (HDD.out).c1 1
  have c2 := blk_cell (HDD.out).c1 2
  have c3 := blk_cell (HDD.out).c1 3
  have c4 := blk_cell (HDD.out).c1 4
  have H1 := Aside0.mk (And.intro (H.out.2.below Hbd.out) (Keep.refl (fun q => q = fb) wd))
  have hc2 : wd.heap[w.heap.size + 1 + 1]? = some zEff := (Hbd.out.block _ (blk_lt HD.out.c2)).trans HD.out.c2
  have HC2 := Aside0.mk hc2
  have H2 := H1
  have q0 := blk_cell hc2 0
  have q1 := blk_cell hc2 1
  have q2 := blk_cell hc2 2
  have q3 := blk_cell hc2 3
  have q4 := blk_cell hc2 4
  have q5 := blk_cell hc2 5
  have q6 := blk_cell hc2 6
  have q7 := blk_cell hc2 7
  have f0 := blk_frozen hc2 0
  have f1 := blk_frozen hc2 1
  have f2 := blk_frozen hc2 2
  have f3 := blk_frozen hc2 3
  have f4 := blk_frozen hc2 4
  have f5 := blk_frozen hc2 5
  have f6 := blk_frozen hc2 6
  have f7 := blk_frozen hc2 7
  clear hc2
  go_wp2_with fail
  obtain ⟨hs1, hs2⟩ := storeE_at HC2.out (⟨7, 0, x1, 0, 0, 0, [], []⟩) (none) (0) (none) (0)
  refine ⟨rfl, _, eff_results (e := ⟨7, 0, x1, 0, 0, 0, [], []⟩) (Aa := none) (ca := 0) (Ab := none) (cb := 0) rfl rfl hs1, none, 0, none, 0, rfl, ?_, H2.out.1.keep hs2 (by have := H.out.1.lt; omega), ?_⟩
  · exact EfC.plain _ _ _ ⟨rfl, rfl⟩
  · exact ((Keep.of_below (HD.out.below.trans (Hbd.out.mono HD.out.below.size)) (fun q => q = fb)).trans H2.out.2).then hs2 (fun q hq e => by omega)
set_option maxRecDepth 100000 in
set_option maxHeartbeats 4000000 in
theorem dfail_any (h : FB fb F vp w) (x : S65) : Calls Try.prog 50 #[dV A n c b d fb, xvF x] w (DoP fb vp (efFails x.f4, F) w) := by
  obtain ⟨x0, x1, x2, x3, x4⟩ := x
  obtain ⟨W, hW⟩ : ∃ W, W = (((w.alloc (.cells #[.slice A n c, .int .i64 b, .int .i64 d, .pointer (some ⟨fb, 0, none⟩)] 115)).alloc (.cells #[.int .i64 x0, .int .i64 x1, .int .i64 x2, .int .i64 x3, .int .i64 x4] 65)).alloc (.cells #[.int .i64 0, .int .i64 0, .int .i64 0, .int .i64 0, .int .i64 0, .int .i64 0, .slice none 0 0, .slice none 0 0] 36)) := ⟨_, rfl⟩
  have hD : DW w A n c b d fb ⟨x0, x1, x2, x3, x4⟩ W := by rw [hW]; exact DW.start w A n c b d fb ⟨x0, x1, x2, x3, x4⟩
  have HD := Aside0.mk hD
  have HW := Aside0.mk hW
  have H := Aside0.mk (And.intro h (h.below hD.below))
  clear hW hD h
  unfold dV xvF
  go_enter Try.func50, Try.ntmps50
  go_upto_region 1 with (fail)
  rw [← HW.out]
  obtain ⟨wd, hwd⟩ : ∃ wd, wd = W := ⟨_, rfl⟩
  rw [← hwd]
  have Hbd := Aside0.mk (show Below W.heap.size W wd by rw [hwd]; exact (Below.refl _ _))
  clear hwd
  have HDD := Aside0.mk (HD.out.below2 Hbd.out)
  have d0 := blk_cell (HDD.out).c0 0
  have d1 := blk_cell (HDD.out).c0 1
  have d2 := blk_cell (HDD.out).c0 2
  have d3 := blk_cell (HDD.out).c0 3
  have c0 := blk_cell (HDD.out).c1 0
  have c1 := blk_cell (HDD.out).c1 1
  have c2 := blk_cell (HDD.out).c1 2
  have c3 := blk_cell (HDD.out).c1 3
  have c4 := blk_cell (HDD.out).c1 4
  have H1 := Aside0.mk (And.intro (H.out.2.below Hbd.out) (Keep.refl (fun q => q = fb) wd))
  obtain ⟨W1, hW1⟩ : ∃ W1, W1 = wd := ⟨_, rfl⟩
  go_wp2_with fail
  refine (ffails_any _ _).mono ?_
  rintro e w2 ⟨rfl, hb2⟩
  clear d0 d1 d2 d3 c0 c1 c2 c3 c4
  have hk2 : Keep (fun q => q = fb) wd w2 := H1.out.2.then (Keep.of_below hb2 (fun _ => False)) (fun _ _ h => h.elim)
  have hF2 := H1.out.1.below hb2
  have hc2 : w2.heap[w.heap.size + 1 + 1]? = some zEff := hk2.blk ((Hbd.out.block _ (blk_lt HD.out.c2)).trans HD.out.c2) (by have := H.out.1.lt; omega)
  have HC2 := Aside0.mk hc2
  have H2 := Aside0.mk (And.intro hF2 hk2)
  have q0 := blk_cell hc2 0
  have q1 := blk_cell hc2 1
  have q2 := blk_cell hc2 2
  have q3 := blk_cell hc2 3
  have q4 := blk_cell hc2 4
  have q5 := blk_cell hc2 5
  have q6 := blk_cell hc2 6
  have q7 := blk_cell hc2 7
  have f0 := blk_frozen hc2 0
  have f1 := blk_frozen hc2 1
  have f2 := blk_frozen hc2 2
  have f3 := blk_frozen hc2 3
  have f4 := blk_frozen hc2 4
  have f5 := blk_frozen hc2 5
  have f6 := blk_frozen hc2 6
  have f7 := blk_frozen hc2 7
  clear hb2 hk2 hF2 hc2
  try unfold efV
  go_wp2_with fail
  obtain ⟨hs1, hs2⟩ := storeE_at HC2.out ((efFails x4)) (none) (0) (none) (0)
  refine ⟨rfl, _, eff_results (e := (efFails x4)) (Aa := none) (ca := 0) (Ab := none) (cb := 0) rfl rfl hs1, none, 0, none, 0, rfl, ?_, H2.out.1.keep hs2 (by have := H.out.1.lt; omega), ?_⟩
  · exact EfC.plain _ _ _ ⟨rfl, rfl⟩
  · exact ((Keep.of_below (HD.out.below.trans (Hbd.out.mono HD.out.below.size)) (fun q => q = fb)).trans H2.out.2).then hs2 (fun q hq e => by omega)
set_option maxRecDepth 100000 in
set_option maxHeartbeats 4000000 in
theorem demit_any (h : FB fb F vp w) (x : S65) (ha : 0 ≤ x.f1 ∧ x.f1 < 8) : Calls Try.prog 49 #[dV A n c b d fb, xvF x] w (DoP fb vp (⟨2, fR F x.f1, 0, 0, 0, 0, [], []⟩, F) w) := by
  obtain ⟨x0, x1, x2, x3, x4⟩ := x
  obtain ⟨W, hW⟩ : ∃ W, W = (((w.alloc (.cells #[.slice A n c, .int .i64 b, .int .i64 d, .pointer (some ⟨fb, 0, none⟩)] 115)).alloc (.cells #[.int .i64 x0, .int .i64 x1, .int .i64 x2, .int .i64 x3, .int .i64 x4] 65)).alloc (.cells #[.int .i64 0, .int .i64 0, .int .i64 0, .int .i64 0, .int .i64 0, .int .i64 0, .slice none 0 0, .slice none 0 0] 36)) := ⟨_, rfl⟩
  have hD : DW w A n c b d fb ⟨x0, x1, x2, x3, x4⟩ W := by rw [hW]; exact DW.start w A n c b d fb ⟨x0, x1, x2, x3, x4⟩
  have HD := Aside0.mk hD
  have HW := Aside0.mk hW
  have H := Aside0.mk (And.intro h (h.below hD.below))
  clear hW hD h
  unfold dV xvF
  have ha : 0 ≤ x1 ∧ x1 < 8 := ha
  obtain ⟨a, rfl⟩ : ∃ a : Nat, x1 = a := ⟨x1.toNat, by omega⟩
  have h8a : ((a : Int) < 8) = True := eq_true ha.2
  have HA := Aside0.mk (show a < 8 by omega)
  clear ha
  have hrg : fR F (a : Int) = F.regs.getD a 0 := rfl
  have r := H.out.2.reg a HA.out
  show Calls _ _ _ _ (DoP fb vp (⟨2, fR F (a : Int), 0, 0, 0, 0, [], []⟩, F) w)
  rw [hrg]
  generalize F.regs.getD a 0 = y at r
  clear hrg
  have hu := Try.underlying36
  go_enter Try.func49, Try.ntmps49
  go_upto_region 1 with (fail)
  rw [← HW.out]
  refine wp_region_T (fun w' => Drawn0 W w') [9] (.takes [0, 1, 2, 3, 4, 5, 6, 7, 8] (.fin 9 .done)) (by kernel_rfl) (by kernel_rfl) (by kernel_rfl) (by kernel_rfl) (panic_via (P := Try.prog) (fn := Try.f49) (R := DoP fb vp (⟨2, y, 0, 0, 0, 0, [], []⟩, F) w) (fun _ _ _ => rfl)) ?_
  have hs : Drawn0 W W.drew := (Drawn0.refl W).step 1
  simp only [Turns.takes]
  repeat (
    (first
      | (refine runT_take (v := ?_) (by rfl) (by rfl) (fun w' hS => ?_) hs ?_
         rotate_left
         · (obtain ⟨n, rfl⟩ := hS; have d0 := blk_cell HD.out.c0 0; have d1 := blk_cell HD.out.c0 1; have d2 := blk_cell HD.out.c0 2; have d3 := blk_cell HD.out.c0 3; have c0 := blk_cell HD.out.c1 0; have c1 := blk_cell HD.out.c1 1; have c2 := blk_cell HD.out.c1 2; have c3 := blk_cell HD.out.c1 3; have c4 := blk_cell HD.out.c1 4; go_simp; exact rfl))
      | refine runT_skip (by rfl) (by rfl) hs ?_)
    (try simp only [Act.put, List.setIfInBounds_toArray, List.set_cons_zero, List.set_cons_succ]))
  clear hs
  obtain ⟨wd, hwd⟩ : ∃ wd, wd = W.drew := ⟨_, rfl⟩
  rw [← hwd]
  have Hbd := Aside0.mk (show Below W.heap.size W wd by rw [hwd]; exact (Below.refl _ _).drew)
  clear hwd
  have H1 := Aside0.mk (And.intro (H.out.2.below Hbd.out) (Keep.refl (fun q => q = fb) wd))
  have hc2 : wd.heap[w.heap.size + 1 + 1]? = some zEff := (Hbd.out.block _ (blk_lt HD.out.c2)).trans HD.out.c2
  have HC2 := Aside0.mk hc2
  have H2 := H1
  have q0 := blk_cell hc2 0
  have q1 := blk_cell hc2 1
  have q2 := blk_cell hc2 2
  have q3 := blk_cell hc2 3
  have q4 := blk_cell hc2 4
  have q5 := blk_cell hc2 5
  have q6 := blk_cell hc2 6
  have q7 := blk_cell hc2 7
  have f0 := blk_frozen hc2 0
  have f1 := blk_frozen hc2 1
  have f2 := blk_frozen hc2 2
  have f3 := blk_frozen hc2 3
  have f4 := blk_frozen hc2 4
  have f5 := blk_frozen hc2 5
  have f6 := blk_frozen hc2 6
  have f7 := blk_frozen hc2 7
  clear hc2
  refine runT_fin (by rfl) (by rfl) (fun K hK => ?_)
  go_simp
  refine hK _ _ ?_
  clear hK K
  refine runT_done ?_
  go_wp2_with fail
  obtain ⟨hs1, hs2⟩ := storeE_at HC2.out (⟨2, y, 0, 0, 0, 0, [], []⟩) (none) (0) (none) (0)
  refine ⟨rfl, _, eff_results (e := ⟨2, y, 0, 0, 0, 0, [], []⟩) (Aa := none) (ca := 0) (Ab := none) (cb := 0) rfl rfl hs1, none, 0, none, 0, rfl, ?_, H2.out.1.keep hs2 (by have := H.out.1.lt; omega), ?_⟩
  · exact EfC.plain _ _ _ ⟨rfl, rfl⟩
  · exact ((Keep.of_below (HD.out.below.trans (Hbd.out.mono HD.out.below.size)) (fun q => q = fb)).trans H2.out.2).then hs2 (fun q hq e => by omega)
set_option maxRecDepth 100000 in
set_option maxHeartbeats 4000000 in
theorem dtouch_yes (h : FB fb F vp w) (x : S65) (ha : 0 ≤ x.f2 ∧ x.f2 < 4) (hz : fH F x.f2 ≠ 0) : Calls Try.prog 48 #[dV A n c b d fb, xvF x] w (DoP fb vp (⟨6, 0, x.f1, 0, fH F x.f2, 0, [], []⟩, F) w) := by
  obtain ⟨x0, x1, x2, x3, x4⟩ := x
  obtain ⟨W, hW⟩ : ∃ W, W = (((w.alloc (.cells #[.slice A n c, .int .i64 b, .int .i64 d, .pointer (some ⟨fb, 0, none⟩)] 115)).alloc (.cells #[.int .i64 x0, .int .i64 x1, .int .i64 x2, .int .i64 x3, .int .i64 x4] 65)).alloc (.cells #[.int .i64 0, .int .i64 0, .int .i64 0, .int .i64 0, .int .i64 0, .int .i64 0, .slice none 0 0, .slice none 0 0] 36)) := ⟨_, rfl⟩
  have hD : DW w A n c b d fb ⟨x0, x1, x2, x3, x4⟩ W := by rw [hW]; exact DW.start w A n c b d fb ⟨x0, x1, x2, x3, x4⟩
  have HD := Aside0.mk hD
  have HW := Aside0.mk hW
  have H := Aside0.mk (And.intro h (h.below hD.below))
  clear hW hD h
  unfold dV xvF
  have ha : 0 ≤ x2 ∧ x2 < 4 := ha
  obtain ⟨a, rfl⟩ : ∃ a : Nat, x2 = a := ⟨x2.toNat, by omega⟩
  have h8a : ((a : Int) < 4) = True := eq_true ha.2
  have HA := Aside0.mk (show a < 4 by omega)
  clear ha
  have hrg : fH F (a : Int) = F.hands.getD a 0 := rfl
  have r := H.out.2.hand a HA.out
  have hz : fH F (a : Int) ≠ 0 := hz
  show Calls _ _ _ _ (DoP fb vp (⟨6, 0, x1, 0, fH F (a : Int), 0, [], []⟩, F) w)
  rw [hrg] at hz ⊢
  obtain ⟨y, hyr⟩ : ∃ y, F.hands.getD a 0 = y := ⟨_, rfl⟩
  rw [hyr] at r hz ⊢
  have HYR := Aside0.mk hyr
  clear hyr
  have d3 := blk_cell HD.out.c0 3
  have c2 := blk_cell HD.out.c1 2
  have hy1 : (y == 0) = false := by simp [hz]
  clear hrg
  have hu := Try.underlying36
  go_enter Try.func48, Try.ntmps48
  go_upto_region 1 with (fail)
  rw [← HW.out]
  go_quiet (fail)
  clear d3 c2 r hy1
  go_wp2_with fail
  have hbW : Below W.heap.size W (W.drewN nq) := pw_below_drewN (Below.refl _ _) _
  have HD := Aside0.mk (HD.out.below2 hbW)
  have H := Aside0.mk (And.intro H.out.1 (H.out.2.below hbW))
  clear HW hbW
  generalize W.drewN nq = W at HD H ⊢
  have r := H.out.2.hand a HA.out
  rw [HYR.out] at r
  clear hz
  refine wp_region_T (fun w' => Drawn0 W w') [11] (.takes [0, 1, 2, 3, 4, 5, 6, 7, 8, 9, 10] (.fin 11 .done)) (by kernel_rfl) (by kernel_rfl) (by kernel_rfl) (by kernel_rfl) (panic_via (P := Try.prog) (fn := Try.f48) (R := DoP fb vp (⟨6, 0, x1, 0, y, 0, [], []⟩, F) w) (fun _ _ _ => rfl)) ?_
  have hs : Drawn0 W W.drew := (Drawn0.refl W).step 1
  simp only [Turns.takes]
  repeat (
    (first
      | (refine runT_take (v := ?_) (by rfl) (by rfl) (fun w' hS => ?_) hs ?_
         rotate_left
         · (obtain ⟨n, rfl⟩ := hS; have d0 := blk_cell HD.out.c0 0; have d1 := blk_cell HD.out.c0 1; have d2 := blk_cell HD.out.c0 2; have d3 := blk_cell HD.out.c0 3; have c0 := blk_cell HD.out.c1 0; have c1 := blk_cell HD.out.c1 1; have c2 := blk_cell HD.out.c1 2; have c3 := blk_cell HD.out.c1 3; have c4 := blk_cell HD.out.c1 4; go_simp; exact rfl))
      | refine runT_skip (by rfl) (by rfl) hs ?_)
    (try simp only [Act.put, List.setIfInBounds_toArray, List.set_cons_zero, List.set_cons_succ]))
  clear hs
  obtain ⟨wd, hwd⟩ : ∃ wd, wd = W.drew := ⟨_, rfl⟩
  rw [← hwd]
  have Hbd := Aside0.mk (show Below W.heap.size W wd by rw [hwd]; exact (Below.refl _ _).drew)
  clear hwd
  have H1 := Aside0.mk (And.intro (H.out.2.below Hbd.out) (Keep.refl (fun q => q = fb) wd))
  have hc2 : wd.heap[w.heap.size + 1 + 1]? = some zEff := (Hbd.out.block _ (blk_lt HD.out.c2)).trans HD.out.c2
  have HC2 := Aside0.mk hc2
  have H2 := H1
  have q0 := blk_cell hc2 0
  have q1 := blk_cell hc2 1
  have q2 := blk_cell hc2 2
  have q3 := blk_cell hc2 3
  have q4 := blk_cell hc2 4
  have q5 := blk_cell hc2 5
  have q6 := blk_cell hc2 6
  have q7 := blk_cell hc2 7
  have f0 := blk_frozen hc2 0
  have f1 := blk_frozen hc2 1
  have f2 := blk_frozen hc2 2
  have f3 := blk_frozen hc2 3
  have f4 := blk_frozen hc2 4
  have f5 := blk_frozen hc2 5
  have f6 := blk_frozen hc2 6
  have f7 := blk_frozen hc2 7
  clear hc2
  refine runT_fin (by rfl) (by rfl) (fun K hK => ?_)
  go_simp
  refine hK _ _ ?_
  clear hK K
  refine runT_done ?_
  go_wp2_with fail
  obtain ⟨hs1, hs2⟩ := storeE_at HC2.out (⟨6, 0, x1, 0, y, 0, [], []⟩) (none) (0) (none) (0)
  refine ⟨rfl, _, eff_results (e := ⟨6, 0, x1, 0, y, 0, [], []⟩) (Aa := none) (ca := 0) (Ab := none) (cb := 0) rfl rfl hs1, none, 0, none, 0, rfl, ?_, H2.out.1.keep hs2 (by have := H.out.1.lt; omega), ?_⟩
  · exact EfC.plain _ _ _ ⟨rfl, rfl⟩
  · exact ((Keep.of_below (HD.out.below.trans (Hbd.out.mono HD.out.below.size)) (fun q => q = fb)).trans H2.out.2).then hs2 (fun q hq e => by omega)
set_option maxRecDepth 100000 in
set_option maxHeartbeats 4000000 in
theorem dtouch_no (h : FB fb F vp w) (x : S65) (ha : 0 ≤ x.f2 ∧ x.f2 < 4) (hz : fH F x.f2 = 0) : Calls Try.prog 48 #[dV A n c b d fb, xvF x] w (DoP fb vp (efFails 2, F) w) := by
  obtain ⟨x0, x1, x2, x3, x4⟩ := x
  obtain ⟨W, hW⟩ : ∃ W, W = (((w.alloc (.cells #[.slice A n c, .int .i64 b, .int .i64 d, .pointer (some ⟨fb, 0, none⟩)] 115)).alloc (.cells #[.int .i64 x0, .int .i64 x1, .int .i64 x2, .int .i64 x3, .int .i64 x4] 65)).alloc (.cells #[.int .i64 0, .int .i64 0, .int .i64 0, .int .i64 0, .int .i64 0, .int .i64 0, .slice none 0 0, .slice none 0 0] 36)) := ⟨_, rfl⟩
  have hD : DW w A n c b d fb ⟨x0, x1, x2, x3, x4⟩ W := by rw [hW]; exact DW.start w A n c b d fb ⟨x0, x1, x2, x3, x4⟩
  have HD := Aside0.mk hD
  have HW := Aside0.mk hW
  have H := Aside0.mk (And.intro h (h.below hD.below))
  clear hW hD h
  unfold dV xvF
  have ha : 0 ≤ x2 ∧ x2 < 4 := ha
  obtain ⟨a, rfl⟩ : ∃ a : Nat, x2 = a := ⟨x2.toNat, by omega⟩
  have h8a : ((a : Int) < 4) = True := eq_true ha.2
  have HA := Aside0.mk (show a < 4 by omega)
  clear ha
  have hrg : fH F (a : Int) = F.hands.getD a 0 := rfl
  have r := H.out.2.hand a HA.out
  have hz : fH F (a : Int) = 0 := hz
  show Calls _ _ _ _ (DoP fb vp (efFails 2, F) w)
  rw [hrg] at hz
  generalize F.hands.getD a 0 = y at r hz
  have d3 := blk_cell HD.out.c0 3
  have c2 := blk_cell HD.out.c1 2
  have hy1 : (y == 0) = true := by simp [hz]
  clear hrg
  have hu := Try.underlying36
  go_enter Try.func48, Try.ntmps48
  go_upto_region 1 with (fail)
  rw [← HW.out]
  go_quiet (fail)
  clear d3 c2 r hz hy1
  obtain ⟨wd, hwd⟩ : ∃ wd, wd = (W.drewN nq) := ⟨_, rfl⟩
  rw [← hwd]
  have Hbd := Aside0.mk (show Below W.heap.size W wd by rw [hwd]; exact (pw_below_drewN (Below.refl _ _) _))
  clear hwd
  have H1 := Aside0.mk (And.intro (H.out.2.below Hbd.out) (Keep.refl (fun q => q = fb) wd))
  obtain ⟨W1, hW1⟩ : ∃ W1, W1 = wd := ⟨_, rfl⟩
  go_wp2_with fail
  refine (ffails_any _ _).mono ?_
  rintro e w2 ⟨rfl, hb2⟩
  have hk2 : Keep (fun q => q = fb) wd w2 := H1.out.2.then (Keep.of_below hb2 (fun _ => False)) (fun _ _ h => h.elim)
  have hF2 := H1.out.1.below hb2
  have hc2 : w2.heap[w.heap.size + 1 + 1]? = some zEff := hk2.blk ((Hbd.out.block _ (blk_lt HD.out.c2)).trans HD.out.c2) (by have := H.out.1.lt; omega)
  have HC2 := Aside0.mk hc2
  have H2 := Aside0.mk (And.intro hF2 hk2)
  have q0 := blk_cell hc2 0
  have q1 := blk_cell hc2 1
  have q2 := blk_cell hc2 2
  have q3 := blk_cell hc2 3
  have q4 := blk_cell hc2 4
  have q5 := blk_cell hc2 5
  have q6 := blk_cell hc2 6
  have q7 := blk_cell hc2 7
  have f0 := blk_frozen hc2 0
  have f1 := blk_frozen hc2 1
  have f2 := blk_frozen hc2 2
  have f3 := blk_frozen hc2 3
  have f4 := blk_frozen hc2 4
  have f5 := blk_frozen hc2 5
  have f6 := blk_frozen hc2 6
  have f7 := blk_frozen hc2 7
  clear hb2 hk2 hF2 hc2
  try unfold efV
  go_wp2_with fail
  obtain ⟨hs1, hs2⟩ := storeE_at HC2.out ((efFails 2)) (none) (0) (none) (0)
  refine ⟨rfl, _, eff_results (e := (efFails 2)) (Aa := none) (ca := 0) (Ab := none) (cb := 0) rfl rfl hs1, none, 0, none, 0, rfl, ?_, H2.out.1.keep hs2 (by have := H.out.1.lt; omega), ?_⟩
  · exact EfC.plain _ _ _ ⟨rfl, rfl⟩
  · exact ((Keep.of_below (HD.out.below.trans (Hbd.out.mono HD.out.below.size)) (fun q => q = fb)).trans H2.out.2).then hs2 (fun q hq e => by omega)
end
end Go.Proofs.Ytcciejcpijlkfaa.H

set_option linter.unusedVariables false
set_option linter.unusedSimpArgs false
namespace Go.Proofs.Ytcciejcpijlkfaa.H
open Go.RowKit Go.Hay Go.Proofs.YtcciejcpijlkfaaW.PrintWords Go.Proofs.YtcciejcpijlkfaaW.PrintLast Go.Proofs.YtcciejcpijlkfaaW.PrintMore
theorem infoC2 : (Try.prog.info? 2).map (fun i => (i.zero, i.size, i.bytes)) = some (some (.int .i64 0), 1, 8) := by kernel_rfl
theorem infoC3 : (Try.prog.info? 3).map (fun i => (i.zero, i.size, i.bytes)) = some (some (.int .i64 0), 1, 8) := by kernel_rfl
set_option maxRecDepth 100000 in
set_option maxHeartbeats 4000000 in
theorem clonei_any (A : Option Addr) (c : Nat) (xs : List Int) (w : World) (hC : (Kd.int .i64).C w A xs.length xs) (hc : A = none → c = 0 ∧ xs = []) (hl : xs.length ≤ 1000) :
    Calls Try.prog 31 #[.slice A xs.length c] w fun e w' => ∃ v, e = .returned v ∧ (Kd.int .i64).R 3 w' w.heap.size (fun _ => True) v xs ∧ Below w.heap.size w w' := by
  cases A with
  | none =>
    obtain ⟨rfl, rfl⟩ := hc rfl
    have HB := Aside0.mk (Below.refl w.heap.size w)
    have he : ∀ w : World, (binOp .eql 23 (.slice none 0 0) (.slice none 0 0)).run Try.prog w = .ok (.bool true) w := fun _ => rfl
    clear hC
    go_enter Try.func31, Try.ntmps31
    go_wp2_with fail
    go_ret
    exact ⟨_, rfl, Kd.R_nil _ _ _ _ _, HB.out⟩
  | some ad =>
    have HC := Aside0.mk hC
    have HB := Aside0.mk (Below.refl w.heap.size w)
    have he : ∀ w : World, (binOp .eql 23 (.slice (some ad) xs.length c) (.slice none 0 0)).run Try.prog w = .ok (.bool false) w := fun _ => rfl
    have hl8 : (0 + xs.length) * 8 ≤ 140737488355328 := by omega
    clear hC
    go_enter Try.func31, Try.ntmps31
    have hnew : (Kd.int .i64).R 3 (w.alloc (.cells #[] 3)) w.heap.size (fun _ => True) (.slice (some ⟨w.heap.size, 0, none⟩) 0 0) [] :=
      ⟨fun _ _ => trivial, [], ⟨rfl, .inr ⟨w.heap.size, 0, #[], rfl, Nat.le_refl _, alloc_blk _ _, Nat.le_refl _, by decide, rfl, rfl⟩⟩, Reps.none _ _⟩
    go_wp2_with (first | ((with_reducible refine gate_builtin (b := .append) (xs := #[.tmp 5, .tmp 6]) rfl ?_); refine Kd.R_append_rows (Kd.int .i64) (w0 := w) w.heap.size rfl (.tmp 5) (.tmp 6) 23 3 (.int .i64 0) 8 rfl Try.underlying23 infoC3 rfl (by decide) (by omega) _ [] xs _ _ _ (fun _ => True) (fun _ => False) rfl rfl ?aO ?aR (fun _ _ h => h) (fun _ h => h.elim) ?aF ?aB ?aS ?aL ?_))
    case aO => exact hnew
    case aR => exact Kd.C_alloc HC.out _
    case aF => exact fun _ _ => trivial
    case aB => exact HB.out.alloc (Nat.le_refl _) _
    case aS => simp
    case aL => simpa using hl8
    intro v1 w1 hR hb1 _ _
    have HR1 := Aside0.mk hR
    have HB1 := Aside0.mk hb1
    clear hR hb1 hnew
    go_wp2_with fail
    go_ret
    exact ⟨v1, rfl, HR1.out, HB1.out⟩
set_option maxRecDepth 100000 in
set_option maxHeartbeats 4000000 in
theorem clone64_any (A : Option Addr) (c : Nat) (xs : List Int) (w : World) (hC : (Kd.int .i64).C w A xs.length xs) (hc : A = none → c = 0 ∧ xs = []) (hl : xs.length ≤ 1000) :
    Calls Try.prog 82 #[.slice A xs.length c] w fun e w' => ∃ v, e = .returned v ∧ (Kd.int .i64).R 2 w' w.heap.size (fun _ => True) v xs ∧ Below w.heap.size w w' := by
  cases A with
  | none =>
    obtain ⟨rfl, rfl⟩ := hc rfl
    have HB := Aside0.mk (Below.refl w.heap.size w)
    have he : ∀ w : World, (binOp .eql 34 (.slice none 0 0) (.slice none 0 0)).run Try.prog w = .ok (.bool true) w := fun _ => rfl
    clear hC
    go_enter Try.func82, Try.ntmps82
    go_wp2_with fail
    go_ret
    exact ⟨_, rfl, Kd.R_nil _ _ _ _ _, HB.out⟩
  | some ad =>
    have HC := Aside0.mk hC
    have HB := Aside0.mk (Below.refl w.heap.size w)
    have he : ∀ w : World, (binOp .eql 34 (.slice (some ad) xs.length c) (.slice none 0 0)).run Try.prog w = .ok (.bool false) w := fun _ => rfl
    have hl8 : (0 + xs.length) * 8 ≤ 140737488355328 := by omega
    clear hC
    go_enter Try.func82, Try.ntmps82
    have hnew : (Kd.int .i64).R 2 (w.alloc (.cells #[] 2)) w.heap.size (fun _ => True) (.slice (some ⟨w.heap.size, 0, none⟩) 0 0) [] :=
      ⟨fun _ _ => trivial, [], ⟨rfl, .inr ⟨w.heap.size, 0, #[], rfl, Nat.le_refl _, alloc_blk _ _, Nat.le_refl _, by decide, rfl, rfl⟩⟩, Reps.none _ _⟩
    go_wp2_with (first | ((with_reducible refine gate_builtin (b := .append) (xs := #[.tmp 5, .tmp 6]) rfl ?_); refine Kd.R_append_rows (Kd.int .i64) (w0 := w) w.heap.size rfl (.tmp 5) (.tmp 6) 34 2 (.int .i64 0) 8 rfl Try.underlying34 infoC2 rfl (by decide) (by omega) _ [] xs _ _ _ (fun _ => True) (fun _ => False) rfl rfl ?aO ?aR (fun _ _ h => h) (fun _ h => h.elim) ?aF ?aB ?aS ?aL ?_))
    case aO => exact hnew
    case aR => exact Kd.C_alloc HC.out _
    case aF => exact fun _ _ => trivial
    case aB => exact HB.out.alloc (Nat.le_refl _) _
    case aS => simp
    case aL => simpa using hl8
    intro v1 w1 hR hb1 _ _
    have HR1 := Aside0.mk hR
    have HB1 := Aside0.mk hb1
    clear hR hb1 hnew
    go_wp2_with fail
    go_ret
    exact ⟨v1, rfl, HR1.out, HB1.out⟩
end Go.Proofs.Ytcciejcpijlkfaa.H

set_option linter.unusedVariables false
set_option linter.unusedSimpArgs false
namespace Go.Proofs.Ytcciejcpijlkfaa.H
open Go.RowKit Go.Hay Go.Proofs.YtcciejcpijlkfaaW.PrintWords Go.Proofs.YtcciejcpijlkfaaW.PrintLast Go.Proofs.YtcciejcpijlkfaaW.PrintMore
/-- the boxes of 'begin'. -/
structure BW (w : World) (A : Option Addr) (n c : Nat) (b d : Int) (fb : Nat) (x : S65) (k r h f : Int) (va vb : Value) (W : World) : Prop where
  below : Below w.heap.size w W
  c0 : W.heap[w.heap.size]? = some (.cells #[.slice A n c, .int .i64 b, .int .i64 d, .pointer (some ⟨fb, 0, none⟩)] 115 (0, 0))
  c1 : W.heap[w.heap.size + 1]? = some (.cells #[.int .i64 x.f0, .int .i64 x.f1, .int .i64 x.f2, .int .i64 x.f3, .int .i64 x.f4] 65 (0, 0))
  c2 : W.heap[w.heap.size + 1 + 1]? = some (.cells #[.int .i64 k, .int .i64 0, .int .i64 r, .int .i64 f, .int .i64 h, .int .i64 0, va, vb] 36 (0, 0))
  c3 : W.heap[w.heap.size + 1 + 1 + 1]? = some zEff
theorem BW.start (w : World) (A : Option Addr) (n c : Nat) (b d : Int) (fb : Nat) (x : S65) (k r h : Int) : BW w A n c b d fb x k r h 0 (.slice none 0 0) (.slice none 0 0) ((((w.alloc (.cells #[.slice A n c, .int .i64 b, .int .i64 d, .pointer (some ⟨fb, 0, none⟩)] 115)).alloc (.cells #[.int .i64 x.f0, .int .i64 x.f1, .int .i64 x.f2, .int .i64 x.f3, .int .i64 x.f4] 65)).alloc (.cells #[.int .i64 k, .int .i64 0, .int .i64 r, .int .i64 0, .int .i64 h, .int .i64 0, .slice none 0 0, .slice none 0 0] 36)).alloc zEff) := by
  obtain ⟨w1, h1⟩ : ∃ w1, w1 = w.alloc (.cells #[.slice A n c, .int .i64 b, .int .i64 d, .pointer (some ⟨fb, 0, none⟩)] 115) := ⟨_, rfl⟩
  obtain ⟨w2, h2⟩ : ∃ w2, w2 = w1.alloc (.cells #[.int .i64 x.f0, .int .i64 x.f1, .int .i64 x.f2, .int .i64 x.f3, .int .i64 x.f4] 65) := ⟨_, rfl⟩
  obtain ⟨w3, h3⟩ : ∃ w3, w3 = w2.alloc (.cells #[.int .i64 k, .int .i64 0, .int .i64 r, .int .i64 0, .int .i64 h, .int .i64 0, .slice none 0 0, .slice none 0 0] 36) := ⟨_, rfl⟩
  rw [← h1, ← h2, ← h3]
  have e1 : w1.heap.size = w.heap.size + 1 := by rw [h1]; exact Array.size_push _
  have e2 : w2.heap.size = w.heap.size + 1 + 1 := by rw [h2, ← e1]; exact Array.size_push _
  have e3 : w3.heap.size = w.heap.size + 1 + 1 + 1 := by rw [h3, ← e2]; exact Array.size_push _
  have b1 : Below w.heap.size w w1 := by rw [h1]; exact (Below.refl w.heap.size w).alloc (Nat.le_refl _) _
  have b2 : Below w1.heap.size w1 w2 := by rw [h2]; exact (Below.refl w1.heap.size w1).alloc (Nat.le_refl _) _
  have b3 : Below w2.heap.size w2 w3 := by rw [h3]; exact (Below.refl w2.heap.size w2).alloc (Nat.le_refl _) _
  have b4 : Below w3.heap.size w3 (w3.alloc zEff) := (Below.refl w3.heap.size w3).alloc (Nat.le_refl _) _
  have c0 : w1.heap[w.heap.size]? = some (.cells #[.slice A n c, .int .i64 b, .int .i64 d, .pointer (some ⟨fb, 0, none⟩)] 115 (0, 0)) := by rw [h1]; exact alloc_blk w _
  have c1 : w2.heap[w.heap.size + 1]? = some (.cells #[.int .i64 x.f0, .int .i64 x.f1, .int .i64 x.f2, .int .i64 x.f3, .int .i64 x.f4] 65 (0, 0)) := by rw [h2, ← e1]; exact alloc_blk w1 _
  have c2 : w3.heap[w.heap.size + 1 + 1]? = some (.cells #[.int .i64 k, .int .i64 0, .int .i64 r, .int .i64 0, .int .i64 h, .int .i64 0, .slice none 0 0, .slice none 0 0] 36 (0, 0)) := by rw [h3, ← e2]; exact alloc_blk w2 _
  have c3 : (w3.alloc zEff).heap[w.heap.size + 1 + 1 + 1]? = some zEff := by rw [← e3]; exact alloc_blk w3 _
  have b34 := b3.trans (b4.mono b3.size)
  have b24 := b2.trans (b34.mono b2.size)
  exact ⟨b1.trans (b24.mono b1.size), (b24.block _ (blk_lt c0)).trans c0, (b34.block _ (blk_lt c1)).trans c1, (b4.block _ (blk_lt c2)).trans c2, c3⟩
section
variable {w W W' : World} {A : Option Addr} {n c : Nat} {b d : Int} {fb : Nat} {x : S65} {k r h f : Int} {va vb : Value} {vp : Value} {F : Fr}
theorem BW.below2 (q : BW w A n c b d fb x k r h f va vb W) (hb : Below W.heap.size W W') : BW w A n c b d fb x k r h f va vb W' :=
  ⟨q.below.trans (hb.mono q.below.size), (hb.block _ (blk_lt q.c0)).trans q.c0, (hb.block _ (blk_lt q.c1)).trans q.c1, (hb.block _ (blk_lt q.c2)).trans q.c2, (hb.block _ (blk_lt q.c3)).trans q.c3⟩
theorem BW.set (q : BW w A n c b d fb x k r h f va vb W) (i : Nat) (v : Value) {f' : Int} {va' vb' : Value} (hs : (#[.int .i64 k, .int .i64 0, .int .i64 r, .int .i64 f, .int .i64 h, .int .i64 0, va, vb] : Array Value).setIfInBounds i v = #[.int .i64 k, .int .i64 0, .int .i64 r, .int .i64 f', .int .i64 h, .int .i64 0, va', vb']) :
    BW w A n c b d fb x k r h f' va' vb' (W.setCell ⟨w.heap.size + 1 + 1, i, none⟩ v) ∧ Keep (fun j => j = w.heap.size + 1 + 1) W (W.setCell ⟨w.heap.size + 1 + 1, i, none⟩ v) := by
  have hk : Keep (fun j => j = w.heap.size + 1 + 1) W (W.setCell ⟨w.heap.size + 1 + 1, i, none⟩ v) := (Keep.refl (fun j => j = w.heap.size + 1 + 1) W).set (p := ⟨w.heap.size + 1 + 1, i, none⟩) (.inr rfl) _
  refine ⟨⟨q.below.trans (hk.below q.below.size (fun j hj e => by omega)), hk.blk q.c0 (by omega), hk.blk q.c1 (by omega), ?_, hk.blk q.c3 (by omega)⟩, hk⟩
  have := blk_set q.c2 i v
  rw [hs] at this
  exact this
end
theorem R_new {w : World} {e B : Nat} {ok : Nat → Prop} {A : Option Addr} {n c : Nat} {xs : List Int} (h : (Kd.int .i64).R e w B ok (.slice A n c) xs) : xs = [] ∨ ∃ ad, A = some ad ∧ B ≤ ad.block := by
  by_cases hx : 0 < xs.length
  · obtain ⟨g, cp, hv, _⟩ := Kd.R_form h hx
    injection hv with hA _ _
    subst hA
    exact .inr ⟨_, rfl, (nums_own h g rfl).2.1⟩
  · exact .inl (List.eq_nil_of_length_eq_zero (by omega))
section
variable {A : Option Addr} {n c : Nat} {b d : Int} {fb : Nat} {F : Fr} {w : World} {Ap : Option Addr} {cp : Nat}
def eV (k r h : Int) : Value := .agg #[.int .i64 k, .int .i64 0, .int .i64 r, .int .i64 0, .int .i64 h, .int .i64 0, .slice none 0 0, .slice none 0 0]
set_option maxRecDepth 100000 in
set_option maxHeartbeats 8000000 in
theorem dbegin_no (h : FB fb F (.slice Ap F.path.length cp) w) (x : S65) (k r h0 : Int) (hd : d ≤ (F.path.length : Int)) : Calls Try.prog 64 #[dV A n c b d fb, xvF x, eV k r h0] w (DoP fb (.slice Ap F.path.length cp) (efFails 4, F) w) := by
  obtain ⟨x0, x1, x2, x3, x4⟩ := x
  obtain ⟨W, hW⟩ : ∃ W, W = ((((w.alloc (.cells #[.slice A n c, .int .i64 b, .int .i64 d, .pointer (some ⟨fb, 0, none⟩)] 115)).alloc (.cells #[.int .i64 x0, .int .i64 x1, .int .i64 x2, .int .i64 x3, .int .i64 x4] 65)).alloc (.cells #[.int .i64 k, .int .i64 0, .int .i64 r, .int .i64 0, .int .i64 h0, .int .i64 0, .slice none 0 0, .slice none 0 0] 36)).alloc (.cells #[.int .i64 0, .int .i64 0, .int .i64 0, .int .i64 0, .int .i64 0, .int .i64 0, .slice none 0 0, .slice none 0 0] 36)) := ⟨_, rfl⟩
  have hD : BW w A n c b d fb ⟨x0, x1, x2, x3, x4⟩ k r h0 0 (.slice none 0 0) (.slice none 0 0) W := by rw [hW]; exact BW.start w A n c b d fb ⟨x0, x1, x2, x3, x4⟩ k r h0
  have HD := Aside0.mk hD
  have HW := Aside0.mk hW
  have H := Aside0.mk (And.intro h (h.below hD.below))
  have d3 := blk_cell hD.c0 3
  have d2 := blk_cell hD.c0 2
  have t4 := (h.below hD.below).fix.2.2.2.2
  clear hW hD h
  unfold dV xvF eV
  have hd1 : (d ≤ (F.path.length : Int)) = True := eq_true hd
  go_enter Try.func64, Try.ntmps64
  go_upto_region 1 with (fail)
  rw [← HW.out]
  go_quiet (fail)
  go_wp2_with fail
  refine (ffails_any _ _).mono ?_
  rintro e w2 ⟨rfl, hb2⟩
  clear d3 d2 t4 hd hd1
  have hbd := (pw_below_drewN (Below.refl W.heap.size W) nq).trans (hb2.mono (pw_below_drewN (Below.refl W.heap.size W) nq).size)
  have hc2 := (HD.out.below2 hbd).c3
  have HC2 := Aside0.mk hc2
  have H2 := Aside0.mk (And.intro (H.out.2.below hbd) (And.intro hbd HD.out.below))
  have q0 := blk_cell hc2 0
  have q1 := blk_cell hc2 1
  have q2 := blk_cell hc2 2
  have q3 := blk_cell hc2 3
  have q4 := blk_cell hc2 4
  have q5 := blk_cell hc2 5
  have q6 := blk_cell hc2 6
  have q7 := blk_cell hc2 7
  have f0 := blk_frozen hc2 0
  have f1 := blk_frozen hc2 1
  have f2 := blk_frozen hc2 2
  have f3 := blk_frozen hc2 3
  have f4 := blk_frozen hc2 4
  have f5 := blk_frozen hc2 5
  have f6 := blk_frozen hc2 6
  have f7 := blk_frozen hc2 7
  clear hb2 hbd hc2
  unfold efV
  go_wp2_with fail
  obtain ⟨hs1, hs2⟩ := storeE_at HC2.out (efFails 4) none 0 none 0
  refine ⟨rfl, _, eff_results (e := efFails 4) (Aa := none) (ca := 0) (Ab := none) (cb := 0) rfl rfl hs1, none, 0, none, 0, rfl, EfC.plain _ _ _ ⟨rfl, rfl⟩, H2.out.1.keep hs2 (by have := H.out.1.lt; omega), ?_⟩
  exact (Keep.of_below (H2.out.2.2.trans (H2.out.2.1.mono H2.out.2.2.size)) (fun q => q = fb)).then hs2 (fun q hq e => by omega)
set_option maxRecDepth 100000 in
set_option maxHeartbeats 8000000 in
theorem dbegin_yes {l : List S68} (hl : POk l) (hC : k68.C w A l.length l) (hP : (Kd.int .i64).C w Ap F.path.length F.path) (hpc : F.path.length ≤ cp) (hpn : Ap = none → cp = 0) (h : FB fb F (.slice Ap F.path.length cp) w) (x : S65) (k r h0 : Int) (hd : ¬ d ≤ (F.path.length : Int)) (hd30 : d ≤ 30) (hb : 0 ≤ x.f2 ∧ x.f2 < 8) (hcf : 0 ≤ x.f3 ∧ x.f3 < l.length ∧ (rd_T68 l x.f3).f0 ≤ 8 - x.f2) :
    Calls Try.prog 64 #[dV A l.length c b d fb, xvF x, eV k r h0] w (DoP fb (.slice Ap F.path.length cp) (⟨k, 0, r, x.f3, h0, 0, argsF l x F, F.path ++ [F.kids]⟩, { F with kids := wrap64 (F.kids + 1) }) w) := by
  obtain ⟨n, hn⟩ : ∃ n, n = l.length := ⟨_, rfl⟩
  rw [← hn]
  have HN := Aside0.mk hn
  clear hn
  obtain ⟨x0, x1, x2, x3, x4⟩ := x
  obtain ⟨W, hW⟩ : ∃ W, W = ((((w.alloc (.cells #[.slice A n c, .int .i64 b, .int .i64 d, .pointer (some ⟨fb, 0, none⟩)] 115)).alloc (.cells #[.int .i64 x0, .int .i64 x1, .int .i64 x2, .int .i64 x3, .int .i64 x4] 65)).alloc (.cells #[.int .i64 k, .int .i64 0, .int .i64 r, .int .i64 0, .int .i64 h0, .int .i64 0, .slice none 0 0, .slice none 0 0] 36)).alloc (.cells #[.int .i64 0, .int .i64 0, .int .i64 0, .int .i64 0, .int .i64 0, .int .i64 0, .slice none 0 0, .slice none 0 0] 36)) := ⟨_, rfl⟩
  have hD : BW w A n c b d fb ⟨x0, x1, x2, x3, x4⟩ k r h0 0 (.slice none 0 0) (.slice none 0 0) W := by rw [hW]; exact BW.start w A n c b d fb ⟨x0, x1, x2, x3, x4⟩ k r h0
  have HD := Aside0.mk hD
  have HW := Aside0.mk hW
  have H := Aside0.mk (And.intro h (h.below hD.below))
  have d3 := blk_cell hD.c0 3
  have d2 := blk_cell hD.c0 2
  have t4 := (h.below hD.below).fix.2.2.2.2
  clear hW hD h
  unfold dV xvF eV
  have hb : 0 ≤ x2 ∧ x2 < 8 := hb
  have hcf : 0 ≤ x3 ∧ x3 < l.length ∧ (rd_T68 l x3).f0 ≤ 8 - x2 := hcf
  obtain ⟨b2, rfl⟩ : ∃ b2 : Nat, x2 = b2 := ⟨x2.toNat, by omega⟩
  obtain ⟨f, rfl⟩ : ∃ f : Nat, x3 = f := ⟨x3.toNat, by omega⟩
  have hd1 : (d ≤ (F.path.length : Int)) = False := eq_false hd
  have hlen : F.path.length ≤ 1000 := by omega
  have HP := Aside0.mk (And.intro hP (And.intro hpc (And.intro hpn hlen)))
  have hfl : f < l.length := by omega
  have hrd : rd_T68 l (f : Int) = l[f] := by simp [rd_T68, hfl]
  have har := (hl.fn f hfl).1
  rw [hrd] at hcf
  have hargs : argsF l ⟨x0, x1, (b2 : Int), (f : Int), x4⟩ F = (F.regs.drop b2).take l[f].f0.toNat := by unfold argsF; simp only [hrd]; rfl
  obtain ⟨ar, har2⟩ : ∃ ar : Nat, l[f].f0 = ar := ⟨l[f].f0.toNat, by omega⟩
  show Calls _ _ _ _ (DoP fb (.slice Ap F.path.length cp) (⟨k, 0, r, (f : Int), h0, 0, argsF l ⟨x0, x1, (b2 : Int), (f : Int), x4⟩ F, F.path ++ [F.kids]⟩, { F with kids := wrap64 (F.kids + 1) }) w)
  rw [hargs, har2, Int.toNat_natCast]
  obtain ⟨xs, hxs⟩ : ∃ xs, xs = (F.regs.drop b2).take ar := ⟨_, rfl⟩
  rw [← hxs]
  rw [har2] at hcf
  have hxl : xs.length = ar := by rw [hxs]; exact (H.out.1.argsC b2 ar (by omega)).1
  have HA := Aside0.mk (And.intro hxs (And.intro hxl (And.intro (show b2 + ar ≤ 8 by omega) (show b2 < 8 by omega))))
  have har3 : (rd_T68 l (f : Int)).f0 = ar := by rw [hrd]; exact har2
  have HF := Aside0.mk (And.intro (show f < l.length from hfl) har3)
  have HC := Aside0.mk hC
  clear hP hpc hpn hlen hd hd30 hb hcf hargs har2 hrd har har3 hfl hxs hxl hC
  go_enter Try.func64, Try.ntmps64
  go_upto_region 1 with (fail)
  rw [← HW.out]
  go_quiet (fail)
  go_upto_region 3 with (fail)
  have hbd := pw_below_drewN (Below.refl W.heap.size W) nq
  have HD := Aside0.mk (HD.out.below2 hbd)
  have H := Aside0.mk (And.intro H.out.1 (H.out.2.below hbd))
  clear HW hbd d3 d2 t4 hd1
  generalize W.drewN nq = W at HD H ⊢
  have c3 := blk_cell HD.out.c1 3
  have e3 := blk_cell HD.out.c2 3
  have z3 := blk_frozen HD.out.c2 3
  go_upto_region 4 with (fail)
  obtain ⟨W1, hW1⟩ : ∃ W1, W1 = W.setCell ⟨w.heap.size + 1 + 1, 3, none⟩ (.int .i64 (f : Int)) := ⟨_, rfl⟩
  rw [← hW1]
  obtain ⟨hD1, hk1⟩ := HD.out.set 3 (.int .i64 (f : Int)) (f' := f) (va' := .slice none 0 0) (vb' := .slice none 0 0) rfl
  rw [← hW1] at hD1 hk1
  have HD := Aside0.mk hD1
  have H := Aside0.mk (And.intro H.out.1 (H.out.2.keep hk1 (by have := H.out.1.lt; omega)))
  clear c3 e3 z3 hD1 hk1 hW1
  generalize W1 = W at HD H ⊢
  have d0 := blk_cell HD.out.c0 0
  have d3 := blk_cell HD.out.c0 3
  have c2 := blk_cell HD.out.c1 2
  have c3 := blk_cell HD.out.c1 3
  obtain ⟨adp, Ai, ci, hap, p0, p1, hci, hCi⟩ := at_T68 (Kd.C_below HC.out HD.out.below) (f : Int) (by omega) (by have := HF.out.1; omega)
  rw [HF.out.2, Int.toNat_natCast] at p0
  rw [hap] at d0
  have hfl2 : ((f : Int) < (n : Int)) = True := eq_true (by have := HF.out.1; have := HN.out; omega)
  have hsl := slice_regsF fb b2 ar HA.out.2.2.2 HA.out.2.2.1
  have hwr : IntKind.i64.wrap ((b2 : Int) + (ar : Int)) = (b2 : Int) + (ar : Int) := IntWalk.i64_in _ (by have := HA.out.2.2.1; omega)
  have HM := Aside0.mk (And.intro d0 (And.intro d3 (And.intro c2 (And.intro c3 p0))))
  clear d0 d3 c2 c3 p0 p1 hci hCi hap
  refine wp_region_T (fun w' => Below W.heap.size W w') [19] (.takes [0, 1, 2, 3, 4, 5, 6, 7, 8, 9, 10, 11, 12, 13, 14, 15, 16] (.op 17 (.takes [18] (.fin 19 .done)))) (by kernel_rfl) (by kernel_rfl) (by kernel_rfl) (by kernel_rfl) (panic_via (P := Try.prog) (fn := Try.f64) (R := DoP fb (.slice Ap F.path.length cp) (⟨k, 0, r, f, h0, 0, xs, F.path ++ [F.kids]⟩, { F with kids := wrap64 (F.kids + 1) }) w) (fun _ _ _ => rfl)) ?_
  have hs : Below W.heap.size W W.drew := (Below.refl _ _).drew
  have hmv : ∀ {w' : World} {p : Addr} {v : Value}, Below W.heap.size W w' → W.cell? p = some v → w'.cell? p = some v := fun hS hq => (hS.cell (World.block_lt_of_cell? W _ hq)).trans hq
  simp only [Turns.takes]
  repeat (
    (first
      | (refine runT_take (v := ?_) (by rfl) (by rfl) (fun w' hS => ?_) hs ?_
         rotate_left
         · (have d0 := hmv hS HM.out.1; have d3 := hmv hS HM.out.2.1; have c2 := hmv hS HM.out.2.2.1; have c3 := hmv hS HM.out.2.2.2.1; have p0 := hmv hS HM.out.2.2.2.2; go_simp; exact rfl))
      | refine runT_skip (by rfl) (by rfl) hs ?_)
    (try simp only [Act.put, List.setIfInBounds_toArray, List.set_cons_zero, List.set_cons_succ]))
  clear hsl hwr hfl2
  refine runT_op (by rfl) (by rfl) (fun K hK => ?_)
  go_simp
  have hF5 := H.out.2.below hs
  have hC5 : (Kd.int .i64).C W.drew (some ⟨fb, 5 + b2, none⟩) xs.length xs := by have h9 := (hF5.argsC b2 ar HA.out.2.2.1).2; rw [HA.out.1]; exact h9
  have hcl := clone64_any (some ⟨fb, 5 + b2, none⟩) (8 - b2) xs W.drew hC5 (fun e => by cases e) (by have := HA.out.2.1; have := HA.out.2.2.1; omega)
  rw [HA.out.2.1] at hcl
  refine hcl.mono ?_
  rintro e w6 ⟨v, rfl, hR6, hb6⟩
  have hs6 := hs.trans (hb6.mono hs.size)
  obtain ⟨Aa, ca, rfl⟩ := Kd.R_slice hR6
  obtain ⟨_, hca, hCa⟩ := Kd.R_reads' hR6
  have hnew := R_new hR6
  refine hK _ _ hs6 ?_
  have HAA := Aside0.mk (And.intro hCa (And.intro hca (show xs = [] ∨ ∃ ad, Aa = some ad ∧ w.heap.size + 4 ≤ ad.block from hnew.imp id (fun ⟨ad, e1, e2⟩ => ⟨ad, e1, by have h1 := blk_lt HD.out.c3; have h2 := hs.size; omega⟩))))
  clear hK K hcl hC5 hF5 hR6 hb6 hCa hca hnew hmv hs
  (try simp only [Act.put, List.setIfInBounds_toArray, List.set_cons_zero, List.set_cons_succ])
  have hs := hs6
  repeat (
    (first
      | (refine runT_take (v := ?_) (by rfl) (by rfl) (fun w' hS => ?_) hs ?_
         rotate_left
         · (skip; go_simp; exact rfl))
      | refine runT_skip (by rfl) (by rfl) hs ?_)
    (try simp only [Act.put, List.setIfInBounds_toArray, List.set_cons_zero, List.set_cons_succ]))
  have HD := Aside0.mk (HD.out.below2 hs6)
  have H := Aside0.mk (And.intro H.out.1 (H.out.2.below hs6))
  have e6 := blk_cell HD.out.c2 6
  have z6 := blk_frozen HD.out.c2 6
  refine runT_fin (by rfl) (by rfl) (fun K hK => ?_)
  go_simp
  refine hK _ _ ?_
  clear hK K
  refine runT_done ?_
  obtain ⟨W1, hW1⟩ : ∃ W1, W1 = w6.setCell ⟨w.heap.size + 1 + 1, 6, none⟩ (.slice Aa xs.length ca) := ⟨_, rfl⟩
  rw [← hW1]
  obtain ⟨hD1, hk1⟩ := HD.out.set 6 (.slice Aa xs.length ca) (f' := f) (va' := .slice Aa xs.length ca) (vb' := .slice none 0 0) rfl
  rw [← hW1] at hD1 hk1
  have hCa1 : (Kd.int .i64).C W1 Aa xs.length xs := by
    obtain ⟨q1, q2, q3⟩ := HAA.out
    exact C_new q1 q3 hk1 (fun q hq hlt => by omega)
  have HD := Aside0.mk hD1
  have H := Aside0.mk (And.intro H.out.1 (H.out.2.keep hk1 (by have := H.out.1.lt; omega)))
  clear e6 z6 hD1 hk1 hW1 hs6 hs
  generalize W1 = W at HD H hCa1 ⊢
  go_upto_region 5 with (fail)
  have d3 := blk_cell HD.out.c0 3
  have t3 := H.out.2.fix.2.2.2.1
  have t4 := H.out.2.fix.2.2.2.2
  have HM := Aside0.mk (And.intro d3 (And.intro t3 t4))
  clear d3 t3 t4
  refine wp_region_seq2 (fun w' => Below W.heap.size W w') [14] [.take 0, .take 1, .take 2, .take 3, .take 4, .take 6, .take 7, .take 8, .take 9, .take 10, .pair 5 11, .op 12, .take 13, .fin 14] (by kernel_rfl) (by kernel_rfl) rfl (by kernel_rfl) (panic_via (P := Try.prog) (fn := Try.f64) (R := DoP fb (.slice Ap F.path.length cp) (⟨k, 0, r, f, h0, 0, xs, F.path ++ [F.kids]⟩, { F with kids := wrap64 (F.kids + 1) }) w) (fun _ _ _ => rfl)) ?_
  have hs : Below W.heap.size W W.drew := (Below.refl _ _).drew
  have hmv : ∀ {w' : World} {p : Addr} {v : Value}, Below W.heap.size W w' → W.cell? p = some v → w'.cell? p = some v := fun hS hq => (hS.cell (World.block_lt_of_cell? W _ hq)).trans hq
  repeat (
    (first
      | (refine runSeq2_take (v := ?_) (by rfl) (by rfl) (fun w' hS => ?_) hs ?_
         rotate_left
         · (have d3 := hmv hS HM.out.1; have t3 := hmv hS HM.out.2.1; have t4 := hmv hS HM.out.2.2; go_simp; exact rfl))
      | refine runSeq2_skip (by rfl) (by rfl) hs ?_)
    (try simp only [Act.put, List.setIfInBounds_toArray, List.set_cons_zero, List.set_cons_succ]))
  have hCp := fun {w' : World} (hb : Below W.heap.size W w') => Kd.C_below HP.out.1 (HD.out.below.trans (hb.mono HD.out.below.size))
  have hcl0 : Ap = none → cp = 0 ∧ F.path = [] := fun e => by have h1 := HP.out.2.2.1 e; have h2 := HP.out.2.1; exact ⟨h1, List.eq_nil_of_length_eq_zero (by omega)⟩
  refine runSeq2_pairM (di := 45) (dj := 51) (fun v u w' => (Kd.int .i64).R 3 w' W.heap.size (fun _ => True) v F.path ∧ ∃ bl, u = .slice (some ⟨bl, 0, none⟩) 1 1 ∧ w'.heap[bl]? = some (.cells #[.int .i64 F.kids] 3 (0, 0))) (by decide) ?_ ?_ ?_
  · refine wpOp_at (by rfl) (by rfl) (fun K hK => ?_)
    go_simp
    refine (clonei_any Ap cp F.path _ (hCp hs) hcl0 HP.out.2.2.2).mono ?_
    rintro e w1 ⟨v, rfl, hR, hb⟩
    have hs1 := hs.trans (hb.mono hs.size)
    refine hK _ _ ⟨v, rfl, hs1, ?_⟩
    clear hK K
    refine wpOp_at (by rfl) (by rfl) (fun K hK => ?_)
    go_simp
    exact hK _ _ ⟨_, rfl, hs1.alloc hs1.size _, Kd.R_lower (Kd.R_alloc hR _) hs.size, _, rfl, alloc_blk _ _⟩
  · refine wpOp_at (by rfl) (by rfl) (fun K hK => ?_)
    go_simp
    have hs1 := hs.alloc hs.size (.cells #[.int .i64 F.kids] 3)
    refine hK _ _ ⟨_, rfl, hs1, ?_⟩
    clear hK K
    refine wpOp_at (by rfl) (by rfl) (fun K hK => ?_)
    go_simp
    refine (clonei_any Ap cp F.path _ (hCp hs1) hcl0 HP.out.2.2.2).mono ?_
    rintro e w1 ⟨v, rfl, hR, hb⟩
    have ha := alloc_blk W.drew (.cells #[.int .i64 F.kids] 3)
    exact hK _ _ ⟨v, rfl, hs1.trans (hb.mono hs1.size), Kd.R_lower hR hs1.size, _, rfl, (hb.block _ (blk_lt ha)).trans ha⟩
  · rintro vv uu w3 hs3 ⟨hR3, bl, rfl, hbl⟩
    (try simp only [Act.put, List.setIfInBounds_toArray, List.set_cons_zero, List.set_cons_succ])
    refine runSeq2_op (by rfl) (by rfl) (fun K hK => ?_)
    refine wp_append_nums .i64 W.heap.size rfl (.tmp 45) (.tmp 51) 23 3 8 rfl Try.underlying23 info3 (by decide) vv F.path [F.kids] (some ⟨bl, 0, none⟩) 1 1 rfl rfl hR3 (reads_nums [F.kids] hbl (by simp)) hs3.size (by have := HP.out.2.2.2; omega) ?_
    intro v1 W3 hR4 hb4 hg4 hat4
    have hs4 := hs3.trans hb4
    refine hK _ _ hs4 ?_
    clear hK K hR3 hbl hs3 hb4 hg4 hat4 hs w3
    (try simp only [Act.put, List.setIfInBounds_toArray, List.set_cons_zero, List.set_cons_succ])
    obtain ⟨Ab, cb, rfl⟩ := Kd.R_slice hR4
    obtain ⟨_, hcb, hCb⟩ := Kd.R_reads' hR4
    have hnb := R_new hR4
    have HBB := Aside0.mk (And.intro (show F.path ++ [F.kids] = [] ∨ ∃ ad, Ab = some ad ∧ w.heap.size + 4 ≤ ad.block from hnb.imp id (fun ⟨ad, e1, e2⟩ => ⟨ad, e1, by have h1 := blk_lt HD.out.c3; omega⟩)) hcb)
    have hs := hs4
    refine runSeq2_take (v := ?_) (by rfl) (by rfl) (fun w' hS => ?_) hs ?_
    rotate_left
    · go_simp; exact rfl
    (try simp only [Act.put, List.setIfInBounds_toArray, List.set_cons_zero, List.set_cons_succ])
    have HD := Aside0.mk (HD.out.below2 hs4)
    have H := Aside0.mk (And.intro H.out.1 (H.out.2.below hs4))
    have hCa2 := Kd.C_below hCa1 hs4
    have e7 := blk_cell HD.out.c2 7
    have z7 := blk_frozen HD.out.c2 7
    clear hCa1 hR4 hs4 hs hcb hnb hCp hcl0 hmv
    refine runSeq2_fin (by rfl) (by rfl) (fun K hK => ?_)
    go_simp
    refine hK _ _ ?_
    clear hK K
    refine runSeq2_nil ?_
    obtain ⟨L, hL⟩ : ∃ L, L = (F.path ++ [F.kids]).length := ⟨_, rfl⟩
    have hL2 : F.path.length + 1 = L := by rw [hL]; simp
    (try rw [hL2])
    (try rw [← hL])
    obtain ⟨W4, hW4⟩ : ∃ W4, W4 = W3.setCell ⟨w.heap.size + 1 + 1, 7, none⟩ (.slice Ab L cb) := ⟨_, rfl⟩
    rw [← hW4]
    have HL := Aside0.mk hL
    clear hL hL2
    obtain ⟨hD1, hk1⟩ := HD.out.set 7 (.slice Ab L cb) (f' := f) (va' := .slice Aa xs.length ca) (vb' := .slice Ab L cb) rfl
    rw [← hW4] at hD1 hk1
    have hCa3 := C_new hCa2 HAA.out.2.2 hk1 (fun q hq hlt => by omega)
    have hCb3 := C_new hCb HBB.out.1 hk1 (fun q hq hlt => by omega)
    have HD := Aside0.mk hD1
    have H := Aside0.mk (And.intro H.out.1 (H.out.2.keep hk1 (by have := H.out.1.lt; omega)))
    clear e7 z7 hD1 hk1 hW4 hCa2 hCb
    generalize W4 = W at HD H hCa3 hCb3 ⊢
    have d3 := blk_cell HD.out.c0 3
    have t3 := H.out.2.fix.2.2.2.1
    have z3 := H.out.2.frozen 3
    have hwk : IntKind.i64.wrap (F.kids + 1) = wrap64 (F.kids + 1) := IntWalk.i64_left _
    go_upto_region 7 with (fail)
    obtain ⟨W5, hW5⟩ : ∃ W5, W5 = W.setCell ⟨fb, 3, none⟩ (.int .i64 (wrap64 (F.kids + 1))) := ⟨_, rfl⟩
    rw [← hW5]
    have hk5 : Keep (fun q => q = fb) W W5 := by rw [hW5]; exact (Keep.refl (fun q => q = fb) W).set (p := ⟨fb, 3, none⟩) (.inr rfl) _
    have hF5 := H.out.2.setKids (wrap64 (F.kids + 1))
    rw [← hW5] at hF5
    have hc2 := hk5.blk HD.out.c2 (by have := H.out.1.lt; omega)
    have hc3 := hk5.blk HD.out.c3 (by have := H.out.1.lt; omega)
    have hCa5 := C_new hCa3 HAA.out.2.2 hk5 (fun q hq hlt => by have := H.out.1.lt; omega)
    have hCb5 := C_new hCb3 HBB.out.1 hk5 (fun q hq hlt => by have := H.out.1.lt; omega)
    have HC2 := Aside0.mk hc3
    have H5 := Aside0.mk (And.intro hF5 (And.intro hk5 (And.intro hCa5 hCb5)))
    have y0 := blk_cell hc2 0
    have y1 := blk_cell hc2 1
    have y2 := blk_cell hc2 2
    have y3 := blk_cell hc2 3
    have y4 := blk_cell hc2 4
    have y5 := blk_cell hc2 5
    have y6 := blk_cell hc2 6
    have y7 := blk_cell hc2 7
    have q0 := blk_cell hc3 0
    have q1 := blk_cell hc3 1
    have q2 := blk_cell hc3 2
    have q3 := blk_cell hc3 3
    have q4 := blk_cell hc3 4
    have q5 := blk_cell hc3 5
    have q6 := blk_cell hc3 6
    have q7 := blk_cell hc3 7
    have f0 := blk_frozen hc3 0
    have f1 := blk_frozen hc3 1
    have f2 := blk_frozen hc3 2
    have f3 := blk_frozen hc3 3
    have f4 := blk_frozen hc3 4
    have f5 := blk_frozen hc3 5
    have f6 := blk_frozen hc3 6
    have f7 := blk_frozen hc3 7
    clear d3 t3 z3 hwk hW5 hk5 hF5 hc2 hc3 hCa5 hCb5 hCa3 hCb3
    go_wp2_with fail
    obtain ⟨hs1, hs2⟩ := storeE_at HC2.out ⟨k, 0, r, f, h0, 0, xs, F.path ++ [F.kids]⟩ Aa ca Ab cb
    have hL := HL.out
    subst hL
    refine ⟨rfl, _, eff_results (e := ⟨k, 0, r, f, h0, 0, xs, F.path ++ [F.kids]⟩) (Aa := Aa) (ca := ca) (Ab := Ab) (cb := cb) rfl rfl hs1, Aa, ca, Ab, cb, rfl, ?_, H5.out.1.keep hs2 (by have := H.out.1.lt; omega), ?_⟩
    · exact ⟨C_new H5.out.2.2.1 HAA.out.2.2 hs2 (fun q hq hlt => by omega), HAA.out.2.1, C_new H5.out.2.2.2 HBB.out.1 hs2 (fun q hq hlt => by omega), HBB.out.2, HAA.out.2.2.imp id (fun ⟨ad, e1, e2⟩ => ⟨ad, e1, by omega⟩), HBB.out.1.imp id (fun ⟨ad, e1, e2⟩ => ⟨ad, e1, by omega⟩)⟩
    · exact ((Keep.of_below HD.out.below (fun q => q = fb)).trans H5.out.2.1).then hs2 (fun q hq e => by omega)
theorem dbegin_any {l : List S68} (hl : POk l) (hC : k68.C w A l.length l) (hP : (Kd.int .i64).C w Ap F.path.length F.path) (hpc : F.path.length ≤ cp) (hpn : Ap = none → cp = 0) (h : FB fb F (.slice Ap F.path.length cp) w) (x : S65) (k r h0 : Int) (hd30 : d ≤ 30) (hb : 0 ≤ x.f2 ∧ x.f2 < 8) (hcf : 0 ≤ x.f3 ∧ x.f3 < l.length ∧ (rd_T68 l x.f3).f0 ≤ 8 - x.f2) :
    Calls Try.prog 64 #[dV A l.length c b d fb, xvF x, eV k r h0] w (DoP fb (.slice Ap F.path.length cp) (beginF l d x F k r h0) w) := by
  unfold beginF
  by_cases hd : d ≤ (F.path.length : Int)
  · rw [if_pos hd]; exact dbegin_no h x k r h0 hd
  · rw [if_neg hd]; exact dbegin_yes hl hC hP hpc hpn h x k r h0 hd hd30 hb hcf
set_option maxRecDepth 100000 in
set_option maxHeartbeats 8000000 in
theorem dspawn_any {l : List S68} (hl : POk l) (hC : k68.C w A l.length l) (hP : (Kd.int .i64).C w Ap F.path.length F.path) (hpc : F.path.length ≤ cp) (hpn : Ap = none → cp = 0) (h : FB fb F (.slice Ap F.path.length cp) w) (x : S65) (hd30 : d ≤ 30) (hb : 0 ≤ x.f2 ∧ x.f2 < 8) (hcf : 0 ≤ x.f3 ∧ x.f3 < l.length ∧ (rd_T68 l x.f3).f0 ≤ 8 - x.f2) :
    Calls Try.prog 45 #[dV A l.length c b d fb, xvF x] w (DoP fb (.slice Ap F.path.length cp) (beginF l d x F 3 x.f1 0) w) := by
  obtain ⟨n, hn⟩ : ∃ n, n = l.length := ⟨_, rfl⟩
  rw [← hn]
  have hbeg := fun {W : World} (hb1 : Below w.heap.size w W) => dbegin_any (A := A) (c := c) (b := b) (d := d) (fb := fb) hl (Kd.C_below hC hb1) (Kd.C_below hP hb1) hpc hpn (h.below hb1) x 3 x.f1 0 hd30 hb hcf
  rw [← hn] at hbeg
  clear hC hP hpc hpn hl hd30 hb hcf hn
  obtain ⟨x0, x1, x2, x3, x4⟩ := x
  obtain ⟨W, hW⟩ : ∃ W, W = (((w.alloc (.cells #[.slice A n c, .int .i64 b, .int .i64 d, .pointer (some ⟨fb, 0, none⟩)] 115)).alloc (.cells #[.int .i64 x0, .int .i64 x1, .int .i64 x2, .int .i64 x3, .int .i64 x4] 65)).alloc (.cells #[.int .i64 0, .int .i64 0, .int .i64 0, .int .i64 0, .int .i64 0, .int .i64 0, .slice none 0 0, .slice none 0 0] 36)) := ⟨_, rfl⟩
  have hD : DW w A n c b d fb ⟨x0, x1, x2, x3, x4⟩ W := by rw [hW]; exact DW.start w A n c b d fb ⟨x0, x1, x2, x3, x4⟩
  have HD := Aside0.mk hD
  have HW := Aside0.mk hW
  have H := Aside0.mk (And.intro h (h.below hD.below))
  clear hW hD h
  have HB := Aside0.mk (hbeg HD.out.below)
  clear hbeg
  unfold dV xvF
  have hu := Try.underlying36
  go_enter Try.func45, Try.ntmps45
  go_upto_region 1 with (fail)
  rw [← HW.out]
  have d0 := blk_cell HD.out.c0 0
  have d1 := blk_cell HD.out.c0 1
  have d2 := blk_cell HD.out.c0 2
  have d3 := blk_cell HD.out.c0 3
  have c0 := blk_cell HD.out.c1 0
  have c1 := blk_cell HD.out.c1 1
  have c2 := blk_cell HD.out.c1 2
  have c3 := blk_cell HD.out.c1 3
  have c4 := blk_cell HD.out.c1 4
  go_wp2_with fail
  refine HB.out.mono ?_
  clear d0 d1 d2 d3 c0 c1 c2 c3 c4 HB
  show ∀ e w', DoP fb (.slice Ap F.path.length cp) (beginF l d ⟨x0, x1, x2, x3, x4⟩ F 3 x1 0) W e w' → _
  obtain ⟨q, hq⟩ : ∃ q, q = beginF l d ⟨x0, x1, x2, x3, x4⟩ F 3 x1 0 := ⟨_, rfl⟩
  show ∀ e w', DoP fb (.slice Ap F.path.length cp) (beginF l d ⟨x0, x1, x2, x3, x4⟩ F 3 x1 0) W e w' → _
  rw [← hq]
  have HQ := Aside0.mk hq
  clear hq
  rintro e w2 ⟨Aa, ca, Ab, cb, rfl, hE, hF, hk⟩
  have hc2 := hk.blk HD.out.c2 (by have := H.out.1.lt; omega)
  have HC2 := Aside0.mk hc2
  have H2 := Aside0.mk (And.intro hF (And.intro hk hE))
  have q0 := blk_cell hc2 0
  have q1 := blk_cell hc2 1
  have q2 := blk_cell hc2 2
  have q3 := blk_cell hc2 3
  have q4 := blk_cell hc2 4
  have q5 := blk_cell hc2 5
  have q6 := blk_cell hc2 6
  have q7 := blk_cell hc2 7
  have f0 := blk_frozen hc2 0
  have f1 := blk_frozen hc2 1
  have f2 := blk_frozen hc2 2
  have f3 := blk_frozen hc2 3
  have f4 := blk_frozen hc2 4
  have f5 := blk_frozen hc2 5
  have f6 := blk_frozen hc2 6
  have f7 := blk_frozen hc2 7
  clear hF hk hE hc2
  unfold efV
  go_wp2_with fail
  obtain ⟨hs1, hs2⟩ := storeE_at HC2.out q.1 Aa ca Ab cb
  show bodyPost _ _ (DoP fb (.slice Ap F.path.length cp) (beginF l d ⟨x0, x1, x2, x3, x4⟩ F 3 x1 0) w) _ _ _
  rw [← HQ.out]
  have hlt := blk_lt HD.out.c2
  refine ⟨rfl, _, eff_results (e := q.1) (Aa := Aa) (ca := ca) (Ab := Ab) (cb := cb) rfl rfl hs1, Aa, ca, Ab, cb, rfl, ?_, H2.out.1.keep hs2 (by have := H.out.1.lt; omega), ?_⟩
  · have h9 := H2.out.2.2.keep hs2 (fun q hq hl e => by omega)
    exact ⟨h9.args, h9.argsC, h9.path, h9.pathC, h9.newA.imp id (fun ⟨ad, e1, e2⟩ => ⟨ad, e1, by have := HD.out.below.size; omega⟩), h9.newP.imp id (fun ⟨ad, e1, e2⟩ => ⟨ad, e1, by have := HD.out.below.size; omega⟩)⟩
  · exact ((Keep.of_below HD.out.below (fun q => q = fb)).trans H2.out.2.1).then hs2 (fun q hq e => by omega)
set_option maxRecDepth 100000 in
set_option maxHeartbeats 8000000 in
theorem dfuture_any {l : List S68} (hl : POk l) (hC : k68.C w A l.length l) (hP : (Kd.int .i64).C w Ap F.path.length F.path) (hpc : F.path.length ≤ cp) (hpn : Ap = none → cp = 0) (h : FB fb F (.slice Ap F.path.length cp) w) (x : S65) (hd30 : d ≤ 30) (hb : 0 ≤ x.f2 ∧ x.f2 < 8) (hcf : 0 ≤ x.f3 ∧ x.f3 < l.length ∧ (rd_T68 l x.f3).f0 ≤ 8 - x.f2) :
    Calls Try.prog 47 #[dV A l.length c b d fb, xvF x] w (DoP fb (.slice Ap F.path.length cp) (beginF l d x F 4 0 x.f1) w) := by
  obtain ⟨n, hn⟩ : ∃ n, n = l.length := ⟨_, rfl⟩
  rw [← hn]
  have hbeg := fun {W : World} (hb1 : Below w.heap.size w W) => dbegin_any (A := A) (c := c) (b := b) (d := d) (fb := fb) hl (Kd.C_below hC hb1) (Kd.C_below hP hb1) hpc hpn (h.below hb1) x 4 0 x.f1 hd30 hb hcf
  rw [← hn] at hbeg
  clear hC hP hpc hpn hl hd30 hb hcf hn
  obtain ⟨x0, x1, x2, x3, x4⟩ := x
  obtain ⟨W, hW⟩ : ∃ W, W = (((w.alloc (.cells #[.slice A n c, .int .i64 b, .int .i64 d, .pointer (some ⟨fb, 0, none⟩)] 115)).alloc (.cells #[.int .i64 x0, .int .i64 x1, .int .i64 x2, .int .i64 x3, .int .i64 x4] 65)).alloc (.cells #[.int .i64 0, .int .i64 0, .int .i64 0, .int .i64 0, .int .i64 0, .int .i64 0, .slice none 0 0, .slice none 0 0] 36)) := ⟨_, rfl⟩
  have hD : DW w A n c b d fb ⟨x0, x1, x2, x3, x4⟩ W := by rw [hW]; exact DW.start w A n c b d fb ⟨x0, x1, x2, x3, x4⟩
  have HD := Aside0.mk hD
  have HW := Aside0.mk hW
  have H := Aside0.mk (And.intro h (h.below hD.below))
  clear hW hD h
  have HB := Aside0.mk (hbeg HD.out.below)
  clear hbeg
  unfold dV xvF
  have hu := Try.underlying36
  go_enter Try.func47, Try.ntmps47
  go_upto_region 1 with (fail)
  rw [← HW.out]
  have d0 := blk_cell HD.out.c0 0
  have d1 := blk_cell HD.out.c0 1
  have d2 := blk_cell HD.out.c0 2
  have d3 := blk_cell HD.out.c0 3
  have c0 := blk_cell HD.out.c1 0
  have c1 := blk_cell HD.out.c1 1
  have c2 := blk_cell HD.out.c1 2
  have c3 := blk_cell HD.out.c1 3
  have c4 := blk_cell HD.out.c1 4
  go_wp2_with fail
  refine HB.out.mono ?_
  clear d0 d1 d2 d3 c0 c1 c2 c3 c4 HB
  show ∀ e w', DoP fb (.slice Ap F.path.length cp) (beginF l d ⟨x0, x1, x2, x3, x4⟩ F 4 0 x1) W e w' → _
  obtain ⟨q, hq⟩ : ∃ q, q = beginF l d ⟨x0, x1, x2, x3, x4⟩ F 4 0 x1 := ⟨_, rfl⟩
  show ∀ e w', DoP fb (.slice Ap F.path.length cp) (beginF l d ⟨x0, x1, x2, x3, x4⟩ F 4 0 x1) W e w' → _
  rw [← hq]
  have HQ := Aside0.mk hq
  clear hq
  rintro e w2 ⟨Aa, ca, Ab, cb, rfl, hE, hF, hk⟩
  have hc2 := hk.blk HD.out.c2 (by have := H.out.1.lt; omega)
  have HC2 := Aside0.mk hc2
  have H2 := Aside0.mk (And.intro hF (And.intro hk hE))
  have q0 := blk_cell hc2 0
  have q1 := blk_cell hc2 1
  have q2 := blk_cell hc2 2
  have q3 := blk_cell hc2 3
  have q4 := blk_cell hc2 4
  have q5 := blk_cell hc2 5
  have q6 := blk_cell hc2 6
  have q7 := blk_cell hc2 7
  have f0 := blk_frozen hc2 0
  have f1 := blk_frozen hc2 1
  have f2 := blk_frozen hc2 2
  have f3 := blk_frozen hc2 3
  have f4 := blk_frozen hc2 4
  have f5 := blk_frozen hc2 5
  have f6 := blk_frozen hc2 6
  have f7 := blk_frozen hc2 7
  clear hF hk hE hc2
  unfold efV
  go_wp2_with fail
  obtain ⟨hs1, hs2⟩ := storeE_at HC2.out q.1 Aa ca Ab cb
  show bodyPost _ _ (DoP fb (.slice Ap F.path.length cp) (beginF l d ⟨x0, x1, x2, x3, x4⟩ F 4 0 x1) w) _ _ _
  rw [← HQ.out]
  have hlt := blk_lt HD.out.c2
  refine ⟨rfl, _, eff_results (e := q.1) (Aa := Aa) (ca := ca) (Ab := Ab) (cb := cb) rfl rfl hs1, Aa, ca, Ab, cb, rfl, ?_, H2.out.1.keep hs2 (by have := H.out.1.lt; omega), ?_⟩
  · have h9 := H2.out.2.2.keep hs2 (fun q hq hl e => by omega)
    exact ⟨h9.args, h9.argsC, h9.path, h9.pathC, h9.newA.imp id (fun ⟨ad, e1, e2⟩ => ⟨ad, e1, by have := HD.out.below.size; omega⟩), h9.newP.imp id (fun ⟨ad, e1, e2⟩ => ⟨ad, e1, by have := HD.out.below.size; omega⟩)⟩
  · exact ((Keep.of_below HD.out.below (fun q => q = fb)).trans H2.out.2.1).then hs2 (fun q hq e => by omega)
end
end Go.Proofs.Ytcciejcpijlkfaa.H

set_option linter.unusedVariables false
set_option linter.unusedSimpArgs false
namespace Go.Proofs.Ytcciejcpijlkfaa.H
open Go.RowKit Go.Hay Go.Proofs.YtcciejcpijlkfaaW.PrintWords Go.Proofs.YtcciejcpijlkfaaW.PrintLast Go.Proofs.YtcciejcpijlkfaaW.PrintMore
theorem wrap_i64F (x : Int) : IntKind.i64.wrap x = wrap64 x := IntWalk.i64_left x
section
variable {A : Option Addr} {n c : Nat} {b d : Int} {fb : Nat} {vp : Value} {F : Fr} {w : World}
set_option maxRecDepth 100000 in
set_option maxHeartbeats 8000000 in
theorem dreckon_add (h : FB fb F vp w) (x : S65) (hop : x.f0 = 3) (ha : 0 ≤ x.f1 ∧ x.f1 < 8) (hb : 0 ≤ x.f2 ∧ x.f2 < 8) (hc : 0 ≤ x.f3 ∧ x.f3 < 8) : Calls Try.prog 42 #[dV A n c b d fb, xvF x] w (DoP fb vp (efGoes, fSet F x.f1 (wrap64 ((fR F x.f2) + (fR F x.f3)))) w) := by
  obtain ⟨x0, x1, x2, x3, x4⟩ := x
  obtain ⟨W, hW⟩ : ∃ W, W = (((w.alloc (.cells #[.slice A n c, .int .i64 b, .int .i64 d, .pointer (some ⟨fb, 0, none⟩)] 115)).alloc (.cells #[.int .i64 x0, .int .i64 x1, .int .i64 x2, .int .i64 x3, .int .i64 x4] 65)).alloc (.cells #[.int .i64 0, .int .i64 0, .int .i64 0, .int .i64 0, .int .i64 0, .int .i64 0, .slice none 0 0, .slice none 0 0] 36)) := ⟨_, rfl⟩
  have hD : DW w A n c b d fb ⟨x0, x1, x2, x3, x4⟩ W := by rw [hW]; exact DW.start w A n c b d fb ⟨x0, x1, x2, x3, x4⟩
  have HD := Aside0.mk hD
  have HW := Aside0.mk hW
  have H := Aside0.mk (And.intro h (h.below hD.below))
  clear hW hD h
  unfold dV xvF
  obtain rfl : x0 = 3 := hop
  have ha : 0 ≤ x1 ∧ x1 < 8 := ha
  obtain ⟨a, rfl⟩ : ∃ a : Nat, x1 = a := ⟨x1.toNat, by omega⟩
  have h8a : ((a : Int) < 8) = True := eq_true ha.2
  have HA := Aside0.mk (show a < 8 by omega)
  clear ha
  have hb : 0 ≤ x2 ∧ x2 < 8 := hb
  obtain ⟨b2, rfl⟩ : ∃ b2 : Nat, x2 = b2 := ⟨x2.toNat, by omega⟩
  have h8b2 : ((b2 : Int) < 8) = True := eq_true hb.2
  have HB2 := Aside0.mk (show b2 < 8 by omega)
  clear hb
  have hc : 0 ≤ x3 ∧ x3 < 8 := hc
  obtain ⟨c2, rfl⟩ : ∃ c2 : Nat, x3 = c2 := ⟨x3.toNat, by omega⟩
  have h8c2 : ((c2 : Int) < 8) = True := eq_true hc.2
  have HC2 := Aside0.mk (show c2 < 8 by omega)
  clear hc
  have r2 := H.out.2.reg b2 HB2.out
  have r3 := H.out.2.reg c2 HC2.out
  have e2 : fR F (b2 : Int) = F.regs.getD b2 0 := rfl
  have e3 : fR F (c2 : Int) = F.regs.getD c2 0 := rfl
  obtain ⟨y, hy⟩ : ∃ y, F.regs.getD b2 0 = y := ⟨_, rfl⟩
  obtain ⟨u, hu⟩ : ∃ u, F.regs.getD c2 0 = u := ⟨_, rfl⟩
  rw [hy] at e2 r2
  rw [hu] at e3 r3
  show Calls _ _ _ _ (DoP fb vp (efGoes, fSet F (a : Int) (wrap64 ((fR F (b2 : Int)) + (fR F (c2 : Int))))) w)
  rw [e2, e3]
  clear e2 e3 hy hu
  have hwv : IntKind.i64.wrap (y + u) = wrap64 (y + u) := wrap_i64F _
  go_enter Try.func42, Try.ntmps42
  go_upto_region 1 with (fail)
  rw [← HW.out]
  refine wp_region_T (fun w' => Drawn0 W w') [] (.takes [0, 1, 2, 3, 4, 5, 6, 7, 8, 9, 10, 11, 12, 13, 14, 15] (.op 16 (.op 17 .done))) (by kernel_rfl) (by kernel_rfl) (by kernel_rfl) (by kernel_rfl) (panic_via (P := Try.prog) (fn := Try.f42) (R := DoP fb vp (efGoes, fSet F a (wrap64 (y + u))) w) (fun _ _ _ => rfl)) ?_
  have hs : Drawn0 W W.drew := (Drawn0.refl W).step 1
  simp only [Turns.takes]
  repeat (
    (first
      | (refine runT_take (v := ?_) (by rfl) (by rfl) (fun w' hS => ?_) hs ?_
         rotate_left
         · (obtain ⟨n, rfl⟩ := hS; have d3 := blk_cell HD.out.c0 3; have c1 := blk_cell HD.out.c1 1; have c2 := blk_cell HD.out.c1 2; have c3 := blk_cell HD.out.c1 3; go_simp; exact rfl))
      | refine runT_skip (by rfl) (by rfl) hs ?_)
    (try simp only [Act.put, List.setIfInBounds_toArray, List.set_cons_zero, List.set_cons_succ]))
  refine runT_op (by rfl) (by rfl) (fun K hK => ?_)
  go_simp
  refine hK _ _ hs ?_
  clear hK K
  (try simp only [Act.put, List.setIfInBounds_toArray, List.set_cons_zero, List.set_cons_succ])
  refine runT_op (by rfl) (by rfl) (fun K hK => ?_)
  go_simp
  refine hK _ _ hs ?_
  clear hK K hs
  (try simp only [Act.put, List.setIfInBounds_toArray, List.set_cons_zero, List.set_cons_succ])
  refine runT_done ?_
  have hbW : Below W.heap.size W W.drew := (Below.refl _ _).drew
  have HD := Aside0.mk (HD.out.below2 hbW)
  have H := Aside0.mk (And.intro H.out.1 (H.out.2.below hbW))
  clear HW hbW r2 r3
  generalize W.drew = W at HD H ⊢
  have c0 := blk_cell HD.out.c1 0
  go_upto_region 17 with (fail)
  clear c0
  refine wp_region_T (fun w' => Drawn0 W w') [8] (.takes [0, 1, 2, 3, 4, 5, 6, 7] (.fin 8 .done)) (by kernel_rfl) (by kernel_rfl) (by kernel_rfl) (by kernel_rfl) (panic_via (P := Try.prog) (fn := Try.f42) (R := DoP fb vp (efGoes, fSet F a (wrap64 (y + u))) w) (fun _ _ _ => rfl)) ?_
  have hs : Drawn0 W W.drew := (Drawn0.refl W).step 1
  simp only [Turns.takes]
  repeat (
    (first
      | (refine runT_take (v := ?_) (by rfl) (by rfl) (fun w' hS => ?_) hs ?_
         rotate_left
         · (obtain ⟨n, rfl⟩ := hS; have d0 := blk_cell HD.out.c0 0; have d1 := blk_cell HD.out.c0 1; have d2 := blk_cell HD.out.c0 2; have d3 := blk_cell HD.out.c0 3; have c0 := blk_cell HD.out.c1 0; have c1 := blk_cell HD.out.c1 1; have c2 := blk_cell HD.out.c1 2; have c3 := blk_cell HD.out.c1 3; have c4 := blk_cell HD.out.c1 4; go_simp; exact rfl))
      | refine runT_skip (by rfl) (by rfl) hs ?_)
    (try simp only [Act.put, List.setIfInBounds_toArray, List.set_cons_zero, List.set_cons_succ]))
  clear hs
  obtain ⟨wd, hwd⟩ : ∃ wd, wd = W.drew := ⟨_, rfl⟩
  rw [← hwd]
  have Hbd := Aside0.mk (show Below W.heap.size W wd by rw [hwd]; exact (Below.refl _ _).drew)
  clear hwd
  have hF := H.out.2.below (Hbd.out)
  have r := hF.reg a HA.out
  have z := hF.frozen (5 + a)
  refine runT_fin (by rfl) (by rfl) (fun K hK => ?_)
  go_simp
  refine hK _ _ ?_
  clear hK K
  refine runT_done ?_
  obtain ⟨W1, hW1⟩ : ∃ W1, W1 = wd.setCell ⟨fb, 5 + a, none⟩ (.int .i64 (wrap64 (y + u))) := ⟨_, rfl⟩
  rw [← hW1]
  have hF1 := hF.setReg a HA.out (wrap64 (y + u))
  rw [← hW1] at hF1
  have hk1 : Keep (fun q => q = fb) wd W1 := by rw [hW1]; exact (Keep.refl (fun q => q = fb) wd).set (p := ⟨fb, 5 + a, none⟩) (.inr rfl) _
  have H1 := Aside0.mk (And.intro hF1 hk1)
  clear hF r z hF1 hk1 hW1
  go_upto_region 18 with (fail)
  go_wp2_with fail
  refine (goes_any _).mono ?_
  rintro e w2 ⟨rfl, hb2⟩
  have hk2 : Keep (fun q => q = fb) wd w2 := H1.out.2.then (Keep.of_below hb2 (fun _ => False)) (fun _ _ h => h.elim)
  have hF2 := H1.out.1.below hb2
  have hc2 : w2.heap[w.heap.size + 1 + 1]? = some zEff := hk2.blk ((Hbd.out.block _ (blk_lt HD.out.c2)).trans HD.out.c2) (by have := H.out.1.lt; omega)
  have HC2 := Aside0.mk hc2
  have H2 := Aside0.mk (And.intro hF2 hk2)
  have q0 := blk_cell hc2 0
  have q1 := blk_cell hc2 1
  have q2 := blk_cell hc2 2
  have q3 := blk_cell hc2 3
  have q4 := blk_cell hc2 4
  have q5 := blk_cell hc2 5
  have q6 := blk_cell hc2 6
  have q7 := blk_cell hc2 7
  have f0 := blk_frozen hc2 0
  have f1 := blk_frozen hc2 1
  have f2 := blk_frozen hc2 2
  have f3 := blk_frozen hc2 3
  have f4 := blk_frozen hc2 4
  have f5 := blk_frozen hc2 5
  have f6 := blk_frozen hc2 6
  have f7 := blk_frozen hc2 7
  clear hb2 hk2 hF2 hc2
  try unfold efV
  go_wp2_with fail
  obtain ⟨hs1, hs2⟩ := storeE_at HC2.out (efGoes) (none) (0) (none) (0)
  refine ⟨rfl, _, eff_results (e := efGoes) (Aa := none) (ca := 0) (Ab := none) (cb := 0) rfl rfl hs1, none, 0, none, 0, rfl, ?_, H2.out.1.keep hs2 (by have := H.out.1.lt; omega), ?_⟩
  · exact EfC.plain _ _ _ ⟨rfl, rfl⟩
  · exact ((Keep.of_below (HD.out.below.trans (Hbd.out.mono HD.out.below.size)) (fun q => q = fb)).trans H2.out.2).then hs2 (fun q hq e => by omega)
set_option maxRecDepth 100000 in
set_option maxHeartbeats 8000000 in
theorem dreckon_sub (h : FB fb F vp w) (x : S65) (hop : x.f0 = 4) (ha : 0 ≤ x.f1 ∧ x.f1 < 8) (hb : 0 ≤ x.f2 ∧ x.f2 < 8) (hc : 0 ≤ x.f3 ∧ x.f3 < 8) : Calls Try.prog 42 #[dV A n c b d fb, xvF x] w (DoP fb vp (efGoes, fSet F x.f1 (wrap64 ((fR F x.f2) - (fR F x.f3)))) w) := by
  obtain ⟨x0, x1, x2, x3, x4⟩ := x
  obtain ⟨W, hW⟩ : ∃ W, W = (((w.alloc (.cells #[.slice A n c, .int .i64 b, .int .i64 d, .pointer (some ⟨fb, 0, none⟩)] 115)).alloc (.cells #[.int .i64 x0, .int .i64 x1, .int .i64 x2, .int .i64 x3, .int .i64 x4] 65)).alloc (.cells #[.int .i64 0, .int .i64 0, .int .i64 0, .int .i64 0, .int .i64 0, .int .i64 0, .slice none 0 0, .slice none 0 0] 36)) := ⟨_, rfl⟩
  have hD : DW w A n c b d fb ⟨x0, x1, x2, x3, x4⟩ W := by rw [hW]; exact DW.start w A n c b d fb ⟨x0, x1, x2, x3, x4⟩
  have HD := Aside0.mk hD
  have HW := Aside0.mk hW
  have H := Aside0.mk (And.intro h (h.below hD.below))
  clear hW hD h
  unfold dV xvF
  obtain rfl : x0 = 4 := hop
  have ha : 0 ≤ x1 ∧ x1 < 8 := ha
  obtain ⟨a, rfl⟩ : ∃ a : Nat, x1 = a := ⟨x1.toNat, by omega⟩
  have h8a : ((a : Int) < 8) = True := eq_true ha.2
  have HA := Aside0.mk (show a < 8 by omega)
  clear ha
  have hb : 0 ≤ x2 ∧ x2 < 8 := hb
  obtain ⟨b2, rfl⟩ : ∃ b2 : Nat, x2 = b2 := ⟨x2.toNat, by omega⟩
  have h8b2 : ((b2 : Int) < 8) = True := eq_true hb.2
  have HB2 := Aside0.mk (show b2 < 8 by omega)
  clear hb
  have hc : 0 ≤ x3 ∧ x3 < 8 := hc
  obtain ⟨c2, rfl⟩ : ∃ c2 : Nat, x3 = c2 := ⟨x3.toNat, by omega⟩
  have h8c2 : ((c2 : Int) < 8) = True := eq_true hc.2
  have HC2 := Aside0.mk (show c2 < 8 by omega)
  clear hc
  have r2 := H.out.2.reg b2 HB2.out
  have r3 := H.out.2.reg c2 HC2.out
  have e2 : fR F (b2 : Int) = F.regs.getD b2 0 := rfl
  have e3 : fR F (c2 : Int) = F.regs.getD c2 0 := rfl
  obtain ⟨y, hy⟩ : ∃ y, F.regs.getD b2 0 = y := ⟨_, rfl⟩
  obtain ⟨u, hu⟩ : ∃ u, F.regs.getD c2 0 = u := ⟨_, rfl⟩
  rw [hy] at e2 r2
  rw [hu] at e3 r3
  show Calls _ _ _ _ (DoP fb vp (efGoes, fSet F (a : Int) (wrap64 ((fR F (b2 : Int)) - (fR F (c2 : Int))))) w)
  rw [e2, e3]
  clear e2 e3 hy hu
  have hwv : IntKind.i64.wrap (y - u) = wrap64 (y - u) := wrap_i64F _
  go_enter Try.func42, Try.ntmps42
  go_upto_region 1 with (fail)
  rw [← HW.out]
  refine wp_region_T (fun w' => Drawn0 W w') [] (.takes [0, 1, 2, 3, 4, 5, 6, 7, 8, 9, 10, 11, 12, 13, 14, 15] (.op 16 (.op 17 .done))) (by kernel_rfl) (by kernel_rfl) (by kernel_rfl) (by kernel_rfl) (panic_via (P := Try.prog) (fn := Try.f42) (R := DoP fb vp (efGoes, fSet F a (wrap64 (y - u))) w) (fun _ _ _ => rfl)) ?_
  have hs : Drawn0 W W.drew := (Drawn0.refl W).step 1
  simp only [Turns.takes]
  repeat (
    (first
      | (refine runT_take (v := ?_) (by rfl) (by rfl) (fun w' hS => ?_) hs ?_
         rotate_left
         · (obtain ⟨n, rfl⟩ := hS; have d3 := blk_cell HD.out.c0 3; have c1 := blk_cell HD.out.c1 1; have c2 := blk_cell HD.out.c1 2; have c3 := blk_cell HD.out.c1 3; go_simp; exact rfl))
      | refine runT_skip (by rfl) (by rfl) hs ?_)
    (try simp only [Act.put, List.setIfInBounds_toArray, List.set_cons_zero, List.set_cons_succ]))
  refine runT_op (by rfl) (by rfl) (fun K hK => ?_)
  go_simp
  refine hK _ _ hs ?_
  clear hK K
  (try simp only [Act.put, List.setIfInBounds_toArray, List.set_cons_zero, List.set_cons_succ])
  refine runT_op (by rfl) (by rfl) (fun K hK => ?_)
  go_simp
  refine hK _ _ hs ?_
  clear hK K hs
  (try simp only [Act.put, List.setIfInBounds_toArray, List.set_cons_zero, List.set_cons_succ])
  refine runT_done ?_
  have hbW : Below W.heap.size W W.drew := (Below.refl _ _).drew
  have HD := Aside0.mk (HD.out.below2 hbW)
  have H := Aside0.mk (And.intro H.out.1 (H.out.2.below hbW))
  clear HW hbW r2 r3
  generalize W.drew = W at HD H ⊢
  have c0 := blk_cell HD.out.c1 0
  go_upto_region 17 with (fail)
  clear c0
  refine wp_region_T (fun w' => Drawn0 W w') [8] (.takes [0, 1, 2, 3, 4, 5, 6, 7] (.fin 8 .done)) (by kernel_rfl) (by kernel_rfl) (by kernel_rfl) (by kernel_rfl) (panic_via (P := Try.prog) (fn := Try.f42) (R := DoP fb vp (efGoes, fSet F a (wrap64 (y - u))) w) (fun _ _ _ => rfl)) ?_
  have hs : Drawn0 W W.drew := (Drawn0.refl W).step 1
  simp only [Turns.takes]
  repeat (
    (first
      | (refine runT_take (v := ?_) (by rfl) (by rfl) (fun w' hS => ?_) hs ?_
         rotate_left
         · (obtain ⟨n, rfl⟩ := hS; have d0 := blk_cell HD.out.c0 0; have d1 := blk_cell HD.out.c0 1; have d2 := blk_cell HD.out.c0 2; have d3 := blk_cell HD.out.c0 3; have c0 := blk_cell HD.out.c1 0; have c1 := blk_cell HD.out.c1 1; have c2 := blk_cell HD.out.c1 2; have c3 := blk_cell HD.out.c1 3; have c4 := blk_cell HD.out.c1 4; go_simp; exact rfl))
      | refine runT_skip (by rfl) (by rfl) hs ?_)
    (try simp only [Act.put, List.setIfInBounds_toArray, List.set_cons_zero, List.set_cons_succ]))
  clear hs
  obtain ⟨wd, hwd⟩ : ∃ wd, wd = W.drew := ⟨_, rfl⟩
  rw [← hwd]
  have Hbd := Aside0.mk (show Below W.heap.size W wd by rw [hwd]; exact (Below.refl _ _).drew)
  clear hwd
  have hF := H.out.2.below (Hbd.out)
  have r := hF.reg a HA.out
  have z := hF.frozen (5 + a)
  refine runT_fin (by rfl) (by rfl) (fun K hK => ?_)
  go_simp
  refine hK _ _ ?_
  clear hK K
  refine runT_done ?_
  obtain ⟨W1, hW1⟩ : ∃ W1, W1 = wd.setCell ⟨fb, 5 + a, none⟩ (.int .i64 (wrap64 (y - u))) := ⟨_, rfl⟩
  rw [← hW1]
  have hF1 := hF.setReg a HA.out (wrap64 (y - u))
  rw [← hW1] at hF1
  have hk1 : Keep (fun q => q = fb) wd W1 := by rw [hW1]; exact (Keep.refl (fun q => q = fb) wd).set (p := ⟨fb, 5 + a, none⟩) (.inr rfl) _
  have H1 := Aside0.mk (And.intro hF1 hk1)
  clear hF r z hF1 hk1 hW1
  go_upto_region 18 with (fail)
  go_wp2_with fail
  refine (goes_any _).mono ?_
  rintro e w2 ⟨rfl, hb2⟩
  have hk2 : Keep (fun q => q = fb) wd w2 := H1.out.2.then (Keep.of_below hb2 (fun _ => False)) (fun _ _ h => h.elim)
  have hF2 := H1.out.1.below hb2
  have hc2 : w2.heap[w.heap.size + 1 + 1]? = some zEff := hk2.blk ((Hbd.out.block _ (blk_lt HD.out.c2)).trans HD.out.c2) (by have := H.out.1.lt; omega)
  have HC2 := Aside0.mk hc2
  have H2 := Aside0.mk (And.intro hF2 hk2)
  have q0 := blk_cell hc2 0
  have q1 := blk_cell hc2 1
  have q2 := blk_cell hc2 2
  have q3 := blk_cell hc2 3
  have q4 := blk_cell hc2 4
  have q5 := blk_cell hc2 5
  have q6 := blk_cell hc2 6
  have q7 := blk_cell hc2 7
  have f0 := blk_frozen hc2 0
  have f1 := blk_frozen hc2 1
  have f2 := blk_frozen hc2 2
  have f3 := blk_frozen hc2 3
  have f4 := blk_frozen hc2 4
  have f5 := blk_frozen hc2 5
  have f6 := blk_frozen hc2 6
  have f7 := blk_frozen hc2 7
  clear hb2 hk2 hF2 hc2
  try unfold efV
  go_wp2_with fail
  obtain ⟨hs1, hs2⟩ := storeE_at HC2.out (efGoes) (none) (0) (none) (0)
  refine ⟨rfl, _, eff_results (e := efGoes) (Aa := none) (ca := 0) (Ab := none) (cb := 0) rfl rfl hs1, none, 0, none, 0, rfl, ?_, H2.out.1.keep hs2 (by have := H.out.1.lt; omega), ?_⟩
  · exact EfC.plain _ _ _ ⟨rfl, rfl⟩
  · exact ((Keep.of_below (HD.out.below.trans (Hbd.out.mono HD.out.below.size)) (fun q => q = fb)).trans H2.out.2).then hs2 (fun q hq e => by omega)
set_option maxRecDepth 100000 in
set_option maxHeartbeats 8000000 in
theorem dreckon_mul (h : FB fb F vp w) (x : S65) (hop : x.f0 = 5) (ha : 0 ≤ x.f1 ∧ x.f1 < 8) (hb : 0 ≤ x.f2 ∧ x.f2 < 8) (hc : 0 ≤ x.f3 ∧ x.f3 < 8) : Calls Try.prog 42 #[dV A n c b d fb, xvF x] w (DoP fb vp (efGoes, fSet F x.f1 (wrap64 ((fR F x.f2) * (fR F x.f3)))) w) := by
  obtain ⟨x0, x1, x2, x3, x4⟩ := x
  obtain ⟨W, hW⟩ : ∃ W, W = (((w.alloc (.cells #[.slice A n c, .int .i64 b, .int .i64 d, .pointer (some ⟨fb, 0, none⟩)] 115)).alloc (.cells #[.int .i64 x0, .int .i64 x1, .int .i64 x2, .int .i64 x3, .int .i64 x4] 65)).alloc (.cells #[.int .i64 0, .int .i64 0, .int .i64 0, .int .i64 0, .int .i64 0, .int .i64 0, .slice none 0 0, .slice none 0 0] 36)) := ⟨_, rfl⟩
  have hD : DW w A n c b d fb ⟨x0, x1, x2, x3, x4⟩ W := by rw [hW]; exact DW.start w A n c b d fb ⟨x0, x1, x2, x3, x4⟩
  have HD := Aside0.mk hD
  have HW := Aside0.mk hW
  have H := Aside0.mk (And.intro h (h.below hD.below))
  clear hW hD h
  unfold dV xvF
  obtain rfl : x0 = 5 := hop
  have ha : 0 ≤ x1 ∧ x1 < 8 := ha
  obtain ⟨a, rfl⟩ : ∃ a : Nat, x1 = a := ⟨x1.toNat, by omega⟩
  have h8a : ((a : Int) < 8) = True := eq_true ha.2
  have HA := Aside0.mk (show a < 8 by omega)
  clear ha
  have hb : 0 ≤ x2 ∧ x2 < 8 := hb
  obtain ⟨b2, rfl⟩ : ∃ b2 : Nat, x2 = b2 := ⟨x2.toNat, by omega⟩
  have h8b2 : ((b2 : Int) < 8) = True := eq_true hb.2
  have HB2 := Aside0.mk (show b2 < 8 by omega)
  clear hb
  have hc : 0 ≤ x3 ∧ x3 < 8 := hc
  obtain ⟨c2, rfl⟩ : ∃ c2 : Nat, x3 = c2 := ⟨x3.toNat, by omega⟩
  have h8c2 : ((c2 : Int) < 8) = True := eq_true hc.2
  have HC2 := Aside0.mk (show c2 < 8 by omega)
  clear hc
  have r2 := H.out.2.reg b2 HB2.out
  have r3 := H.out.2.reg c2 HC2.out
  have e2 : fR F (b2 : Int) = F.regs.getD b2 0 := rfl
  have e3 : fR F (c2 : Int) = F.regs.getD c2 0 := rfl
  obtain ⟨y, hy⟩ : ∃ y, F.regs.getD b2 0 = y := ⟨_, rfl⟩
  obtain ⟨u, hu⟩ : ∃ u, F.regs.getD c2 0 = u := ⟨_, rfl⟩
  rw [hy] at e2 r2
  rw [hu] at e3 r3
  show Calls _ _ _ _ (DoP fb vp (efGoes, fSet F (a : Int) (wrap64 ((fR F (b2 : Int)) * (fR F (c2 : Int))))) w)
  rw [e2, e3]
  clear e2 e3 hy hu
  have hwv : IntKind.i64.wrap (y * u) = wrap64 (y * u) := wrap_i64F _
  go_enter Try.func42, Try.ntmps42
  go_upto_region 1 with (fail)
  rw [← HW.out]
  refine wp_region_T (fun w' => Drawn0 W w') [] (.takes [0, 1, 2, 3, 4, 5, 6, 7, 8, 9, 10, 11, 12, 13, 14, 15] (.op 16 (.op 17 .done))) (by kernel_rfl) (by kernel_rfl) (by kernel_rfl) (by kernel_rfl) (panic_via (P := Try.prog) (fn := Try.f42) (R := DoP fb vp (efGoes, fSet F a (wrap64 (y * u))) w) (fun _ _ _ => rfl)) ?_
  have hs : Drawn0 W W.drew := (Drawn0.refl W).step 1
  simp only [Turns.takes]
  repeat (
    (first
      | (refine runT_take (v := ?_) (by rfl) (by rfl) (fun w' hS => ?_) hs ?_
         rotate_left
         · (obtain ⟨n, rfl⟩ := hS; have d3 := blk_cell HD.out.c0 3; have c1 := blk_cell HD.out.c1 1; have c2 := blk_cell HD.out.c1 2; have c3 := blk_cell HD.out.c1 3; go_simp; exact rfl))
      | refine runT_skip (by rfl) (by rfl) hs ?_)
    (try simp only [Act.put, List.setIfInBounds_toArray, List.set_cons_zero, List.set_cons_succ]))
  refine runT_op (by rfl) (by rfl) (fun K hK => ?_)
  go_simp
  refine hK _ _ hs ?_
  clear hK K
  (try simp only [Act.put, List.setIfInBounds_toArray, List.set_cons_zero, List.set_cons_succ])
  refine runT_op (by rfl) (by rfl) (fun K hK => ?_)
  go_simp
  refine hK _ _ hs ?_
  clear hK K hs
  (try simp only [Act.put, List.setIfInBounds_toArray, List.set_cons_zero, List.set_cons_succ])
  refine runT_done ?_
  have hbW : Below W.heap.size W W.drew := (Below.refl _ _).drew
  have HD := Aside0.mk (HD.out.below2 hbW)
  have H := Aside0.mk (And.intro H.out.1 (H.out.2.below hbW))
  clear HW hbW r2 r3
  generalize W.drew = W at HD H ⊢
  have c0 := blk_cell HD.out.c1 0
  go_upto_region 17 with (fail)
  clear c0
  refine wp_region_T (fun w' => Drawn0 W w') [8] (.takes [0, 1, 2, 3, 4, 5, 6, 7] (.fin 8 .done)) (by kernel_rfl) (by kernel_rfl) (by kernel_rfl) (by kernel_rfl) (panic_via (P := Try.prog) (fn := Try.f42) (R := DoP fb vp (efGoes, fSet F a (wrap64 (y * u))) w) (fun _ _ _ => rfl)) ?_
  have hs : Drawn0 W W.drew := (Drawn0.refl W).step 1
  simp only [Turns.takes]
  repeat (
    (first
      | (refine runT_take (v := ?_) (by rfl) (by rfl) (fun w' hS => ?_) hs ?_
         rotate_left
         · (obtain ⟨n, rfl⟩ := hS; have d0 := blk_cell HD.out.c0 0; have d1 := blk_cell HD.out.c0 1; have d2 := blk_cell HD.out.c0 2; have d3 := blk_cell HD.out.c0 3; have c0 := blk_cell HD.out.c1 0; have c1 := blk_cell HD.out.c1 1; have c2 := blk_cell HD.out.c1 2; have c3 := blk_cell HD.out.c1 3; have c4 := blk_cell HD.out.c1 4; go_simp; exact rfl))
      | refine runT_skip (by rfl) (by rfl) hs ?_)
    (try simp only [Act.put, List.setIfInBounds_toArray, List.set_cons_zero, List.set_cons_succ]))
  clear hs
  obtain ⟨wd, hwd⟩ : ∃ wd, wd = W.drew := ⟨_, rfl⟩
  rw [← hwd]
  have Hbd := Aside0.mk (show Below W.heap.size W wd by rw [hwd]; exact (Below.refl _ _).drew)
  clear hwd
  have hF := H.out.2.below (Hbd.out)
  have r := hF.reg a HA.out
  have z := hF.frozen (5 + a)
  refine runT_fin (by rfl) (by rfl) (fun K hK => ?_)
  go_simp
  refine hK _ _ ?_
  clear hK K
  refine runT_done ?_
  obtain ⟨W1, hW1⟩ : ∃ W1, W1 = wd.setCell ⟨fb, 5 + a, none⟩ (.int .i64 (wrap64 (y * u))) := ⟨_, rfl⟩
  rw [← hW1]
  have hF1 := hF.setReg a HA.out (wrap64 (y * u))
  rw [← hW1] at hF1
  have hk1 : Keep (fun q => q = fb) wd W1 := by rw [hW1]; exact (Keep.refl (fun q => q = fb) wd).set (p := ⟨fb, 5 + a, none⟩) (.inr rfl) _
  have H1 := Aside0.mk (And.intro hF1 hk1)
  clear hF r z hF1 hk1 hW1
  go_upto_region 18 with (fail)
  go_wp2_with fail
  refine (goes_any _).mono ?_
  rintro e w2 ⟨rfl, hb2⟩
  have hk2 : Keep (fun q => q = fb) wd w2 := H1.out.2.then (Keep.of_below hb2 (fun _ => False)) (fun _ _ h => h.elim)
  have hF2 := H1.out.1.below hb2
  have hc2 : w2.heap[w.heap.size + 1 + 1]? = some zEff := hk2.blk ((Hbd.out.block _ (blk_lt HD.out.c2)).trans HD.out.c2) (by have := H.out.1.lt; omega)
  have HC2 := Aside0.mk hc2
  have H2 := Aside0.mk (And.intro hF2 hk2)
  have q0 := blk_cell hc2 0
  have q1 := blk_cell hc2 1
  have q2 := blk_cell hc2 2
  have q3 := blk_cell hc2 3
  have q4 := blk_cell hc2 4
  have q5 := blk_cell hc2 5
  have q6 := blk_cell hc2 6
  have q7 := blk_cell hc2 7
  have f0 := blk_frozen hc2 0
  have f1 := blk_frozen hc2 1
  have f2 := blk_frozen hc2 2
  have f3 := blk_frozen hc2 3
  have f4 := blk_frozen hc2 4
  have f5 := blk_frozen hc2 5
  have f6 := blk_frozen hc2 6
  have f7 := blk_frozen hc2 7
  clear hb2 hk2 hF2 hc2
  try unfold efV
  go_wp2_with fail
  obtain ⟨hs1, hs2⟩ := storeE_at HC2.out (efGoes) (none) (0) (none) (0)
  refine ⟨rfl, _, eff_results (e := efGoes) (Aa := none) (ca := 0) (Ab := none) (cb := 0) rfl rfl hs1, none, 0, none, 0, rfl, ?_, H2.out.1.keep hs2 (by have := H.out.1.lt; omega), ?_⟩
  · exact EfC.plain _ _ _ ⟨rfl, rfl⟩
  · exact ((Keep.of_below (HD.out.below.trans (Hbd.out.mono HD.out.below.size)) (fun q => q = fb)).trans H2.out.2).then hs2 (fun q hq e => by omega)
set_option maxRecDepth 100000 in
set_option maxHeartbeats 8000000 in
theorem dreckon_div (h : FB fb F vp w) (x : S65) (hop : x.f0 = 6) (ha : 0 ≤ x.f1 ∧ x.f1 < 8) (hb : 0 ≤ x.f2 ∧ x.f2 < 8) (hc : 0 ≤ x.f3 ∧ x.f3 < 8) (hn : fR F x.f3 ≠ 0) : Calls Try.prog 42 #[dV A n c b d fb, xvF x] w (DoP fb vp (efGoes, fSet F x.f1 (wrap64 ((fR F x.f2).tdiv (fR F x.f3)))) w) := by
  obtain ⟨x0, x1, x2, x3, x4⟩ := x
  obtain ⟨W, hW⟩ : ∃ W, W = (((w.alloc (.cells #[.slice A n c, .int .i64 b, .int .i64 d, .pointer (some ⟨fb, 0, none⟩)] 115)).alloc (.cells #[.int .i64 x0, .int .i64 x1, .int .i64 x2, .int .i64 x3, .int .i64 x4] 65)).alloc (.cells #[.int .i64 0, .int .i64 0, .int .i64 0, .int .i64 0, .int .i64 0, .int .i64 0, .slice none 0 0, .slice none 0 0] 36)) := ⟨_, rfl⟩
  have hD : DW w A n c b d fb ⟨x0, x1, x2, x3, x4⟩ W := by rw [hW]; exact DW.start w A n c b d fb ⟨x0, x1, x2, x3, x4⟩
  have HD := Aside0.mk hD
  have HW := Aside0.mk hW
  have H := Aside0.mk (And.intro h (h.below hD.below))
  clear hW hD h
  unfold dV xvF
  obtain rfl : x0 = 6 := hop
  have ha : 0 ≤ x1 ∧ x1 < 8 := ha
  obtain ⟨a, rfl⟩ : ∃ a : Nat, x1 = a := ⟨x1.toNat, by omega⟩
  have h8a : ((a : Int) < 8) = True := eq_true ha.2
  have HA := Aside0.mk (show a < 8 by omega)
  clear ha
  have hb : 0 ≤ x2 ∧ x2 < 8 := hb
  obtain ⟨b2, rfl⟩ : ∃ b2 : Nat, x2 = b2 := ⟨x2.toNat, by omega⟩
  have h8b2 : ((b2 : Int) < 8) = True := eq_true hb.2
  have HB2 := Aside0.mk (show b2 < 8 by omega)
  clear hb
  have hc : 0 ≤ x3 ∧ x3 < 8 := hc
  obtain ⟨c2, rfl⟩ : ∃ c2 : Nat, x3 = c2 := ⟨x3.toNat, by omega⟩
  have h8c2 : ((c2 : Int) < 8) = True := eq_true hc.2
  have HC2 := Aside0.mk (show c2 < 8 by omega)
  clear hc
  have r2 := H.out.2.reg b2 HB2.out
  have r3 := H.out.2.reg c2 HC2.out
  have e2 : fR F (b2 : Int) = F.regs.getD b2 0 := rfl
  have e3 : fR F (c2 : Int) = F.regs.getD c2 0 := rfl
  obtain ⟨y, hy⟩ : ∃ y, F.regs.getD b2 0 = y := ⟨_, rfl⟩
  obtain ⟨u, hu⟩ : ∃ u, F.regs.getD c2 0 = u := ⟨_, rfl⟩
  rw [hy] at e2 r2
  rw [hu] at e3 r3
  show Calls _ _ _ _ (DoP fb vp (efGoes, fSet F (a : Int) (wrap64 ((fR F (b2 : Int)).tdiv (fR F (c2 : Int))))) w)
  rw [e2, e3]
  have hn : fR F (c2 : Int) ≠ 0 := hn
  rw [e3] at hn
  have hn1 : (u == 0) = false := by simp [hn]
  have hn2 : (u = 0) = False := eq_false hn
  clear hn
  clear e2 e3 hy hu
  have hwv : IntKind.i64.wrap (y.tdiv u) = wrap64 (y.tdiv u) := wrap_i64F _
  go_enter Try.func42, Try.ntmps42
  go_upto_region 1 with (fail)
  rw [← HW.out]
  refine wp_region_T (fun w' => Drawn0 W w') [] (.takes [0, 1, 2, 3, 4, 5, 6, 7, 8, 9, 10, 11, 12, 13, 14, 15] (.op 16 (.op 17 .done))) (by kernel_rfl) (by kernel_rfl) (by kernel_rfl) (by kernel_rfl) (panic_via (P := Try.prog) (fn := Try.f42) (R := DoP fb vp (efGoes, fSet F a (wrap64 (y.tdiv u))) w) (fun _ _ _ => rfl)) ?_
  have hs : Drawn0 W W.drew := (Drawn0.refl W).step 1
  simp only [Turns.takes]
  repeat (
    (first
      | (refine runT_take (v := ?_) (by rfl) (by rfl) (fun w' hS => ?_) hs ?_
         rotate_left
         · (obtain ⟨n, rfl⟩ := hS; have d3 := blk_cell HD.out.c0 3; have c1 := blk_cell HD.out.c1 1; have c2 := blk_cell HD.out.c1 2; have c3 := blk_cell HD.out.c1 3; go_simp; exact rfl))
      | refine runT_skip (by rfl) (by rfl) hs ?_)
    (try simp only [Act.put, List.setIfInBounds_toArray, List.set_cons_zero, List.set_cons_succ]))
  refine runT_op (by rfl) (by rfl) (fun K hK => ?_)
  go_simp
  refine hK _ _ hs ?_
  clear hK K
  (try simp only [Act.put, List.setIfInBounds_toArray, List.set_cons_zero, List.set_cons_succ])
  refine runT_op (by rfl) (by rfl) (fun K hK => ?_)
  go_simp
  refine hK _ _ hs ?_
  clear hK K hs
  (try simp only [Act.put, List.setIfInBounds_toArray, List.set_cons_zero, List.set_cons_succ])
  refine runT_done ?_
  have hbW : Below W.heap.size W W.drew := (Below.refl _ _).drew
  have HD := Aside0.mk (HD.out.below2 hbW)
  have H := Aside0.mk (And.intro H.out.1 (H.out.2.below hbW))
  clear HW hbW r2 r3
  generalize W.drew = W at HD H ⊢
  have c0 := blk_cell HD.out.c1 0
  go_upto_region 17 with (fail)
  clear c0
  refine wp_region_T (fun w' => Drawn0 W w') [8] (.takes [0, 1, 2, 3, 4, 5, 6, 7] (.fin 8 .done)) (by kernel_rfl) (by kernel_rfl) (by kernel_rfl) (by kernel_rfl) (panic_via (P := Try.prog) (fn := Try.f42) (R := DoP fb vp (efGoes, fSet F a (wrap64 (y.tdiv u))) w) (fun _ _ _ => rfl)) ?_
  have hs : Drawn0 W W.drew := (Drawn0.refl W).step 1
  simp only [Turns.takes]
  repeat (
    (first
      | (refine runT_take (v := ?_) (by rfl) (by rfl) (fun w' hS => ?_) hs ?_
         rotate_left
         · (obtain ⟨n, rfl⟩ := hS; have d0 := blk_cell HD.out.c0 0; have d1 := blk_cell HD.out.c0 1; have d2 := blk_cell HD.out.c0 2; have d3 := blk_cell HD.out.c0 3; have c0 := blk_cell HD.out.c1 0; have c1 := blk_cell HD.out.c1 1; have c2 := blk_cell HD.out.c1 2; have c3 := blk_cell HD.out.c1 3; have c4 := blk_cell HD.out.c1 4; go_simp; exact rfl))
      | refine runT_skip (by rfl) (by rfl) hs ?_)
    (try simp only [Act.put, List.setIfInBounds_toArray, List.set_cons_zero, List.set_cons_succ]))
  clear hs
  obtain ⟨wd, hwd⟩ : ∃ wd, wd = W.drew := ⟨_, rfl⟩
  rw [← hwd]
  have Hbd := Aside0.mk (show Below W.heap.size W wd by rw [hwd]; exact (Below.refl _ _).drew)
  clear hwd
  have hF := H.out.2.below (Hbd.out)
  have r := hF.reg a HA.out
  have z := hF.frozen (5 + a)
  refine runT_fin (by rfl) (by rfl) (fun K hK => ?_)
  go_simp
  refine hK _ _ ?_
  clear hK K
  refine runT_done ?_
  obtain ⟨W1, hW1⟩ : ∃ W1, W1 = wd.setCell ⟨fb, 5 + a, none⟩ (.int .i64 (wrap64 (y.tdiv u))) := ⟨_, rfl⟩
  rw [← hW1]
  have hF1 := hF.setReg a HA.out (wrap64 (y.tdiv u))
  rw [← hW1] at hF1
  have hk1 : Keep (fun q => q = fb) wd W1 := by rw [hW1]; exact (Keep.refl (fun q => q = fb) wd).set (p := ⟨fb, 5 + a, none⟩) (.inr rfl) _
  have H1 := Aside0.mk (And.intro hF1 hk1)
  clear hF r z hF1 hk1 hW1
  go_upto_region 18 with (fail)
  go_wp2_with fail
  refine (goes_any _).mono ?_
  rintro e w2 ⟨rfl, hb2⟩
  have hk2 : Keep (fun q => q = fb) wd w2 := H1.out.2.then (Keep.of_below hb2 (fun _ => False)) (fun _ _ h => h.elim)
  have hF2 := H1.out.1.below hb2
  have hc2 : w2.heap[w.heap.size + 1 + 1]? = some zEff := hk2.blk ((Hbd.out.block _ (blk_lt HD.out.c2)).trans HD.out.c2) (by have := H.out.1.lt; omega)
  have HC2 := Aside0.mk hc2
  have H2 := Aside0.mk (And.intro hF2 hk2)
  have q0 := blk_cell hc2 0
  have q1 := blk_cell hc2 1
  have q2 := blk_cell hc2 2
  have q3 := blk_cell hc2 3
  have q4 := blk_cell hc2 4
  have q5 := blk_cell hc2 5
  have q6 := blk_cell hc2 6
  have q7 := blk_cell hc2 7
  have f0 := blk_frozen hc2 0
  have f1 := blk_frozen hc2 1
  have f2 := blk_frozen hc2 2
  have f3 := blk_frozen hc2 3
  have f4 := blk_frozen hc2 4
  have f5 := blk_frozen hc2 5
  have f6 := blk_frozen hc2 6
  have f7 := blk_frozen hc2 7
  clear hb2 hk2 hF2 hc2
  try unfold efV
  go_wp2_with fail
  obtain ⟨hs1, hs2⟩ := storeE_at HC2.out (efGoes) (none) (0) (none) (0)
  refine ⟨rfl, _, eff_results (e := efGoes) (Aa := none) (ca := 0) (Ab := none) (cb := 0) rfl rfl hs1, none, 0, none, 0, rfl, ?_, H2.out.1.keep hs2 (by have := H.out.1.lt; omega), ?_⟩
  · exact EfC.plain _ _ _ ⟨rfl, rfl⟩
  · exact ((Keep.of_below (HD.out.below.trans (Hbd.out.mono HD.out.below.size)) (fun q => q = fb)).trans H2.out.2).then hs2 (fun q hq e => by omega)
set_option maxRecDepth 100000 in
set_option maxHeartbeats 8000000 in
theorem dreckon_no (h : FB fb F vp w) (x : S65) (hop : x.f0 = 6) (ha : 0 ≤ x.f1 ∧ x.f1 < 8) (hb : 0 ≤ x.f2 ∧ x.f2 < 8) (hc : 0 ≤ x.f3 ∧ x.f3 < 8) (hn : fR F x.f3 = 0) : Calls Try.prog 42 #[dV A n c b d fb, xvF x] w (DoP fb vp (efFails 1, F) w) := by
  obtain ⟨x0, x1, x2, x3, x4⟩ := x
  obtain ⟨W, hW⟩ : ∃ W, W = (((w.alloc (.cells #[.slice A n c, .int .i64 b, .int .i64 d, .pointer (some ⟨fb, 0, none⟩)] 115)).alloc (.cells #[.int .i64 x0, .int .i64 x1, .int .i64 x2, .int .i64 x3, .int .i64 x4] 65)).alloc (.cells #[.int .i64 0, .int .i64 0, .int .i64 0, .int .i64 0, .int .i64 0, .int .i64 0, .slice none 0 0, .slice none 0 0] 36)) := ⟨_, rfl⟩
  have hD : DW w A n c b d fb ⟨x0, x1, x2, x3, x4⟩ W := by rw [hW]; exact DW.start w A n c b d fb ⟨x0, x1, x2, x3, x4⟩
  have HD := Aside0.mk hD
  have HW := Aside0.mk hW
  have H := Aside0.mk (And.intro h (h.below hD.below))
  clear hW hD h
  unfold dV xvF
  obtain rfl : x0 = 6 := hop
  have ha : 0 ≤ x1 ∧ x1 < 8 := ha
  obtain ⟨a, rfl⟩ : ∃ a : Nat, x1 = a := ⟨x1.toNat, by omega⟩
  have h8a : ((a : Int) < 8) = True := eq_true ha.2
  have HA := Aside0.mk (show a < 8 by omega)
  clear ha
  have hb : 0 ≤ x2 ∧ x2 < 8 := hb
  obtain ⟨b2, rfl⟩ : ∃ b2 : Nat, x2 = b2 := ⟨x2.toNat, by omega⟩
  have h8b2 : ((b2 : Int) < 8) = True := eq_true hb.2
  have HB2 := Aside0.mk (show b2 < 8 by omega)
  clear hb
  have hc : 0 ≤ x3 ∧ x3 < 8 := hc
  obtain ⟨c2, rfl⟩ : ∃ c2 : Nat, x3 = c2 := ⟨x3.toNat, by omega⟩
  have h8c2 : ((c2 : Int) < 8) = True := eq_true hc.2
  have HC2 := Aside0.mk (show c2 < 8 by omega)
  clear hc
  have r2 := H.out.2.reg b2 HB2.out
  have r3 := H.out.2.reg c2 HC2.out
  have e2 : fR F (b2 : Int) = F.regs.getD b2 0 := rfl
  have e3 : fR F (c2 : Int) = F.regs.getD c2 0 := rfl
  obtain ⟨y, hy⟩ : ∃ y, F.regs.getD b2 0 = y := ⟨_, rfl⟩
  obtain ⟨u, hu⟩ : ∃ u, F.regs.getD c2 0 = u := ⟨_, rfl⟩
  rw [hy] at e2 r2
  rw [hu] at e3 r3
  show Calls _ _ _ _ (DoP fb vp (efFails 1, F) w)
  have hn : fR F (c2 : Int) = 0 := hn
  rw [e3] at hn
  have hn1 : (u == 0) = true := by simp [hn]
  clear hn
  clear e2 e3 hy hu
  go_enter Try.func42, Try.ntmps42
  go_upto_region 1 with (fail)
  rw [← HW.out]
  refine wp_region_T (fun w' => Drawn0 W w') [] (.takes [0, 1, 2, 3, 4, 5, 6, 7, 8, 9, 10, 11, 12, 13, 14, 15] (.op 16 (.op 17 .done))) (by kernel_rfl) (by kernel_rfl) (by kernel_rfl) (by kernel_rfl) (panic_via (P := Try.prog) (fn := Try.f42) (R := DoP fb vp (efFails 1, F) w) (fun _ _ _ => rfl)) ?_
  have hs : Drawn0 W W.drew := (Drawn0.refl W).step 1
  simp only [Turns.takes]
  repeat (
    (first
      | (refine runT_take (v := ?_) (by rfl) (by rfl) (fun w' hS => ?_) hs ?_
         rotate_left
         · (obtain ⟨n, rfl⟩ := hS; have d3 := blk_cell HD.out.c0 3; have c1 := blk_cell HD.out.c1 1; have c2 := blk_cell HD.out.c1 2; have c3 := blk_cell HD.out.c1 3; go_simp; exact rfl))
      | refine runT_skip (by rfl) (by rfl) hs ?_)
    (try simp only [Act.put, List.setIfInBounds_toArray, List.set_cons_zero, List.set_cons_succ]))
  refine runT_op (by rfl) (by rfl) (fun K hK => ?_)
  go_simp
  refine hK _ _ hs ?_
  clear hK K
  (try simp only [Act.put, List.setIfInBounds_toArray, List.set_cons_zero, List.set_cons_succ])
  refine runT_op (by rfl) (by rfl) (fun K hK => ?_)
  go_simp
  refine hK _ _ hs ?_
  clear hK K hs
  (try simp only [Act.put, List.setIfInBounds_toArray, List.set_cons_zero, List.set_cons_succ])
  refine runT_done ?_
  have hbW : Below W.heap.size W W.drew := (Below.refl _ _).drew
  have HD := Aside0.mk (HD.out.below2 hbW)
  have H := Aside0.mk (And.intro H.out.1 (H.out.2.below hbW))
  clear HW hbW r2 r3
  generalize W.drew = W at HD H ⊢
  have c0 := blk_cell HD.out.c1 0
  obtain ⟨wd, hwd⟩ : ∃ wd, wd = W := ⟨_, rfl⟩
  rw [← hwd]
  have Hbd := Aside0.mk (show Below W.heap.size W wd by rw [hwd]; exact (Below.refl _ _))
  clear hwd
  have H1 := Aside0.mk (And.intro (H.out.2.below Hbd.out) (Keep.refl (fun q => q = fb) wd))
  obtain ⟨W1, hW1⟩ : ∃ W1, W1 = wd := ⟨_, rfl⟩
  have c0 := (Hbd.out.cell (World.block_lt_of_cell? _ _ c0)).trans c0
  go_wp2_with fail
  refine (ffails_any _ _).mono ?_
  rintro e w2 ⟨rfl, hb2⟩
  clear c0 hn1
  have hk2 : Keep (fun q => q = fb) wd w2 := H1.out.2.then (Keep.of_below hb2 (fun _ => False)) (fun _ _ h => h.elim)
  have hF2 := H1.out.1.below hb2
  have hc2 : w2.heap[w.heap.size + 1 + 1]? = some zEff := hk2.blk ((Hbd.out.block _ (blk_lt HD.out.c2)).trans HD.out.c2) (by have := H.out.1.lt; omega)
  have HC2 := Aside0.mk hc2
  have H2 := Aside0.mk (And.intro hF2 hk2)
  have q0 := blk_cell hc2 0
  have q1 := blk_cell hc2 1
  have q2 := blk_cell hc2 2
  have q3 := blk_cell hc2 3
  have q4 := blk_cell hc2 4
  have q5 := blk_cell hc2 5
  have q6 := blk_cell hc2 6
  have q7 := blk_cell hc2 7
  have f0 := blk_frozen hc2 0
  have f1 := blk_frozen hc2 1
  have f2 := blk_frozen hc2 2
  have f3 := blk_frozen hc2 3
  have f4 := blk_frozen hc2 4
  have f5 := blk_frozen hc2 5
  have f6 := blk_frozen hc2 6
  have f7 := blk_frozen hc2 7
  clear hb2 hk2 hF2 hc2
  try unfold efV
  go_wp2_with fail
  obtain ⟨hs1, hs2⟩ := storeE_at HC2.out ((efFails 1)) (none) (0) (none) (0)
  refine ⟨rfl, _, eff_results (e := (efFails 1)) (Aa := none) (ca := 0) (Ab := none) (cb := 0) rfl rfl hs1, none, 0, none, 0, rfl, ?_, H2.out.1.keep hs2 (by have := H.out.1.lt; omega), ?_⟩
  · exact EfC.plain _ _ _ ⟨rfl, rfl⟩
  · exact ((Keep.of_below (HD.out.below.trans (Hbd.out.mono HD.out.below.size)) (fun q => q = fb)).trans H2.out.2).then hs2 (fun q hq e => by omega)
set_option maxRecDepth 100000 in
set_option maxHeartbeats 8000000 in
theorem dreckon_less (h : FB fb F vp w) (x : S65) (hop : x.f0 = 7) (ha : 0 ≤ x.f1 ∧ x.f1 < 8) (hb : 0 ≤ x.f2 ∧ x.f2 < 8) (hc : 0 ≤ x.f3 ∧ x.f3 < 8) : Calls Try.prog 42 #[dV A n c b d fb, xvF x] w (DoP fb vp (efGoes, fSet F x.f1 (lessV (fR F x.f2) (fR F x.f3))) w) := by
  obtain ⟨x0, x1, x2, x3, x4⟩ := x
  obtain ⟨W, hW⟩ : ∃ W, W = (((w.alloc (.cells #[.slice A n c, .int .i64 b, .int .i64 d, .pointer (some ⟨fb, 0, none⟩)] 115)).alloc (.cells #[.int .i64 x0, .int .i64 x1, .int .i64 x2, .int .i64 x3, .int .i64 x4] 65)).alloc (.cells #[.int .i64 0, .int .i64 0, .int .i64 0, .int .i64 0, .int .i64 0, .int .i64 0, .slice none 0 0, .slice none 0 0] 36)) := ⟨_, rfl⟩
  have hD : DW w A n c b d fb ⟨x0, x1, x2, x3, x4⟩ W := by rw [hW]; exact DW.start w A n c b d fb ⟨x0, x1, x2, x3, x4⟩
  have HD := Aside0.mk hD
  have HW := Aside0.mk hW
  have H := Aside0.mk (And.intro h (h.below hD.below))
  clear hW hD h
  unfold dV xvF
  obtain rfl : x0 = 7 := hop
  have ha : 0 ≤ x1 ∧ x1 < 8 := ha
  obtain ⟨a, rfl⟩ : ∃ a : Nat, x1 = a := ⟨x1.toNat, by omega⟩
  have h8a : ((a : Int) < 8) = True := eq_true ha.2
  have HA := Aside0.mk (show a < 8 by omega)
  clear ha
  have hb : 0 ≤ x2 ∧ x2 < 8 := hb
  obtain ⟨b2, rfl⟩ : ∃ b2 : Nat, x2 = b2 := ⟨x2.toNat, by omega⟩
  have h8b2 : ((b2 : Int) < 8) = True := eq_true hb.2
  have HB2 := Aside0.mk (show b2 < 8 by omega)
  clear hb
  have hc : 0 ≤ x3 ∧ x3 < 8 := hc
  obtain ⟨c2, rfl⟩ : ∃ c2 : Nat, x3 = c2 := ⟨x3.toNat, by omega⟩
  have h8c2 : ((c2 : Int) < 8) = True := eq_true hc.2
  have HC2 := Aside0.mk (show c2 < 8 by omega)
  clear hc
  have r2 := H.out.2.reg b2 HB2.out
  have r3 := H.out.2.reg c2 HC2.out
  have e2 : fR F (b2 : Int) = F.regs.getD b2 0 := rfl
  have e3 : fR F (c2 : Int) = F.regs.getD c2 0 := rfl
  obtain ⟨y, hy⟩ : ∃ y, F.regs.getD b2 0 = y := ⟨_, rfl⟩
  obtain ⟨u, hu⟩ : ∃ u, F.regs.getD c2 0 = u := ⟨_, rfl⟩
  rw [hy] at e2 r2
  rw [hu] at e3 r3
  show Calls _ _ _ _ (DoP fb vp (efGoes, fSet F (a : Int) (lessV (fR F (b2 : Int)) (fR F (c2 : Int)))) w)
  rw [e2, e3]
  clear e2 e3 hy hu
  go_enter Try.func42, Try.ntmps42
  go_upto_region 1 with (fail)
  rw [← HW.out]
  refine wp_region_T (fun w' => Drawn0 W w') [] (.takes [0, 1, 2, 3, 4, 5, 6, 7, 8, 9, 10, 11, 12, 13, 14, 15] (.op 16 (.op 17 .done))) (by kernel_rfl) (by kernel_rfl) (by kernel_rfl) (by kernel_rfl) (panic_via (P := Try.prog) (fn := Try.f42) (R := DoP fb vp (efGoes, fSet F a (lessV y u)) w) (fun _ _ _ => rfl)) ?_
  have hs : Drawn0 W W.drew := (Drawn0.refl W).step 1
  simp only [Turns.takes]
  repeat (
    (first
      | (refine runT_take (v := ?_) (by rfl) (by rfl) (fun w' hS => ?_) hs ?_
         rotate_left
         · (obtain ⟨n, rfl⟩ := hS; have d3 := blk_cell HD.out.c0 3; have c1 := blk_cell HD.out.c1 1; have c2 := blk_cell HD.out.c1 2; have c3 := blk_cell HD.out.c1 3; go_simp; exact rfl))
      | refine runT_skip (by rfl) (by rfl) hs ?_)
    (try simp only [Act.put, List.setIfInBounds_toArray, List.set_cons_zero, List.set_cons_succ]))
  refine runT_op (by rfl) (by rfl) (fun K hK => ?_)
  go_simp
  refine hK _ _ hs ?_
  clear hK K
  (try simp only [Act.put, List.setIfInBounds_toArray, List.set_cons_zero, List.set_cons_succ])
  refine runT_op (by rfl) (by rfl) (fun K hK => ?_)
  go_simp
  refine hK _ _ hs ?_
  clear hK K hs
  (try simp only [Act.put, List.setIfInBounds_toArray, List.set_cons_zero, List.set_cons_succ])
  refine runT_done ?_
  have hbW : Below W.heap.size W W.drew := (Below.refl _ _).drew
  have HD := Aside0.mk (HD.out.below2 hbW)
  have H := Aside0.mk (And.intro H.out.1 (H.out.2.below hbW))
  clear HW hbW r2 r3
  generalize W.drew = W at HD H ⊢
  have c0 := blk_cell HD.out.c1 0
  go_wp2_with fail
  refine (ftruth_any _ _).mono ?_
  rintro e w2 ⟨rfl, rfl⟩
  have hv : ftruthV (decide (y < u)) = lessV y u := ftruth_less y u
  rw [hv]
  clear hv
  go_upto_region 17 with (fail)
  clear c0
  refine wp_region_T (fun w' => Drawn0 W w') [8] (.takes [0, 1, 2, 3, 4, 5, 6, 7] (.fin 8 .done)) (by kernel_rfl) (by kernel_rfl) (by kernel_rfl) (by kernel_rfl) (panic_via (P := Try.prog) (fn := Try.f42) (R := DoP fb vp (efGoes, fSet F a (lessV y u)) w) (fun _ _ _ => rfl)) ?_
  have hs : Drawn0 W W.drew := (Drawn0.refl W).step 1
  simp only [Turns.takes]
  repeat (
    (first
      | (refine runT_take (v := ?_) (by rfl) (by rfl) (fun w' hS => ?_) hs ?_
         rotate_left
         · (obtain ⟨n, rfl⟩ := hS; have d0 := blk_cell HD.out.c0 0; have d1 := blk_cell HD.out.c0 1; have d2 := blk_cell HD.out.c0 2; have d3 := blk_cell HD.out.c0 3; have c0 := blk_cell HD.out.c1 0; have c1 := blk_cell HD.out.c1 1; have c2 := blk_cell HD.out.c1 2; have c3 := blk_cell HD.out.c1 3; have c4 := blk_cell HD.out.c1 4; go_simp; exact rfl))
      | refine runT_skip (by rfl) (by rfl) hs ?_)
    (try simp only [Act.put, List.setIfInBounds_toArray, List.set_cons_zero, List.set_cons_succ]))
  clear hs
  obtain ⟨wd, hwd⟩ : ∃ wd, wd = W.drew := ⟨_, rfl⟩
  rw [← hwd]
  have Hbd := Aside0.mk (show Below W.heap.size W wd by rw [hwd]; exact (Below.refl _ _).drew)
  clear hwd
  have hF := H.out.2.below (Hbd.out)
  have r := hF.reg a HA.out
  have z := hF.frozen (5 + a)
  refine runT_fin (by rfl) (by rfl) (fun K hK => ?_)
  go_simp
  refine hK _ _ ?_
  clear hK K
  refine runT_done ?_
  obtain ⟨W1, hW1⟩ : ∃ W1, W1 = wd.setCell ⟨fb, 5 + a, none⟩ (.int .i64 (lessV y u)) := ⟨_, rfl⟩
  rw [← hW1]
  have hF1 := hF.setReg a HA.out (lessV y u)
  rw [← hW1] at hF1
  have hk1 : Keep (fun q => q = fb) wd W1 := by rw [hW1]; exact (Keep.refl (fun q => q = fb) wd).set (p := ⟨fb, 5 + a, none⟩) (.inr rfl) _
  have H1 := Aside0.mk (And.intro hF1 hk1)
  clear hF r z hF1 hk1 hW1
  go_upto_region 18 with (fail)
  go_wp2_with fail
  refine (goes_any _).mono ?_
  rintro e w2 ⟨rfl, hb2⟩
  have hk2 : Keep (fun q => q = fb) wd w2 := H1.out.2.then (Keep.of_below hb2 (fun _ => False)) (fun _ _ h => h.elim)
  have hF2 := H1.out.1.below hb2
  have hc2 : w2.heap[w.heap.size + 1 + 1]? = some zEff := hk2.blk ((Hbd.out.block _ (blk_lt HD.out.c2)).trans HD.out.c2) (by have := H.out.1.lt; omega)
  have HC2 := Aside0.mk hc2
  have H2 := Aside0.mk (And.intro hF2 hk2)
  have q0 := blk_cell hc2 0
  have q1 := blk_cell hc2 1
  have q2 := blk_cell hc2 2
  have q3 := blk_cell hc2 3
  have q4 := blk_cell hc2 4
  have q5 := blk_cell hc2 5
  have q6 := blk_cell hc2 6
  have q7 := blk_cell hc2 7
  have f0 := blk_frozen hc2 0
  have f1 := blk_frozen hc2 1
  have f2 := blk_frozen hc2 2
  have f3 := blk_frozen hc2 3
  have f4 := blk_frozen hc2 4
  have f5 := blk_frozen hc2 5
  have f6 := blk_frozen hc2 6
  have f7 := blk_frozen hc2 7
  clear hb2 hk2 hF2 hc2
  try unfold efV
  go_wp2_with fail
  obtain ⟨hs1, hs2⟩ := storeE_at HC2.out (efGoes) (none) (0) (none) (0)
  refine ⟨rfl, _, eff_results (e := efGoes) (Aa := none) (ca := 0) (Ab := none) (cb := 0) rfl rfl hs1, none, 0, none, 0, rfl, ?_, H2.out.1.keep hs2 (by have := H.out.1.lt; omega), ?_⟩
  · exact EfC.plain _ _ _ ⟨rfl, rfl⟩
  · exact ((Keep.of_below (HD.out.below.trans (Hbd.out.mono HD.out.below.size)) (fun q => q = fb)).trans H2.out.2).then hs2 (fun q hq e => by omega)
set_option maxRecDepth 100000 in
set_option maxHeartbeats 8000000 in
theorem dreckon_same (h : FB fb F vp w) (x : S65) (hop : x.f0 = 8) (ha : 0 ≤ x.f1 ∧ x.f1 < 8) (hb : 0 ≤ x.f2 ∧ x.f2 < 8) (hc : 0 ≤ x.f3 ∧ x.f3 < 8) : Calls Try.prog 42 #[dV A n c b d fb, xvF x] w (DoP fb vp (efGoes, fSet F x.f1 (sameV (fR F x.f2) (fR F x.f3))) w) := by
  obtain ⟨x0, x1, x2, x3, x4⟩ := x
  obtain ⟨W, hW⟩ : ∃ W, W = (((w.alloc (.cells #[.slice A n c, .int .i64 b, .int .i64 d, .pointer (some ⟨fb, 0, none⟩)] 115)).alloc (.cells #[.int .i64 x0, .int .i64 x1, .int .i64 x2, .int .i64 x3, .int .i64 x4] 65)).alloc (.cells #[.int .i64 0, .int .i64 0, .int .i64 0, .int .i64 0, .int .i64 0, .int .i64 0, .slice none 0 0, .slice none 0 0] 36)) := ⟨_, rfl⟩
  have hD : DW w A n c b d fb ⟨x0, x1, x2, x3, x4⟩ W := by rw [hW]; exact DW.start w A n c b d fb ⟨x0, x1, x2, x3, x4⟩
  have HD := Aside0.mk hD
  have HW := Aside0.mk hW
  have H := Aside0.mk (And.intro h (h.below hD.below))
  clear hW hD h
  unfold dV xvF
  obtain rfl : x0 = 8 := hop
  have ha : 0 ≤ x1 ∧ x1 < 8 := ha
  obtain ⟨a, rfl⟩ : ∃ a : Nat, x1 = a := ⟨x1.toNat, by omega⟩
  have h8a : ((a : Int) < 8) = True := eq_true ha.2
  have HA := Aside0.mk (show a < 8 by omega)
  clear ha
  have hb : 0 ≤ x2 ∧ x2 < 8 := hb
  obtain ⟨b2, rfl⟩ : ∃ b2 : Nat, x2 = b2 := ⟨x2.toNat, by omega⟩
  have h8b2 : ((b2 : Int) < 8) = True := eq_true hb.2
  have HB2 := Aside0.mk (show b2 < 8 by omega)
  clear hb
  have hc : 0 ≤ x3 ∧ x3 < 8 := hc
  obtain ⟨c2, rfl⟩ : ∃ c2 : Nat, x3 = c2 := ⟨x3.toNat, by omega⟩
  have h8c2 : ((c2 : Int) < 8) = True := eq_true hc.2
  have HC2 := Aside0.mk (show c2 < 8 by omega)
  clear hc
  have r2 := H.out.2.reg b2 HB2.out
  have r3 := H.out.2.reg c2 HC2.out
  have e2 : fR F (b2 : Int) = F.regs.getD b2 0 := rfl
  have e3 : fR F (c2 : Int) = F.regs.getD c2 0 := rfl
  obtain ⟨y, hy⟩ : ∃ y, F.regs.getD b2 0 = y := ⟨_, rfl⟩
  obtain ⟨u, hu⟩ : ∃ u, F.regs.getD c2 0 = u := ⟨_, rfl⟩
  rw [hy] at e2 r2
  rw [hu] at e3 r3
  show Calls _ _ _ _ (DoP fb vp (efGoes, fSet F (a : Int) (sameV (fR F (b2 : Int)) (fR F (c2 : Int)))) w)
  rw [e2, e3]
  clear e2 e3 hy hu
  go_enter Try.func42, Try.ntmps42
  go_upto_region 1 with (fail)
  rw [← HW.out]
  refine wp_region_T (fun w' => Drawn0 W w') [] (.takes [0, 1, 2, 3, 4, 5, 6, 7, 8, 9, 10, 11, 12, 13, 14, 15] (.op 16 (.op 17 .done))) (by kernel_rfl) (by kernel_rfl) (by kernel_rfl) (by kernel_rfl) (panic_via (P := Try.prog) (fn := Try.f42) (R := DoP fb vp (efGoes, fSet F a (sameV y u)) w) (fun _ _ _ => rfl)) ?_
  have hs : Drawn0 W W.drew := (Drawn0.refl W).step 1
  simp only [Turns.takes]
  repeat (
    (first
      | (refine runT_take (v := ?_) (by rfl) (by rfl) (fun w' hS => ?_) hs ?_
         rotate_left
         · (obtain ⟨n, rfl⟩ := hS; have d3 := blk_cell HD.out.c0 3; have c1 := blk_cell HD.out.c1 1; have c2 := blk_cell HD.out.c1 2; have c3 := blk_cell HD.out.c1 3; go_simp; exact rfl))
      | refine runT_skip (by rfl) (by rfl) hs ?_)
    (try simp only [Act.put, List.setIfInBounds_toArray, List.set_cons_zero, List.set_cons_succ]))
  refine runT_op (by rfl) (by rfl) (fun K hK => ?_)
  go_simp
  refine hK _ _ hs ?_
  clear hK K
  (try simp only [Act.put, List.setIfInBounds_toArray, List.set_cons_zero, List.set_cons_succ])
  refine runT_op (by rfl) (by rfl) (fun K hK => ?_)
  go_simp
  refine hK _ _ hs ?_
  clear hK K hs
  (try simp only [Act.put, List.setIfInBounds_toArray, List.set_cons_zero, List.set_cons_succ])
  refine runT_done ?_
  have hbW : Below W.heap.size W W.drew := (Below.refl _ _).drew
  have HD := Aside0.mk (HD.out.below2 hbW)
  have H := Aside0.mk (And.intro H.out.1 (H.out.2.below hbW))
  clear HW hbW r2 r3
  generalize W.drew = W at HD H ⊢
  have c0 := blk_cell HD.out.c1 0
  go_wp2_with fail
  refine (ftruth_any _ _).mono ?_
  rintro e w2 ⟨rfl, rfl⟩
  have hv : ftruthV (y == u) = sameV y u := ftruth_same y u
  rw [hv]
  clear hv
  go_upto_region 17 with (fail)
  clear c0
  refine wp_region_T (fun w' => Drawn0 W w') [8] (.takes [0, 1, 2, 3, 4, 5, 6, 7] (.fin 8 .done)) (by kernel_rfl) (by kernel_rfl) (by kernel_rfl) (by kernel_rfl) (panic_via (P := Try.prog) (fn := Try.f42) (R := DoP fb vp (efGoes, fSet F a (sameV y u)) w) (fun _ _ _ => rfl)) ?_
  have hs : Drawn0 W W.drew := (Drawn0.refl W).step 1
  simp only [Turns.takes]
  repeat (
    (first
      | (refine runT_take (v := ?_) (by rfl) (by rfl) (fun w' hS => ?_) hs ?_
         rotate_left
         · (obtain ⟨n, rfl⟩ := hS; have d0 := blk_cell HD.out.c0 0; have d1 := blk_cell HD.out.c0 1; have d2 := blk_cell HD.out.c0 2; have d3 := blk_cell HD.out.c0 3; have c0 := blk_cell HD.out.c1 0; have c1 := blk_cell HD.out.c1 1; have c2 := blk_cell HD.out.c1 2; have c3 := blk_cell HD.out.c1 3; have c4 := blk_cell HD.out.c1 4; go_simp; exact rfl))
      | refine runT_skip (by rfl) (by rfl) hs ?_)
    (try simp only [Act.put, List.setIfInBounds_toArray, List.set_cons_zero, List.set_cons_succ]))
  clear hs
  obtain ⟨wd, hwd⟩ : ∃ wd, wd = W.drew := ⟨_, rfl⟩
  rw [← hwd]
  have Hbd := Aside0.mk (show Below W.heap.size W wd by rw [hwd]; exact (Below.refl _ _).drew)
  clear hwd
  have hF := H.out.2.below (Hbd.out)
  have r := hF.reg a HA.out
  have z := hF.frozen (5 + a)
  refine runT_fin (by rfl) (by rfl) (fun K hK => ?_)
  go_simp
  refine hK _ _ ?_
  clear hK K
  refine runT_done ?_
  obtain ⟨W1, hW1⟩ : ∃ W1, W1 = wd.setCell ⟨fb, 5 + a, none⟩ (.int .i64 (sameV y u)) := ⟨_, rfl⟩
  rw [← hW1]
  have hF1 := hF.setReg a HA.out (sameV y u)
  rw [← hW1] at hF1
  have hk1 : Keep (fun q => q = fb) wd W1 := by rw [hW1]; exact (Keep.refl (fun q => q = fb) wd).set (p := ⟨fb, 5 + a, none⟩) (.inr rfl) _
  have H1 := Aside0.mk (And.intro hF1 hk1)
  clear hF r z hF1 hk1 hW1
  go_upto_region 18 with (fail)
  go_wp2_with fail
  refine (goes_any _).mono ?_
  rintro e w2 ⟨rfl, hb2⟩
  have hk2 : Keep (fun q => q = fb) wd w2 := H1.out.2.then (Keep.of_below hb2 (fun _ => False)) (fun _ _ h => h.elim)
  have hF2 := H1.out.1.below hb2
  have hc2 : w2.heap[w.heap.size + 1 + 1]? = some zEff := hk2.blk ((Hbd.out.block _ (blk_lt HD.out.c2)).trans HD.out.c2) (by have := H.out.1.lt; omega)
  have HC2 := Aside0.mk hc2
  have H2 := Aside0.mk (And.intro hF2 hk2)
  have q0 := blk_cell hc2 0
  have q1 := blk_cell hc2 1
  have q2 := blk_cell hc2 2
  have q3 := blk_cell hc2 3
  have q4 := blk_cell hc2 4
  have q5 := blk_cell hc2 5
  have q6 := blk_cell hc2 6
  have q7 := blk_cell hc2 7
  have f0 := blk_frozen hc2 0
  have f1 := blk_frozen hc2 1
  have f2 := blk_frozen hc2 2
  have f3 := blk_frozen hc2 3
  have f4 := blk_frozen hc2 4
  have f5 := blk_frozen hc2 5
  have f6 := blk_frozen hc2 6
  have f7 := blk_frozen hc2 7
  clear hb2 hk2 hF2 hc2
  try unfold efV
  go_wp2_with fail
  obtain ⟨hs1, hs2⟩ := storeE_at HC2.out (efGoes) (none) (0) (none) (0)
  refine ⟨rfl, _, eff_results (e := efGoes) (Aa := none) (ca := 0) (Ab := none) (cb := 0) rfl rfl hs1, none, 0, none, 0, rfl, ?_, H2.out.1.keep hs2 (by have := H.out.1.lt; omega), ?_⟩
  · exact EfC.plain _ _ _ ⟨rfl, rfl⟩
  · exact ((Keep.of_below (HD.out.below.trans (Hbd.out.mono HD.out.below.size)) (fun q => q = fb)).trans H2.out.2).then hs2 (fun q hq e => by omega)
end
end Go.Proofs.Ytcciejcpijlkfaa.H

set_option linter.unusedVariables false
set_option linter.unusedSimpArgs false
namespace Go.Proofs.Ytcciejcpijlkfaa.H
open Go.RowKit Go.Hay Go.Maps Go.Proofs.YtcciejcpijlkfaaW.PrintWords Go.Proofs.YtcciejcpijlkfaaW.PrintLast Go.Proofs.YtcciejcpijlkfaaW.PrintMore
def Rfn (v : Value) : Option (DataW Unit × List MemPlace) :=
  match v with
  | .func (.func n) a b => if a = #[] ∧ b = #[] then some (.lit (.int .i64 n), []) else none
  | .nilFunc => some (.lit (.int .i64 (-1)), [])
  | _ => none
theorem Rfn_mk (n : Nat) : Rfn (.func (.func n) #[] #[]) = some (.lit (.int .i64 n), []) := by simp [Rfn]
theorem Rfn_inv {v : Value} {n : Nat} {ps : List MemPlace} (h : Rfn v = some (.lit (.int .i64 n), ps)) : v = .func (.func n) #[] #[] := by
  unfold Rfn at h
  split at h
  · split at h
    · rename_i m a b hab
      obtain ⟨rfl, rfl⟩ := hab
      have h1 := congrArg (fun o : Option (DataW Unit × List MemPlace) => match o with | some (.lit (.int _ x), _) => x | _ => 0) h
      have h2 : (m : Int) = (n : Int) := h1
      have : m = n := Int.ofNat.inj h2
      rw [this]
    · cases h
  · exfalso
    have h1 := congrArg (fun o : Option (DataW Unit × List MemPlace) => match o with | some (.lit (.int _ x), _) => x | _ => 0) h
    have h2 : (-1 : Int) = (n : Int) := h1
    omega
  · cases h
theorem law3 : Keyed Try.prog 3 := int_keyed Try.underlying3
theorem wpList_insert_own {H : Type} {P : Program} (w : World) {ops : Array Oper} {rest : List Oper} {o : Oper} {a : Act} {Q : Exit → Act → World → Prop}
    (hg : o.guard = none) (m x v : Operand) (t : TypeId) (hop : o.op = Op.insert t m x v)
    (k e : TypeId) (K : Keyed P k) (ht : P.underlying t = some (.map k e)) (R : Value → Option (DataW H × List MemPlace)) (b n : Nat) (D : DataW H)
    (hm : a.eval m = .map (some b)) (hown : w.ownsMap P k R b n D) (hn : n < maxLen) (key val : Value) (kl : Lit) (hx : a.eval x = key) (hv : a.eval v = val) (hkey : keyOf P k key = some kl)
    (d : DataW H) (ps : List MemPlace) (hval : R val = some (d, ps))
    (hK : ∀ w', w'.ownsMap P k R b (n + 1) (D.put kl d) → w.grownBy w' (some b) → wpList P ops Q rest (a.put o.dst undef) w') :
    wpList P ops Q (o :: rest) a w := by
  refine wpList_plain hg fun K' hK' => ?_
  obtain ⟨w', hrun, r1, r2⟩ := hown.update K ht hn hkey hval
  unfold Oper.wp
  simp [execOp, hop, hm, hx, hv, hrun, Result.andThen]
  exact hK' _ _ (hK w' r1 r2)
end Go.Proofs.Ytcciejcpijlkfaa.H

set_option linter.unusedVariables false
set_option linter.unusedSimpArgs false
namespace Go.Proofs.Ytcciejcpijlkfaa.H
open Go.RowKit Go.Hay Go.Maps Go.Proofs.YtcciejcpijlkfaaW.PrintWords Go.Proofs.YtcciejcpijlkfaaW.PrintLast Go.Proofs.YtcciejcpijlkfaaW.PrintMore
/-- which function does an operation. -/
def fdeedF (op : Int) : Nat :=
  if op = 1 then 40 else
  if op = 2 then 41 else
  if op = 3 then 42 else
  if op = 4 then 42 else
  if op = 5 then 42 else
  if op = 6 then 42 else
  if op = 7 then 42 else
  if op = 8 then 42 else
  if op = 9 then 43 else
  if op = 10 then 44 else
  if op = 11 then 45 else
  if op = 12 then 46 else
  if op = 13 then 47 else
  if op = 14 then 48 else
  if op = 15 then 49 else
  if op = 16 then 50 else
  51
theorem fdeedF_1 : fdeedF 1 = 40 := by decide
theorem fdeedF_2 : fdeedF 2 = 41 := by decide
theorem fdeedF_3 : fdeedF 3 = 42 := by decide
theorem fdeedF_4 : fdeedF 4 = 42 := by decide
theorem fdeedF_5 : fdeedF 5 = 42 := by decide
theorem fdeedF_6 : fdeedF 6 = 42 := by decide
theorem fdeedF_7 : fdeedF 7 = 42 := by decide
theorem fdeedF_8 : fdeedF 8 = 42 := by decide
theorem fdeedF_9 : fdeedF 9 = 43 := by decide
theorem fdeedF_10 : fdeedF 10 = 44 := by decide
theorem fdeedF_11 : fdeedF 11 = 45 := by decide
theorem fdeedF_12 : fdeedF 12 = 46 := by decide
theorem fdeedF_13 : fdeedF 13 = 47 := by decide
theorem fdeedF_14 : fdeedF 14 = 48 := by decide
theorem fdeedF_15 : fdeedF 15 = 49 := by decide
theorem fdeedF_16 : fdeedF 16 = 50 := by decide
theorem fdeedF_17 : fdeedF 17 = 51 := by decide
theorem fdeed_zero (w : World) : (zeroValue 111).run Try.prog w = .ok .nilFunc w := by kernel_rfl
def FdeedAt (mb : Nat) (w : World) : Prop := ∃ D : DataW Unit, w.ownsMap Try.prog 3 Rfn mb 17 D ∧ ∀ op : Int, 1 ≤ op → op ≤ 17 → D.atKey (.int .i64 op) (.lit (.int .i64 (-1))) = .lit (.int .i64 (fdeedF op))
theorem FdeedAt.heap {mb : Nat} {w w1 : World} (h : FdeedAt mb w) (hk : w1.heap[mb]? = w.heap[mb]?) : FdeedAt mb w1 := by
  obtain ⟨D, ⟨es, clock, h1, h2⟩, h3⟩ := h
  exact ⟨D, ⟨es, clock, hk.trans h1, h2⟩, h3⟩
theorem FdeedAt.lt {mb : Nat} {w : World} (h : FdeedAt mb w) : mb < w.heap.size := by
  obtain ⟨D, hm, _⟩ := h
  exact hm.lt
theorem FdeedAt.look {mb : Nat} {w : World} (h : FdeedAt mb w) (op : Int) (h1 : 1 ≤ op) (h2 : op ≤ 17) : (Instr.lookup 112 (.map (some mb)) (.int .i64 op) false).run Try.prog w = .ok (.func (.func (fdeedF op)) #[] #[]) w := by
  obtain ⟨D, hm, hD⟩ := h
  obtain ⟨v, ps, hrun, hv⟩ := hm.lookup law3 Try.underlying112 (fdeed_zero w) (zd := .lit (.int .i64 (-1))) (zp := []) rfl (key := .int .i64 op) (kl := .int .i64 op) (keyOf_int_mk Try.underlying3 (WalkArith.wf_i64 (by omega)))
  rw [hD op h1 h2] at hv
  rw [hrun, Rfn_inv hv]
theorem fdeed_enter {op : Int} (h : 1 ≤ op ∧ op ≤ 17) (args : Array Value) (w : World) : (callFunc (fdeedF op) args).run Try.prog w = .ok (.enter (fdeedF op) args) w := by
  have hcases : op = 1 ∨ op = 2 ∨ op = 3 ∨ op = 4 ∨ op = 5 ∨ op = 6 ∨ op = 7 ∨ op = 8 ∨ op = 9 ∨ op = 10 ∨ op = 11 ∨ op = 12 ∨ op = 13 ∨ op = 14 ∨ op = 15 ∨ op = 16 ∨ op = 17 := by omega
  rcases hcases with rfl | rfl | rfl | rfl | rfl | rfl | rfl | rfl | rfl | rfl | rfl | rfl | rfl | rfl | rfl | rfl | rfl
  · rw [fdeedF_1]; exact Try.call40 args w
  · rw [fdeedF_2]; exact Try.call41 args w
  · rw [fdeedF_3]; exact Try.call42 args w
  · rw [fdeedF_4]; exact Try.call42 args w
  · rw [fdeedF_5]; exact Try.call42 args w
  · rw [fdeedF_6]; exact Try.call42 args w
  · rw [fdeedF_7]; exact Try.call42 args w
  · rw [fdeedF_8]; exact Try.call42 args w
  · rw [fdeedF_9]; exact Try.call43 args w
  · rw [fdeedF_10]; exact Try.call44 args w
  · rw [fdeedF_11]; exact Try.call45 args w
  · rw [fdeedF_12]; exact Try.call46 args w
  · rw [fdeedF_13]; exact Try.call47 args w
  · rw [fdeedF_14]; exact Try.call48 args w
  · rw [fdeedF_15]; exact Try.call49 args w
  · rw [fdeedF_16]; exact Try.call50 args w
  · rw [fdeedF_17]; exact Try.call51 args w
/-- the table as_ it is filled. -/
structure FdeedI (w : World) (mb n : Nat) (w' : World) : Prop where
  map : ∃ D : DataW Unit, w'.ownsMap Try.prog 3 Rfn mb n D ∧ ∀ op : Int, 1 ≤ op → op ≤ n → D.atKey (.int .i64 op) (.lit (.int .i64 (-1))) = .lit (.int .i64 (fdeedF op))
  below : Below w.heap.size w w'
  mb_ : mb = w.heap.size
theorem FdeedI.put {w w1 w2 : World} {mb n : Nat} (h : FdeedI w mb n w1) {D : DataW Unit} (hD : ∀ op : Int, 1 ≤ op → op ≤ n → D.atKey (.int .i64 op) (.lit (.int .i64 (-1))) = .lit (.int .i64 (fdeedF op))) (hi : IsMap D) (hm : w2.ownsMap Try.prog 3 Rfn mb (n + 1) (D.put (.int .i64 ((n : Int) + 1)) (.lit (.int .i64 (fdeedF ((n : Int) + 1)))))) (hg : w1.grownBy w2 (some mb)) : FdeedI w mb (n + 1) w2 := by
  refine ⟨⟨_, hm, fun op h1 h2 => ?_⟩, h.below.grown hg h.below.size (fun j hj => by cases hj; rw [h.mb_]; exact Nat.le_refl _), h.mb_⟩
  by_cases e : (n : Int) + 1 = op
  · subst e
    rw [atKey_put_same hi (by simp [WideAt.IsKeyLit])]
  · rw [atKey_put_other (by simp; exact fun h => e h.symm), hD op h1 (by omega)]
def FdeedP (w : World) (e : Ending) (w' : World) : Prop := e = .returned (.map (some w.heap.size)) ∧ Below w.heap.size w w' ∧ FdeedAt w.heap.size w'
set_option maxRecDepth 100000 in
set_option maxHeartbeats 8000000 in
theorem fdeeds_any (w : World) : Calls Try.prog 28 #[] w (FdeedP w) := by
  have hmm := @run_makeMap Try.prog
  have H0 := Aside0.mk (show FdeedI w w.heap.size 0 (w.alloc (.map #[] 0)) from ⟨⟨.map [], World.ownsMap_made _ _ _ _, fun op h1 h2 => by omega⟩, (Below.refl _ _).alloc (Nat.le_refl _) _, rfl⟩)
  go_enter Try.func28, Try.ntmps28
  go_wp2_with (first | (obtain ⟨D, hm, hD⟩ := H0.out.map; refine wpList_insert_own _ rfl (.tmp 1) _ _ 112 rfl 3 111 law3 Try.underlying112 Rfn w.heap.size 0 D rfl hm (by unfold maxLen; decide) (.int .i64 1) (.func (.func 40) #[] #[]) (.int .i64 1) rfl rfl (keyOf_int_mk Try.underlying3 (by decide)) (.lit (.int .i64 40)) [] (Rfn_mk 40) ?_; intro w1 hm1 hg1; have H1 := Aside0.mk (H0.out.put hD hm.isMap (w2 := w1) hm1 hg1); clear hm hD hm1 hg1) | (obtain ⟨D, hm, hD⟩ := H1.out.map; refine wpList_insert_own _ rfl (.tmp 1) _ _ 112 rfl 3 111 law3 Try.underlying112 Rfn w.heap.size 1 D rfl hm (by unfold maxLen; decide) (.int .i64 2) (.func (.func 41) #[] #[]) (.int .i64 2) rfl rfl (keyOf_int_mk Try.underlying3 (by decide)) (.lit (.int .i64 41)) [] (Rfn_mk 41) ?_; intro w2 hm1 hg1; have H2 := Aside0.mk (H1.out.put hD hm.isMap (w2 := w2) hm1 hg1); clear hm hD hm1 hg1) | (obtain ⟨D, hm, hD⟩ := H2.out.map; refine wpList_insert_own _ rfl (.tmp 1) _ _ 112 rfl 3 111 law3 Try.underlying112 Rfn w.heap.size 2 D rfl hm (by unfold maxLen; decide) (.int .i64 3) (.func (.func 42) #[] #[]) (.int .i64 3) rfl rfl (keyOf_int_mk Try.underlying3 (by decide)) (.lit (.int .i64 42)) [] (Rfn_mk 42) ?_; intro w3 hm1 hg1; have H3 := Aside0.mk (H2.out.put hD hm.isMap (w2 := w3) hm1 hg1); clear hm hD hm1 hg1) | (obtain ⟨D, hm, hD⟩ := H3.out.map; refine wpList_insert_own _ rfl (.tmp 1) _ _ 112 rfl 3 111 law3 Try.underlying112 Rfn w.heap.size 3 D rfl hm (by unfold maxLen; decide) (.int .i64 4) (.func (.func 42) #[] #[]) (.int .i64 4) rfl rfl (keyOf_int_mk Try.underlying3 (by decide)) (.lit (.int .i64 42)) [] (Rfn_mk 42) ?_; intro w4 hm1 hg1; have H4 := Aside0.mk (H3.out.put hD hm.isMap (w2 := w4) hm1 hg1); clear hm hD hm1 hg1) | (obtain ⟨D, hm, hD⟩ := H4.out.map; refine wpList_insert_own _ rfl (.tmp 1) _ _ 112 rfl 3 111 law3 Try.underlying112 Rfn w.heap.size 4 D rfl hm (by unfold maxLen; decide) (.int .i64 5) (.func (.func 42) #[] #[]) (.int .i64 5) rfl rfl (keyOf_int_mk Try.underlying3 (by decide)) (.lit (.int .i64 42)) [] (Rfn_mk 42) ?_; intro w5 hm1 hg1; have H5 := Aside0.mk (H4.out.put hD hm.isMap (w2 := w5) hm1 hg1); clear hm hD hm1 hg1) | (obtain ⟨D, hm, hD⟩ := H5.out.map; refine wpList_insert_own _ rfl (.tmp 1) _ _ 112 rfl 3 111 law3 Try.underlying112 Rfn w.heap.size 5 D rfl hm (by unfold maxLen; decide) (.int .i64 6) (.func (.func 42) #[] #[]) (.int .i64 6) rfl rfl (keyOf_int_mk Try.underlying3 (by decide)) (.lit (.int .i64 42)) [] (Rfn_mk 42) ?_; intro w6 hm1 hg1; have H6 := Aside0.mk (H5.out.put hD hm.isMap (w2 := w6) hm1 hg1); clear hm hD hm1 hg1) | (obtain ⟨D, hm, hD⟩ := H6.out.map; refine wpList_insert_own _ rfl (.tmp 1) _ _ 112 rfl 3 111 law3 Try.underlying112 Rfn w.heap.size 6 D rfl hm (by unfold maxLen; decide) (.int .i64 7) (.func (.func 42) #[] #[]) (.int .i64 7) rfl rfl (keyOf_int_mk Try.underlying3 (by decide)) (.lit (.int .i64 42)) [] (Rfn_mk 42) ?_; intro w7 hm1 hg1; have H7 := Aside0.mk (H6.out.put hD hm.isMap (w2 := w7) hm1 hg1); clear hm hD hm1 hg1) | (obtain ⟨D, hm, hD⟩ := H7.out.map; refine wpList_insert_own _ rfl (.tmp 1) _ _ 112 rfl 3 111 law3 Try.underlying112 Rfn w.heap.size 7 D rfl hm (by unfold maxLen; decide) (.int .i64 8) (.func (.func 42) #[] #[]) (.int .i64 8) rfl rfl (keyOf_int_mk Try.underlying3 (by decide)) (.lit (.int .i64 42)) [] (Rfn_mk 42) ?_; intro w8 hm1 hg1; have H8 := Aside0.mk (H7.out.put hD hm.isMap (w2 := w8) hm1 hg1); clear hm hD hm1 hg1) | (obtain ⟨D, hm, hD⟩ := H8.out.map; refine wpList_insert_own _ rfl (.tmp 1) _ _ 112 rfl 3 111 law3 Try.underlying112 Rfn w.heap.size 8 D rfl hm (by unfold maxLen; decide) (.int .i64 9) (.func (.func 43) #[] #[]) (.int .i64 9) rfl rfl (keyOf_int_mk Try.underlying3 (by decide)) (.lit (.int .i64 43)) [] (Rfn_mk 43) ?_; intro w9 hm1 hg1; have H9 := Aside0.mk (H8.out.put hD hm.isMap (w2 := w9) hm1 hg1); clear hm hD hm1 hg1) | (obtain ⟨D, hm, hD⟩ := H9.out.map; refine wpList_insert_own _ rfl (.tmp 1) _ _ 112 rfl 3 111 law3 Try.underlying112 Rfn w.heap.size 9 D rfl hm (by unfold maxLen; decide) (.int .i64 10) (.func (.func 44) #[] #[]) (.int .i64 10) rfl rfl (keyOf_int_mk Try.underlying3 (by decide)) (.lit (.int .i64 44)) [] (Rfn_mk 44) ?_; intro w10 hm1 hg1; have H10 := Aside0.mk (H9.out.put hD hm.isMap (w2 := w10) hm1 hg1); clear hm hD hm1 hg1) | (obtain ⟨D, hm, hD⟩ := H10.out.map; refine wpList_insert_own _ rfl (.tmp 1) _ _ 112 rfl 3 111 law3 Try.underlying112 Rfn w.heap.size 10 D rfl hm (by unfold maxLen; decide) (.int .i64 11) (.func (.func 45) #[] #[]) (.int .i64 11) rfl rfl (keyOf_int_mk Try.underlying3 (by decide)) (.lit (.int .i64 45)) [] (Rfn_mk 45) ?_; intro w11 hm1 hg1; have H11 := Aside0.mk (H10.out.put hD hm.isMap (w2 := w11) hm1 hg1); clear hm hD hm1 hg1) | (obtain ⟨D, hm, hD⟩ := H11.out.map; refine wpList_insert_own _ rfl (.tmp 1) _ _ 112 rfl 3 111 law3 Try.underlying112 Rfn w.heap.size 11 D rfl hm (by unfold maxLen; decide) (.int .i64 12) (.func (.func 46) #[] #[]) (.int .i64 12) rfl rfl (keyOf_int_mk Try.underlying3 (by decide)) (.lit (.int .i64 46)) [] (Rfn_mk 46) ?_; intro w12 hm1 hg1; have H12 := Aside0.mk (H11.out.put hD hm.isMap (w2 := w12) hm1 hg1); clear hm hD hm1 hg1) | (obtain ⟨D, hm, hD⟩ := H12.out.map; refine wpList_insert_own _ rfl (.tmp 1) _ _ 112 rfl 3 111 law3 Try.underlying112 Rfn w.heap.size 12 D rfl hm (by unfold maxLen; decide) (.int .i64 13) (.func (.func 47) #[] #[]) (.int .i64 13) rfl rfl (keyOf_int_mk Try.underlying3 (by decide)) (.lit (.int .i64 47)) [] (Rfn_mk 47) ?_; intro w13 hm1 hg1; have H13 := Aside0.mk (H12.out.put hD hm.isMap (w2 := w13) hm1 hg1); clear hm hD hm1 hg1) | (obtain ⟨D, hm, hD⟩ := H13.out.map; refine wpList_insert_own _ rfl (.tmp 1) _ _ 112 rfl 3 111 law3 Try.underlying112 Rfn w.heap.size 13 D rfl hm (by unfold maxLen; decide) (.int .i64 14) (.func (.func 48) #[] #[]) (.int .i64 14) rfl rfl (keyOf_int_mk Try.underlying3 (by decide)) (.lit (.int .i64 48)) [] (Rfn_mk 48) ?_; intro w14 hm1 hg1; have H14 := Aside0.mk (H13.out.put hD hm.isMap (w2 := w14) hm1 hg1); clear hm hD hm1 hg1) | (obtain ⟨D, hm, hD⟩ := H14.out.map; refine wpList_insert_own _ rfl (.tmp 1) _ _ 112 rfl 3 111 law3 Try.underlying112 Rfn w.heap.size 14 D rfl hm (by unfold maxLen; decide) (.int .i64 15) (.func (.func 49) #[] #[]) (.int .i64 15) rfl rfl (keyOf_int_mk Try.underlying3 (by decide)) (.lit (.int .i64 49)) [] (Rfn_mk 49) ?_; intro w15 hm1 hg1; have H15 := Aside0.mk (H14.out.put hD hm.isMap (w2 := w15) hm1 hg1); clear hm hD hm1 hg1) | (obtain ⟨D, hm, hD⟩ := H15.out.map; refine wpList_insert_own _ rfl (.tmp 1) _ _ 112 rfl 3 111 law3 Try.underlying112 Rfn w.heap.size 15 D rfl hm (by unfold maxLen; decide) (.int .i64 16) (.func (.func 50) #[] #[]) (.int .i64 16) rfl rfl (keyOf_int_mk Try.underlying3 (by decide)) (.lit (.int .i64 50)) [] (Rfn_mk 50) ?_; intro w16 hm1 hg1; have H16 := Aside0.mk (H15.out.put hD hm.isMap (w2 := w16) hm1 hg1); clear hm hD hm1 hg1) | (obtain ⟨D, hm, hD⟩ := H16.out.map; refine wpList_insert_own _ rfl (.tmp 1) _ _ 112 rfl 3 111 law3 Try.underlying112 Rfn w.heap.size 16 D rfl hm (by unfold maxLen; decide) (.int .i64 17) (.func (.func 51) #[] #[]) (.int .i64 17) rfl rfl (keyOf_int_mk Try.underlying3 (by decide)) (.lit (.int .i64 51)) [] (Rfn_mk 51) ?_; intro w17 hm1 hg1; have H17 := Aside0.mk (H16.out.put hD hm.isMap (w2 := w17) hm1 hg1); clear hm hD hm1 hg1))
  go_ret
  obtain ⟨D, hm, hD⟩ := H17.out.map
  exact ⟨rfl, H17.out.below, D, hm, fun op h1 h2 => hD op h1 (by omega)⟩
end Go.Proofs.Ytcciejcpijlkfaa.H

set_option linter.unusedVariables false
set_option linter.unusedSimpArgs false
namespace Go.Proofs.Ytcciejcpijlkfaa.H
open Go.RowKit Go.Hay Go.Proofs.YtcciejcpijlkfaaW.PrintWords Go.Proofs.YtcciejcpijlkfaaW.PrintLast Go.Proofs.YtcciejcpijlkfaaW.PrintMore
theorem idx4 {a b c d e : Value} {i : Int} (w : World) (h : (i = 0 ∧ e = a) ∨ (i = 1 ∧ e = b) ∨ (i = 2 ∧ e = c) ∨ (i = 3 ∧ e = d)) : (Instr.index 188 (.agg #[a, b, c, d]) (.int .i64 i)).run Try.prog w = .ok e w := by
  have hu188 := Try.underlying188
  rcases h with ⟨rfl, rfl⟩ | ⟨rfl, rfl⟩ | ⟨rfl, rfl⟩ | ⟨rfl, rfl⟩ <;> simp [Instr.index, run_underlying hu188, asIntOf, go_sem]
theorem blk_other {w : World} {g b : Nat} {o : Obj} (h : w.heap[g]? = some o) (hne : g ≠ b) (i : Nat) (v : Value) : (w.setCell ⟨b, i, none⟩ v).heap[g]? = some o := (Below.heap_setCell w _ v g hne).trans h
structure IW (w : World) (A : Option Addr) (n c : Nat) (f at_ : Int) (x : S65) (w' : World) : Prop where
  below : Below w.heap.size w w'
  b0 : w'.heap[w.heap.size]? = some (.cells #[.slice A n c, .int .i64 f, .int .i64 at_] 158 (0, 0))
  b1 : w'.heap[w.heap.size + 1]? = some (.cells #[.int .i64 x.f0, .int .i64 x.f1, .int .i64 x.f2, .int .i64 x.f3, .int .i64 x.f4] 65 (0, 0))
theorem IW.size {w : World} {A : Option Addr} {n c : Nat} {f at_ : Int} {x : S65} {w' : World} (h : IW w A n c f at_ x w') : w.heap.size + 2 ≤ w'.heap.size := by
  have := blk_lt h.b1; omega
theorem IW.keep {w : World} {A : Option Addr} {n c : Nat} {f at_ : Int} {x : S65} {w' w'' : World} (h : IW w A n c f at_ x w') (k : Keep (fun b => w.heap.size + 2 ≤ b) w' w'') : IW w A n c f at_ x w'' :=
  ⟨h.below.trans (k.below h.below.size (fun b hb hs => by omega)), k.blk h.b0 (by omega), k.blk h.b1 (by omega)⟩
theorem IW.start (w : World) (A : Option Addr) (n c : Nat) (f at_ : Int) (x : S65) : IW w A n c f at_ x ((w.alloc (.cells #[.slice A n c, .int .i64 f, .int .i64 at_] 158)).alloc (.cells #[.int .i64 x.f0, .int .i64 x.f1, .int .i64 x.f2, .int .i64 x.f3, .int .i64 x.f4] 65)) := by
  have hb0 := ((Below.refl w.heap.size w).alloc (Nat.le_refl _) (.cells #[.slice A n c, .int .i64 f, .int .i64 at_] 158))
  refine ⟨hb0.alloc hb0.size _, blk_alloc (alloc_blk w _) _, ?_⟩
  have := alloc_blk (w.alloc (.cells #[.slice A n c, .int .i64 f, .int .i64 at_] 158)) (.cells #[.int .i64 x.f0, .int .i64 x.f1, .int .i64 x.f2, .int .i64 x.f3, .int .i64 x.f4] 65)
  have e : (w.alloc (.cells #[.slice A n c, .int .i64 f, .int .i64 at_] 158)).heap.size = w.heap.size + 1 := Array.size_push _
  rwa [e] at this
structure JW (w : World) (A : Option Addr) (n c : Nat) (f at_ : Int) (x : S65) (g4 b6 b7 : Nat) (pa pb pc pk : Int) (w' : World) : Prop where
  iw : IW w A n c f at_ x w'
  h4 : w'.heap[g4]? = some (.cells #[.int .i64 pa, .int .i64 pb, .int .i64 pc, .int .i64 pk] 185 (0, 0))
  h6 : w'.heap[b6]? = some (.cells #[.int .i64 x.f1, .int .i64 x.f2, .int .i64 x.f3, .int .i64 x.f4] 25 (0, 0))
  h7 : w'.heap[b7]? = some (.cells #[.int .i64 pa, .int .i64 pb, .int .i64 pc, .int .i64 pk] 188 (0, 0))
theorem JW.keep {w : World} {A : Option Addr} {n c : Nat} {f at_ : Int} {x : S65} {g4 b6 b7 : Nat} {pa pb pc pk : Int} {w' w'' : World} (h : JW w A n c f at_ x g4 b6 b7 pa pb pc pk w') (k : Below w'.heap.size w' w'') : JW w A n c f at_ x g4 b6 b7 pa pb pc pk w'' :=
  ⟨h.iw.keep (Keep.of_belowB (k.mono h.iw.size)), (k.block _ (blk_lt h.h4)).trans h.h4, (k.block _ (blk_lt h.h6)).trans h.h6, (k.block _ (blk_lt h.h7)).trans h.h7⟩
def formTo (x : S65) (pa pb pc pk : Int) (i : Nat) : Prop := (0 < i → ¬ (pa = 0 ∧ x.f1 ≠ 0)) ∧ (1 < i → ¬ (pb = 0 ∧ x.f2 ≠ 0)) ∧ (2 < i → ¬ (pc = 0 ∧ x.f3 ≠ 0)) ∧ (3 < i → ¬ (pk = 0 ∧ x.f4 ≠ 0))
section
variable {x : S65} {pa pb pc pk : Int} {E : Option Int}
theorem form_no0 (h : formTo x pa pb pc pk 0) (hp : pa = 0) (hq : ¬ x.f1 = 0) : (if pa = 0 ∧ x.f1 ≠ 0 then some 4 else if pb = 0 ∧ x.f2 ≠ 0 then some 4 else if pc = 0 ∧ x.f3 ≠ 0 then some 4 else if pk = 0 ∧ x.f4 ≠ 0 then some 4 else E) = some 4 := if_pos ⟨hp, hq⟩
theorem form_no1 (h : formTo x pa pb pc pk 1) (hp : pb = 0) (hq : ¬ x.f2 = 0) : (if pa = 0 ∧ x.f1 ≠ 0 then some 4 else if pb = 0 ∧ x.f2 ≠ 0 then some 4 else if pc = 0 ∧ x.f3 ≠ 0 then some 4 else if pk = 0 ∧ x.f4 ≠ 0 then some 4 else E) = some 4 := by
  rw [if_neg (h.1 (by omega)), if_pos ⟨hp, hq⟩]
theorem form_no2 (h : formTo x pa pb pc pk 2) (hp : pc = 0) (hq : ¬ x.f3 = 0) : (if pa = 0 ∧ x.f1 ≠ 0 then some 4 else if pb = 0 ∧ x.f2 ≠ 0 then some 4 else if pc = 0 ∧ x.f3 ≠ 0 then some 4 else if pk = 0 ∧ x.f4 ≠ 0 then some 4 else E) = some 4 := by
  rw [if_neg (h.1 (by omega)), if_neg (h.2.1 (by omega)), if_pos ⟨hp, hq⟩]
theorem form_no3 (h : formTo x pa pb pc pk 3) (hp : pk = 0) (hq : ¬ x.f4 = 0) : (if pa = 0 ∧ x.f1 ≠ 0 then some 4 else if pb = 0 ∧ x.f2 ≠ 0 then some 4 else if pc = 0 ∧ x.f3 ≠ 0 then some 4 else if pk = 0 ∧ x.f4 ≠ 0 then some 4 else E) = some 4 := by
  rw [if_neg (h.1 (by omega)), if_neg (h.2.1 (by omega)), if_neg (h.2.2.1 (by omega)), if_pos ⟨hp, hq⟩]
theorem form_all (h : formTo x pa pb pc pk 4) : (if pa = 0 ∧ x.f1 ≠ 0 then some 4 else if pb = 0 ∧ x.f2 ≠ 0 then some 4 else if pc = 0 ∧ x.f3 ≠ 0 then some 4 else if pk = 0 ∧ x.f4 ≠ 0 then some 4 else E) = E := by
  rw [if_neg (h.1 (by omega)), if_neg (h.2.1 (by omega)), if_neg (h.2.2.1 (by omega)), if_neg (h.2.2.2 (by omega))]
theorem form_next0 (h : formTo x pa pb pc pk 0) (hq : ¬ (pa = 0 ∧ x.f1 ≠ 0)) : formTo x pa pb pc pk (0 + 1) := ⟨fun _ => hq, fun h => by omega, fun h => by omega, fun h => by omega⟩
theorem form_next1 (h : formTo x pa pb pc pk 1) (hq : ¬ (pb = 0 ∧ x.f2 ≠ 0)) : formTo x pa pb pc pk (1 + 1) := ⟨fun _ => h.1 (by omega), fun _ => hq, fun h => by omega, fun h => by omega⟩
theorem form_next2 (h : formTo x pa pb pc pk 2) (hq : ¬ (pc = 0 ∧ x.f3 ≠ 0)) : formTo x pa pb pc pk (2 + 1) := ⟨fun _ => h.1 (by omega), fun _ => h.2.1 (by omega), fun _ => hq, fun h => by omega⟩
theorem form_next3 (h : formTo x pa pb pc pk 3) (hq : ¬ (pk = 0 ∧ x.f4 ≠ 0)) : formTo x pa pb pc pk (3 + 1) := ⟨fun _ => h.1 (by omega), fun _ => h.2.1 (by omega), fun _ => h.2.2.1 (by omega), fun _ => hq⟩
end
def passTo (np lc : Nat) (x : S65) (pa pb pc pk : Int) (i : Nat) : Prop := (0 < i → fieldE np lc x.f1 pa = none) ∧ (1 < i → fieldE np lc x.f2 pb = none) ∧ (2 < i → fieldE np lc x.f3 pc = none) ∧ (3 < i → fieldE np lc x.f4 pk = none)
section
variable {np lc : Nat} {x : S65} {pa pb pc pk : Int} {E : Option Int}
theorem pass_all (h : passTo np lc x pa pb pc pk 4) : (fieldE np lc x.f1 pa).or ((fieldE np lc x.f2 pb).or ((fieldE np lc x.f3 pc).or ((fieldE np lc x.f4 pk).or E))) = E := by
  rw [h.1 (by omega), h.2.1 (by omega), h.2.2.1 (by omega), h.2.2.2 (by omega)]; rfl
theorem pass_no0 (h : passTo np lc x pa pb pc pk 0) {e : Int} (he : fieldE np lc x.f1 pa = some e) : (fieldE np lc x.f1 pa).or ((fieldE np lc x.f2 pb).or ((fieldE np lc x.f3 pc).or ((fieldE np lc x.f4 pk).or E))) = some e := by
  rw [he]; rfl
theorem pass_no1 (h : passTo np lc x pa pb pc pk 1) {e : Int} (he : fieldE np lc x.f2 pb = some e) : (fieldE np lc x.f1 pa).or ((fieldE np lc x.f2 pb).or ((fieldE np lc x.f3 pc).or ((fieldE np lc x.f4 pk).or E))) = some e := by
  rw [h.1 (by omega), he]; rfl
theorem pass_no2 (h : passTo np lc x pa pb pc pk 2) {e : Int} (he : fieldE np lc x.f3 pc = some e) : (fieldE np lc x.f1 pa).or ((fieldE np lc x.f2 pb).or ((fieldE np lc x.f3 pc).or ((fieldE np lc x.f4 pk).or E))) = some e := by
  rw [h.1 (by omega), h.2.1 (by omega), he]; rfl
theorem pass_no3 (h : passTo np lc x pa pb pc pk 3) {e : Int} (he : fieldE np lc x.f4 pk = some e) : (fieldE np lc x.f1 pa).or ((fieldE np lc x.f2 pb).or ((fieldE np lc x.f3 pc).or ((fieldE np lc x.f4 pk).or E))) = some e := by
  rw [h.1 (by omega), h.2.1 (by omega), h.2.2.1 (by omega), he]; rfl
theorem pass_next0 (h : passTo np lc x pa pb pc pk 0) (he : fieldE np lc x.f1 pa = none) : passTo np lc x pa pb pc pk (0 + 1) := ⟨fun _ => he, fun h => by omega, fun h => by omega, fun h => by omega⟩
theorem pass_next1 (h : passTo np lc x pa pb pc pk 1) (he : fieldE np lc x.f2 pb = none) : passTo np lc x pa pb pc pk (1 + 1) := ⟨fun _ => h.1 (by omega), fun _ => he, fun h => by omega, fun h => by omega⟩
theorem pass_next2 (h : passTo np lc x pa pb pc pk 2) (he : fieldE np lc x.f3 pc = none) : passTo np lc x pa pb pc pk (2 + 1) := ⟨fun _ => h.1 (by omega), fun _ => h.2.1 (by omega), fun _ => he, fun h => by omega⟩
theorem pass_next3 (h : passTo np lc x pa pb pc pk 3) (he : fieldE np lc x.f4 pk = none) : passTo np lc x pa pb pc pk (3 + 1) := ⟨fun _ => h.1 (by omega), fun _ => h.2.1 (by omega), fun _ => h.2.2.1 (by omega), fun _ => he⟩
theorem field_threeN {n : Int} (h : fieldE np lc n 3 = none) : 0 ≤ n ∧ n < np := by
  by_cases hI : inB 0 np n = true
  · simpa [inB] using hI
  · simp [fieldE, hI] at h
theorem field_oneN {n : Int} (h : fieldE np lc n 1 = none) : 0 ≤ n ∧ n < 8 := by
  by_cases hI : inB 0 8 n = true
  · simpa [inB] using hI
  · simp [fieldE, hI] at h
end
set_option maxRecDepth 100000 in
set_option maxHeartbeats 4000000 in
theorem instr_any (A : Option Addr) (c : Nat) (l : List S68) (f : Nat) (at_ : Int) (x : S65) (w : World) (hC : k68.C w A l.length l) (hf : f < l.length) :
    Calls Try.prog 61 #[.agg #[.slice A l.length c, .int .i64 f, .int .i64 at_], .agg #[.int .i64 x.f0, .int .i64 x.f1, .int .i64 x.f2, .int .i64 x.f3, .int .i64 x.f4]] w (stopPost f at_ (instrE l[f].f1.length l x) w) := by
  have hu158 := Try.underlying158
  have hu65 := Try.underlying65
  have hu185 := Try.underlying185
  have hu25 := Try.underlying25
  have hu188 := Try.underlying188
  have hse := shape_eq x.f0
  have h3 := shape_three x.f0
  obtain ⟨⟨pa, pb, pc, pk, is⟩, hsh⟩ : ∃ s, s = shapeP x.f0 := ⟨_, rfl⟩
  have hE := instrE_eq (lc := l[f].f1.length) (l := l) (x := x) hsh.symm
  rw [← hsh] at hse h3
  have hfa : ∀ (n p : Int) (w' : World), k68.C w' A l.length l → Calls Try.prog 81 #[.agg #[.slice A l.length c, .int .i64 f, .int .i64 at_], .int .i64 n, .int .i64 p] w' (stopPost f at_ (fieldE l.length l[f].f1.length n p) w') :=
    fun n p w' h => field_any A c l f at_ n p w' h hf
  obtain ⟨r, hr⟩ : ∃ r, r = instrE l[f].f1.length l x := ⟨_, rfl⟩
  rw [← hr] at hE ⊢
  clear hr
  generalize l[f].f1.length = lc at hE hfa
  have HE := Aside0.mk hE
  have HS := Aside0.mk hse
  have H3 := Aside0.mk h3
  have HC := Aside0.mk hC
  have HFA := Aside0.mk hfa
  have hi0 := fun w' => idx4 (a := .int .i64 pa) (b := .int .i64 pb) (c := .int .i64 pc) (d := .int .i64 pk) (i := 0) w' (.inl ⟨rfl, rfl⟩)
  have hi1 := fun w' => idx4 (a := .int .i64 pa) (b := .int .i64 pb) (c := .int .i64 pc) (d := .int .i64 pk) (i := 1) w' (.inr (.inl ⟨rfl, rfl⟩))
  have hi2 := fun w' => idx4 (a := .int .i64 pa) (b := .int .i64 pb) (c := .int .i64 pc) (d := .int .i64 pk) (i := 2) w' (.inr (.inr (.inl ⟨rfl, rfl⟩)))
  have hi3 := fun w' => idx4 (a := .int .i64 pa) (b := .int .i64 pb) (c := .int .i64 pc) (d := .int .i64 pk) (i := 3) w' (.inr (.inr (.inr ⟨rfl, rfl⟩)))
  have HX := Aside0.mk (IW.start w A l.length c f at_ x)
  clear hse h3 hsh hE hC hf hfa
  go_enter Try.func61, Try.ntmps61
  go_wp2_with fail
  refine (valid_shapeOf.calls 3 x.f0 pa pb pc pk is _ HS.out).mono ?_
  rintro e w1 ⟨rfl, hb1⟩
  have hx1 := HX.out.keep (Keep.of_belowB (hb1.mono HX.out.size))
  clear HX hb1
  have HX := Aside0.mk hx1
  have hx2 := hx1.keep ((Keep.refl (fun b => w.heap.size + 2 ≤ b) w1).alloc (.cells #[.int .i64 pa, .int .i64 pb, .int .i64 pc, .int .i64 pk] 185))
  have hg := alloc_blk w1 (.cells #[.int .i64 pa, .int .i64 pb, .int .i64 pc, .int .i64 pk] 185)
  have hg4 := HX.out.size
  have c0 := blk_cell hx2.b0 0
  have c1 := blk_cell hx2.b0 1
  have c2 := blk_cell hx2.b0 2
  clear hx1 HX
  have HX := Aside0.mk (And.intro hx2 (And.intro hg hg4))
  clear hx2 hg hg4
  go_wp2_with fail
  clear c0 c1 c2
  obtain ⟨hx2, hg, hg4⟩ := HX.out
  clear HX
  generalize w1.heap.size = g4 at hg hg4 ⊢
  generalize w1.alloc (.cells #[.int .i64 pa, .int .i64 pb, .int .i64 pc, .int .i64 pk] 185) = w2 at hx2 hg ⊢
  clear w1
  have HX := Aside0.mk (And.intro hx2 (And.intro hg hg4))
  clear hx2 hg hg4
  refine (need_any A l.length c f at_ 4 is w2).mono ?_
  rintro e w3 ⟨hb3, he⟩
  cases is with
  | false => 
    have hr : r = some 4 := HE.out
    subst hr
    subst he
    exact ⟨rfl, HX.out.1.below.trans (hb3.mono HX.out.1.below.size), rfl⟩
  | true =>
  subst he
  have hx3 := HX.out.1.keep (Keep.of_belowB (hb3.mono HX.out.1.size))
  have hg3 := (hb3.block _ (blk_lt HX.out.2.1)).trans HX.out.2.1
  have hg4 := HX.out.2.2
  clear HX hb3
  have HX := Aside0.mk (And.intro hx3 (And.intro hg3 hg4))
  clear hx3 hg3 hg4 w2
  have he := HE.out
  rw [if_neg (by simp)] at he
  clear HE
  have HE := Aside0.mk he
  clear he
  go_wp2_with fail
  refine wp_region_seq2 (fun w' => Below w3.heap.size w3 w') [] [.take 0, .take 1, .take 2, .take 3, .take 4, .take 5, .take 6, .take 7, .take 8, .take 9, .take 10, .take 11, .take 12, .take 13, .take 14, .take 15, .take 16, .take 17, .pair 18 19, .op 20, .op 21] (by kernel_rfl) (by kernel_rfl) rfl (by kernel_rfl) (panic_via (P := Try.prog) (fn := Try.f61) (fun _ _ _ => rfl)) ?_
  have hs : Below w3.heap.size w3 w3.drew := (Below.refl _ _).drew
  repeat (
    (first
      | (refine runSeq2_take (v := ?_) (by rfl) (by rfl) (fun w' hS => ?_) hs ?_
         rotate_left
         · (have hX := HX.out.1.keep (Keep.of_belowB (hS.mono HX.out.1.size)); have c1 := blk_cell hX.b1 1; have c2 := blk_cell hX.b1 2; have c3 := blk_cell hX.b1 3; have c4 := blk_cell hX.b1 4; have hG := (hS.block _ (blk_lt HX.out.2.1)).trans HX.out.2.1; have g0 := blk_cell hG 0; have g1 := blk_cell hG 1; have g2 := blk_cell hG 2; have g3 := blk_cell hG 3; go_simp; exact rfl))
      | refine runSeq2_skip (by rfl) (by rfl) hs ?_)
    (try simp only [Act.put, List.setIfInBounds_toArray, List.set_cons_zero, List.set_cons_succ]))
  refine runSeq2_two (di := 6) (dj := 7) (Zi := .cells #[.int .i64 0, .int .i64 0, .int .i64 0, .int .i64 0] 25 (0, 0)) (Zj := .cells #[.int .i64 0, .int .i64 0, .int .i64 0, .int .i64 0] 188 (0, 0)) (by rfl) (by rfl) rfl rfl (by intro a w K h; go_simp; exact h) (by intro a w K h; go_simp; exact h) (by decide) (fun w' h o => h.alloc h.size o) hs ?_
  intro b6 b7 w4 hs4 h67 h6 h7 hz6 hz7
  replace h6 : w3.heap.size ≤ b6 := h6
  replace h7 : w3.heap.size ≤ b7 := h7
  (try simp only [Act.put, List.setIfInBounds_toArray, List.set_cons_zero, List.set_cons_succ])
  have hs6 := ((((hs4.setCell (p := ⟨b6, 0, none⟩) h6 (.int .i64 x.f1)).setCell (p := ⟨b6, 1, none⟩) h6 (.int .i64 x.f2)).setCell (p := ⟨b6, 2, none⟩) h6 (.int .i64 x.f3)).setCell (p := ⟨b6, 3, none⟩) h6 (.int .i64 x.f4))
  have e6 := blk_set (blk_set (blk_set (blk_set hz6 0 (.int .i64 x.f1)) 1 (.int .i64 x.f2)) 2 (.int .i64 x.f3)) 3 (.int .i64 x.f4)
  have e7 := blk_other (blk_other (blk_other (blk_other hz7 (Ne.symm h67) 0 (.int .i64 x.f1)) (Ne.symm h67) 1 (.int .i64 x.f2)) (Ne.symm h67) 2 (.int .i64 x.f3)) (Ne.symm h67) 3 (.int .i64 x.f4)
  have G := Aside0.mk (And.intro hs6 (And.intro e6 e7))
  have c0 := blk_cell hz6 0
  have c1 := blk_cell hz6 1
  have c2 := blk_cell hz6 2
  have c3 := blk_cell hz6 3
  have f0 := blk_frozen hz6 0
  have f1 := blk_frozen hz6 1
  have f2 := blk_frozen hz6 2
  have f3 := blk_frozen hz6 3
  clear hs6 e6 e7 hz7 hs4 hs
  refine runSeq2_op (by rfl) (by rfl) (fun K hK => ?_)
  go_simp
  refine hK _ _ G.out.1 ?_
  clear hK K c0 c1 c2 c3 f0 f1 f2 f3 hz6
  obtain ⟨hs5, e6, e7⟩ := G.out
  clear G
  generalize (((w4.setCell ⟨b6, 0, none⟩ (.int .i64 x.f1)).setCell ⟨b6, 1, none⟩ (.int .i64 x.f2)).setCell ⟨b6, 2, none⟩ (.int .i64 x.f3)).setCell ⟨b6, 3, none⟩ (.int .i64 x.f4) = w5 at hs5 e6 e7 ⊢
  clear w4
  have hs7 := ((((hs5.setCell (p := ⟨b7, 0, none⟩) h7 (.int .i64 pa)).setCell (p := ⟨b7, 1, none⟩) h7 (.int .i64 pb)).setCell (p := ⟨b7, 2, none⟩) h7 (.int .i64 pc)).setCell (p := ⟨b7, 3, none⟩) h7 (.int .i64 pk))
  have e7' := blk_set (blk_set (blk_set (blk_set e7 0 (.int .i64 pa)) 1 (.int .i64 pb)) 2 (.int .i64 pc)) 3 (.int .i64 pk)
  have e6' := blk_other (blk_other (blk_other (blk_other e6 h67 0 (.int .i64 pa)) h67 1 (.int .i64 pb)) h67 2 (.int .i64 pc)) h67 3 (.int .i64 pk)
  have G := Aside0.mk (And.intro hs7 (And.intro e6' e7'))
  have c0 := blk_cell e7 0
  have c1 := blk_cell e7 1
  have c2 := blk_cell e7 2
  have c3 := blk_cell e7 3
  have f0 := blk_frozen e7 0
  have f1 := blk_frozen e7 1
  have f2 := blk_frozen e7 2
  have f3 := blk_frozen e7 3
  clear hs7 e7' e6' e6 hs5
  refine runSeq2_op (by rfl) (by rfl) (fun K hK => ?_)
  go_simp
  refine hK _ _ G.out.1 ?_
  clear hK K c0 c1 c2 c3 f0 f1 f2 f3 e7
  obtain ⟨hs6, e6, e7⟩ := G.out
  clear G
  generalize (((w5.setCell ⟨b7, 0, none⟩ (.int .i64 pa)).setCell ⟨b7, 1, none⟩ (.int .i64 pb)).setCell ⟨b7, 2, none⟩ (.int .i64 pc)).setCell ⟨b7, 3, none⟩ (.int .i64 pk) = w6 at hs6 e6 e7 ⊢
  clear w5
  refine runSeq2_nil ?_
  have hx6 := HX.out.1.keep (Keep.of_belowB (hs6.mono HX.out.1.size))
  have hg6 := (hs6.block _ (blk_lt HX.out.2.1)).trans HX.out.2.1
  have HJ := Aside0.mk (JW.mk hx6 hg6 e6 e7)
  have c0 := blk_cell e7 0
  have c1 := blk_cell e7 1
  have c2 := blk_cell e7 2
  have c3 := blk_cell e7 3
  clear hx6 hg6 HX hs6 e6 e7 h67 h6 h7 w3
  go_wp2_with fail
  clear c0 c1 c2 c3
  go_loopw [40] (fun v40 wr => ∃ i : Nat, v40 = .int .i64 i ∧ i ≤ 4 ∧ Aside0 (formTo x pa pb pc pk i) ∧ Aside0 (JW w A l.length c f at_ x g4 b6 b7 pa pb pc pk wr)) (fun v40 _ => 4 - (intOf v40).toNat)
  case atStart => exact ⟨0, rfl, by omega, ⟨by simp [formTo]⟩, HJ⟩
  case round =>
    clear HJ w6
    obtain ⟨i, rfl, hi, HFT, HJ⟩ := hrel
    by_cases hlt : i < 4
    · have : i = 0 ∨ i = 1 ∨ i = 2 ∨ i = 3 := by omega
      clear hlt hi
      rcases this with rfl | rfl | rfl | rfl
      · skip
        go_wp2_with fail
        by_cases hp : pa = 0
        · by_cases hq : x.f1 = 0
          · have HFN := Aside0.mk (form_next0 HFT.out (fun h => h.2 hq))
            have hp2 : (pa != 0) = false := by rw [hp]; rfl
            have hq2 : (x.f1 == 0) = true := by rw [hq]; rfl
            clear hp hq
            refine wp_region_seq (fun w' => Below wr.heap.size wr w') [9] [.take 0, .take 1, .take 2, .take 3, .take 4, .take 5, .take 6, .take 7, .take 8, .fin 9] (by kernel_rfl) (by kernel_rfl) rfl (by kernel_rfl) (panic_via (P := Try.prog) (fn := Try.f61) (fun _ _ _ => rfl)) ?_
            have hs : Below wr.heap.size wr wr.drew := (Below.refl _ _).drew
            repeat (
              (first
                | (refine runSeq_take (v := ?_) (by rfl) (by rfl) (fun w' hS => ?_) hs ?_
                   rotate_left
                   · (have hJ := HJ.out.keep hS; have c0 := blk_cell hJ.iw.b0 0; have c1 := blk_cell hJ.iw.b0 1; have c2 := blk_cell hJ.iw.b0 2; have d := blk_cell hJ.h6 0; go_simp; exact rfl))
                | refine runSeq_skip (by rfl) (by rfl) hs ?_)
              (try simp only [Act.put, List.setIfInBounds_toArray, List.set_cons_zero, List.set_cons_succ]))
            refine runSeq_fin (by rfl) (by rfl) (fun K hK => ?_)
            go_simp
            clear hp2 hq2
            refine (need_ok A l.length c f at_ 4 _).mono ?_
            rintro e w'' ⟨rfl, hb⟩
            refine hK _ _ ?_
            clear hK K
            refine runSeq_nil ?_
            have hj2 := HJ.out.keep (hs.trans (hb.mono hs.size))
            clear HJ hs hb
            have HJ := Aside0.mk hj2
            clear hj2
            go_wp2_with fail
            go_roundw
            case rel => exact ⟨0 + 1, by go_num, by omega, HFN, HJ⟩
            case measure => simp [intOf]
          · have HR := Aside0.mk (HE.out.trans (form_no0 HFT.out hp hq))
            have hp2 : (pa != 0) = false := by rw [hp]; rfl
            have hq2 : (x.f1 == 0) = false := by simp [hq]
            clear hp hq
            refine wp_region_seq (fun w' => Below wr.heap.size wr w') [9] [.take 0, .take 1, .take 2, .take 3, .take 4, .take 5, .take 6, .take 7, .take 8, .fin 9] (by kernel_rfl) (by kernel_rfl) rfl (by kernel_rfl) (panic_via (P := Try.prog) (fn := Try.f61) (fun _ _ _ => rfl)) ?_
            have hs : Below wr.heap.size wr wr.drew := (Below.refl _ _).drew
            repeat (
              (first
                | (refine runSeq_take (v := ?_) (by rfl) (by rfl) (fun w' hS => ?_) hs ?_
                   rotate_left
                   · (have hJ := HJ.out.keep hS; have c0 := blk_cell hJ.iw.b0 0; have c1 := blk_cell hJ.iw.b0 1; have c2 := blk_cell hJ.iw.b0 2; have d := blk_cell hJ.h6 0; go_simp; exact rfl))
                | refine runSeq_skip (by rfl) (by rfl) hs ?_)
              (try simp only [Act.put, List.setIfInBounds_toArray, List.set_cons_zero, List.set_cons_succ]))
            refine runSeq_fin (by rfl) (by rfl) (fun K hK => ?_)
            go_simp
            refine (need_no A l.length c f at_ 4 _).mono ?_
            rintro e w'' ⟨rfl, hb⟩
            have hr := HR.out
            subst hr
            exact ⟨rfl, HJ.out.iw.below.trans ((hs.trans (hb.mono hs.size)).mono HJ.out.iw.below.size), rfl⟩
        · have HFN := Aside0.mk (form_next0 HFT.out (fun h => hp h.1))
          have hp2 : (pa != 0) = true := by simp [hp]
          clear hp
          refine wp_region_seq (fun w' => Below wr.heap.size wr w') [9] [.take 0, .take 1, .take 2, .take 3, .take 4, .take 5, .take 6, .take 7, .take 8, .fin 9] (by kernel_rfl) (by kernel_rfl) rfl (by kernel_rfl) (panic_via (P := Try.prog) (fn := Try.f61) (fun _ _ _ => rfl)) ?_
          have hs : Below wr.heap.size wr wr.drew := (Below.refl _ _).drew
          repeat (
            (first
              | (refine runSeq_take (v := ?_) (by rfl) (by rfl) (fun w' hS => ?_) hs ?_
                 rotate_left
                 · (have hJ := HJ.out.keep hS; have c0 := blk_cell hJ.iw.b0 0; have c1 := blk_cell hJ.iw.b0 1; have c2 := blk_cell hJ.iw.b0 2; have d := blk_cell hJ.h6 0; go_simp; exact rfl))
              | refine runSeq_skip (by rfl) (by rfl) hs ?_)
            (try simp only [Act.put, List.setIfInBounds_toArray, List.set_cons_zero, List.set_cons_succ]))
          refine runSeq_fin (by rfl) (by rfl) (fun K hK => ?_)
          go_simp
          clear hp2
          refine (need_ok A l.length c f at_ 4 _).mono ?_
          rintro e w'' ⟨rfl, hb⟩
          refine hK _ _ ?_
          clear hK K
          refine runSeq_nil ?_
          have hj2 := HJ.out.keep (hs.trans (hb.mono hs.size))
          clear HJ hs hb
          have HJ := Aside0.mk hj2
          clear hj2
          go_wp2_with fail
          go_roundw
          case rel => exact ⟨0 + 1, by go_num, by omega, HFN, HJ⟩
          case measure => simp [intOf]
      · skip
        go_wp2_with fail
        by_cases hp : pb = 0
        · by_cases hq : x.f2 = 0
          · have HFN := Aside0.mk (form_next1 HFT.out (fun h => h.2 hq))
            have hp2 : (pb != 0) = false := by rw [hp]; rfl
            have hq2 : (x.f2 == 0) = true := by rw [hq]; rfl
            clear hp hq
            refine wp_region_seq (fun w' => Below wr.heap.size wr w') [9] [.take 0, .take 1, .take 2, .take 3, .take 4, .take 5, .take 6, .take 7, .take 8, .fin 9] (by kernel_rfl) (by kernel_rfl) rfl (by kernel_rfl) (panic_via (P := Try.prog) (fn := Try.f61) (fun _ _ _ => rfl)) ?_
            have hs : Below wr.heap.size wr wr.drew := (Below.refl _ _).drew
            repeat (
              (first
                | (refine runSeq_take (v := ?_) (by rfl) (by rfl) (fun w' hS => ?_) hs ?_
                   rotate_left
                   · (have hJ := HJ.out.keep hS; have c0 := blk_cell hJ.iw.b0 0; have c1 := blk_cell hJ.iw.b0 1; have c2 := blk_cell hJ.iw.b0 2; have d := blk_cell hJ.h6 1; go_simp; exact rfl))
                | refine runSeq_skip (by rfl) (by rfl) hs ?_)
              (try simp only [Act.put, List.setIfInBounds_toArray, List.set_cons_zero, List.set_cons_succ]))
            refine runSeq_fin (by rfl) (by rfl) (fun K hK => ?_)
            go_simp
            clear hp2 hq2
            refine (need_ok A l.length c f at_ 4 _).mono ?_
            rintro e w'' ⟨rfl, hb⟩
            refine hK _ _ ?_
            clear hK K
            refine runSeq_nil ?_
            have hj2 := HJ.out.keep (hs.trans (hb.mono hs.size))
            clear HJ hs hb
            have HJ := Aside0.mk hj2
            clear hj2
            go_wp2_with fail
            go_roundw
            case rel => exact ⟨1 + 1, by go_num, by omega, HFN, HJ⟩
            case measure => simp [intOf]
          · have HR := Aside0.mk (HE.out.trans (form_no1 HFT.out hp hq))
            have hp2 : (pb != 0) = false := by rw [hp]; rfl
            have hq2 : (x.f2 == 0) = false := by simp [hq]
            clear hp hq
            refine wp_region_seq (fun w' => Below wr.heap.size wr w') [9] [.take 0, .take 1, .take 2, .take 3, .take 4, .take 5, .take 6, .take 7, .take 8, .fin 9] (by kernel_rfl) (by kernel_rfl) rfl (by kernel_rfl) (panic_via (P := Try.prog) (fn := Try.f61) (fun _ _ _ => rfl)) ?_
            have hs : Below wr.heap.size wr wr.drew := (Below.refl _ _).drew
            repeat (
              (first
                | (refine runSeq_take (v := ?_) (by rfl) (by rfl) (fun w' hS => ?_) hs ?_
                   rotate_left
                   · (have hJ := HJ.out.keep hS; have c0 := blk_cell hJ.iw.b0 0; have c1 := blk_cell hJ.iw.b0 1; have c2 := blk_cell hJ.iw.b0 2; have d := blk_cell hJ.h6 1; go_simp; exact rfl))
                | refine runSeq_skip (by rfl) (by rfl) hs ?_)
              (try simp only [Act.put, List.setIfInBounds_toArray, List.set_cons_zero, List.set_cons_succ]))
            refine runSeq_fin (by rfl) (by rfl) (fun K hK => ?_)
            go_simp
            refine (need_no A l.length c f at_ 4 _).mono ?_
            rintro e w'' ⟨rfl, hb⟩
            have hr := HR.out
            subst hr
            exact ⟨rfl, HJ.out.iw.below.trans ((hs.trans (hb.mono hs.size)).mono HJ.out.iw.below.size), rfl⟩
        · have HFN := Aside0.mk (form_next1 HFT.out (fun h => hp h.1))
          have hp2 : (pb != 0) = true := by simp [hp]
          clear hp
          refine wp_region_seq (fun w' => Below wr.heap.size wr w') [9] [.take 0, .take 1, .take 2, .take 3, .take 4, .take 5, .take 6, .take 7, .take 8, .fin 9] (by kernel_rfl) (by kernel_rfl) rfl (by kernel_rfl) (panic_via (P := Try.prog) (fn := Try.f61) (fun _ _ _ => rfl)) ?_
          have hs : Below wr.heap.size wr wr.drew := (Below.refl _ _).drew
          repeat (
            (first
              | (refine runSeq_take (v := ?_) (by rfl) (by rfl) (fun w' hS => ?_) hs ?_
                 rotate_left
                 · (have hJ := HJ.out.keep hS; have c0 := blk_cell hJ.iw.b0 0; have c1 := blk_cell hJ.iw.b0 1; have c2 := blk_cell hJ.iw.b0 2; have d := blk_cell hJ.h6 1; go_simp; exact rfl))
              | refine runSeq_skip (by rfl) (by rfl) hs ?_)
            (try simp only [Act.put, List.setIfInBounds_toArray, List.set_cons_zero, List.set_cons_succ]))
          refine runSeq_fin (by rfl) (by rfl) (fun K hK => ?_)
          go_simp
          clear hp2
          refine (need_ok A l.length c f at_ 4 _).mono ?_
          rintro e w'' ⟨rfl, hb⟩
          refine hK _ _ ?_
          clear hK K
          refine runSeq_nil ?_
          have hj2 := HJ.out.keep (hs.trans (hb.mono hs.size))
          clear HJ hs hb
          have HJ := Aside0.mk hj2
          clear hj2
          go_wp2_with fail
          go_roundw
          case rel => exact ⟨1 + 1, by go_num, by omega, HFN, HJ⟩
          case measure => simp [intOf]
      · skip
        go_wp2_with fail
        by_cases hp : pc = 0
        · by_cases hq : x.f3 = 0
          · have HFN := Aside0.mk (form_next2 HFT.out (fun h => h.2 hq))
            have hp2 : (pc != 0) = false := by rw [hp]; rfl
            have hq2 : (x.f3 == 0) = true := by rw [hq]; rfl
            clear hp hq
            refine wp_region_seq (fun w' => Below wr.heap.size wr w') [9] [.take 0, .take 1, .take 2, .take 3, .take 4, .take 5, .take 6, .take 7, .take 8, .fin 9] (by kernel_rfl) (by kernel_rfl) rfl (by kernel_rfl) (panic_via (P := Try.prog) (fn := Try.f61) (fun _ _ _ => rfl)) ?_
            have hs : Below wr.heap.size wr wr.drew := (Below.refl _ _).drew
            repeat (
              (first
                | (refine runSeq_take (v := ?_) (by rfl) (by rfl) (fun w' hS => ?_) hs ?_
                   rotate_left
                   · (have hJ := HJ.out.keep hS; have c0 := blk_cell hJ.iw.b0 0; have c1 := blk_cell hJ.iw.b0 1; have c2 := blk_cell hJ.iw.b0 2; have d := blk_cell hJ.h6 2; go_simp; exact rfl))
                | refine runSeq_skip (by rfl) (by rfl) hs ?_)
              (try simp only [Act.put, List.setIfInBounds_toArray, List.set_cons_zero, List.set_cons_succ]))
            refine runSeq_fin (by rfl) (by rfl) (fun K hK => ?_)
            go_simp
            clear hp2 hq2
            refine (need_ok A l.length c f at_ 4 _).mono ?_
            rintro e w'' ⟨rfl, hb⟩
            refine hK _ _ ?_
            clear hK K
            refine runSeq_nil ?_
            have hj2 := HJ.out.keep (hs.trans (hb.mono hs.size))
            clear HJ hs hb
            have HJ := Aside0.mk hj2
            clear hj2
            go_wp2_with fail
            go_roundw
            case rel => exact ⟨2 + 1, by go_num, by omega, HFN, HJ⟩
            case measure => simp [intOf]
          · have HR := Aside0.mk (HE.out.trans (form_no2 HFT.out hp hq))
            have hp2 : (pc != 0) = false := by rw [hp]; rfl
            have hq2 : (x.f3 == 0) = false := by simp [hq]
            clear hp hq
            refine wp_region_seq (fun w' => Below wr.heap.size wr w') [9] [.take 0, .take 1, .take 2, .take 3, .take 4, .take 5, .take 6, .take 7, .take 8, .fin 9] (by kernel_rfl) (by kernel_rfl) rfl (by kernel_rfl) (panic_via (P := Try.prog) (fn := Try.f61) (fun _ _ _ => rfl)) ?_
            have hs : Below wr.heap.size wr wr.drew := (Below.refl _ _).drew
            repeat (
              (first
                | (refine runSeq_take (v := ?_) (by rfl) (by rfl) (fun w' hS => ?_) hs ?_
                   rotate_left
                   · (have hJ := HJ.out.keep hS; have c0 := blk_cell hJ.iw.b0 0; have c1 := blk_cell hJ.iw.b0 1; have c2 := blk_cell hJ.iw.b0 2; have d := blk_cell hJ.h6 2; go_simp; exact rfl))
                | refine runSeq_skip (by rfl) (by rfl) hs ?_)
              (try simp only [Act.put, List.setIfInBounds_toArray, List.set_cons_zero, List.set_cons_succ]))
            refine runSeq_fin (by rfl) (by rfl) (fun K hK => ?_)
            go_simp
            refine (need_no A l.length c f at_ 4 _).mono ?_
            rintro e w'' ⟨rfl, hb⟩
            have hr := HR.out
            subst hr
            exact ⟨rfl, HJ.out.iw.below.trans ((hs.trans (hb.mono hs.size)).mono HJ.out.iw.below.size), rfl⟩
        · have HFN := Aside0.mk (form_next2 HFT.out (fun h => hp h.1))
          have hp2 : (pc != 0) = true := by simp [hp]
          clear hp
          refine wp_region_seq (fun w' => Below wr.heap.size wr w') [9] [.take 0, .take 1, .take 2, .take 3, .take 4, .take 5, .take 6, .take 7, .take 8, .fin 9] (by kernel_rfl) (by kernel_rfl) rfl (by kernel_rfl) (panic_via (P := Try.prog) (fn := Try.f61) (fun _ _ _ => rfl)) ?_
          have hs : Below wr.heap.size wr wr.drew := (Below.refl _ _).drew
          repeat (
            (first
              | (refine runSeq_take (v := ?_) (by rfl) (by rfl) (fun w' hS => ?_) hs ?_
                 rotate_left
                 · (have hJ := HJ.out.keep hS; have c0 := blk_cell hJ.iw.b0 0; have c1 := blk_cell hJ.iw.b0 1; have c2 := blk_cell hJ.iw.b0 2; have d := blk_cell hJ.h6 2; go_simp; exact rfl))
              | refine runSeq_skip (by rfl) (by rfl) hs ?_)
            (try simp only [Act.put, List.setIfInBounds_toArray, List.set_cons_zero, List.set_cons_succ]))
          refine runSeq_fin (by rfl) (by rfl) (fun K hK => ?_)
          go_simp
          clear hp2
          refine (need_ok A l.length c f at_ 4 _).mono ?_
          rintro e w'' ⟨rfl, hb⟩
          refine hK _ _ ?_
          clear hK K
          refine runSeq_nil ?_
          have hj2 := HJ.out.keep (hs.trans (hb.mono hs.size))
          clear HJ hs hb
          have HJ := Aside0.mk hj2
          clear hj2
          go_wp2_with fail
          go_roundw
          case rel => exact ⟨2 + 1, by go_num, by omega, HFN, HJ⟩
          case measure => simp [intOf]
      · skip
        go_wp2_with fail
        by_cases hp : pk = 0
        · by_cases hq : x.f4 = 0
          · have HFN := Aside0.mk (form_next3 HFT.out (fun h => h.2 hq))
            have hp2 : (pk != 0) = false := by rw [hp]; rfl
            have hq2 : (x.f4 == 0) = true := by rw [hq]; rfl
            clear hp hq
            refine wp_region_seq (fun w' => Below wr.heap.size wr w') [9] [.take 0, .take 1, .take 2, .take 3, .take 4, .take 5, .take 6, .take 7, .take 8, .fin 9] (by kernel_rfl) (by kernel_rfl) rfl (by kernel_rfl) (panic_via (P := Try.prog) (fn := Try.f61) (fun _ _ _ => rfl)) ?_
            have hs : Below wr.heap.size wr wr.drew := (Below.refl _ _).drew
            repeat (
              (first
                | (refine runSeq_take (v := ?_) (by rfl) (by rfl) (fun w' hS => ?_) hs ?_
                   rotate_left
                   · (have hJ := HJ.out.keep hS; have c0 := blk_cell hJ.iw.b0 0; have c1 := blk_cell hJ.iw.b0 1; have c2 := blk_cell hJ.iw.b0 2; have d := blk_cell hJ.h6 3; go_simp; exact rfl))
                | refine runSeq_skip (by rfl) (by rfl) hs ?_)
              (try simp only [Act.put, List.setIfInBounds_toArray, List.set_cons_zero, List.set_cons_succ]))
            refine runSeq_fin (by rfl) (by rfl) (fun K hK => ?_)
            go_simp
            clear hp2 hq2
            refine (need_ok A l.length c f at_ 4 _).mono ?_
            rintro e w'' ⟨rfl, hb⟩
            refine hK _ _ ?_
            clear hK K
            refine runSeq_nil ?_
            have hj2 := HJ.out.keep (hs.trans (hb.mono hs.size))
            clear HJ hs hb
            have HJ := Aside0.mk hj2
            clear hj2
            go_wp2_with fail
            go_roundw
            case rel => exact ⟨3 + 1, by go_num, by omega, HFN, HJ⟩
            case measure => simp [intOf]
          · have HR := Aside0.mk (HE.out.trans (form_no3 HFT.out hp hq))
            have hp2 : (pk != 0) = false := by rw [hp]; rfl
            have hq2 : (x.f4 == 0) = false := by simp [hq]
            clear hp hq
            refine wp_region_seq (fun w' => Below wr.heap.size wr w') [9] [.take 0, .take 1, .take 2, .take 3, .take 4, .take 5, .take 6, .take 7, .take 8, .fin 9] (by kernel_rfl) (by kernel_rfl) rfl (by kernel_rfl) (panic_via (P := Try.prog) (fn := Try.f61) (fun _ _ _ => rfl)) ?_
            have hs : Below wr.heap.size wr wr.drew := (Below.refl _ _).drew
            repeat (
              (first
                | (refine runSeq_take (v := ?_) (by rfl) (by rfl) (fun w' hS => ?_) hs ?_
                   rotate_left
                   · (have hJ := HJ.out.keep hS; have c0 := blk_cell hJ.iw.b0 0; have c1 := blk_cell hJ.iw.b0 1; have c2 := blk_cell hJ.iw.b0 2; have d := blk_cell hJ.h6 3; go_simp; exact rfl))
                | refine runSeq_skip (by rfl) (by rfl) hs ?_)
              (try simp only [Act.put, List.setIfInBounds_toArray, List.set_cons_zero, List.set_cons_succ]))
            refine runSeq_fin (by rfl) (by rfl) (fun K hK => ?_)
            go_simp
            refine (need_no A l.length c f at_ 4 _).mono ?_
            rintro e w'' ⟨rfl, hb⟩
            have hr := HR.out
            subst hr
            exact ⟨rfl, HJ.out.iw.below.trans ((hs.trans (hb.mono hs.size)).mono HJ.out.iw.below.size), rfl⟩
        · have HFN := Aside0.mk (form_next3 HFT.out (fun h => hp h.1))
          have hp2 : (pk != 0) = true := by simp [hp]
          clear hp
          refine wp_region_seq (fun w' => Below wr.heap.size wr w') [9] [.take 0, .take 1, .take 2, .take 3, .take 4, .take 5, .take 6, .take 7, .take 8, .fin 9] (by kernel_rfl) (by kernel_rfl) rfl (by kernel_rfl) (panic_via (P := Try.prog) (fn := Try.f61) (fun _ _ _ => rfl)) ?_
          have hs : Below wr.heap.size wr wr.drew := (Below.refl _ _).drew
          repeat (
            (first
              | (refine runSeq_take (v := ?_) (by rfl) (by rfl) (fun w' hS => ?_) hs ?_
                 rotate_left
                 · (have hJ := HJ.out.keep hS; have c0 := blk_cell hJ.iw.b0 0; have c1 := blk_cell hJ.iw.b0 1; have c2 := blk_cell hJ.iw.b0 2; have d := blk_cell hJ.h6 3; go_simp; exact rfl))
              | refine runSeq_skip (by rfl) (by rfl) hs ?_)
            (try simp only [Act.put, List.setIfInBounds_toArray, List.set_cons_zero, List.set_cons_succ]))
          refine runSeq_fin (by rfl) (by rfl) (fun K hK => ?_)
          go_simp
          clear hp2
          refine (need_ok A l.length c f at_ 4 _).mono ?_
          rintro e w'' ⟨rfl, hb⟩
          refine hK _ _ ?_
          clear hK K
          refine runSeq_nil ?_
          have hj2 := HJ.out.keep (hs.trans (hb.mono hs.size))
          clear HJ hs hb
          have HJ := Aside0.mk hj2
          clear hj2
          go_wp2_with fail
          go_roundw
          case rel => exact ⟨3 + 1, by go_num, by omega, HFN, HJ⟩
          case measure => simp [intOf]
    · obtain rfl : i = 4 := by omega
      clear hlt hi
      rw [show ((4 : Nat) : Int) = 4 from rfl]
      have c0 := blk_cell HJ.out.h7 0
      have c1 := blk_cell HJ.out.h7 1
      have c2 := blk_cell HJ.out.h7 2
      have c3 := blk_cell HJ.out.h7 3
      go_wp2_with fail
      clear c0 c1 c2 c3
      have he := HE.out.trans (form_all HFT.out)
      clear HE HFT
      have HE := Aside0.mk he
      clear he
      go_loopw [56] (fun v56 wr => ∃ i : Nat, v56 = .int .i64 i ∧ i ≤ 4 ∧ Aside0 (passTo l.length lc x pa pb pc pk i) ∧ Aside0 (JW w A l.length c f at_ x g4 b6 b7 pa pb pc pk wr)) (fun v56 _ => 4 - (intOf v56).toNat)
      case atStart => exact ⟨0, rfl, by omega, ⟨by simp [passTo]⟩, HJ⟩
      case round =>
        clear HJ
        obtain ⟨i, rfl, hi, HFT, HJ⟩ := hrel
        by_cases hlt : i < 4
        · have : i = 0 ∨ i = 1 ∨ i = 2 ∨ i = 3 := by omega
          clear hlt hi
          rcases this with rfl | rfl | rfl | rfl
          · skip
            go_wp2_with fail
            refine wp_region_seq (fun w' => Below wr.heap.size wr w') [5] [.take 0, .take 1, .take 2, .take 3, .take 4, .fin 5] (by kernel_rfl) (by kernel_rfl) rfl (by kernel_rfl) (panic_via (P := Try.prog) (fn := Try.f61) (fun _ _ _ => rfl)) ?_
            have hs : Below wr.heap.size wr wr.drew := (Below.refl _ _).drew
            repeat (
              (first
                | (refine runSeq_take (v := ?_) (by rfl) (by rfl) (fun w' hS => ?_) hs ?_
                   rotate_left
                   · (have hJ := HJ.out.keep hS; have c0 := blk_cell hJ.iw.b0 0; have c1 := blk_cell hJ.iw.b0 1; have c2 := blk_cell hJ.iw.b0 2; have d := blk_cell hJ.h6 0; go_simp; exact rfl))
                | refine runSeq_skip (by rfl) (by rfl) hs ?_)
              (try simp only [Act.put, List.setIfInBounds_toArray, List.set_cons_zero, List.set_cons_succ]))
            refine runSeq_fin (by rfl) (by rfl) (fun K hK => ?_)
            go_simp
            refine (HFA.out x.f1 pa _ (Kd.C_below HC.out (HJ.out.iw.below.trans (hs.mono HJ.out.iw.below.size)))).mono ?_
            rintro e w'' ⟨hb, he⟩
            have hj2 := HJ.out.keep (hs.trans (hb.mono hs.size))
            clear HJ hs hb
            have HJ := Aside0.mk hj2
            clear hj2
            cases hE : fieldE l.length lc x.f1 pa with
            | some q =>
              rw [hE] at he
              subst he
              have hr := HE.out.trans (pass_no0 HFT.out hE)
              subst hr
              exact ⟨rfl, HJ.out.iw.below, rfl⟩
            | none =>
            rw [hE] at he
            subst he
            have HFN := Aside0.mk (pass_next0 HFT.out hE)
            clear hE
            refine hK _ _ ?_
            clear hK K
            refine runSeq_nil ?_
            go_wp2_with fail
            go_roundw
            case rel => exact ⟨0 + 1, by go_num, by omega, HFN, HJ⟩
            case measure => simp [intOf]
          · skip
            go_wp2_with fail
            refine wp_region_seq (fun w' => Below wr.heap.size wr w') [5] [.take 0, .take 1, .take 2, .take 3, .take 4, .fin 5] (by kernel_rfl) (by kernel_rfl) rfl (by kernel_rfl) (panic_via (P := Try.prog) (fn := Try.f61) (fun _ _ _ => rfl)) ?_
            have hs : Below wr.heap.size wr wr.drew := (Below.refl _ _).drew
            repeat (
              (first
                | (refine runSeq_take (v := ?_) (by rfl) (by rfl) (fun w' hS => ?_) hs ?_
                   rotate_left
                   · (have hJ := HJ.out.keep hS; have c0 := blk_cell hJ.iw.b0 0; have c1 := blk_cell hJ.iw.b0 1; have c2 := blk_cell hJ.iw.b0 2; have d := blk_cell hJ.h6 1; go_simp; exact rfl))
                | refine runSeq_skip (by rfl) (by rfl) hs ?_)
              (try simp only [Act.put, List.setIfInBounds_toArray, List.set_cons_zero, List.set_cons_succ]))
            refine runSeq_fin (by rfl) (by rfl) (fun K hK => ?_)
            go_simp
            refine (HFA.out x.f2 pb _ (Kd.C_below HC.out (HJ.out.iw.below.trans (hs.mono HJ.out.iw.below.size)))).mono ?_
            rintro e w'' ⟨hb, he⟩
            have hj2 := HJ.out.keep (hs.trans (hb.mono hs.size))
            clear HJ hs hb
            have HJ := Aside0.mk hj2
            clear hj2
            cases hE : fieldE l.length lc x.f2 pb with
            | some q =>
              rw [hE] at he
              subst he
              have hr := HE.out.trans (pass_no1 HFT.out hE)
              subst hr
              exact ⟨rfl, HJ.out.iw.below, rfl⟩
            | none =>
            rw [hE] at he
            subst he
            have HFN := Aside0.mk (pass_next1 HFT.out hE)
            clear hE
            refine hK _ _ ?_
            clear hK K
            refine runSeq_nil ?_
            go_wp2_with fail
            go_roundw
            case rel => exact ⟨1 + 1, by go_num, by omega, HFN, HJ⟩
            case measure => simp [intOf]
          · skip
            go_wp2_with fail
            refine wp_region_seq (fun w' => Below wr.heap.size wr w') [5] [.take 0, .take 1, .take 2, .take 3, .take 4, .fin 5] (by kernel_rfl) (by kernel_rfl) rfl (by kernel_rfl) (panic_via (P := Try.prog) (fn := Try.f61) (fun _ _ _ => rfl)) ?_
            have hs : Below wr.heap.size wr wr.drew := (Below.refl _ _).drew
            repeat (
              (first
                | (refine runSeq_take (v := ?_) (by rfl) (by rfl) (fun w' hS => ?_) hs ?_
                   rotate_left
                   · (have hJ := HJ.out.keep hS; have c0 := blk_cell hJ.iw.b0 0; have c1 := blk_cell hJ.iw.b0 1; have c2 := blk_cell hJ.iw.b0 2; have d := blk_cell hJ.h6 2; go_simp; exact rfl))
                | refine runSeq_skip (by rfl) (by rfl) hs ?_)
              (try simp only [Act.put, List.setIfInBounds_toArray, List.set_cons_zero, List.set_cons_succ]))
            refine runSeq_fin (by rfl) (by rfl) (fun K hK => ?_)
            go_simp
            refine (HFA.out x.f3 pc _ (Kd.C_below HC.out (HJ.out.iw.below.trans (hs.mono HJ.out.iw.below.size)))).mono ?_
            rintro e w'' ⟨hb, he⟩
            have hj2 := HJ.out.keep (hs.trans (hb.mono hs.size))
            clear HJ hs hb
            have HJ := Aside0.mk hj2
            clear hj2
            cases hE : fieldE l.length lc x.f3 pc with
            | some q =>
              rw [hE] at he
              subst he
              have hr := HE.out.trans (pass_no2 HFT.out hE)
              subst hr
              exact ⟨rfl, HJ.out.iw.below, rfl⟩
            | none =>
            rw [hE] at he
            subst he
            have HFN := Aside0.mk (pass_next2 HFT.out hE)
            clear hE
            refine hK _ _ ?_
            clear hK K
            refine runSeq_nil ?_
            go_wp2_with fail
            go_roundw
            case rel => exact ⟨2 + 1, by go_num, by omega, HFN, HJ⟩
            case measure => simp [intOf]
          · skip
            go_wp2_with fail
            refine wp_region_seq (fun w' => Below wr.heap.size wr w') [5] [.take 0, .take 1, .take 2, .take 3, .take 4, .fin 5] (by kernel_rfl) (by kernel_rfl) rfl (by kernel_rfl) (panic_via (P := Try.prog) (fn := Try.f61) (fun _ _ _ => rfl)) ?_
            have hs : Below wr.heap.size wr wr.drew := (Below.refl _ _).drew
            repeat (
              (first
                | (refine runSeq_take (v := ?_) (by rfl) (by rfl) (fun w' hS => ?_) hs ?_
                   rotate_left
                   · (have hJ := HJ.out.keep hS; have c0 := blk_cell hJ.iw.b0 0; have c1 := blk_cell hJ.iw.b0 1; have c2 := blk_cell hJ.iw.b0 2; have d := blk_cell hJ.h6 3; go_simp; exact rfl))
                | refine runSeq_skip (by rfl) (by rfl) hs ?_)
              (try simp only [Act.put, List.setIfInBounds_toArray, List.set_cons_zero, List.set_cons_succ]))
            refine runSeq_fin (by rfl) (by rfl) (fun K hK => ?_)
            go_simp
            refine (HFA.out x.f4 pk _ (Kd.C_below HC.out (HJ.out.iw.below.trans (hs.mono HJ.out.iw.below.size)))).mono ?_
            rintro e w'' ⟨hb, he⟩
            have hj2 := HJ.out.keep (hs.trans (hb.mono hs.size))
            clear HJ hs hb
            have HJ := Aside0.mk hj2
            clear hj2
            cases hE : fieldE l.length lc x.f4 pk with
            | some q =>
              rw [hE] at he
              subst he
              have hr := HE.out.trans (pass_no3 HFT.out hE)
              subst hr
              exact ⟨rfl, HJ.out.iw.below, rfl⟩
            | none =>
            rw [hE] at he
            subst he
            have HFN := Aside0.mk (pass_next3 HFT.out hE)
            clear hE
            refine hK _ _ ?_
            clear hK K
            refine runSeq_nil ?_
            go_wp2_with fail
            go_roundw
            case rel => exact ⟨3 + 1, by go_num, by omega, HFN, HJ⟩
            case measure => simp [intOf]
        · obtain rfl : i = 4 := by omega
          clear hlt hi
          have he := HE.out.trans (pass_all HFT.out)
          clear HE
          have HE := Aside0.mk he
          clear he
          have c2 := blk_cell HJ.out.h4 2
          by_cases hc3 : pc = 3
          · subst hc3
            have hb1 := H3.out rfl
            subst hb1
            have hB := field_oneN (HFT.out.2.1 (by omega))
            have hCc := field_threeN (HFT.out.2.2.1 (by omega))
            have hx3 : (x.f3.toNat : Int) = x.f3 := Int.toNat_of_nonneg hCc.1
            obtain ⟨ad, Ai, ci, rfl, p0, p1, hci, hCi⟩ := at_T68 HC.out x.f3 hCc.1 hCc.2
            have p0' := (HJ.out.iw.below.cell (World.block_lt_of_cell? w _ p0)).trans p0
            have hE2 : r = if (rd_T68 l x.f3).f0 ≤ 8 - x.f2 then none else some 6 := HE.out
            have HP := Aside0.mk (And.intro hE2 p0')
            have hw8 : wrap64 (8 - x.f2) = 8 - x.f2 := by unfold wrap64; omega
            have hlt3 : (x.f3 < (l.length : Int)) = True := eq_true hCc.2
            have h03 : (0 ≤ x.f3) = True := eq_true hCc.1
            have HW := Aside0.mk (And.intro hw8 hCc)
            clear p0 p1 hci hCi p0' hE2 hx3 hB hw8
            go_wp2_with fail
            refine wp_region_seq (fun w' => Below wr.heap.size wr w') [12] [.take 0, .take 1, .take 2, .take 3, .take 4, .take 5, .take 6, .take 7, .take 8, .take 9, .take 10, .take 11, .fin 12] (by kernel_rfl) (by kernel_rfl) rfl (by kernel_rfl) (panic_via (P := Try.prog) (fn := Try.f61) (fun _ _ _ => rfl)) ?_
            have hs : Below wr.heap.size wr wr.drew := (Below.refl _ _).drew
            clear c2
            repeat (
              (first
                | (refine runSeq_take (v := ?_) (by rfl) (by rfl) (fun w' hS => ?_) hs ?_
                   rotate_left
                   · (have hJ := HJ.out.keep hS; have c0 := blk_cell hJ.iw.b0 0; have c1 := blk_cell hJ.iw.b0 1; have c2 := blk_cell hJ.iw.b0 2; have d2 := blk_cell hJ.iw.b1 2; have d3 := blk_cell hJ.iw.b1 3; have q0 := (hS.cell (World.block_lt_of_cell? wr _ HP.out.2)).trans HP.out.2; have hw8 := HW.out.1; go_simp; exact rfl))
                | refine runSeq_skip (by rfl) (by rfl) hs ?_)
              (try simp only [Act.put, List.setIfInBounds_toArray, List.set_cons_zero, List.set_cons_succ]))
            refine runSeq_fin (by rfl) (by rfl) (fun K hK => ?_)
            go_simp
            rw [show IntKind.i64.wrap (8 - x.f2) = 8 - x.f2 from (i64_w _).trans HW.out.1]
            refine (need_any (some ad) l.length c f at_ 6 _ _).mono ?_
            rintro e w'' ⟨hb, he⟩
            have hb2 := HJ.out.iw.below.trans ((hs.trans (hb.mono hs.size)).mono HJ.out.iw.below.size)
            have hr := HP.out.1
            clear hs hb HJ
            have HB2 := Aside0.mk hb2
            clear hb2
            by_cases hle : (rd_T68 l x.f3).f0 ≤ 8 - x.f2
            · rw [if_pos (decide_eq_true hle)] at he
              rw [if_pos hle] at hr
              subst he
              refine hK _ _ ?_
              clear hK K hle
              refine runSeq_nil ?_
              have HR := Aside0.mk hr
              clear hr
              go_wp2_with fail
              go_end0
              have hr := HR.out
              subst hr
              exact ⟨HB2.out, rfl⟩
            · rw [if_neg (fun h => hle (of_decide_eq_true h))] at he
              rw [if_neg hle] at hr
              subst he
              subst hr
              exact ⟨rfl, HB2.out, rfl⟩
          · have hc3' : (pc == 3) = false := by simp [hc3]
            have hr : r = none := by rw [HE.out]; exact if_neg hc3
            have HR := Aside0.mk hr
            clear hr hc3
            go_wp2_with fail
            go_end0
            have hr := HR.out
            subst hr
            exact ⟨HJ.out.iw.below, rfl⟩
end Go.Proofs.Ytcciejcpijlkfaa.H

