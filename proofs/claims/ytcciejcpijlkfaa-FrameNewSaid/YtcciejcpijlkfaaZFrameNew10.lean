/- What the proof of FrameNew stands on, part 10: this session's own texts and the words that the kit's print lays, those that are used. -/
import Derived.Test.YtcciejcpijlkfaaZFrameNew9
import Derived.Maps.OwnOps
import Derived.Maps.OwnSet
import Derived.Maps.Views
set_option linter.unusedVariables false
set_option linter.unusedSimpArgs false
namespace Go.Proofs.Ytcciejcpijlkfaa.H
open Go.RowKit Go.Hay Go.Proofs.YtcciejcpijlkfaaW.PrintWords Go.Proofs.YtcciejcpijlkfaaW.PrintLast Go.Proofs.YtcciejcpijlkfaaW.PrintMore
theorem wrap_i64F (x : Int) : IntKind.i64.wrap x = wrap64 x := IntWalk.i64_left x
section
variable {A : Option Addr} {n c : Nat} {b d : Int} {fb : Nat} {vp : Value} {F : Fr} {w : World}
set_option maxRecDepth 100000 in
set_option maxHeartbeats 8000000 in
theorem dreckon_add (h : FB fb F vp w) (x : S65) (hop : x.f0 = 3) (ha : 0 ≤ x.f1 ∧ x.f1 < 8) (hb : 0 ≤ x.f2 ∧ x.f2 < 8) (hc : 0 ≤ x.f3 ∧ x.f3 < 8) : Calls Try.prog 42 #[dV A n c b d fb, xvF x] w (DoP fb vp (efGoes, fSet F x.f1 (wrap64 ((fR F x.f2) + (fR F x.f3)))) w) := by
  obtain ⟨x0, x1, x2, x3, x4⟩ := x
  obtain ⟨W, hW⟩ : ∃ W, W = (((w.alloc (.cells #[.slice A n c, .int .i64 b, .int .i64 d, .pointer (some ⟨fb, 0, none⟩)] 115)).alloc (.cells #[.int .i64 x0, .int .i64 x1, .int .i64 x2, .int .i64 x3, .int .i64 x4] 65)).alloc (.cells #[.int .i64 0, .int .i64 0, .int .i64 0, .int .i64 0, .int .i64 0, .int .i64 0, .slice none 0 0, .slice none 0 0] 36)) := ⟨_, rfl⟩
  have hD : DW w A n c b d fb ⟨x0, x1, x2, x3, x4⟩ W := by rw [hW]; exact DW.start w A n c b d fb ⟨x0, x1, x2, x3, x4⟩
  have HD := Aside0.mk hD
  have HW := Aside0.mk hW
  have H := Aside0.mk (And.intro h (h.below hD.below))
  clear hW hD h
  unfold dV xvF
  obtain rfl : x0 = 3 := hop
  have ha : 0 ≤ x1 ∧ x1 < 8 := ha
  obtain ⟨a, rfl⟩ : ∃ a : Nat, x1 = a := ⟨x1.toNat, by omega⟩
  have h8a : ((a : Int) < 8) = True := eq_true ha.2
  have HA := Aside0.mk (show a < 8 by omega)
  clear ha
  have hb : 0 ≤ x2 ∧ x2 < 8 := hb
  obtain ⟨b2, rfl⟩ : ∃ b2 : Nat, x2 = b2 := ⟨x2.toNat, by omega⟩
  have h8b2 : ((b2 : Int) < 8) = True := eq_true hb.2
  have HB2 := Aside0.mk (show b2 < 8 by omega)
  clear hb
  have hc : 0 ≤ x3 ∧ x3 < 8 := hc
  obtain ⟨c2, rfl⟩ : ∃ c2 : Nat, x3 = c2 := ⟨x3.toNat, by omega⟩
  have h8c2 : ((c2 : Int) < 8) = True := eq_true hc.2
  have HC2 := Aside0.mk (show c2 < 8 by omega)
  clear hc
  have r2 := H.out.2.reg b2 HB2.out
  have r3 := H.out.2.reg c2 HC2.out
  have e2 : fR F (b2 : Int) = F.regs.getD b2 0 := rfl
  have e3 : fR F (c2 : Int) = F.regs.getD c2 0 := rfl
  obtain ⟨y, hy⟩ : ∃ y, F.regs.getD b2 0 = y := ⟨_, rfl⟩
  obtain ⟨u, hu⟩ : ∃ u, F.regs.getD c2 0 = u := ⟨_, rfl⟩
  rw [hy] at e2 r2
  rw [hu] at e3 r3
  show Calls _ _ _ _ (DoP fb vp (efGoes, fSet F (a : Int) (wrap64 ((fR F (b2 : Int)) + (fR F (c2 : Int))))) w)
  rw [e2, e3]
  clear e2 e3 hy hu
  have hwv : IntKind.i64.wrap (y + u) = wrap64 (y + u) := wrap_i64F _
  go_enter Try.func42, Try.ntmps42
  go_upto_region 1 with (fail)
  rw [← HW.out]
  refine wp_region_T (fun w' => Drawn0 W w') [] (.takes [0, 1, 2, 3, 4, 5, 6, 7, 8, 9, 10, 11, 12, 13, 14, 15] (.op 16 (.op 17 .done))) (by kernel_rfl) (by kernel_rfl) (by kernel_rfl) (by kernel_rfl) (panic_via (P := Try.prog) (fn := Try.f42) (R := DoP fb vp (efGoes, fSet F a (wrap64 (y + u))) w) (fun _ _ _ => rfl)) ?_
  have hs : Drawn0 W W.drew := (Drawn0.refl W).step 1
  simp only [Turns.takes]
  repeat (
    (first
      | (refine runT_take (v := ?_) (by rfl) (by rfl) (fun w' hS => ?_) hs ?_
         rotate_left
         · (obtain ⟨n, rfl⟩ := hS; have d3 := blk_cell HD.out.c0 3; have c1 := blk_cell HD.out.c1 1; have c2 := blk_cell HD.out.c1 2; have c3 := blk_cell HD.out.c1 3; go_simp; exact rfl))
      | refine runT_skip (by rfl) (by rfl) hs ?_)
    (try simp only [Act.put, List.setIfInBounds_toArray, List.set_cons_zero, List.set_cons_succ]))
  refine runT_op (by rfl) (by rfl) (fun K hK => ?_)
  go_simp
  refine hK _ _ hs ?_
  clear hK K
  (try simp only [Act.put, List.setIfInBounds_toArray, List.set_cons_zero, List.set_cons_succ])
  refine runT_op (by rfl) (by rfl) (fun K hK => ?_)
  go_simp
  refine hK _ _ hs ?_
  clear hK K hs
  (try simp only [Act.put, List.setIfInBounds_toArray, List.set_cons_zero, List.set_cons_succ])
  refine runT_done ?_
  have hbW : Below W.heap.size W W.drew := (Below.refl _ _).drew
  have HD := Aside0.mk (HD.out.below2 hbW)
  have H := Aside0.mk (And.intro H.out.1 (H.out.2.below hbW))
  clear HW hbW r2 r3
  generalize W.drew = W at HD H ⊢
  have c0 := blk_cell HD.out.c1 0
  go_upto_region 17 with (fail)
  clear c0
  refine wp_region_T (fun w' => Drawn0 W w') [8] (.takes [0, 1, 2, 3, 4, 5, 6, 7] (.fin 8 .done)) (by kernel_rfl) (by kernel_rfl) (by kernel_rfl) (by kernel_rfl) (panic_via (P := Try.prog) (fn := Try.f42) (R := DoP fb vp (efGoes, fSet F a (wrap64 (y + u))) w) (fun _ _ _ => rfl)) ?_
  have hs : Drawn0 W W.drew := (Drawn0.refl W).step 1
  simp only [Turns.takes]
  repeat (
    (first
      | (refine runT_take (v := ?_) (by rfl) (by rfl) (fun w' hS => ?_) hs ?_
         rotate_left
         · (obtain ⟨n, rfl⟩ := hS; have d0 := blk_cell HD.out.c0 0; have d1 := blk_cell HD.out.c0 1; have d2 := blk_cell HD.out.c0 2; have d3 := blk_cell HD.out.c0 3; have c0 := blk_cell HD.out.c1 0; have c1 := blk_cell HD.out.c1 1; have c2 := blk_cell HD.out.c1 2; have c3 := blk_cell HD.out.c1 3; have c4 := blk_cell HD.out.c1 4; go_simp; exact rfl))
      | refine runT_skip (by rfl) (by rfl) hs ?_)
    (try simp only [Act.put, List.setIfInBounds_toArray, List.set_cons_zero, List.set_cons_succ]))
  clear hs
  obtain ⟨wd, hwd⟩ : ∃ wd, wd = W.drew := ⟨_, rfl⟩
  rw [← hwd]
  have Hbd := Aside0.mk (show Below W.heap.size W wd by rw [hwd]; exact (Below.refl _ _).drew)
  clear hwd
  have hF := H.out.2.below (Hbd.out)
  have r := hF.reg a HA.out
  have z := hF.frozen (5 + a)
  refine runT_fin (by rfl) (by rfl) (fun K hK => ?_)
  go_simp
  refine hK _ _ ?_
  clear hK K
  refine runT_done ?_
  obtain ⟨W1, hW1⟩ : ∃ W1, W1 = wd.setCell ⟨fb, 5 + a, none⟩ (.int .i64 (wrap64 (y + u))) := ⟨_, rfl⟩
  rw [← hW1]
  have hF1 := hF.setReg a HA.out (wrap64 (y + u))
  rw [← hW1] at hF1
  have hk1 : Keep (fun q => q = fb) wd W1 := by rw [hW1]; exact (Keep.refl (fun q => q = fb) wd).set (p := ⟨fb, 5 + a, none⟩) (.inr rfl) _
  have H1 := Aside0.mk (And.intro hF1 hk1)
  clear hF r z hF1 hk1 hW1
  go_upto_region 18 with (fail)
  go_wp2_with fail
  refine (goes_any _).mono ?_
  rintro e w2 ⟨rfl, hb2⟩
  have hk2 : Keep (fun q => q = fb) wd w2 := H1.out.2.then (Keep.of_below hb2 (fun _ => False)) (fun _ _ h => h.elim)
  have hF2 := H1.out.1.below hb2
  have hc2 : w2.heap[w.heap.size + 1 + 1]? = some zEff := hk2.blk ((Hbd.out.block _ (blk_lt HD.out.c2)).trans HD.out.c2) (by have := H.out.1.lt; omega)
  have HC2 := Aside0.mk hc2
  have H2 := Aside0.mk (And.intro hF2 hk2)
  have q0 := blk_cell hc2 0
  have q1 := blk_cell hc2 1
  have q2 := blk_cell hc2 2
  have q3 := blk_cell hc2 3
  have q4 := blk_cell hc2 4
  have q5 := blk_cell hc2 5
  have q6 := blk_cell hc2 6
  have q7 := blk_cell hc2 7
  have f0 := blk_frozen hc2 0
  have f1 := blk_frozen hc2 1
  have f2 := blk_frozen hc2 2
  have f3 := blk_frozen hc2 3
  have f4 := blk_frozen hc2 4
  have f5 := blk_frozen hc2 5
  have f6 := blk_frozen hc2 6
  have f7 := blk_frozen hc2 7
  clear hb2 hk2 hF2 hc2
  try unfold efV
  go_wp2_with fail
  obtain ⟨hs1, hs2⟩ := storeE_at HC2.out (efGoes) (none) (0) (none) (0)
  refine ⟨rfl, _, eff_results (e := efGoes) (Aa := none) (ca := 0) (Ab := none) (cb := 0) rfl rfl hs1, none, 0, none, 0, rfl, ?_, H2.out.1.keep hs2 (by have := H.out.1.lt; omega), ?_⟩
  · exact EfC.plain _ _ _ ⟨rfl, rfl⟩
  · exact ((Keep.of_below (HD.out.below.trans (Hbd.out.mono HD.out.below.size)) (fun q => q = fb)).trans H2.out.2).then hs2 (fun q hq e => by omega)
set_option maxRecDepth 100000 in
set_option maxHeartbeats 8000000 in
theorem dreckon_sub (h : FB fb F vp w) (x : S65) (hop : x.f0 = 4) (ha : 0 ≤ x.f1 ∧ x.f1 < 8) (hb : 0 ≤ x.f2 ∧ x.f2 < 8) (hc : 0 ≤ x.f3 ∧ x.f3 < 8) : Calls Try.prog 42 #[dV A n c b d fb, xvF x] w (DoP fb vp (efGoes, fSet F x.f1 (wrap64 ((fR F x.f2) - (fR F x.f3)))) w) := by
  obtain ⟨x0, x1, x2, x3, x4⟩ := x
  obtain ⟨W, hW⟩ : ∃ W, W = (((w.alloc (.cells #[.slice A n c, .int .i64 b, .int .i64 d, .pointer (some ⟨fb, 0, none⟩)] 115)).alloc (.cells #[.int .i64 x0, .int .i64 x1, .int .i64 x2, .int .i64 x3, .int .i64 x4] 65)).alloc (.cells #[.int .i64 0, .int .i64 0, .int .i64 0, .int .i64 0, .int .i64 0, .int .i64 0, .slice none 0 0, .slice none 0 0] 36)) := ⟨_, rfl⟩
  have hD : DW w A n c b d fb ⟨x0, x1, x2, x3, x4⟩ W := by rw [hW]; exact DW.start w A n c b d fb ⟨x0, x1, x2, x3, x4⟩
  have HD := Aside0.mk hD
  have HW := Aside0.mk hW
  have H := Aside0.mk (And.intro h (h.below hD.below))
  clear hW hD h
  unfold dV xvF
  obtain rfl : x0 = 4 := hop
  have ha : 0 ≤ x1 ∧ x1 < 8 := ha
  obtain ⟨a, rfl⟩ : ∃ a : Nat, x1 = a := ⟨x1.toNat, by omega⟩
  have h8a : ((a : Int) < 8) = True := eq_true ha.2
  have HA := Aside0.mk (show a < 8 by omega)
  clear ha
  have hb : 0 ≤ x2 ∧ x2 < 8 := hb
  obtain ⟨b2, rfl⟩ : ∃ b2 : Nat, x2 = b2 := ⟨x2.toNat, by omega⟩
  have h8b2 : ((b2 : Int) < 8) = True := eq_true hb.2
  have HB2 := Aside0.mk (show b2 < 8 by omega)
  clear hb
  have hc : 0 ≤ x3 ∧ x3 < 8 := hc
  obtain ⟨c2, rfl⟩ : ∃ c2 : Nat, x3 = c2 := ⟨x3.toNat, by omega⟩
  have h8c2 : ((c2 : Int) < 8) = True := eq_true hc.2
  have HC2 := Aside0.mk (show c2 < 8 by omega)
  clear hc
  have r2 := H.out.2.reg b2 HB2.out
  have r3 := H.out.2.reg c2 HC2.out
  have e2 : fR F (b2 : Int) = F.regs.getD b2 0 := rfl
  have e3 : fR F (c2 : Int) = F.regs.getD c2 0 := rfl
  obtain ⟨y, hy⟩ : ∃ y, F.regs.getD b2 0 = y := ⟨_, rfl⟩
  obtain ⟨u, hu⟩ : ∃ u, F.regs.getD c2 0 = u := ⟨_, rfl⟩
  rw [hy] at e2 r2
  rw [hu] at e3 r3
  show Calls _ _ _ _ (DoP fb vp (efGoes, fSet F (a : Int) (wrap64 ((fR F (b2 : Int)) - (fR F (c2 : Int))))) w)
  rw [e2, e3]
  clear e2 e3 hy hu
  have hwv : IntKind.i64.wrap (y - u) = wrap64 (y - u) := wrap_i64F _
  go_enter Try.func42, Try.ntmps42
  go_upto_region 1 with (fail)
  rw [← HW.out]
  refine wp_region_T (fun w' => Drawn0 W w') [] (.takes [0, 1, 2, 3, 4, 5, 6, 7, 8, 9, 10, 11, 12, 13, 14, 15] (.op 16 (.op 17 .done))) (by kernel_rfl) (by kernel_rfl) (by kernel_rfl) (by kernel_rfl) (panic_via (P := Try.prog) (fn := Try.f42) (R := DoP fb vp (efGoes, fSet F a (wrap64 (y - u))) w) (fun _ _ _ => rfl)) ?_
  have hs : Drawn0 W W.drew := (Drawn0.refl W).step 1
  simp only [Turns.takes]
  repeat (
    (first
      | (refine runT_take (v := ?_) (by rfl) (by rfl) (fun w' hS => ?_) hs ?_
         rotate_left
         · (obtain ⟨n, rfl⟩ := hS; have d3 := blk_cell HD.out.c0 3; have c1 := blk_cell HD.out.c1 1; have c2 := blk_cell HD.out.c1 2; have c3 := blk_cell HD.out.c1 3; go_simp; exact rfl))
      | refine runT_skip (by rfl) (by rfl) hs ?_)
    (try simp only [Act.put, List.setIfInBounds_toArray, List.set_cons_zero, List.set_cons_succ]))
  refine runT_op (by rfl) (by rfl) (fun K hK => ?_)
  go_simp
  refine hK _ _ hs ?_
  clear hK K
  (try simp only [Act.put, List.setIfInBounds_toArray, List.set_cons_zero, List.set_cons_succ])
  refine runT_op (by rfl) (by rfl) (fun K hK => ?_)
  go_simp
  refine hK _ _ hs ?_
  clear hK K hs
  (try simp only [Act.put, List.setIfInBounds_toArray, List.set_cons_zero, List.set_cons_succ])
  refine runT_done ?_
  have hbW : Below W.heap.size W W.drew := (Below.refl _ _).drew
  have HD := Aside0.mk (HD.out.below2 hbW)
  have H := Aside0.mk (And.intro H.out.1 (H.out.2.below hbW))
  clear HW hbW r2 r3
  generalize W.drew = W at HD H ⊢
  have c0 := blk_cell HD.out.c1 0
  go_upto_region 17 with (fail)
  clear c0
  refine wp_region_T (fun w' => Drawn0 W w') [8] (.takes [0, 1, 2, 3, 4, 5, 6, 7] (.fin 8 .done)) (by kernel_rfl) (by kernel_rfl) (by kernel_rfl) (by kernel_rfl) (panic_via (P := Try.prog) (fn := Try.f42) (R := DoP fb vp (efGoes, fSet F a (wrap64 (y - u))) w) (fun _ _ _ => rfl)) ?_
  have hs : Drawn0 W W.drew := (Drawn0.refl W).step 1
  simp only [Turns.takes]
  repeat (
    (first
      | (refine runT_take (v := ?_) (by rfl) (by rfl) (fun w' hS => ?_) hs ?_
         rotate_left
         · (obtain ⟨n, rfl⟩ := hS; have d0 := blk_cell HD.out.c0 0; have d1 := blk_cell HD.out.c0 1; have d2 := blk_cell HD.out.c0 2; have d3 := blk_cell HD.out.c0 3; have c0 := blk_cell HD.out.c1 0; have c1 := blk_cell HD.out.c1 1; have c2 := blk_cell HD.out.c1 2; have c3 := blk_cell HD.out.c1 3; have c4 := blk_cell HD.out.c1 4; go_simp; exact rfl))
      | refine runT_skip (by rfl) (by rfl) hs ?_)
    (try simp only [Act.put, List.setIfInBounds_toArray, List.set_cons_zero, List.set_cons_succ]))
  clear hs
  obtain ⟨wd, hwd⟩ : ∃ wd, wd = W.drew := ⟨_, rfl⟩
  rw [← hwd]
  have Hbd := Aside0.mk (show Below W.heap.size W wd by rw [hwd]; exact (Below.refl _ _).drew)
  clear hwd
  have hF := H.out.2.below (Hbd.out)
  have r := hF.reg a HA.out
  have z := hF.frozen (5 + a)
  refine runT_fin (by rfl) (by rfl) (fun K hK => ?_)
  go_simp
  refine hK _ _ ?_
  clear hK K
  refine runT_done ?_
  obtain ⟨W1, hW1⟩ : ∃ W1, W1 = wd.setCell ⟨fb, 5 + a, none⟩ (.int .i64 (wrap64 (y - u))) := ⟨_, rfl⟩
  rw [← hW1]
  have hF1 := hF.setReg a HA.out (wrap64 (y - u))
  rw [← hW1] at hF1
  have hk1 : Keep (fun q => q = fb) wd W1 := by rw [hW1]; exact (Keep.refl (fun q => q = fb) wd).set (p := ⟨fb, 5 + a, none⟩) (.inr rfl) _
  have H1 := Aside0.mk (And.intro hF1 hk1)
  clear hF r z hF1 hk1 hW1
  go_upto_region 18 with (fail)
  go_wp2_with fail
  refine (goes_any _).mono ?_
  rintro e w2 ⟨rfl, hb2⟩
  have hk2 : Keep (fun q => q = fb) wd w2 := H1.out.2.then (Keep.of_below hb2 (fun _ => False)) (fun _ _ h => h.elim)
  have hF2 := H1.out.1.below hb2
  have hc2 : w2.heap[w.heap.size + 1 + 1]? = some zEff := hk2.blk ((Hbd.out.block _ (blk_lt HD.out.c2)).trans HD.out.c2) (by have := H.out.1.lt; omega)
  have HC2 := Aside0.mk hc2
  have H2 := Aside0.mk (And.intro hF2 hk2)
  have q0 := blk_cell hc2 0
  have q1 := blk_cell hc2 1
  have q2 := blk_cell hc2 2
  have q3 := blk_cell hc2 3
  have q4 := blk_cell hc2 4
  have q5 := blk_cell hc2 5
  have q6 := blk_cell hc2 6
  have q7 := blk_cell hc2 7
  have f0 := blk_frozen hc2 0
  have f1 := blk_frozen hc2 1
  have f2 := blk_frozen hc2 2
  have f3 := blk_frozen hc2 3
  have f4 := blk_frozen hc2 4
  have f5 := blk_frozen hc2 5
  have f6 := blk_frozen hc2 6
  have f7 := blk_frozen hc2 7
  clear hb2 hk2 hF2 hc2
  try unfold efV
  go_wp2_with fail
  obtain ⟨hs1, hs2⟩ := storeE_at HC2.out (efGoes) (none) (0) (none) (0)
  refine ⟨rfl, _, eff_results (e := efGoes) (Aa := none) (ca := 0) (Ab := none) (cb := 0) rfl rfl hs1, none, 0, none, 0, rfl, ?_, H2.out.1.keep hs2 (by have := H.out.1.lt; omega), ?_⟩
  · exact EfC.plain _ _ _ ⟨rfl, rfl⟩
  · exact ((Keep.of_below (HD.out.below.trans (Hbd.out.mono HD.out.below.size)) (fun q => q = fb)).trans H2.out.2).then hs2 (fun q hq e => by omega)
set_option maxRecDepth 100000 in
set_option maxHeartbeats 8000000 in
theorem dreckon_mul (h : FB fb F vp w) (x : S65) (hop : x.f0 = 5) (ha : 0 ≤ x.f1 ∧ x.f1 < 8) (hb : 0 ≤ x.f2 ∧ x.f2 < 8) (hc : 0 ≤ x.f3 ∧ x.f3 < 8) : Calls Try.prog 42 #[dV A n c b d fb, xvF x] w (DoP fb vp (efGoes, fSet F x.f1 (wrap64 ((fR F x.f2) * (fR F x.f3)))) w) := by
  obtain ⟨x0, x1, x2, x3, x4⟩ := x
  obtain ⟨W, hW⟩ : ∃ W, W = (((w.alloc (.cells #[.slice A n c, .int .i64 b, .int .i64 d, .pointer (some ⟨fb, 0, none⟩)] 115)).alloc (.cells #[.int .i64 x0, .int .i64 x1, .int .i64 x2, .int .i64 x3, .int .i64 x4] 65)).alloc (.cells #[.int .i64 0, .int .i64 0, .int .i64 0, .int .i64 0, .int .i64 0, .int .i64 0, .slice none 0 0, .slice none 0 0] 36)) := ⟨_, rfl⟩
  have hD : DW w A n c b d fb ⟨x0, x1, x2, x3, x4⟩ W := by rw [hW]; exact DW.start w A n c b d fb ⟨x0, x1, x2, x3, x4⟩
  have HD := Aside0.mk hD
  have HW := Aside0.mk hW
  have H := Aside0.mk (And.intro h (h.below hD.below))
  clear hW hD h
  unfold dV xvF
  obtain rfl : x0 = 5 := hop
  have ha : 0 ≤ x1 ∧ x1 < 8 := ha
  obtain ⟨a, rfl⟩ : ∃ a : Nat, x1 = a := ⟨x1.toNat, by omega⟩
  have h8a : ((a : Int) < 8) = True := eq_true ha.2
  have HA := Aside0.mk (show a < 8 by omega)
  clear ha
  have hb : 0 ≤ x2 ∧ x2 < 8 := hb
  obtain ⟨b2, rfl⟩ : ∃ b2 : Nat, x2 = b2 := ⟨x2.toNat, by omega⟩
  have h8b2 : ((b2 : Int) < 8) = True := eq_true hb.2
  have HB2 := Aside0.mk (show b2 < 8 by omega)
  clear hb
  have hc : 0 ≤ x3 ∧ x3 < 8 := hc
  obtain ⟨c2, rfl⟩ : ∃ c2 : Nat, x3 = c2 := ⟨x3.toNat, by omega⟩
  have h8c2 : ((c2 : Int) < 8) = True := eq_true hc.2
  have HC2 := Aside0.mk (show c2 < 8 by omega)
  clear hc
  have r2 := H.out.2.reg b2 HB2.out
  have r3 := H.out.2.reg c2 HC2.out
  have e2 : fR F (b2 : Int) = F.regs.getD b2 0 := rfl
  have e3 : fR F (c2 : Int) = F.regs.getD c2 0 := rfl
  obtain ⟨y, hy⟩ : ∃ y, F.regs.getD b2 0 = y := ⟨_, rfl⟩
  obtain ⟨u, hu⟩ : ∃ u, F.regs.getD c2 0 = u := ⟨_, rfl⟩
  rw [hy] at e2 r2
  rw [hu] at e3 r3
  show Calls _ _ _ _ (DoP fb vp (efGoes, fSet F (a : Int) (wrap64 ((fR F (b2 : Int)) * (fR F (c2 : Int))))) w)
  rw [e2, e3]
  clear e2 e3 hy hu
  have hwv : IntKind.i64.wrap (y * u) = wrap64 (y * u) := wrap_i64F _
  go_enter Try.func42, Try.ntmps42
  go_upto_region 1 with (fail)
  rw [← HW.out]
  refine wp_region_T (fun w' => Drawn0 W w') [] (.takes [0, 1, 2, 3, 4, 5, 6, 7, 8, 9, 10, 11, 12, 13, 14, 15] (.op 16 (.op 17 .done))) (by kernel_rfl) (by kernel_rfl) (by kernel_rfl) (by kernel_rfl) (panic_via (P := Try.prog) (fn := Try.f42) (R := DoP fb vp (efGoes, fSet F a (wrap64 (y * u))) w) (fun _ _ _ => rfl)) ?_
  have hs : Drawn0 W W.drew := (Drawn0.refl W).step 1
  simp only [Turns.takes]
  repeat (
    (first
      | (refine runT_take (v := ?_) (by rfl) (by rfl) (fun w' hS => ?_) hs ?_
         rotate_left
         · (obtain ⟨n, rfl⟩ := hS; have d3 := blk_cell HD.out.c0 3; have c1 := blk_cell HD.out.c1 1; have c2 := blk_cell HD.out.c1 2; have c3 := blk_cell HD.out.c1 3; go_simp; exact rfl))
      | refine runT_skip (by rfl) (by rfl) hs ?_)
    (try simp only [Act.put, List.setIfInBounds_toArray, List.set_cons_zero, List.set_cons_succ]))
  refine runT_op (by rfl) (by rfl) (fun K hK => ?_)
  go_simp
  refine hK _ _ hs ?_
  clear hK K
  (try simp only [Act.put, List.setIfInBounds_toArray, List.set_cons_zero, List.set_cons_succ])
  refine runT_op (by rfl) (by rfl) (fun K hK => ?_)
  go_simp
  refine hK _ _ hs ?_
  clear hK K hs
  (try simp only [Act.put, List.setIfInBounds_toArray, List.set_cons_zero, List.set_cons_succ])
  refine runT_done ?_
  have hbW : Below W.heap.size W W.drew := (Below.refl _ _).drew
  have HD := Aside0.mk (HD.out.below2 hbW)
  have H := Aside0.mk (And.intro H.out.1 (H.out.2.below hbW))
  clear HW hbW r2 r3
  generalize W.drew = W at HD H ⊢
  have c0 := blk_cell HD.out.c1 0
  go_upto_region 17 with (fail)
  clear c0
  refine wp_region_T (fun w' => Drawn0 W w') [8] (.takes [0, 1, 2, 3, 4, 5, 6, 7] (.fin 8 .done)) (by kernel_rfl) (by kernel_rfl) (by kernel_rfl) (by kernel_rfl) (panic_via (P := Try.prog) (fn := Try.f42) (R := DoP fb vp (efGoes, fSet F a (wrap64 (y * u))) w) (fun _ _ _ => rfl)) ?_
  have hs : Drawn0 W W.drew := (Drawn0.refl W).step 1
  simp only [Turns.takes]
  repeat (
    (first
      | (refine runT_take (v := ?_) (by rfl) (by rfl) (fun w' hS => ?_) hs ?_
         rotate_left
         · (obtain ⟨n, rfl⟩ := hS; have d0 := blk_cell HD.out.c0 0; have d1 := blk_cell HD.out.c0 1; have d2 := blk_cell HD.out.c0 2; have d3 := blk_cell HD.out.c0 3; have c0 := blk_cell HD.out.c1 0; have c1 := blk_cell HD.out.c1 1; have c2 := blk_cell HD.out.c1 2; have c3 := blk_cell HD.out.c1 3; have c4 := blk_cell HD.out.c1 4; go_simp; exact rfl))
      | refine runT_skip (by rfl) (by rfl) hs ?_)
    (try simp only [Act.put, List.setIfInBounds_toArray, List.set_cons_zero, List.set_cons_succ]))
  clear hs
  obtain ⟨wd, hwd⟩ : ∃ wd, wd = W.drew := ⟨_, rfl⟩
  rw [← hwd]
  have Hbd := Aside0.mk (show Below W.heap.size W wd by rw [hwd]; exact (Below.refl _ _).drew)
  clear hwd
  have hF := H.out.2.below (Hbd.out)
  have r := hF.reg a HA.out
  have z := hF.frozen (5 + a)
  refine runT_fin (by rfl) (by rfl) (fun K hK => ?_)
  go_simp
  refine hK _ _ ?_
  clear hK K
  refine runT_done ?_
  obtain ⟨W1, hW1⟩ : ∃ W1, W1 = wd.setCell ⟨fb, 5 + a, none⟩ (.int .i64 (wrap64 (y * u))) := ⟨_, rfl⟩
  rw [← hW1]
  have hF1 := hF.setReg a HA.out (wrap64 (y * u))
  rw [← hW1] at hF1
  have hk1 : Keep (fun q => q = fb) wd W1 := by rw [hW1]; exact (Keep.refl (fun q => q = fb) wd).set (p := ⟨fb, 5 + a, none⟩) (.inr rfl) _
  have H1 := Aside0.mk (And.intro hF1 hk1)
  clear hF r z hF1 hk1 hW1
  go_upto_region 18 with (fail)
  go_wp2_with fail
  refine (goes_any _).mono ?_
  rintro e w2 ⟨rfl, hb2⟩
  have hk2 : Keep (fun q => q = fb) wd w2 := H1.out.2.then (Keep.of_below hb2 (fun _ => False)) (fun _ _ h => h.elim)
  have hF2 := H1.out.1.below hb2
  have hc2 : w2.heap[w.heap.size + 1 + 1]? = some zEff := hk2.blk ((Hbd.out.block _ (blk_lt HD.out.c2)).trans HD.out.c2) (by have := H.out.1.lt; omega)
  have HC2 := Aside0.mk hc2
  have H2 := Aside0.mk (And.intro hF2 hk2)
  have q0 := blk_cell hc2 0
  have q1 := blk_cell hc2 1
  have q2 := blk_cell hc2 2
  have q3 := blk_cell hc2 3
  have q4 := blk_cell hc2 4
  have q5 := blk_cell hc2 5
  have q6 := blk_cell hc2 6
  have q7 := blk_cell hc2 7
  have f0 := blk_frozen hc2 0
  have f1 := blk_frozen hc2 1
  have f2 := blk_frozen hc2 2
  have f3 := blk_frozen hc2 3
  have f4 := blk_frozen hc2 4
  have f5 := blk_frozen hc2 5
  have f6 := blk_frozen hc2 6
  have f7 := blk_frozen hc2 7
  clear hb2 hk2 hF2 hc2
  try unfold efV
  go_wp2_with fail
  obtain ⟨hs1, hs2⟩ := storeE_at HC2.out (efGoes) (none) (0) (none) (0)
  refine ⟨rfl, _, eff_results (e := efGoes) (Aa := none) (ca := 0) (Ab := none) (cb := 0) rfl rfl hs1, none, 0, none, 0, rfl, ?_, H2.out.1.keep hs2 (by have := H.out.1.lt; omega), ?_⟩
  · exact EfC.plain _ _ _ ⟨rfl, rfl⟩
  · exact ((Keep.of_below (HD.out.below.trans (Hbd.out.mono HD.out.below.size)) (fun q => q = fb)).trans H2.out.2).then hs2 (fun q hq e => by omega)
set_option maxRecDepth 100000 in
set_option maxHeartbeats 8000000 in
theorem dreckon_div (h : FB fb F vp w) (x : S65) (hop : x.f0 = 6) (ha : 0 ≤ x.f1 ∧ x.f1 < 8) (hb : 0 ≤ x.f2 ∧ x.f2 < 8) (hc : 0 ≤ x.f3 ∧ x.f3 < 8) (hn : fR F x.f3 ≠ 0) : Calls Try.prog 42 #[dV A n c b d fb, xvF x] w (DoP fb vp (efGoes, fSet F x.f1 (wrap64 ((fR F x.f2).tdiv (fR F x.f3)))) w) := by
  obtain ⟨x0, x1, x2, x3, x4⟩ := x
  obtain ⟨W, hW⟩ : ∃ W, W = (((w.alloc (.cells #[.slice A n c, .int .i64 b, .int .i64 d, .pointer (some ⟨fb, 0, none⟩)] 115)).alloc (.cells #[.int .i64 x0, .int .i64 x1, .int .i64 x2, .int .i64 x3, .int .i64 x4] 65)).alloc (.cells #[.int .i64 0, .int .i64 0, .int .i64 0, .int .i64 0, .int .i64 0, .int .i64 0, .slice none 0 0, .slice none 0 0] 36)) := ⟨_, rfl⟩
  have hD : DW w A n c b d fb ⟨x0, x1, x2, x3, x4⟩ W := by rw [hW]; exact DW.start w A n c b d fb ⟨x0, x1, x2, x3, x4⟩
  have HD := Aside0.mk hD
  have HW := Aside0.mk hW
  have H := Aside0.mk (And.intro h (h.below hD.below))
  clear hW hD h
  unfold dV xvF
  obtain rfl : x0 = 6 := hop
  have ha : 0 ≤ x1 ∧ x1 < 8 := ha
  obtain ⟨a, rfl⟩ : ∃ a : Nat, x1 = a := ⟨x1.toNat, by omega⟩
  have h8a : ((a : Int) < 8) = True := eq_true ha.2
  have HA := Aside0.mk (show a < 8 by omega)
  clear ha
  have hb : 0 ≤ x2 ∧ x2 < 8 := hb
  obtain ⟨b2, rfl⟩ : ∃ b2 : Nat, x2 = b2 := ⟨x2.toNat, by omega⟩
  have h8b2 : ((b2 : Int) < 8) = True := eq_true hb.2
  have HB2 := Aside0.mk (show b2 < 8 by omega)
  clear hb
  have hc : 0 ≤ x3 ∧ x3 < 8 := hc
  obtain ⟨c2, rfl⟩ : ∃ c2 : Nat, x3 = c2 := ⟨x3.toNat, by omega⟩
  have h8c2 : ((c2 : Int) < 8) = True := eq_true hc.2
  have HC2 := Aside0.mk (show c2 < 8 by omega)
  clear hc
  have r2 := H.out.2.reg b2 HB2.out
  have r3 := H.out.2.reg c2 HC2.out
  have e2 : fR F (b2 : Int) = F.regs.getD b2 0 := rfl
  have e3 : fR F (c2 : Int) = F.regs.getD c2 0 := rfl
  obtain ⟨y, hy⟩ : ∃ y, F.regs.getD b2 0 = y := ⟨_, rfl⟩
  obtain ⟨u, hu⟩ : ∃ u, F.regs.getD c2 0 = u := ⟨_, rfl⟩
  rw [hy] at e2 r2
  rw [hu] at e3 r3
  show Calls _ _ _ _ (DoP fb vp (efGoes, fSet F (a : Int) (wrap64 ((fR F (b2 : Int)).tdiv (fR F (c2 : Int))))) w)
  rw [e2, e3]
  have hn : fR F (c2 : Int) ≠ 0 := hn
  rw [e3] at hn
  have hn1 : (u == 0) = false := by simp [hn]
  have hn2 : (u = 0) = False := eq_false hn
  clear hn
  clear e2 e3 hy hu
  have hwv : IntKind.i64.wrap (y.tdiv u) = wrap64 (y.tdiv u) := wrap_i64F _
  go_enter Try.func42, Try.ntmps42
  go_upto_region 1 with (fail)
  rw [← HW.out]
  refine wp_region_T (fun w' => Drawn0 W w') [] (.takes [0, 1, 2, 3, 4, 5, 6, 7, 8, 9, 10, 11, 12, 13, 14, 15] (.op 16 (.op 17 .done))) (by kernel_rfl) (by kernel_rfl) (by kernel_rfl) (by kernel_rfl) (panic_via (P := Try.prog) (fn := Try.f42) (R := DoP fb vp (efGoes, fSet F a (wrap64 (y.tdiv u))) w) (fun _ _ _ => rfl)) ?_
  have hs : Drawn0 W W.drew := (Drawn0.refl W).step 1
  simp only [Turns.takes]
  repeat (
    (first
      | (refine runT_take (v := ?_) (by rfl) (by rfl) (fun w' hS => ?_) hs ?_
         rotate_left
         · (obtain ⟨n, rfl⟩ := hS; have d3 := blk_cell HD.out.c0 3; have c1 := blk_cell HD.out.c1 1; have c2 := blk_cell HD.out.c1 2; have c3 := blk_cell HD.out.c1 3; go_simp; exact rfl))
      | refine runT_skip (by rfl) (by rfl) hs ?_)
    (try simp only [Act.put, List.setIfInBounds_toArray, List.set_cons_zero, List.set_cons_succ]))
  refine runT_op (by rfl) (by rfl) (fun K hK => ?_)
  go_simp
  refine hK _ _ hs ?_
  clear hK K
  (try simp only [Act.put, List.setIfInBounds_toArray, List.set_cons_zero, List.set_cons_succ])
  refine runT_op (by rfl) (by rfl) (fun K hK => ?_)
  go_simp
  refine hK _ _ hs ?_
  clear hK K hs
  (try simp only [Act.put, List.setIfInBounds_toArray, List.set_cons_zero, List.set_cons_succ])
  refine runT_done ?_
  have hbW : Below W.heap.size W W.drew := (Below.refl _ _).drew
  have HD := Aside0.mk (HD.out.below2 hbW)
  have H := Aside0.mk (And.intro H.out.1 (H.out.2.below hbW))
  clear HW hbW r2 r3
  generalize W.drew = W at HD H ⊢
  have c0 := blk_cell HD.out.c1 0
  go_upto_region 17 with (fail)
  clear c0
  refine wp_region_T (fun w' => Drawn0 W w') [8] (.takes [0, 1, 2, 3, 4, 5, 6, 7] (.fin 8 .done)) (by kernel_rfl) (by kernel_rfl) (by kernel_rfl) (by kernel_rfl) (panic_via (P := Try.prog) (fn := Try.f42) (R := DoP fb vp (efGoes, fSet F a (wrap64 (y.tdiv u))) w) (fun _ _ _ => rfl)) ?_
  have hs : Drawn0 W W.drew := (Drawn0.refl W).step 1
  simp only [Turns.takes]
  repeat (
    (first
      | (refine runT_take (v := ?_) (by rfl) (by rfl) (fun w' hS => ?_) hs ?_
         rotate_left
         · (obtain ⟨n, rfl⟩ := hS; have d0 := blk_cell HD.out.c0 0; have d1 := blk_cell HD.out.c0 1; have d2 := blk_cell HD.out.c0 2; have d3 := blk_cell HD.out.c0 3; have c0 := blk_cell HD.out.c1 0; have c1 := blk_cell HD.out.c1 1; have c2 := blk_cell HD.out.c1 2; have c3 := blk_cell HD.out.c1 3; have c4 := blk_cell HD.out.c1 4; go_simp; exact rfl))
      | refine runT_skip (by rfl) (by rfl) hs ?_)
    (try simp only [Act.put, List.setIfInBounds_toArray, List.set_cons_zero, List.set_cons_succ]))
  clear hs
  obtain ⟨wd, hwd⟩ : ∃ wd, wd = W.drew := ⟨_, rfl⟩
  rw [← hwd]
  have Hbd := Aside0.mk (show Below W.heap.size W wd by rw [hwd]; exact (Below.refl _ _).drew)
  clear hwd
  have hF := H.out.2.below (Hbd.out)
  have r := hF.reg a HA.out
  have z := hF.frozen (5 + a)
  refine runT_fin (by rfl) (by rfl) (fun K hK => ?_)
  go_simp
  refine hK _ _ ?_
  clear hK K
  refine runT_done ?_
  obtain ⟨W1, hW1⟩ : ∃ W1, W1 = wd.setCell ⟨fb, 5 + a, none⟩ (.int .i64 (wrap64 (y.tdiv u))) := ⟨_, rfl⟩
  rw [← hW1]
  have hF1 := hF.setReg a HA.out (wrap64 (y.tdiv u))
  rw [← hW1] at hF1
  have hk1 : Keep (fun q => q = fb) wd W1 := by rw [hW1]; exact (Keep.refl (fun q => q = fb) wd).set (p := ⟨fb, 5 + a, none⟩) (.inr rfl) _
  have H1 := Aside0.mk (And.intro hF1 hk1)
  clear hF r z hF1 hk1 hW1
  go_upto_region 18 with (fail)
  go_wp2_with fail
  refine (goes_any _).mono ?_
  rintro e w2 ⟨rfl, hb2⟩
  have hk2 : Keep (fun q => q = fb) wd w2 := H1.out.2.then (Keep.of_below hb2 (fun _ => False)) (fun _ _ h => h.elim)
  have hF2 := H1.out.1.below hb2
  have hc2 : w2.heap[w.heap.size + 1 + 1]? = some zEff := hk2.blk ((Hbd.out.block _ (blk_lt HD.out.c2)).trans HD.out.c2) (by have := H.out.1.lt; omega)
  have HC2 := Aside0.mk hc2
  have H2 := Aside0.mk (And.intro hF2 hk2)
  have q0 := blk_cell hc2 0
  have q1 := blk_cell hc2 1
  have q2 := blk_cell hc2 2
  have q3 := blk_cell hc2 3
  have q4 := blk_cell hc2 4
  have q5 := blk_cell hc2 5
  have q6 := blk_cell hc2 6
  have q7 := blk_cell hc2 7
  have f0 := blk_frozen hc2 0
  have f1 := blk_frozen hc2 1
  have f2 := blk_frozen hc2 2
  have f3 := blk_frozen hc2 3
  have f4 := blk_frozen hc2 4
  have f5 := blk_frozen hc2 5
  have f6 := blk_frozen hc2 6
  have f7 := blk_frozen hc2 7
  clear hb2 hk2 hF2 hc2
  try unfold efV
  go_wp2_with fail
  obtain ⟨hs1, hs2⟩ := storeE_at HC2.out (efGoes) (none) (0) (none) (0)
  refine ⟨rfl, _, eff_results (e := efGoes) (Aa := none) (ca := 0) (Ab := none) (cb := 0) rfl rfl hs1, none, 0, none, 0, rfl, ?_, H2.out.1.keep hs2 (by have := H.out.1.lt; omega), ?_⟩
  · exact EfC.plain _ _ _ ⟨rfl, rfl⟩
  · exact ((Keep.of_below (HD.out.below.trans (Hbd.out.mono HD.out.below.size)) (fun q => q = fb)).trans H2.out.2).then hs2 (fun q hq e => by omega)
set_option maxRecDepth 100000 in
set_option maxHeartbeats 8000000 in
theorem dreckon_no (h : FB fb F vp w) (x : S65) (hop : x.f0 = 6) (ha : 0 ≤ x.f1 ∧ x.f1 < 8) (hb : 0 ≤ x.f2 ∧ x.f2 < 8) (hc : 0 ≤ x.f3 ∧ x.f3 < 8) (hn : fR F x.f3 = 0) : Calls Try.prog 42 #[dV A n c b d fb, xvF x] w (DoP fb vp (efFails 1, F) w) := by
  obtain ⟨x0, x1, x2, x3, x4⟩ := x
  obtain ⟨W, hW⟩ : ∃ W, W = (((w.alloc (.cells #[.slice A n c, .int .i64 b, .int .i64 d, .pointer (some ⟨fb, 0, none⟩)] 115)).alloc (.cells #[.int .i64 x0, .int .i64 x1, .int .i64 x2, .int .i64 x3, .int .i64 x4] 65)).alloc (.cells #[.int .i64 0, .int .i64 0, .int .i64 0, .int .i64 0, .int .i64 0, .int .i64 0, .slice none 0 0, .slice none 0 0] 36)) := ⟨_, rfl⟩
  have hD : DW w A n c b d fb ⟨x0, x1, x2, x3, x4⟩ W := by rw [hW]; exact DW.start w A n c b d fb ⟨x0, x1, x2, x3, x4⟩
  have HD := Aside0.mk hD
  have HW := Aside0.mk hW
  have H := Aside0.mk (And.intro h (h.below hD.below))
  clear hW hD h
  unfold dV xvF
  obtain rfl : x0 = 6 := hop
  have ha : 0 ≤ x1 ∧ x1 < 8 := ha
  obtain ⟨a, rfl⟩ : ∃ a : Nat, x1 = a := ⟨x1.toNat, by omega⟩
  have h8a : ((a : Int) < 8) = True := eq_true ha.2
  have HA := Aside0.mk (show a < 8 by omega)
  clear ha
  have hb : 0 ≤ x2 ∧ x2 < 8 := hb
  obtain ⟨b2, rfl⟩ : ∃ b2 : Nat, x2 = b2 := ⟨x2.toNat, by omega⟩
  have h8b2 : ((b2 : Int) < 8) = True := eq_true hb.2
  have HB2 := Aside0.mk (show b2 < 8 by omega)
  clear hb
  have hc : 0 ≤ x3 ∧ x3 < 8 := hc
  obtain ⟨c2, rfl⟩ : ∃ c2 : Nat, x3 = c2 := ⟨x3.toNat, by omega⟩
  have h8c2 : ((c2 : Int) < 8) = True := eq_true hc.2
  have HC2 := Aside0.mk (show c2 < 8 by omega)
  clear hc
  have r2 := H.out.2.reg b2 HB2.out
  have r3 := H.out.2.reg c2 HC2.out
  have e2 : fR F (b2 : Int) = F.regs.getD b2 0 := rfl
  have e3 : fR F (c2 : Int) = F.regs.getD c2 0 := rfl
  obtain ⟨y, hy⟩ : ∃ y, F.regs.getD b2 0 = y := ⟨_, rfl⟩
  obtain ⟨u, hu⟩ : ∃ u, F.regs.getD c2 0 = u := ⟨_, rfl⟩
  rw [hy] at e2 r2
  rw [hu] at e3 r3
  show Calls _ _ _ _ (DoP fb vp (efFails 1, F) w)
  have hn : fR F (c2 : Int) = 0 := hn
  rw [e3] at hn
  have hn1 : (u == 0) = true := by simp [hn]
  clear hn
  clear e2 e3 hy hu
  go_enter Try.func42, Try.ntmps42
  go_upto_region 1 with (fail)
  rw [← HW.out]
  refine wp_region_T (fun w' => Drawn0 W w') [] (.takes [0, 1, 2, 3, 4, 5, 6, 7, 8, 9, 10, 11, 12, 13, 14, 15] (.op 16 (.op 17 .done))) (by kernel_rfl) (by kernel_rfl) (by kernel_rfl) (by kernel_rfl) (panic_via (P := Try.prog) (fn := Try.f42) (R := DoP fb vp (efFails 1, F) w) (fun _ _ _ => rfl)) ?_
  have hs : Drawn0 W W.drew := (Drawn0.refl W).step 1
  simp only [Turns.takes]
  repeat (
    (first
      | (refine runT_take (v := ?_) (by rfl) (by rfl) (fun w' hS => ?_) hs ?_
         rotate_left
         · (obtain ⟨n, rfl⟩ := hS; have d3 := blk_cell HD.out.c0 3; have c1 := blk_cell HD.out.c1 1; have c2 := blk_cell HD.out.c1 2; have c3 := blk_cell HD.out.c1 3; go_simp; exact rfl))
      | refine runT_skip (by rfl) (by rfl) hs ?_)
    (try simp only [Act.put, List.setIfInBounds_toArray, List.set_cons_zero, List.set_cons_succ]))
  refine runT_op (by rfl) (by rfl) (fun K hK => ?_)
  go_simp
  refine hK _ _ hs ?_
  clear hK K
  (try simp only [Act.put, List.setIfInBounds_toArray, List.set_cons_zero, List.set_cons_succ])
  refine runT_op (by rfl) (by rfl) (fun K hK => ?_)
  go_simp
  refine hK _ _ hs ?_
  clear hK K hs
  (try simp only [Act.put, List.setIfInBounds_toArray, List.set_cons_zero, List.set_cons_succ])
  refine runT_done ?_
  have hbW : Below W.heap.size W W.drew := (Below.refl _ _).drew
  have HD := Aside0.mk (HD.out.below2 hbW)
  have H := Aside0.mk (And.intro H.out.1 (H.out.2.below hbW))
  clear HW hbW r2 r3
  generalize W.drew = W at HD H ⊢
  have c0 := blk_cell HD.out.c1 0
  obtain ⟨wd, hwd⟩ : ∃ wd, wd = W := ⟨_, rfl⟩
  rw [← hwd]
  have Hbd := Aside0.mk (show Below W.heap.size W wd by rw [hwd]; exact (Below.refl _ _))
  clear hwd
  have H1 := Aside0.mk (And.intro (H.out.2.below Hbd.out) (Keep.refl (fun q => q = fb) wd))
  obtain ⟨W1, hW1⟩ : ∃ W1, W1 = wd := ⟨_, rfl⟩
  have c0 := (Hbd.out.cell (World.block_lt_of_cell? _ _ c0)).trans c0
  go_wp2_with fail
  refine (ffails_any _ _).mono ?_
  rintro e w2 ⟨rfl, hb2⟩
  clear c0 hn1
  have hk2 : Keep (fun q => q = fb) wd w2 := H1.out.2.then (Keep.of_below hb2 (fun _ => False)) (fun _ _ h => h.elim)
  have hF2 := H1.out.1.below hb2
  have hc2 : w2.heap[w.heap.size + 1 + 1]? = some zEff := hk2.blk ((Hbd.out.block _ (blk_lt HD.out.c2)).trans HD.out.c2) (by have := H.out.1.lt; omega)
  have HC2 := Aside0.mk hc2
  have H2 := Aside0.mk (And.intro hF2 hk2)
  have q0 := blk_cell hc2 0
  have q1 := blk_cell hc2 1
  have q2 := blk_cell hc2 2
  have q3 := blk_cell hc2 3
  have q4 := blk_cell hc2 4
  have q5 := blk_cell hc2 5
  have q6 := blk_cell hc2 6
  have q7 := blk_cell hc2 7
  have f0 := blk_frozen hc2 0
  have f1 := blk_frozen hc2 1
  have f2 := blk_frozen hc2 2
  have f3 := blk_frozen hc2 3
  have f4 := blk_frozen hc2 4
  have f5 := blk_frozen hc2 5
  have f6 := blk_frozen hc2 6
  have f7 := blk_frozen hc2 7
  clear hb2 hk2 hF2 hc2
  try unfold efV
  go_wp2_with fail
  obtain ⟨hs1, hs2⟩ := storeE_at HC2.out ((efFails 1)) (none) (0) (none) (0)
  refine ⟨rfl, _, eff_results (e := (efFails 1)) (Aa := none) (ca := 0) (Ab := none) (cb := 0) rfl rfl hs1, none, 0, none, 0, rfl, ?_, H2.out.1.keep hs2 (by have := H.out.1.lt; omega), ?_⟩
  · exact EfC.plain _ _ _ ⟨rfl, rfl⟩
  · exact ((Keep.of_below (HD.out.below.trans (Hbd.out.mono HD.out.below.size)) (fun q => q = fb)).trans H2.out.2).then hs2 (fun q hq e => by omega)
set_option maxRecDepth 100000 in
set_option maxHeartbeats 8000000 in
theorem dreckon_less (h : FB fb F vp w) (x : S65) (hop : x.f0 = 7) (ha : 0 ≤ x.f1 ∧ x.f1 < 8) (hb : 0 ≤ x.f2 ∧ x.f2 < 8) (hc : 0 ≤ x.f3 ∧ x.f3 < 8) : Calls Try.prog 42 #[dV A n c b d fb, xvF x] w (DoP fb vp (efGoes, fSet F x.f1 (lessV (fR F x.f2) (fR F x.f3))) w) := by
  obtain ⟨x0, x1, x2, x3, x4⟩ := x
  obtain ⟨W, hW⟩ : ∃ W, W = (((w.alloc (.cells #[.slice A n c, .int .i64 b, .int .i64 d, .pointer (some ⟨fb, 0, none⟩)] 115)).alloc (.cells #[.int .i64 x0, .int .i64 x1, .int .i64 x2, .int .i64 x3, .int .i64 x4] 65)).alloc (.cells #[.int .i64 0, .int .i64 0, .int .i64 0, .int .i64 0, .int .i64 0, .int .i64 0, .slice none 0 0, .slice none 0 0] 36)) := ⟨_, rfl⟩
  have hD : DW w A n c b d fb ⟨x0, x1, x2, x3, x4⟩ W := by rw [hW]; exact DW.start w A n c b d fb ⟨x0, x1, x2, x3, x4⟩
  have HD := Aside0.mk hD
  have HW := Aside0.mk hW
  have H := Aside0.mk (And.intro h (h.below hD.below))
  clear hW hD h
  unfold dV xvF
  obtain rfl : x0 = 7 := hop
  have ha : 0 ≤ x1 ∧ x1 < 8 := ha
  obtain ⟨a, rfl⟩ : ∃ a : Nat, x1 = a := ⟨x1.toNat, by omega⟩
  have h8a : ((a : Int) < 8) = True := eq_true ha.2
  have HA := Aside0.mk (show a < 8 by omega)
  clear ha
  have hb : 0 ≤ x2 ∧ x2 < 8 := hb
  obtain ⟨b2, rfl⟩ : ∃ b2 : Nat, x2 = b2 := ⟨x2.toNat, by omega⟩
  have h8b2 : ((b2 : Int) < 8) = True := eq_true hb.2
  have HB2 := Aside0.mk (show b2 < 8 by omega)
  clear hb
  have hc : 0 ≤ x3 ∧ x3 < 8 := hc
  obtain ⟨c2, rfl⟩ : ∃ c2 : Nat, x3 = c2 := ⟨x3.toNat, by omega⟩
  have h8c2 : ((c2 : Int) < 8) = True := eq_true hc.2
  have HC2 := Aside0.mk (show c2 < 8 by omega)
  clear hc
  have r2 := H.out.2.reg b2 HB2.out
  have r3 := H.out.2.reg c2 HC2.out
  have e2 : fR F (b2 : Int) = F.regs.getD b2 0 := rfl
  have e3 : fR F (c2 : Int) = F.regs.getD c2 0 := rfl
  obtain ⟨y, hy⟩ : ∃ y, F.regs.getD b2 0 = y := ⟨_, rfl⟩
  obtain ⟨u, hu⟩ : ∃ u, F.regs.getD c2 0 = u := ⟨_, rfl⟩
  rw [hy] at e2 r2
  rw [hu] at e3 r3
  show Calls _ _ _ _ (DoP fb vp (efGoes, fSet F (a : Int) (lessV (fR F (b2 : Int)) (fR F (c2 : Int)))) w)
  rw [e2, e3]
  clear e2 e3 hy hu
  go_enter Try.func42, Try.ntmps42
  go_upto_region 1 with (fail)
  rw [← HW.out]
  refine wp_region_T (fun w' => Drawn0 W w') [] (.takes [0, 1, 2, 3, 4, 5, 6, 7, 8, 9, 10, 11, 12, 13, 14, 15] (.op 16 (.op 17 .done))) (by kernel_rfl) (by kernel_rfl) (by kernel_rfl) (by kernel_rfl) (panic_via (P := Try.prog) (fn := Try.f42) (R := DoP fb vp (efGoes, fSet F a (lessV y u)) w) (fun _ _ _ => rfl)) ?_
  have hs : Drawn0 W W.drew := (Drawn0.refl W).step 1
  simp only [Turns.takes]
  repeat (
    (first
      | (refine runT_take (v := ?_) (by rfl) (by rfl) (fun w' hS => ?_) hs ?_
         rotate_left
         · (obtain ⟨n, rfl⟩ := hS; have d3 := blk_cell HD.out.c0 3; have c1 := blk_cell HD.out.c1 1; have c2 := blk_cell HD.out.c1 2; have c3 := blk_cell HD.out.c1 3; go_simp; exact rfl))
      | refine runT_skip (by rfl) (by rfl) hs ?_)
    (try simp only [Act.put, List.setIfInBounds_toArray, List.set_cons_zero, List.set_cons_succ]))
  refine runT_op (by rfl) (by rfl) (fun K hK => ?_)
  go_simp
  refine hK _ _ hs ?_
  clear hK K
  (try simp only [Act.put, List.setIfInBounds_toArray, List.set_cons_zero, List.set_cons_succ])
  refine runT_op (by rfl) (by rfl) (fun K hK => ?_)
  go_simp
  refine hK _ _ hs ?_
  clear hK K hs
  (try simp only [Act.put, List.setIfInBounds_toArray, List.set_cons_zero, List.set_cons_succ])
  refine runT_done ?_
  have hbW : Below W.heap.size W W.drew := (Below.refl _ _).drew
  have HD := Aside0.mk (HD.out.below2 hbW)
  have H := Aside0.mk (And.intro H.out.1 (H.out.2.below hbW))
  clear HW hbW r2 r3
  generalize W.drew = W at HD H ⊢
  have c0 := blk_cell HD.out.c1 0
  go_wp2_with fail
  refine (ftruth_any _ _).mono ?_
  rintro e w2 ⟨rfl, rfl⟩
  have hv : ftruthV (decide (y < u)) = lessV y u := ftruth_less y u
  rw [hv]
  clear hv
  go_upto_region 17 with (fail)
  clear c0
  refine wp_region_T (fun w' => Drawn0 W w') [8] (.takes [0, 1, 2, 3, 4, 5, 6, 7] (.fin 8 .done)) (by kernel_rfl) (by kernel_rfl) (by kernel_rfl) (by kernel_rfl) (panic_via (P := Try.prog) (fn := Try.f42) (R := DoP fb vp (efGoes, fSet F a (lessV y u)) w) (fun _ _ _ => rfl)) ?_
  have hs : Drawn0 W W.drew := (Drawn0.refl W).step 1
  simp only [Turns.takes]
  repeat (
    (first
      | (refine runT_take (v := ?_) (by rfl) (by rfl) (fun w' hS => ?_) hs ?_
         rotate_left
         · (obtain ⟨n, rfl⟩ := hS; have d0 := blk_cell HD.out.c0 0; have d1 := blk_cell HD.out.c0 1; have d2 := blk_cell HD.out.c0 2; have d3 := blk_cell HD.out.c0 3; have c0 := blk_cell HD.out.c1 0; have c1 := blk_cell HD.out.c1 1; have c2 := blk_cell HD.out.c1 2; have c3 := blk_cell HD.out.c1 3; have c4 := blk_cell HD.out.c1 4; go_simp; exact rfl))
      | refine runT_skip (by rfl) (by rfl) hs ?_)
    (try simp only [Act.put, List.setIfInBounds_toArray, List.set_cons_zero, List.set_cons_succ]))
  clear hs
  obtain ⟨wd, hwd⟩ : ∃ wd, wd = W.drew := ⟨_, rfl⟩
  rw [← hwd]
  have Hbd := Aside0.mk (show Below W.heap.size W wd by rw [hwd]; exact (Below.refl _ _).drew)
  clear hwd
  have hF := H.out.2.below (Hbd.out)
  have r := hF.reg a HA.out
  have z := hF.frozen (5 + a)
  refine runT_fin (by rfl) (by rfl) (fun K hK => ?_)
  go_simp
  refine hK _ _ ?_
  clear hK K
  refine runT_done ?_
  obtain ⟨W1, hW1⟩ : ∃ W1, W1 = wd.setCell ⟨fb, 5 + a, none⟩ (.int .i64 (lessV y u)) := ⟨_, rfl⟩
  rw [← hW1]
  have hF1 := hF.setReg a HA.out (lessV y u)
  rw [← hW1] at hF1
  have hk1 : Keep (fun q => q = fb) wd W1 := by rw [hW1]; exact (Keep.refl (fun q => q = fb) wd).set (p := ⟨fb, 5 + a, none⟩) (.inr rfl) _
  have H1 := Aside0.mk (And.intro hF1 hk1)
  clear hF r z hF1 hk1 hW1
  go_upto_region 18 with (fail)
  go_wp2_with fail
  refine (goes_any _).mono ?_
  rintro e w2 ⟨rfl, hb2⟩
  have hk2 : Keep (fun q => q = fb) wd w2 := H1.out.2.then (Keep.of_below hb2 (fun _ => False)) (fun _ _ h => h.elim)
  have hF2 := H1.out.1.below hb2
  have hc2 : w2.heap[w.heap.size + 1 + 1]? = some zEff := hk2.blk ((Hbd.out.block _ (blk_lt HD.out.c2)).trans HD.out.c2) (by have := H.out.1.lt; omega)
  have HC2 := Aside0.mk hc2
  have H2 := Aside0.mk (And.intro hF2 hk2)
  have q0 := blk_cell hc2 0
  have q1 := blk_cell hc2 1
  have q2 := blk_cell hc2 2
  have q3 := blk_cell hc2 3
  have q4 := blk_cell hc2 4
  have q5 := blk_cell hc2 5
  have q6 := blk_cell hc2 6
  have q7 := blk_cell hc2 7
  have f0 := blk_frozen hc2 0
  have f1 := blk_frozen hc2 1
  have f2 := blk_frozen hc2 2
  have f3 := blk_frozen hc2 3
  have f4 := blk_frozen hc2 4
  have f5 := blk_frozen hc2 5
  have f6 := blk_frozen hc2 6
  have f7 := blk_frozen hc2 7
  clear hb2 hk2 hF2 hc2
  try unfold efV
  go_wp2_with fail
  obtain ⟨hs1, hs2⟩ := storeE_at HC2.out (efGoes) (none) (0) (none) (0)
  refine ⟨rfl, _, eff_results (e := efGoes) (Aa := none) (ca := 0) (Ab := none) (cb := 0) rfl rfl hs1, none, 0, none, 0, rfl, ?_, H2.out.1.keep hs2 (by have := H.out.1.lt; omega), ?_⟩
  · exact EfC.plain _ _ _ ⟨rfl, rfl⟩
  · exact ((Keep.of_below (HD.out.below.trans (Hbd.out.mono HD.out.below.size)) (fun q => q = fb)).trans H2.out.2).then hs2 (fun q hq e => by omega)
set_option maxRecDepth 100000 in
set_option maxHeartbeats 8000000 in
theorem dreckon_same (h : FB fb F vp w) (x : S65) (hop : x.f0 = 8) (ha : 0 ≤ x.f1 ∧ x.f1 < 8) (hb : 0 ≤ x.f2 ∧ x.f2 < 8) (hc : 0 ≤ x.f3 ∧ x.f3 < 8) : Calls Try.prog 42 #[dV A n c b d fb, xvF x] w (DoP fb vp (efGoes, fSet F x.f1 (sameV (fR F x.f2) (fR F x.f3))) w) := by
  obtain ⟨x0, x1, x2, x3, x4⟩ := x
  obtain ⟨W, hW⟩ : ∃ W, W = (((w.alloc (.cells #[.slice A n c, .int .i64 b, .int .i64 d, .pointer (some ⟨fb, 0, none⟩)] 115)).alloc (.cells #[.int .i64 x0, .int .i64 x1, .int .i64 x2, .int .i64 x3, .int .i64 x4] 65)).alloc (.cells #[.int .i64 0, .int .i64 0, .int .i64 0, .int .i64 0, .int .i64 0, .int .i64 0, .slice none 0 0, .slice none 0 0] 36)) := ⟨_, rfl⟩
  have hD : DW w A n c b d fb ⟨x0, x1, x2, x3, x4⟩ W := by rw [hW]; exact DW.start w A n c b d fb ⟨x0, x1, x2, x3, x4⟩
  have HD := Aside0.mk hD
  have HW := Aside0.mk hW
  have H := Aside0.mk (And.intro h (h.below hD.below))
  clear hW hD h
  unfold dV xvF
  obtain rfl : x0 = 8 := hop
  have ha : 0 ≤ x1 ∧ x1 < 8 := ha
  obtain ⟨a, rfl⟩ : ∃ a : Nat, x1 = a := ⟨x1.toNat, by omega⟩
  have h8a : ((a : Int) < 8) = True := eq_true ha.2
  have HA := Aside0.mk (show a < 8 by omega)
  clear ha
  have hb : 0 ≤ x2 ∧ x2 < 8 := hb
  obtain ⟨b2, rfl⟩ : ∃ b2 : Nat, x2 = b2 := ⟨x2.toNat, by omega⟩
  have h8b2 : ((b2 : Int) < 8) = True := eq_true hb.2
  have HB2 := Aside0.mk (show b2 < 8 by omega)
  clear hb
  have hc : 0 ≤ x3 ∧ x3 < 8 := hc
  obtain ⟨c2, rfl⟩ : ∃ c2 : Nat, x3 = c2 := ⟨x3.toNat, by omega⟩
  have h8c2 : ((c2 : Int) < 8) = True := eq_true hc.2
  have HC2 := Aside0.mk (show c2 < 8 by omega)
  clear hc
  have r2 := H.out.2.reg b2 HB2.out
  have r3 := H.out.2.reg c2 HC2.out
  have e2 : fR F (b2 : Int) = F.regs.getD b2 0 := rfl
  have e3 : fR F (c2 : Int) = F.regs.getD c2 0 := rfl
  obtain ⟨y, hy⟩ : ∃ y, F.regs.getD b2 0 = y := ⟨_, rfl⟩
  obtain ⟨u, hu⟩ : ∃ u, F.regs.getD c2 0 = u := ⟨_, rfl⟩
  rw [hy] at e2 r2
  rw [hu] at e3 r3
  show Calls _ _ _ _ (DoP fb vp (efGoes, fSet F (a : Int) (sameV (fR F (b2 : Int)) (fR F (c2 : Int)))) w)
  rw [e2, e3]
  clear e2 e3 hy hu
  go_enter Try.func42, Try.ntmps42
  go_upto_region 1 with (fail)
  rw [← HW.out]
  refine wp_region_T (fun w' => Drawn0 W w') [] (.takes [0, 1, 2, 3, 4, 5, 6, 7, 8, 9, 10, 11, 12, 13, 14, 15] (.op 16 (.op 17 .done))) (by kernel_rfl) (by kernel_rfl) (by kernel_rfl) (by kernel_rfl) (panic_via (P := Try.prog) (fn := Try.f42) (R := DoP fb vp (efGoes, fSet F a (sameV y u)) w) (fun _ _ _ => rfl)) ?_
  have hs : Drawn0 W W.drew := (Drawn0.refl W).step 1
  simp only [Turns.takes]
  repeat (
    (first
      | (refine runT_take (v := ?_) (by rfl) (by rfl) (fun w' hS => ?_) hs ?_
         rotate_left
         · (obtain ⟨n, rfl⟩ := hS; have d3 := blk_cell HD.out.c0 3; have c1 := blk_cell HD.out.c1 1; have c2 := blk_cell HD.out.c1 2; have c3 := blk_cell HD.out.c1 3; go_simp; exact rfl))
      | refine runT_skip (by rfl) (by rfl) hs ?_)
    (try simp only [Act.put, List.setIfInBounds_toArray, List.set_cons_zero, List.set_cons_succ]))
  refine runT_op (by rfl) (by rfl) (fun K hK => ?_)
  go_simp
  refine hK _ _ hs ?_
  clear hK K
  (try simp only [Act.put, List.setIfInBounds_toArray, List.set_cons_zero, List.set_cons_succ])
  refine runT_op (by rfl) (by rfl) (fun K hK => ?_)
  go_simp
  refine hK _ _ hs ?_
  clear hK K hs
  (try simp only [Act.put, List.setIfInBounds_toArray, List.set_cons_zero, List.set_cons_succ])
  refine runT_done ?_
  have hbW : Below W.heap.size W W.drew := (Below.refl _ _).drew
  have HD := Aside0.mk (HD.out.below2 hbW)
  have H := Aside0.mk (And.intro H.out.1 (H.out.2.below hbW))
  clear HW hbW r2 r3
  generalize W.drew = W at HD H ⊢
  have c0 := blk_cell HD.out.c1 0
  go_wp2_with fail
  refine (ftruth_any _ _).mono ?_
  rintro e w2 ⟨rfl, rfl⟩
  have hv : ftruthV (y == u) = sameV y u := ftruth_same y u
  rw [hv]
  clear hv
  go_upto_region 17 with (fail)
  clear c0
  refine wp_region_T (fun w' => Drawn0 W w') [8] (.takes [0, 1, 2, 3, 4, 5, 6, 7] (.fin 8 .done)) (by kernel_rfl) (by kernel_rfl) (by kernel_rfl) (by kernel_rfl) (panic_via (P := Try.prog) (fn := Try.f42) (R := DoP fb vp (efGoes, fSet F a (sameV y u)) w) (fun _ _ _ => rfl)) ?_
  have hs : Drawn0 W W.drew := (Drawn0.refl W).step 1
  simp only [Turns.takes]
  repeat (
    (first
      | (refine runT_take (v := ?_) (by rfl) (by rfl) (fun w' hS => ?_) hs ?_
         rotate_left
         · (obtain ⟨n, rfl⟩ := hS; have d0 := blk_cell HD.out.c0 0; have d1 := blk_cell HD.out.c0 1; have d2 := blk_cell HD.out.c0 2; have d3 := blk_cell HD.out.c0 3; have c0 := blk_cell HD.out.c1 0; have c1 := blk_cell HD.out.c1 1; have c2 := blk_cell HD.out.c1 2; have c3 := blk_cell HD.out.c1 3; have c4 := blk_cell HD.out.c1 4; go_simp; exact rfl))
      | refine runT_skip (by rfl) (by rfl) hs ?_)
    (try simp only [Act.put, List.setIfInBounds_toArray, List.set_cons_zero, List.set_cons_succ]))
  clear hs
  obtain ⟨wd, hwd⟩ : ∃ wd, wd = W.drew := ⟨_, rfl⟩
  rw [← hwd]
  have Hbd := Aside0.mk (show Below W.heap.size W wd by rw [hwd]; exact (Below.refl _ _).drew)
  clear hwd
  have hF := H.out.2.below (Hbd.out)
  have r := hF.reg a HA.out
  have z := hF.frozen (5 + a)
  refine runT_fin (by rfl) (by rfl) (fun K hK => ?_)
  go_simp
  refine hK _ _ ?_
  clear hK K
  refine runT_done ?_
  obtain ⟨W1, hW1⟩ : ∃ W1, W1 = wd.setCell ⟨fb, 5 + a, none⟩ (.int .i64 (sameV y u)) := ⟨_, rfl⟩
  rw [← hW1]
  have hF1 := hF.setReg a HA.out (sameV y u)
  rw [← hW1] at hF1
  have hk1 : Keep (fun q => q = fb) wd W1 := by rw [hW1]; exact (Keep.refl (fun q => q = fb) wd).set (p := ⟨fb, 5 + a, none⟩) (.inr rfl) _
  have H1 := Aside0.mk (And.intro hF1 hk1)
  clear hF r z hF1 hk1 hW1
  go_upto_region 18 with (fail)
  go_wp2_with fail
  refine (goes_any _).mono ?_
  rintro e w2 ⟨rfl, hb2⟩
  have hk2 : Keep (fun q => q = fb) wd w2 := H1.out.2.then (Keep.of_below hb2 (fun _ => False)) (fun _ _ h => h.elim)
  have hF2 := H1.out.1.below hb2
  have hc2 : w2.heap[w.heap.size + 1 + 1]? = some zEff := hk2.blk ((Hbd.out.block _ (blk_lt HD.out.c2)).trans HD.out.c2) (by have := H.out.1.lt; omega)
  have HC2 := Aside0.mk hc2
  have H2 := Aside0.mk (And.intro hF2 hk2)
  have q0 := blk_cell hc2 0
  have q1 := blk_cell hc2 1
  have q2 := blk_cell hc2 2
  have q3 := blk_cell hc2 3
  have q4 := blk_cell hc2 4
  have q5 := blk_cell hc2 5
  have q6 := blk_cell hc2 6
  have q7 := blk_cell hc2 7
  have f0 := blk_frozen hc2 0
  have f1 := blk_frozen hc2 1
  have f2 := blk_frozen hc2 2
  have f3 := blk_frozen hc2 3
  have f4 := blk_frozen hc2 4
  have f5 := blk_frozen hc2 5
  have f6 := blk_frozen hc2 6
  have f7 := blk_frozen hc2 7
  clear hb2 hk2 hF2 hc2
  try unfold efV
  go_wp2_with fail
  obtain ⟨hs1, hs2⟩ := storeE_at HC2.out (efGoes) (none) (0) (none) (0)
  refine ⟨rfl, _, eff_results (e := efGoes) (Aa := none) (ca := 0) (Ab := none) (cb := 0) rfl rfl hs1, none, 0, none, 0, rfl, ?_, H2.out.1.keep hs2 (by have := H.out.1.lt; omega), ?_⟩
  · exact EfC.plain _ _ _ ⟨rfl, rfl⟩
  · exact ((Keep.of_below (HD.out.below.trans (Hbd.out.mono HD.out.below.size)) (fun q => q = fb)).trans H2.out.2).then hs2 (fun q hq e => by omega)
end
end Go.Proofs.Ytcciejcpijlkfaa.H

set_option linter.unusedVariables false
set_option linter.unusedSimpArgs false
namespace Go.Proofs.Ytcciejcpijlkfaa.H
open Go.RowKit Go.Hay Go.Maps Go.Proofs.YtcciejcpijlkfaaW.PrintWords Go.Proofs.YtcciejcpijlkfaaW.PrintLast Go.Proofs.YtcciejcpijlkfaaW.PrintMore
def Rfn (v : Value) : Option (DataW Unit × List MemPlace) :=
  match v with
  | .func (.func n) a b => if a = #[] ∧ b = #[] then some (.lit (.int .i64 n), []) else none
  | .nilFunc => some (.lit (.int .i64 (-1)), [])
  | _ => none
theorem Rfn_mk (n : Nat) : Rfn (.func (.func n) #[] #[]) = some (.lit (.int .i64 n), []) := by simp [Rfn]
theorem Rfn_inv {v : Value} {n : Nat} {ps : List MemPlace} (h : Rfn v = some (.lit (.int .i64 n), ps)) : v = .func (.func n) #[] #[] := by
  unfold Rfn at h
  split at h
  · split at h
    · rename_i m a b hab
      obtain ⟨rfl, rfl⟩ := hab
      have h1 := congrArg (fun o : Option (DataW Unit × List MemPlace) => match o with | some (.lit (.int _ x), _) => x | _ => 0) h
      have h2 : (m : Int) = (n : Int) := h1
      have : m = n := Int.ofNat.inj h2
      rw [this]
    · cases h
  · exfalso
    have h1 := congrArg (fun o : Option (DataW Unit × List MemPlace) => match o with | some (.lit (.int _ x), _) => x | _ => 0) h
    have h2 : (-1 : Int) = (n : Int) := h1
    omega
  · cases h
theorem law3 : Keyed Try.prog 3 := int_keyed Try.underlying3
theorem wpList_insert_own {H : Type} {P : Program} (w : World) {ops : Array Oper} {rest : List Oper} {o : Oper} {a : Act} {Q : Exit → Act → World → Prop}
    (hg : o.guard = none) (m x v : Operand) (t : TypeId) (hop : o.op = Op.insert t m x v)
    (k e : TypeId) (K : Keyed P k) (ht : P.underlying t = some (.map k e)) (R : Value → Option (DataW H × List MemPlace)) (b n : Nat) (D : DataW H)
    (hm : a.eval m = .map (some b)) (hown : w.ownsMap P k R b n D) (hn : n < maxLen) (key val : Value) (kl : Lit) (hx : a.eval x = key) (hv : a.eval v = val) (hkey : keyOf P k key = some kl)
    (d : DataW H) (ps : List MemPlace) (hval : R val = some (d, ps))
    (hK : ∀ w', w'.ownsMap P k R b (n + 1) (D.put kl d) → w.grownBy w' (some b) → wpList P ops Q rest (a.put o.dst undef) w') :
    wpList P ops Q (o :: rest) a w := by
  refine wpList_plain hg fun K' hK' => ?_
  obtain ⟨w', hrun, r1, r2⟩ := hown.update K ht hn hkey hval
  unfold Oper.wp
  simp [execOp, hop, hm, hx, hv, hrun, Result.andThen]
  exact hK' _ _ (hK w' r1 r2)
end Go.Proofs.Ytcciejcpijlkfaa.H

set_option linter.unusedVariables false
set_option linter.unusedSimpArgs false
namespace Go.Proofs.Ytcciejcpijlkfaa.H
open Go.RowKit Go.Hay Go.Maps Go.Proofs.YtcciejcpijlkfaaW.PrintWords Go.Proofs.YtcciejcpijlkfaaW.PrintLast Go.Proofs.YtcciejcpijlkfaaW.PrintMore
/-- which function does an operation. -/
def fdeedF (op : Int) : Nat :=
  if op = 1 then 40 else
  if op = 2 then 41 else
  if op = 3 then 42 else
  if op = 4 then 42 else
  if op = 5 then 42 else
  if op = 6 then 42 else
  if op = 7 then 42 else
  if op = 8 then 42 else
  if op = 9 then 43 else
  if op = 10 then 44 else
  if op = 11 then 45 else
  if op = 12 then 46 else
  if op = 13 then 47 else
  if op = 14 then 48 else
  if op = 15 then 49 else
  if op = 16 then 50 else
  51
theorem fdeedF_1 : fdeedF 1 = 40 := by decide
theorem fdeedF_2 : fdeedF 2 = 41 := by decide
theorem fdeedF_3 : fdeedF 3 = 42 := by decide
theorem fdeedF_4 : fdeedF 4 = 42 := by decide
theorem fdeedF_5 : fdeedF 5 = 42 := by decide
theorem fdeedF_6 : fdeedF 6 = 42 := by decide
theorem fdeedF_7 : fdeedF 7 = 42 := by decide
theorem fdeedF_8 : fdeedF 8 = 42 := by decide
theorem fdeedF_9 : fdeedF 9 = 43 := by decide
theorem fdeedF_10 : fdeedF 10 = 44 := by decide
theorem fdeedF_11 : fdeedF 11 = 45 := by decide
theorem fdeedF_12 : fdeedF 12 = 46 := by decide
theorem fdeedF_13 : fdeedF 13 = 47 := by decide
theorem fdeedF_14 : fdeedF 14 = 48 := by decide
theorem fdeedF_15 : fdeedF 15 = 49 := by decide
theorem fdeedF_16 : fdeedF 16 = 50 := by decide
theorem fdeedF_17 : fdeedF 17 = 51 := by decide
theorem fdeed_zero (w : World) : (zeroValue 111).run Try.prog w = .ok .nilFunc w := by kernel_rfl
def FdeedAt (mb : Nat) (w : World) : Prop := ∃ D : DataW Unit, w.ownsMap Try.prog 3 Rfn mb 17 D ∧ ∀ op : Int, 1 ≤ op → op ≤ 17 → D.atKey (.int .i64 op) (.lit (.int .i64 (-1))) = .lit (.int .i64 (fdeedF op))
theorem FdeedAt.heap {mb : Nat} {w w1 : World} (h : FdeedAt mb w) (hk : w1.heap[mb]? = w.heap[mb]?) : FdeedAt mb w1 := by
  obtain ⟨D, ⟨es, clock, h1, h2⟩, h3⟩ := h
  exact ⟨D, ⟨es, clock, hk.trans h1, h2⟩, h3⟩
theorem FdeedAt.lt {mb : Nat} {w : World} (h : FdeedAt mb w) : mb < w.heap.size := by
  obtain ⟨D, hm, _⟩ := h
  exact hm.lt
theorem FdeedAt.look {mb : Nat} {w : World} (h : FdeedAt mb w) (op : Int) (h1 : 1 ≤ op) (h2 : op ≤ 17) : (Instr.lookup 112 (.map (some mb)) (.int .i64 op) false).run Try.prog w = .ok (.func (.func (fdeedF op)) #[] #[]) w := by
  obtain ⟨D, hm, hD⟩ := h
  obtain ⟨v, ps, hrun, hv⟩ := hm.lookup law3 Try.underlying112 (fdeed_zero w) (zd := .lit (.int .i64 (-1))) (zp := []) rfl (key := .int .i64 op) (kl := .int .i64 op) (keyOf_int_mk Try.underlying3 (WalkArith.wf_i64 (by omega)))
  rw [hD op h1 h2] at hv
  rw [hrun, Rfn_inv hv]
theorem fdeed_enter {op : Int} (h : 1 ≤ op ∧ op ≤ 17) (args : Array Value) (w : World) : (callFunc (fdeedF op) args).run Try.prog w = .ok (.enter (fdeedF op) args) w := by
  have hcases : op = 1 ∨ op = 2 ∨ op = 3 ∨ op = 4 ∨ op = 5 ∨ op = 6 ∨ op = 7 ∨ op = 8 ∨ op = 9 ∨ op = 10 ∨ op = 11 ∨ op = 12 ∨ op = 13 ∨ op = 14 ∨ op = 15 ∨ op = 16 ∨ op = 17 := by omega
  rcases hcases with rfl | rfl | rfl | rfl | rfl | rfl | rfl | rfl | rfl | rfl | rfl | rfl | rfl | rfl | rfl | rfl | rfl
  · rw [fdeedF_1]; exact Try.call40 args w
  · rw [fdeedF_2]; exact Try.call41 args w
  · rw [fdeedF_3]; exact Try.call42 args w
  · rw [fdeedF_4]; exact Try.call42 args w
  · rw [fdeedF_5]; exact Try.call42 args w
  · rw [fdeedF_6]; exact Try.call42 args w
  · rw [fdeedF_7]; exact Try.call42 args w
  · rw [fdeedF_8]; exact Try.call42 args w
  · rw [fdeedF_9]; exact Try.call43 args w
  · rw [fdeedF_10]; exact Try.call44 args w
  · rw [fdeedF_11]; exact Try.call45 args w
  · rw [fdeedF_12]; exact Try.call46 args w
  · rw [fdeedF_13]; exact Try.call47 args w
  · rw [fdeedF_14]; exact Try.call48 args w
  · rw [fdeedF_15]; exact Try.call49 args w
  · rw [fdeedF_16]; exact Try.call50 args w
  · rw [fdeedF_17]; exact Try.call51 args w
/-- the table as_ it is filled. -/
structure FdeedI (w : World) (mb n : Nat) (w' : World) : Prop where
  map : ∃ D : DataW Unit, w'.ownsMap Try.prog 3 Rfn mb n D ∧ ∀ op : Int, 1 ≤ op → op ≤ n → D.atKey (.int .i64 op) (.lit (.int .i64 (-1))) = .lit (.int .i64 (fdeedF op))
  below : Below w.heap.size w w'
  mb_ : mb = w.heap.size
theorem FdeedI.put {w w1 w2 : World} {mb n : Nat} (h : FdeedI w mb n w1) {D : DataW Unit} (hD : ∀ op : Int, 1 ≤ op → op ≤ n → D.atKey (.int .i64 op) (.lit (.int .i64 (-1))) = .lit (.int .i64 (fdeedF op))) (hi : IsMap D) (hm : w2.ownsMap Try.prog 3 Rfn mb (n + 1) (D.put (.int .i64 ((n : Int) + 1)) (.lit (.int .i64 (fdeedF ((n : Int) + 1)))))) (hg : w1.grownBy w2 (some mb)) : FdeedI w mb (n + 1) w2 := by
  refine ⟨⟨_, hm, fun op h1 h2 => ?_⟩, h.below.grown hg h.below.size (fun j hj => by cases hj; rw [h.mb_]; exact Nat.le_refl _), h.mb_⟩
  by_cases e : (n : Int) + 1 = op
  · subst e
    rw [atKey_put_same hi (by simp [WideAt.IsKeyLit])]
  · rw [atKey_put_other (by simp; exact fun h => e h.symm), hD op h1 (by omega)]
def FdeedP (w : World) (e : Ending) (w' : World) : Prop := e = .returned (.map (some w.heap.size)) ∧ Below w.heap.size w w' ∧ FdeedAt w.heap.size w'
set_option maxRecDepth 100000 in
set_option maxHeartbeats 8000000 in
theorem fdeeds_any (w : World) : Calls Try.prog 28 #[] w (FdeedP w) := by
  have hmm := @run_makeMap Try.prog
  have H0 := Aside0.mk (show FdeedI w w.heap.size 0 (w.alloc (.map #[] 0)) from ⟨⟨.map [], World.ownsMap_made _ _ _ _, fun op h1 h2 => by omega⟩, (Below.refl _ _).alloc (Nat.le_refl _) _, rfl⟩)
  go_enter Try.func28, Try.ntmps28
  go_wp2_with (first | (obtain ⟨D, hm, hD⟩ := H0.out.map; refine wpList_insert_own _ rfl (.tmp 1) _ _ 112 rfl 3 111 law3 Try.underlying112 Rfn w.heap.size 0 D rfl hm (by unfold maxLen; decide) (.int .i64 1) (.func (.func 40) #[] #[]) (.int .i64 1) rfl rfl (keyOf_int_mk Try.underlying3 (by decide)) (.lit (.int .i64 40)) [] (Rfn_mk 40) ?_; intro w1 hm1 hg1; have H1 := Aside0.mk (H0.out.put hD hm.isMap (w2 := w1) hm1 hg1); clear hm hD hm1 hg1) | (obtain ⟨D, hm, hD⟩ := H1.out.map; refine wpList_insert_own _ rfl (.tmp 1) _ _ 112 rfl 3 111 law3 Try.underlying112 Rfn w.heap.size 1 D rfl hm (by unfold maxLen; decide) (.int .i64 2) (.func (.func 41) #[] #[]) (.int .i64 2) rfl rfl (keyOf_int_mk Try.underlying3 (by decide)) (.lit (.int .i64 41)) [] (Rfn_mk 41) ?_; intro w2 hm1 hg1; have H2 := Aside0.mk (H1.out.put hD hm.isMap (w2 := w2) hm1 hg1); clear hm hD hm1 hg1) | (obtain ⟨D, hm, hD⟩ := H2.out.map; refine wpList_insert_own _ rfl (.tmp 1) _ _ 112 rfl 3 111 law3 Try.underlying112 Rfn w.heap.size 2 D rfl hm (by unfold maxLen; decide) (.int .i64 3) (.func (.func 42) #[] #[]) (.int .i64 3) rfl rfl (keyOf_int_mk Try.underlying3 (by decide)) (.lit (.int .i64 42)) [] (Rfn_mk 42) ?_; intro w3 hm1 hg1; have H3 := Aside0.mk (H2.out.put hD hm.isMap (w2 := w3) hm1 hg1); clear hm hD hm1 hg1) | (obtain ⟨D, hm, hD⟩ := H3.out.map; refine wpList_insert_own _ rfl (.tmp 1) _ _ 112 rfl 3 111 law3 Try.underlying112 Rfn w.heap.size 3 D rfl hm (by unfold maxLen; decide) (.int .i64 4) (.func (.func 42) #[] #[]) (.int .i64 4) rfl rfl (keyOf_int_mk Try.underlying3 (by decide)) (.lit (.int .i64 42)) [] (Rfn_mk 42) ?_; intro w4 hm1 hg1; have H4 := Aside0.mk (H3.out.put hD hm.isMap (w2 := w4) hm1 hg1); clear hm hD hm1 hg1) | (obtain ⟨D, hm, hD⟩ := H4.out.map; refine wpList_insert_own _ rfl (.tmp 1) _ _ 112 rfl 3 111 law3 Try.underlying112 Rfn w.heap.size 4 D rfl hm (by unfold maxLen; decide) (.int .i64 5) (.func (.func 42) #[] #[]) (.int .i64 5) rfl rfl (keyOf_int_mk Try.underlying3 (by decide)) (.lit (.int .i64 42)) [] (Rfn_mk 42) ?_; intro w5 hm1 hg1; have H5 := Aside0.mk (H4.out.put hD hm.isMap (w2 := w5) hm1 hg1); clear hm hD hm1 hg1) | (obtain ⟨D, hm, hD⟩ := H5.out.map; refine wpList_insert_own _ rfl (.tmp 1) _ _ 112 rfl 3 111 law3 Try.underlying112 Rfn w.heap.size 5 D rfl hm (by unfold maxLen; decide) (.int .i64 6) (.func (.func 42) #[] #[]) (.int .i64 6) rfl rfl (keyOf_int_mk Try.underlying3 (by decide)) (.lit (.int .i64 42)) [] (Rfn_mk 42) ?_; intro w6 hm1 hg1; have H6 := Aside0.mk (H5.out.put hD hm.isMap (w2 := w6) hm1 hg1); clear hm hD hm1 hg1) | (obtain ⟨D, hm, hD⟩ := H6.out.map; refine wpList_insert_own _ rfl (.tmp 1) _ _ 112 rfl 3 111 law3 Try.underlying112 Rfn w.heap.size 6 D rfl hm (by unfold maxLen; decide) (.int .i64 7) (.func (.func 42) #[] #[]) (.int .i64 7) rfl rfl (keyOf_int_mk Try.underlying3 (by decide)) (.lit (.int .i64 42)) [] (Rfn_mk 42) ?_; intro w7 hm1 hg1; have H7 := Aside0.mk (H6.out.put hD hm.isMap (w2 := w7) hm1 hg1); clear hm hD hm1 hg1) | (obtain ⟨D, hm, hD⟩ := H7.out.map; refine wpList_insert_own _ rfl (.tmp 1) _ _ 112 rfl 3 111 law3 Try.underlying112 Rfn w.heap.size 7 D rfl hm (by unfold maxLen; decide) (.int .i64 8) (.func (.func 42) #[] #[]) (.int .i64 8) rfl rfl (keyOf_int_mk Try.underlying3 (by decide)) (.lit (.int .i64 42)) [] (Rfn_mk 42) ?_; intro w8 hm1 hg1; have H8 := Aside0.mk (H7.out.put hD hm.isMap (w2 := w8) hm1 hg1); clear hm hD hm1 hg1) | (obtain ⟨D, hm, hD⟩ := H8.out.map; refine wpList_insert_own _ rfl (.tmp 1) _ _ 112 rfl 3 111 law3 Try.underlying112 Rfn w.heap.size 8 D rfl hm (by unfold maxLen; decide) (.int .i64 9) (.func (.func 43) #[] #[]) (.int .i64 9) rfl rfl (keyOf_int_mk Try.underlying3 (by decide)) (.lit (.int .i64 43)) [] (Rfn_mk 43) ?_; intro w9 hm1 hg1; have H9 := Aside0.mk (H8.out.put hD hm.isMap (w2 := w9) hm1 hg1); clear hm hD hm1 hg1) | (obtain ⟨D, hm, hD⟩ := H9.out.map; refine wpList_insert_own _ rfl (.tmp 1) _ _ 112 rfl 3 111 law3 Try.underlying112 Rfn w.heap.size 9 D rfl hm (by unfold maxLen; decide) (.int .i64 10) (.func (.func 44) #[] #[]) (.int .i64 10) rfl rfl (keyOf_int_mk Try.underlying3 (by decide)) (.lit (.int .i64 44)) [] (Rfn_mk 44) ?_; intro w10 hm1 hg1; have H10 := Aside0.mk (H9.out.put hD hm.isMap (w2 := w10) hm1 hg1); clear hm hD hm1 hg1) | (obtain ⟨D, hm, hD⟩ := H10.out.map; refine wpList_insert_own _ rfl (.tmp 1) _ _ 112 rfl 3 111 law3 Try.underlying112 Rfn w.heap.size 10 D rfl hm (by unfold maxLen; decide) (.int .i64 11) (.func (.func 45) #[] #[]) (.int .i64 11) rfl rfl (keyOf_int_mk Try.underlying3 (by decide)) (.lit (.int .i64 45)) [] (Rfn_mk 45) ?_; intro w11 hm1 hg1; have H11 := Aside0.mk (H10.out.put hD hm.isMap (w2 := w11) hm1 hg1); clear hm hD hm1 hg1) | (obtain ⟨D, hm, hD⟩ := H11.out.map; refine wpList_insert_own _ rfl (.tmp 1) _ _ 112 rfl 3 111 law3 Try.underlying112 Rfn w.heap.size 11 D rfl hm (by unfold maxLen; decide) (.int .i64 12) (.func (.func 46) #[] #[]) (.int .i64 12) rfl rfl (keyOf_int_mk Try.underlying3 (by decide)) (.lit (.int .i64 46)) [] (Rfn_mk 46) ?_; intro w12 hm1 hg1; have H12 := Aside0.mk (H11.out.put hD hm.isMap (w2 := w12) hm1 hg1); clear hm hD hm1 hg1) | (obtain ⟨D, hm, hD⟩ := H12.out.map; refine wpList_insert_own _ rfl (.tmp 1) _ _ 112 rfl 3 111 law3 Try.underlying112 Rfn w.heap.size 12 D rfl hm (by unfold maxLen; decide) (.int .i64 13) (.func (.func 47) #[] #[]) (.int .i64 13) rfl rfl (keyOf_int_mk Try.underlying3 (by decide)) (.lit (.int .i64 47)) [] (Rfn_mk 47) ?_; intro w13 hm1 hg1; have H13 := Aside0.mk (H12.out.put hD hm.isMap (w2 := w13) hm1 hg1); clear hm hD hm1 hg1) | (obtain ⟨D, hm, hD⟩ := H13.out.map; refine wpList_insert_own _ rfl (.tmp 1) _ _ 112 rfl 3 111 law3 Try.underlying112 Rfn w.heap.size 13 D rfl hm (by unfold maxLen; decide) (.int .i64 14) (.func (.func 48) #[] #[]) (.int .i64 14) rfl rfl (keyOf_int_mk Try.underlying3 (by decide)) (.lit (.int .i64 48)) [] (Rfn_mk 48) ?_; intro w14 hm1 hg1; have H14 := Aside0.mk (H13.out.put hD hm.isMap (w2 := w14) hm1 hg1); clear hm hD hm1 hg1) | (obtain ⟨D, hm, hD⟩ := H14.out.map; refine wpList_insert_own _ rfl (.tmp 1) _ _ 112 rfl 3 111 law3 Try.underlying112 Rfn w.heap.size 14 D rfl hm (by unfold maxLen; decide) (.int .i64 15) (.func (.func 49) #[] #[]) (.int .i64 15) rfl rfl (keyOf_int_mk Try.underlying3 (by decide)) (.lit (.int .i64 49)) [] (Rfn_mk 49) ?_; intro w15 hm1 hg1; have H15 := Aside0.mk (H14.out.put hD hm.isMap (w2 := w15) hm1 hg1); clear hm hD hm1 hg1) | (obtain ⟨D, hm, hD⟩ := H15.out.map; refine wpList_insert_own _ rfl (.tmp 1) _ _ 112 rfl 3 111 law3 Try.underlying112 Rfn w.heap.size 15 D rfl hm (by unfold maxLen; decide) (.int .i64 16) (.func (.func 50) #[] #[]) (.int .i64 16) rfl rfl (keyOf_int_mk Try.underlying3 (by decide)) (.lit (.int .i64 50)) [] (Rfn_mk 50) ?_; intro w16 hm1 hg1; have H16 := Aside0.mk (H15.out.put hD hm.isMap (w2 := w16) hm1 hg1); clear hm hD hm1 hg1) | (obtain ⟨D, hm, hD⟩ := H16.out.map; refine wpList_insert_own _ rfl (.tmp 1) _ _ 112 rfl 3 111 law3 Try.underlying112 Rfn w.heap.size 16 D rfl hm (by unfold maxLen; decide) (.int .i64 17) (.func (.func 51) #[] #[]) (.int .i64 17) rfl rfl (keyOf_int_mk Try.underlying3 (by decide)) (.lit (.int .i64 51)) [] (Rfn_mk 51) ?_; intro w17 hm1 hg1; have H17 := Aside0.mk (H16.out.put hD hm.isMap (w2 := w17) hm1 hg1); clear hm hD hm1 hg1))
  go_ret
  obtain ⟨D, hm, hD⟩ := H17.out.map
  exact ⟨rfl, H17.out.below, D, hm, fun op h1 h2 => hD op h1 (by omega)⟩
end Go.Proofs.Ytcciejcpijlkfaa.H

