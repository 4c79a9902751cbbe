/- built, walked. -/
import Derived.Test.YtiplpkjjplicjaaMBuilt
set_option linter.unusedVariables false
set_option linter.unusedSimpArgs false
namespace Go.Proofs.Ytiplpkjjplicjaa.H
open Go.RowKit Go.Hay Go.Proofs.YtiplpkjjplicjaaW.PrintWords Go.Proofs.YtiplpkjjplicjaaW.PrintLast Go.Proofs.YtiplpkjjplicjaaW.PrintMore
theorem size31 : (Try.prog.info? 31).map (·.size) = some 1 := by kernel_rfl
theorem node_cells {w1 w9 : World} {g k : Nat} {z : E4} {r : Option Nat} (h : w1.cell? ⟨g, k * 4, none⟩ = some (.slice z.pA z.y.f0.length z.pc) ∧ w1.cell? ⟨g, k * 4 + 1, none⟩ = some (.slice z.kA z.y.f1.length z.kc) ∧
    w1.cell? ⟨g, k * 4 + 2, none⟩ = some (.int .i64 z.y.f2) ∧ w1.cell? ⟨g, k * 4 + 3, none⟩ = some (.int .i64 z.y.f3)) (hg : w1.grownBy w9 r) (hlt : g < w1.heap.size) (hne : r ≠ some g) :
    ∀ j u, [Value.slice z.pA z.y.f0.length z.pc, .slice z.kA z.y.f1.length z.kc, .int .i64 z.y.f2, .int .i64 z.y.f3][j]? = some u → w9.cell? ⟨g, (k : Int).toNat * 4 + j, none⟩ = some u := by
  obtain ⟨h0, h1, h2, h3⟩ := h
  intro j u hj
  rw [Int.toNat_natCast]
  have hc : ∀ a : Addr, a.block = g → w9.cell? a = w1.cell? a := fun a ha => hg.cell_far a (ha ▸ hlt) (fun e => hne (ha ▸ e.symm))
  rw [hc _ rfl]
  match j, hj with
  | 0, hj => cases hj; exact h0
  | 1, hj => cases hj; exact h1
  | 2, hj => cases hj; exact h2
  | 3, hj => cases hj; exact h3
set_option maxRecDepth 100000 in
set_option maxHeartbeats 8000000 in
theorem built_any (A0 : Option Addr) (c0 : Nat) (l : List S61) (w : World) (hC : k61.C w A0 l.length l) (hl : l.length ≤ 40) (hr : ∀ x ∈ l, 0 ≤ x.f3 ∧ x.f3 ≤ 255) :
    Calls Try.prog 10 #[.slice A0 l.length c0] w fun e w' => ∃ A c, e = .returned (.slice A l.length c) ∧ l.length ≤ c ∧ k63.C w' A l.length (builtP l) ∧ Below w.heap.size w w' := by
  have HC := Aside0.mk (And.intro hC (And.intro hl hr))
  have HJ := Aside0.mk (And.intro (BI.start w) (show ([] : List E4).map (·.y) = builtN l 0 from rfl))
  clear hC hl hr
  go_enter Try.func10, Try.ntmps10
  go_wp2_with fail
  go_loopw [3, 4] (fun v3 v4 wr => ∃ (i : Nat) (vo : Value) (xs : List E4), v3 = vo ∧ v4 = .int .i64 i ∧ i ≤ l.length ∧ Aside0 (BI w vo xs wr ∧ xs.map (·.y) = builtN l i)) (fun _ v4 _ => l.length - (intOf v4).toNat)
  case atStart => exact ⟨0, _, _, rfl, rfl, Nat.zero_le _, HJ⟩
  case round =>
    clear HJ
    obtain ⟨i, vo, xs, rfl, rfl, hi, HJ⟩ := hrel
    by_cases hlt : i < l.length
    · obtain ⟨ad, Ap, cp, rfl, q0, q1, q2, q3, hcp, hCp⟩ := at_T61 HC.out.1 (i : Int) (by omega) (by omega)
      rw [Int.toNat_natCast] at q0 q1 q2 q3
      obtain ⟨x, hx⟩ : ∃ x, x = rd_T61 l (i : Int) := ⟨_, rfl⟩
      rw [← hx] at q0 q1 q2 q3 hcp hCp
      have hx3 : 0 ≤ x.f3 ∧ x.f3 ≤ 255 := HC.out.2.2 x (by rw [hx, rd_T61, Int.toNat_natCast, List.getD_eq_getElem?_getD, List.getElem?_eq_getElem hlt]; exact List.getElem_mem hlt)
      have HX := Aside0.mk (And.intro q0 (And.intro q1 (And.intro q2 (And.intro q3 (And.intro hcp (And.intro hCp (And.intro hx3 hx)))))))
      clear q0 q1 q2 q3 hcp hCp hx hx3
      have hxl : xs.length = i := by have := congrArg List.length HJ.out.2; rwa [List.length_map, builtN_length] at this
      obtain ⟨Ao, co, rfl⟩ := Kd.R_slice HJ.out.1.row
      have HXL := Aside0.mk hxl
      clear hxl
      go_wp2_with fail
      have hs : Below w.heap.size w wr.drew := HJ.out.1.below.drew
      refine wp_region_seq2 (fun w' => Below w.heap.size w w') [19] [.take 0, .take 1, .take 2, .take 3, .take 4, .take 5, .take 6, .take 7, .take 8, .take 9, .take 10, .take 11, .take 12, .take 13, .take 14, .take 15, .take 16, .op 17, .op 18, .fin 19] (by kernel_rfl) (by kernel_rfl) rfl (by kernel_rfl) (panic_via (P := Try.prog) (fn := Try.f10) (R := fun e w' => ∃ A c, e = .returned (.slice A l.length c) ∧ l.length ≤ c ∧ k63.C w' A l.length (builtP l) ∧ Below w.heap.size w w') (fun _ _ _ => rfl)) ?_
      repeat (
        (first
          | (refine runSeq2_take (v := ?_) (by rfl) (by rfl) (fun w' hS => ?_) hs ?_
             rotate_left
             · (have q0 := (hS.cell (World.block_lt_of_cell? w _ HX.out.1)).trans HX.out.1; have q1 := (hS.cell (World.block_lt_of_cell? w _ HX.out.2.1)).trans HX.out.2.1; have q2 := (hS.cell (World.block_lt_of_cell? w _ HX.out.2.2.1)).trans HX.out.2.2.1; go_simp; exact rfl))
          | refine runSeq2_skip (by rfl) (by rfl) hs ?_)
        (try simp only [Act.put, List.setIfInBounds_toArray, List.set_cons_zero, List.set_cons_succ]))
      refine runSeq2_op (by rfl) (by rfl) (fun K hK => ?_)
      go_simp
      have hk1 := HJ.out.1.keep ((Below.refl wr.heap.size wr).drew.alloc (Nat.le_refl _) (.cells #[.slice Ap x.f0.length cp, .slice none 0 0, .int .i64 x.f1, .int .i64 x.f2] 63))
      have hb1 := hs.alloc hs.size (.cells #[.slice Ap x.f0.length cp, .slice none 0 0, .int .i64 x.f1, .int .i64 x.f2] 63)
      refine hK _ _ hb1 ?_
      clear hK K
      refine runSeq2_op (by rfl) (by rfl) (fun K hK => ?_)
      refine wp_append_rows kE (Rr := kE.M (wr.drew.alloc (.cells #[.slice Ap x.f0.length cp, .slice none 0 0, .int .i64 x.f1, .int .i64 x.f2] 63)) w.heap.size (fun _ => False)) w.heap.size rfl (.tmp 12) (.tmp 29) 27 63 (.agg #[(.slice none 0 0), (.slice none 0 0), (.int .i64 0), (.int .i64 0)]) 64 rfl Try.underlying27 info63 rfl (by decide) (by decide) (.slice Ao xs.length co) xs [⟨⟨x.f0, [], x.f1, x.f2⟩, Ap, cp, none, 0⟩] _ _ _ (fun _ => True) (fun _ => False) rfl rfl hk1.row (reads_one (alloc_blk _ _) (kE_mkM _ _ _ ⟨⟨x.f0, [], x.f1, x.f2⟩, Ap, cp, none, 0⟩)) (fun _ _ h => h) (fun _ h => h.elim) (fun _ _ => trivial) hb1.size (by have := HXL.out; have := HC.out.2.1; omega) ?_
      intro v1 w1 hR hbw hg hat
      have hp := hk1.push (x := ⟨⟨x.f0, [], x.f1, x.f2⟩, Ap, cp, none, 0⟩) rfl rfl rfl ⟨HX.out.2.2.2.2.1, HX.out.2.2.2.2.2.1⟩ hR hbw hg hat
      have hmp : (xs ++ [(⟨⟨x.f0, [], x.f1, x.f2⟩, Ap, cp, none, 0⟩ : E4)]).map (·.y) = builtN l i ++ [nodeOf x] := by rw [List.map_append, HJ.out.2]; rfl
      have hln : (xs ++ [(⟨⟨x.f0, [], x.f1, x.f2⟩, Ap, cp, none, 0⟩ : E4)]).length = i + 1 := by rw [List.length_append, HXL.out]; rfl
      refine hK _ _ (hb1.trans hbw) ?_
      clear hK K
      clear hR hbw hg hat hk1 hb1 hs HXL
      generalize (xs ++ [(⟨⟨x.f0, [], x.f1, x.f2⟩, Ap, cp, none, 0⟩ : E4)]) = ys at hp hmp hln
      obtain ⟨A1, c1, rfl⟩ := Kd.R_slice hp.row
      have HP := Aside0.mk hp
      have HM := Aside0.mk (And.intro hmp hln)
      rw [hln] at HP
      clear hp hmp
      refine runSeq2_fin (by rfl) (by rfl) (fun K hK => ?_)
      go_simp
      refine hK _ _ ?_
      refine runSeq2_nil ?_
      clear hK K
      have hii : (ys.length : Int) = (i : Int) + 1 := by rw [hln]; rfl
      clear hln
      rcases Nat.eq_zero_or_pos i with rfl | hpos
      · have hwi : wrap64 (0 + 1) = 1 := by unfold wrap64; omega
        go_wp2_with fail
        have hxl : l.getD 0 z61 = x := by rw [HX.out.2.2.2.2.2.2.2, rd_T61]; rfl
        exact ⟨⟨1, _, ys, rfl, rfl, hlt, Aside0.mk ⟨HP.out, by rw [HM.out.1]; show _ = bStep (builtN l 0) 0 (l.getD 0 z61); unfold bStep; rw [if_neg (by omega), hxl]⟩⟩, by simp [intOf]; omega⟩
      · obtain ⟨hkl, hkr⟩ : kidAt x i < i ∧ x.f3.tmod (i : Int) = (kidAt x i : Int) := by
          refine ⟨Nat.mod_lt _ hpos, ?_⟩
          obtain ⟨n, hn⟩ := Int.eq_ofNat_of_zero_le HX.out.2.2.2.2.2.2.1.1
          unfold kidAt
          rw [hn]; rfl
        have hgt : (0 < (i : Int)) = True := eq_true (by omega)
        have q3 := (HP.out.below.cell (World.block_lt_of_cell? w _ HX.out.2.2.2.1)).trans HX.out.2.2.2.1
        go_upto_region 8 with fail
        have hw : wrap64 x.f3 = x.f3 := by have := HX.out.2.2.2.2.2.2.1; unfold wrap64; omega
        rw [hw, hkr]
        clear hw hkr q3
        have hkl1 : kidAt x i < i + 1 := by omega
        generalize hk : kidAt x i = k at hkl hkl1 ⊢
        have hky : k < ys.length := by rw [HM.out.2]; exact hkl1
        obtain ⟨g, rfl, e0, e1, e2, e3⟩ := HP.out.at_ hky
        have hkd := HP.out.kds k hky
        obtain ⟨z, hz⟩ : ∃ z, z = ys[k] := ⟨_, rfl⟩
        rw [← hz] at e0 e1 e2 e3 hkd
        have hzl : z.y.f1.length ≤ 41 := by
          have h1 : z.y ∈ builtN l i ++ [nodeOf x] := by rw [← HM.out.1, hz]; exact List.mem_map_of_mem (List.getElem_mem hky)
          rcases List.mem_append.1 h1 with h1 | h1
          · have := builtN_kids l i _ h1; have := HC.out.2.1; omega
          · rw [List.mem_singleton.1 h1]; simp [nodeOf]
        have hgo : z.kv.ownBlock ≠ some g := fun e => HP.out.far k hky g (hz ▸ e) rfl
        have HK := Aside0.mk (And.intro hkd (And.intro hzl (And.intro hgo (And.intro (show ∃ h : k < ys.length, z = ys[k] from ⟨hky, hz⟩) hk))))
        have HE := Aside0.mk (And.intro e0 (And.intro e1 (And.intro e2 e3)))
        clear e0 e2 e3 hkd hzl hgo hz hky hk
        go_wp2_with (first | ((with_reducible refine gate_builtin (b := .append) (xs := #[.tmp 47, .tmp 49]) rfl ?_); refine Kd.R_append (Kd.int .i64) (w0 := w1) w.heap.size rfl (.tmp 47) (.tmp 49) 31 3 (.int .i64 0) 8 rfl Try.underlying31 info3 rfl (by decide) (by omega) (.slice z.kA z.y.f1.length z.kc) z.y.f1 (i : Int) [.int .i64 i] (fun _ => True) (fun _ => False) rfl (by first | (go_simp; done) | (go_simp; rfl)) ?aP (fun _ hk => hk.elim) ?aF ?aO ?aB ?aS ?aL ?_; (case aP => rfl); (case aF => exact (fun _ _ => trivial)); (case aO => exact HK.out.1); (case aB => exact Below.refl _ _); (case aS => exact HP.out.below.size); (case aL => have := HK.out.2.1; omega); intro v9 w9 hR9 hb9 hg9 hat9; obtain ⟨A9, c9, rfl⟩ := Kd.R_slice hR9; have H9 := Aside0.mk (And.intro hR9 (And.intro hb9 (And.intro hg9 hat9))); clear hR9 hb9 hg9 hat9) | ((with_reducible refine gate_ (.store 31 (.tmp 52) (.tmp 50)) rfl ?_); refine Kd.R_store kE (w0 := w9) w.heap.size rfl rfl 31 (.tmp 52) (.tmp 50) rfl 63 (g := g) (n := i + 1) (cap := c1) (o' := k * 4 + 1) (k : Int) 1 ys ⟨⟨z.y.f0, z.y.f1 ++ [(i : Int)], z.y.f2, z.y.f3⟩, z.pA, z.pc, A9, c9⟩ (.slice A9 (z.y.f1.length + 1) c9) [.slice A9 (z.y.f1.length + 1) c9] [.slice z.pA z.y.f0.length z.pc, .slice z.kA z.y.f1.length z.kc, .int .i64 z.y.f2, .int .i64 z.y.f3] (fun _ => True) (fun _ => False) ?zh1 ?zh2 ?zh3 ?zh4 ?zh5 ?zh6 ?zh7 ?zh8 ?zh9 ?zh10 ?zh11 ?zh12 ?zh13 ?zh14 ?zh15 ?zh16; (case zh1 => rfl); (case zh2 => show _ = (k : Int).toNat * 4 + 1; rw [Int.toNat_natCast]); (case zh3 => first | rfl | (simp; done) | trace_state); (case zh4 => rfl); (case zh5 => exact size31); (case zh6 => intro q hq; rw [List.mem_singleton.1 hq]; rfl); (case zh7 => exact R_flat flatE HP.out.row (fun _ _ => trivial) (fun b hb => H9.out.2.2.1.block b (R_own HP.out.row b hb).2 (fun e => HK.out.2.2.1 (e.symm.trans hb.symm)))); (case zh8 => exact Int.natCast_nonneg k); (case zh9 => exact Int.ofNat_lt.2 hkl1); (case zh10 => rfl); (case zh11 => exact node_cells HE.out H9.out.2.2.1 (R_own HP.out.row _ rfl).2 HK.out.2.2.1); (case zh12 => exact (show 1 + 1 ≤ 4 by decide)); (case zh13 => have hm := kE_mkM w9 w.heap.size (fun _ => False) ⟨⟨z.y.f0, z.y.f1 ++ [(i : Int)], z.y.f2, z.y.f3⟩, z.pA, z.pc, A9, c9⟩; dsimp only at hm; rw [show (z.y.f1 ++ [(i : Int)]).length = z.y.f1.length + 1 from List.length_append ..] at hm; exact hm); (case zh14 => exact fun _ hk => hk.elim); (case zh15 => exact Below.refl _ _); intro w2 hR2 hb2 hg2; obtain ⟨hky', hz'⟩ := HK.out.2.2.2.1; have HP2 := Aside0.mk (HP.out.kid hky' (w1 := w9) (w2 := w2) (x1 := ⟨⟨z.y.f0, z.y.f1 ++ [(i : Int)], z.y.f2, z.y.f3⟩, z.pA, z.pc, A9, c9⟩) (i := (i : Int)) (A1 := A9) (c1 := c9) (by rw [← hz']) (by rw [← hz']; exact H9.out.1) H9.out.2.1 (by rw [← hz']; exact H9.out.2.2.1) (by rw [← hz']; exact H9.out.2.2.2) (by rw [Int.toNat_natCast] at hR2; exact hR2) hb2 hg2); have hz2 := HK.out.2.2.2.1; clear hR2 hb2 hg2 hky' hz'))
        have hwi : wrap64 ((i : Int) + 1) = (i : Int) + 1 := by have := HC.out.2.1; unfold wrap64; omega
        obtain ⟨hky, hz⟩ := hz2
        have hxl : l.getD i z61 = x := by rw [HX.out.2.2.2.2.2.2.2, rd_T61, Int.toNat_natCast]
        rw [hwi]
        refine ⟨⟨i + 1, _, ys.set k ⟨⟨z.y.f0, z.y.f1 ++ [(i : Int)], z.y.f2, z.y.f3⟩, z.pA, z.pc, A9, c9⟩, rfl, by simp, hlt, Aside0.mk ⟨HP2.out, ?_⟩⟩, by simp [intOf]; omega⟩
        rw [set_kid HM.out.1 hky (i := i) (by rw [← hz]; rfl), builtN, bStep, if_pos hpos, hxl, HK.out.2.2.2.2]
    · obtain rfl : i = l.length := by omega
      go_wp2_with fail
      go_ret
      obtain ⟨A, c, rfl, hc, hC⟩ := HJ.out.1.reads
      have hxl : xs.length = l.length := by have := congrArg List.length HJ.out.2; rwa [List.length_map, builtN_length] at this
      rw [HJ.out.2, hxl] at hC
      rw [hxl] at hc ⊢
      exact ⟨A, c, rfl, hc, hC, HJ.out.1.below⟩
#print axioms built_any
end Go.Proofs.Ytiplpkjjplicjaa.H
