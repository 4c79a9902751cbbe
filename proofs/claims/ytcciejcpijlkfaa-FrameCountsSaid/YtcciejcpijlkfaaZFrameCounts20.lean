/- What the proof of FrameCounts stands on, part 20: this session's own texts and the words that the kit's print lays, those that are used. -/
import Derived.Test.YtcciejcpijlkfaaZFrameCounts19
set_option linter.unusedVariables false
set_option linter.unusedSimpArgs false
namespace Go.Proofs.Ytcciejcpijlkfaa.H
open Go.RowKit Go.Hay Go.Proofs.YtcciejcpijlkfaaW.PrintWords Go.Proofs.YtcciejcpijlkfaaW.PrintLast Go.Proofs.YtcciejcpijlkfaaW.PrintMore
set_option maxRecDepth 100000 in
set_option maxHeartbeats 8000000 in
theorem counts_e (Ap : Option Addr) (cp : Nat) (P : List S52) (b d fn at_ st ki : Int) (Aq : Option Addr) (cq : Nat) (path : List Int) (r0 r1 r2 r3 r4 r5 r6 r7 h0 h1 h2 h3 : Int) (w : World) (hP : k52.C w Ap P.length P) (hcp : P.length ≤ cp) (hC : (Kd.int .i64).C w Aq path.length path) (hcq : path.length ≤ cq) (hst : -9223372036854775808 ≤ st) (hcs : ¬ ((execP (P.map ofF) b d ⟨fn, at_, st, ki, path, [r0, r1, r2, r3, r4, r5, r6, r7], [h0, h1, h2, h3]⟩).2.1 ≠ 0 ∨ ((execP (P.map ofF) b d ⟨fn, at_, st, ki, path, [r0, r1, r2, r3, r4, r5, r6, r7], [h0, h1, h2, h3]⟩).1.kind = 8 ∧ (execP (P.map ofF) b d ⟨fn, at_, st, ki, path, [r0, r1, r2, r3, r4, r5, r6, r7], [h0, h1, h2, h3]⟩).1.why = 3 ∧ b ≤ st)) ∧ (execP (P.map ofF) b d ⟨fn, at_, st, ki, path, [r0, r1, r2, r3, r4, r5, r6, r7], [h0, h1, h2, h3]⟩).1.kind ≠ 8 ∧ (execP (P.map ofF) b d ⟨fn, at_, st, ki, path, [r0, r1, r2, r3, r4, r5, r6, r7], [h0, h1, h2, h3]⟩).2.2.kids ≠ ki ∧ (execP (P.map ofF) b d ⟨fn, at_, st, ki, path, [r0, r1, r2, r3, r4, r5, r6, r7], [h0, h1, h2, h3]⟩).1.kind ≠ 3) :
    Calls Try.prog 5 #[.agg #[.slice Ap P.length cp, .int .i64 b, .int .i64 d, .int .i64 fn, .int .i64 at_, .int .i64 st, .int .i64 ki, .slice Aq path.length cq, .int .i64 r0, .int .i64 r1, .int .i64 r2, .int .i64 r3, .int .i64 r4, .int .i64 r5, .int .i64 r6, .int .i64 r7, .int .i64 h0, .int .i64 h1, .int .i64 h2, .int .i64 h3]] w fun e w' => e = .returned (.bool true) ∧ Below w.heap.size w w' := by
  have HCS := Aside0.mk hcs
  clear hcs
  obtain ⟨zb, hzb⟩ : ∃ zb, zb = w.heap.size := ⟨_, rfl⟩
  obtain ⟨W1, hW1⟩ : ∃ W1, W1 = w.alloc (.cells #[.slice Ap P.length cp, .int .i64 b, .int .i64 d, .int .i64 fn, .int .i64 at_, .int .i64 st, .int .i64 ki, .slice Aq path.length cq, .int .i64 r0, .int .i64 r1, .int .i64 r2, .int .i64 r3, .int .i64 r4, .int .i64 r5, .int .i64 r6, .int .i64 r7, .int .i64 h0, .int .i64 h1, .int .i64 h2, .int .i64 h3] 29) := ⟨_, rfl⟩
  have hb1 : Below w.heap.size w W1 := by rw [hW1]; exact (Below.refl w.heap.size w).alloc (Nat.le_refl _) _
  have hx1 : W1.heap[zb]? = some (.cells #[.slice Ap P.length cp, .int .i64 b, .int .i64 d, .int .i64 fn, .int .i64 at_, .int .i64 st, .int .i64 ki, .slice Aq path.length cq, .int .i64 r0, .int .i64 r1, .int .i64 r2, .int .i64 r3, .int .i64 r4, .int .i64 r5, .int .i64 r6, .int .i64 r7, .int .i64 h0, .int .i64 h1, .int .i64 h2, .int .i64 h3] 29 (0, 0)) := by rw [hW1, hzb]; exact alloc_blk w _
  obtain ⟨lb, hlb, hlight⟩ := light_any Ap cp P W1 (Kd.C_below hP hb1) hcp
  have H0 := Aside0.mk (And.intro hP (And.intro hcp (And.intro hC (And.intro hcq (And.intro hb1 (And.intro hx1 (And.intro hst hzb)))))))
  have HL := Aside0.mk hlight
  have HLB := Aside0.mk hlb
  have HW1 := Aside0.mk (And.intro hW1 hzb)
  have x0 := blk_cell hx1 0
  have x7 := blk_cell hx1 7
  clear hP hcp hC hcq hb1 hx1 hlight hlb hW1 hst hzb
  go_enter Try.func5, Try.ntmps5
  go_upto_region 1 with (fail)
  rw [← HW1.out.1, ← HW1.out.2]
  go_wp2_with fail
  refine HL.out.mono ?_
  rintro e w2 ⟨rfl, hb2⟩
  have HB2 := Aside0.mk (H0.out.2.2.2.2.1.trans (hb2.mono H0.out.2.2.2.2.1.size))
  have hx2 := (hb2.block _ (blk_lt H0.out.2.2.2.2.2.1)).trans H0.out.2.2.2.2.2.1
  have HX2 := Aside0.mk hx2
  clear x0 x7 hb2 HW1
  have x0 := blk_cell hx2 0
  have x7 := blk_cell hx2 7
  clear hx2
  cases lb with
  | false =>
    clear HL HLB
    go_wp2_with fail
    go_ret
    exact ⟨rfl, HB2.out⟩
  | true =>
    obtain ⟨hl20, hl70⟩ := HLB.out rfl
    have HLL := Aside0.mk (And.intro hl20 hl70)
    clear HL HLB hl20 hl70
    by_cases hn : 50 < path.length
    · have hn2 : ((path.length : Int) > 50) = True := eq_true (by omega)
      clear hn
      go_wp2_with fail
      go_ret
      exact ⟨rfl, HB2.out⟩
    · have hn2 : ((path.length : Int) > 50) = False := eq_false (by omega)
      have HN := Aside0.mk hn
      clear hn
      have x3 := blk_cell HX2.out 3
      have x4 := blk_cell HX2.out 4
      have x5 := blk_cell HX2.out 5
      have x6 := blk_cell HX2.out 6
      have x8 := blk_cell HX2.out 8
      have x9 := blk_cell HX2.out 9
      have x10 := blk_cell HX2.out 10
      have x11 := blk_cell HX2.out 11
      have x12 := blk_cell HX2.out 12
      have x13 := blk_cell HX2.out 13
      have x14 := blk_cell HX2.out 14
      have x15 := blk_cell HX2.out 15
      have x16 := blk_cell HX2.out 16
      have x17 := blk_cell HX2.out 17
      have x18 := blk_cell HX2.out 18
      have x19 := blk_cell HX2.out 19
      go_wp2_with fail
      refine (given_any fn at_ st ki path r0 r1 r2 r3 r4 r5 r6 r7 h0 h1 h2 h3 Aq cq w2 (Kd.C_below H0.out.2.2.1 HB2.out) H0.out.2.2.2.1 (by have := HN.out; omega) H0.out.2.2.2.2.2.2.1).mono ?_
      intro e W3 hp
      obtain ⟨F, hF⟩ : ∃ F, F = (⟨fn, at_, st, ki, path, [r0, r1, r2, r3, r4, r5, r6, r7], [h0, h1, h2, h3]⟩ : Fr) := ⟨_, rfl⟩
      rw [← hF] at hp
      obtain ⟨fb, A9, c9, rfl, hfb, hfr, hb3, hpc, hpn, hpp, hpC⟩ := hp
      have hlf : LF fb F A9 c9 W3 := ⟨hfr, hpc, hpn, hpp.imp id (fun ⟨ad, e1, e2, e3⟩ => ⟨ad, e1, by omega⟩), hpC, by rw [hF]; exact H0.out.2.2.2.2.2.2.1⟩
      have HLF := Aside0.mk hlf
      have HF := Aside0.mk hF
      have HB3 := Aside0.mk (HB2.out.trans (hb3.mono HB2.out.size))
      have HX3 := Aside0.mk ((hb3.block _ (blk_lt HX2.out)).trans HX2.out)
      have HFW := Aside0.mk (show w.heap.size ≤ fb from Nat.le_trans HB2.out.size hfb)
      have HZ := Aside0.mk (show zb ≠ fb by have := blk_lt HX2.out; omega)
      obtain ⟨R, hR⟩ : ∃ R, R = execP (P.map ofF) b d F := ⟨_, rfl⟩
      have HR := Aside0.mk hR
      have HPB := Aside0.mk (show R.2.2.path = [] ∨ ∃ ad, A9 = some ad ∧ ad.block < W3.heap.size by
        rw [hR, (execP_path (P.map ofF) b d F).1]
        exact hpp.imp id (fun ⟨ad, e1, e2, e3⟩ => ⟨ad, e1, by have := hfr.lt; omega⟩))
      clear hlf hF hb3 hfb hfr hpc hpn hpp hpC hR x0 x3 x4 x5 x6 x7 x8 x9 x10 x11 x12 x13 x14 x15 x16 x17 x18 x19
      go_upto_region 4 with (fail)
      refine wp_region_T (fun w' => Keep (fun q => q = fb) (W3) w') [] (.takes [0, 1, 3, 4, 5, 6, 7, 8] (.alt 2 13 (.alt 9 13 (.takes [10, 11, 12] (.op 13 (.op 14 (.op 15 .done)))) (.op 9 (.takes [10, 11, 12] (.op 14 (.op 15 .done))))) (.op 2 (.op 9 (.takes [10, 11, 12] (.op 14 (.op 15 .done))))))) (by kernel_rfl) (by kernel_rfl) (by kernel_rfl) (by kernel_rfl) (panic_via (P := Try.prog) (fn := Try.f5) (R := fun e w' => e = .returned (.bool true) ∧ Below w.heap.size w w') (fun _ _ _ => rfl)) ?_
      obtain ⟨wd, hwd⟩ : ∃ wd, wd = (W3).drew := ⟨_, rfl⟩
      rw [← hwd]
      have hsb : Below (W3).heap.size (W3) wd := by rw [hwd]; exact (Below.refl _ _).drew
      have hs : Keep (fun q => q = fb) (W3) wd := Keep.of_below hsb _
      clear hwd
      simp only [Turns.takes]
      repeat (
        (first
          | (refine runT_take (v := ?_) (by rfl) (by rfl) (fun w' hS => ?_) hs ?_
             rotate_left
             · (have hX := hS.blk HX3.out HZ.out; have d0 := blk_cell hX 0; have d1 := blk_cell hX 1; have d2 := blk_cell hX 2; go_simp; exact rfl))
          | refine runT_skip (by rfl) (by rfl) hs ?_)
        (try simp only [Act.put, List.setIfInBounds_toArray, List.set_cons_zero, List.set_cons_succ]))
      rename_i K0 hK0
      refine' with_actX (F := fun eb A c Aa ca Ab cb W => AfterX W3 W fb eb R A9 c9 Aa ca Ab cb) (K := K0) _ (fun hfin => ?_) ?_
      rotate_left
      · refine runT_alt (by rfl) (by rfl) (by rfl) (by rfl) (fun K hK => ?_) (fun K hK => ?_)
        · go_simp
          refine (of_anyK Ap cp P _ (Kd.C_below H0.out.1 ((HB3).out.trans ((hsb).mono (HB3).out.size))) H0.out.2.1 HLL.out.1 HLL.out.2).mono ?_
          rintro e w3 ⟨hb3, A, c, rfl, hc, hC⟩
          have hsb3 := (hsb).trans (hb3.mono (hsb).size)
          have hb53 := hb3
          have H3 := Aside0.mk (And.intro hc (show ∀ (S : Nat → Prop) (w2 : World), (∀ q, S q → q < fb + 1) → Keep S w3 w2 → k68.C w2 A (P.map ofF).length (P.map ofF) from fun S w2 hS hk => hC S w2 (fun q hq => by have g1 := hS q hq; have g2 := HLF.out.fr.lt; have g3 := (hsb).size; omega) hk))
          refine hK _ _ (Keep.of_below hsb3 _) ?_
          clear hK K hb3 hc hC
          (try simp only [Act.put, List.setIfInBounds_toArray, List.set_cons_zero, List.set_cons_succ])
          refine runT_alt (by rfl) (by rfl) (by rfl) (by rfl) (fun K hK => ?_) (fun K hK => ?_)
          · go_simp
            have hpk : ProgK fb (w3) A (P.map ofF) := fun w' hk => H3.out.2 (fun q => q = fb) w' (fun q hq => by subst hq; exact Nat.lt_succ_self _) ((Keep.of_below (Below.refl w3.heap.size w3) _).then hk (fun q hq e => e))
            refine (exec_of (b := b) (d := d) hpk H3.out.1 (HLF.out.below hsb3)).mono ?_
            rw [← HR.out]
            rintro e w4 ⟨Aa, ca, Ab, cb, rfl, hE, hL, hk⟩
            have hs4 : Keep (fun q => q = fb) _ w4 := (Keep.of_below hsb3 (fun q => q = fb)).then hk (fun q hq e => e)
            have H4 := Aside0.mk (And.intro hE (And.intro hL hk))
            obtain ⟨V, hV⟩ : ∃ V, V = efV R.1 Aa ca Ab cb := ⟨_, rfl⟩
            rw [← hV]
            have HV := Aside0.mk hV
            refine hK _ _ hs4 ?_
            clear hK K hE hL hk hV hpk
            (try simp only [Act.put, List.setIfInBounds_toArray, List.set_cons_zero, List.set_cons_succ])
            have hs := hs4
            repeat (
              (first
                | (refine runT_take (v := ?_) (by rfl) (by rfl) (fun w' hS => ?_) hs ?_
                   rotate_left
                   · (skip; go_simp; exact rfl))
                | refine runT_skip (by rfl) (by rfl) hs ?_)
              (try simp only [Act.put, List.setIfInBounds_toArray, List.set_cons_zero, List.set_cons_succ]))
            refine runT_op (by rfl) (by rfl) (fun K hK => ?_)
            go_simp
            obtain ⟨eb, heb⟩ : ∃ eb, eb = (w4).heap.size := ⟨_, rfl⟩
            rw [← heb]
            obtain ⟨w5, hw5⟩ : ∃ w5, w5 = (w4).alloc (.cells #[.int .i64 0, .int .i64 0, .int .i64 0, .int .i64 0, .int .i64 0, .int .i64 0, .slice none 0 0, .slice none 0 0] 36) := ⟨_, rfl⟩
            rw [← hw5]
            have hb5 : Below (w4).heap.size (w4) w5 := by rw [hw5]; exact (Below.refl (w4).heap.size (w4)).alloc (Nat.le_refl _) _
            have hx5 : w5.heap[eb]? = some zEff := by rw [hw5, heb]; exact alloc_blk (w4) _
            have hs5 : Keep (fun q => q = fb) _ w5 := hs4.then (Keep.of_below hb5 (fun q => q = fb)) (fun q hq e => e)
            have H5 := Aside0.mk (And.intro hw5 (And.intro hx5 heb))
            refine hK _ _ hs5 ?_
            clear hK K hb5 heb hw5 hx5
            (try simp only [Act.put, List.setIfInBounds_toArray, List.set_cons_zero, List.set_cons_succ])
            have hbox := H5.out.2.1
            rw [HV.out, show efV R.1 Aa ca Ab cb = .agg #[.int .i64 R.1.kind, .int .i64 R.1.value, .int .i64 R.1.reg, .int .i64 R.1.fn, .int .i64 R.1.hand, .int .i64 R.1.why, .slice Aa R.1.args.length ca, .slice Ab R.1.path.length cb] from rfl]
            have q0 := blk_cell hbox 0
            have q1 := blk_cell hbox 1
            have q2 := blk_cell hbox 2
            have q3 := blk_cell hbox 3
            have q4 := blk_cell hbox 4
            have q5 := blk_cell hbox 5
            have q6 := blk_cell hbox 6
            have q7 := blk_cell hbox 7
            have f0 := blk_frozen hbox 0
            have f1 := blk_frozen hbox 1
            have f2 := blk_frozen hbox 2
            have f3 := blk_frozen hbox 3
            have f4 := blk_frozen hbox 4
            have f5 := blk_frozen hbox 5
            have f6 := blk_frozen hbox 6
            have f7 := blk_frozen hbox 7
            refine runT_op (by rfl) (by rfl) (fun K hK => ?_)
            go_simp
            obtain ⟨W6, hW6⟩ : ∃ W6, W6 = storeE (w5) eb R.1 Aa ca Ab cb := ⟨_, rfl⟩
            have e8 : (((((((((w5).setCell ⟨eb, 0, none⟩ (.int .i64 R.1.kind)).setCell ⟨eb, 1, none⟩ (.int .i64 R.1.value)).setCell ⟨eb, 2, none⟩ (.int .i64 R.1.reg)).setCell ⟨eb, 3, none⟩ (.int .i64 R.1.fn)).setCell ⟨eb, 4, none⟩ (.int .i64 R.1.hand)).setCell ⟨eb, 5, none⟩ (.int .i64 R.1.why)).setCell ⟨eb, 6, none⟩ (.slice Aa R.1.args.length ca)).setCell ⟨eb, 7, none⟩ (.slice Ab R.1.path.length cb)) = W6 := hW6.symm
            rw [e8]
            have hAX := (AfterX.late hs4 H4.out.2.1 (EfC.less H4.out.1 hsb3.size) eb H5.out.2.2 (hW6.trans (by rw [H5.out.1]; rfl)))
            have HAX := Aside0.mk hAX
            refine hK _ _ hAX.keep ?_
            clear hK K q0 q1 q2 q3 q4 q5 q6 q7 f0 f1 f2 f3 f4 f5 f6 f7 hW6 e8 hbox
            (try simp only [Act.put, List.setIfInBounds_toArray, List.set_cons_zero, List.set_cons_succ])
            refine runT_op (by rfl) (by rfl) (fun K hK => ?_)
            go_simp
            refine hK _ _ hAX.keep ?_
            clear hK K hAX
            (try simp only [Act.put, List.setIfInBounds_toArray, List.set_cons_zero, List.set_cons_succ])
            refine runT_done ?_
            exact hfin eb A c Aa ca Ab cb W6 HAX.out
          · go_simp
            obtain ⟨eb, heb⟩ : ∃ eb, eb = (w3).heap.size := ⟨_, rfl⟩
            rw [← heb]
            obtain ⟨w5, hw5⟩ : ∃ w5, w5 = (w3).alloc (.cells #[.int .i64 0, .int .i64 0, .int .i64 0, .int .i64 0, .int .i64 0, .int .i64 0, .slice none 0 0, .slice none 0 0] 36) := ⟨_, rfl⟩
            rw [← hw5]
            have hb5 : Below (w3).heap.size (w3) w5 := by rw [hw5]; exact (Below.refl (w3).heap.size (w3)).alloc (Nat.le_refl _) _
            have hx5 : w5.heap[eb]? = some zEff := by rw [hw5, heb]; exact alloc_blk (w3) _
            have hsb5 := (hsb3).trans (hb5.mono (hsb3).size)
            have H5 := Aside0.mk (And.intro hb5 (And.intro hx5 (show (W3).heap.size ≤ eb by rw [heb]; exact (hsb3).size)))
            refine hK _ _ (Keep.of_below hsb5 _) ?_
            clear hK K hb5 heb hw5 hx5
            (try simp only [Act.put, List.setIfInBounds_toArray, List.set_cons_zero, List.set_cons_succ])
            refine runT_op (by rfl) (by rfl) (fun K hK => ?_)
            go_simp
            have hpk : ProgK fb (w5) A (P.map ofF) := fun w' hk => H3.out.2 (fun q => q = fb) w' (fun q hq => by subst hq; exact Nat.lt_succ_self _) ((Keep.of_below H5.out.1 _).then hk (fun q hq e => e))
            refine (exec_of (b := b) (d := d) hpk H3.out.1 (HLF.out.below hsb5)).mono ?_
            rw [← HR.out]
            rintro e w4 ⟨Aa, ca, Ab, cb, rfl, hE, hL, hk⟩
            have hs4 : Keep (fun q => q = fb) _ w4 := (Keep.of_below hsb5 (fun q => q = fb)).then hk (fun q hq e => e)
            have H4 := Aside0.mk (And.intro hE (And.intro hL hk))
            obtain ⟨V, hV⟩ : ∃ V, V = efV R.1 Aa ca Ab cb := ⟨_, rfl⟩
            rw [← hV]
            have HV := Aside0.mk hV
            refine hK _ _ hs4 ?_
            clear hK K hE hL hk hV hpk
            (try simp only [Act.put, List.setIfInBounds_toArray, List.set_cons_zero, List.set_cons_succ])
            have hs := hs4
            repeat (
              (first
                | (refine runT_take (v := ?_) (by rfl) (by rfl) (fun w' hS => ?_) hs ?_
                   rotate_left
                   · (skip; go_simp; exact rfl))
                | refine runT_skip (by rfl) (by rfl) hs ?_)
              (try simp only [Act.put, List.setIfInBounds_toArray, List.set_cons_zero, List.set_cons_succ]))
            have hbox := (H4.out.2.2.blk H5.out.2.1 (by have := HLF.out.fr.lt; have := H5.out.2.2; omega))
            rw [HV.out, show efV R.1 Aa ca Ab cb = .agg #[.int .i64 R.1.kind, .int .i64 R.1.value, .int .i64 R.1.reg, .int .i64 R.1.fn, .int .i64 R.1.hand, .int .i64 R.1.why, .slice Aa R.1.args.length ca, .slice Ab R.1.path.length cb] from rfl]
            have q0 := blk_cell hbox 0
            have q1 := blk_cell hbox 1
            have q2 := blk_cell hbox 2
            have q3 := blk_cell hbox 3
            have q4 := blk_cell hbox 4
            have q5 := blk_cell hbox 5
            have q6 := blk_cell hbox 6
            have q7 := blk_cell hbox 7
            have f0 := blk_frozen hbox 0
            have f1 := blk_frozen hbox 1
            have f2 := blk_frozen hbox 2
            have f3 := blk_frozen hbox 3
            have f4 := blk_frozen hbox 4
            have f5 := blk_frozen hbox 5
            have f6 := blk_frozen hbox 6
            have f7 := blk_frozen hbox 7
            refine runT_op (by rfl) (by rfl) (fun K hK => ?_)
            go_simp
            obtain ⟨W6, hW6⟩ : ∃ W6, W6 = storeE (w4) eb R.1 Aa ca Ab cb := ⟨_, rfl⟩
            have e8 : (((((((((w4).setCell ⟨eb, 0, none⟩ (.int .i64 R.1.kind)).setCell ⟨eb, 1, none⟩ (.int .i64 R.1.value)).setCell ⟨eb, 2, none⟩ (.int .i64 R.1.reg)).setCell ⟨eb, 3, none⟩ (.int .i64 R.1.fn)).setCell ⟨eb, 4, none⟩ (.int .i64 R.1.hand)).setCell ⟨eb, 5, none⟩ (.int .i64 R.1.why)).setCell ⟨eb, 6, none⟩ (.slice Aa R.1.args.length ca)).setCell ⟨eb, 7, none⟩ (.slice Ab R.1.path.length cb)) = W6 := hW6.symm
            rw [e8]
            have hAX := (AfterX.early hsb5 H5.out.2.1 H5.out.2.2 HLF.out.fr.lt H4.out.2.2 H4.out.2.1 HPB.out H4.out.1 hW6)
            have HAX := Aside0.mk hAX
            refine hK _ _ hAX.keep ?_
            clear hK K q0 q1 q2 q3 q4 q5 q6 q7 f0 f1 f2 f3 f4 f5 f6 f7 hW6 e8 hbox
            (try simp only [Act.put, List.setIfInBounds_toArray, List.set_cons_zero, List.set_cons_succ])
            refine runT_op (by rfl) (by rfl) (fun K hK => ?_)
            go_simp
            refine hK _ _ hAX.keep ?_
            clear hK K hAX
            (try simp only [Act.put, List.setIfInBounds_toArray, List.set_cons_zero, List.set_cons_succ])
            refine runT_done ?_
            exact hfin eb A c Aa ca Ab cb W6 HAX.out
        · go_simp
          obtain ⟨eb, heb⟩ : ∃ eb, eb = (wd).heap.size := ⟨_, rfl⟩
          rw [← heb]
          obtain ⟨w5, hw5⟩ : ∃ w5, w5 = (wd).alloc (.cells #[.int .i64 0, .int .i64 0, .int .i64 0, .int .i64 0, .int .i64 0, .int .i64 0, .slice none 0 0, .slice none 0 0] 36) := ⟨_, rfl⟩
          rw [← hw5]
          have hb5 : Below (wd).heap.size (wd) w5 := by rw [hw5]; exact (Below.refl (wd).heap.size (wd)).alloc (Nat.le_refl _) _
          have hx5 : w5.heap[eb]? = some zEff := by rw [hw5, heb]; exact alloc_blk (wd) _
          have hsb5 := (hsb).trans (hb5.mono (hsb).size)
          have H5 := Aside0.mk (And.intro hb5 (And.intro hx5 (show (W3).heap.size ≤ eb by rw [heb]; exact (hsb).size)))
          refine hK _ _ (Keep.of_below hsb5 _) ?_
          clear hK K hb5 heb hw5 hx5
          (try simp only [Act.put, List.setIfInBounds_toArray, List.set_cons_zero, List.set_cons_succ])
          refine runT_op (by rfl) (by rfl) (fun K hK => ?_)
          go_simp
          refine (of_anyK Ap cp P _ (Kd.C_below H0.out.1 ((HB3).out.trans ((hsb5).mono (HB3).out.size))) H0.out.2.1 HLL.out.1 HLL.out.2).mono ?_
          rintro e w3 ⟨hb3, A, c, rfl, hc, hC⟩
          have hsb3 := (hsb5).trans (hb3.mono (hsb5).size)
          have hb53 := hb3
          have H3 := Aside0.mk (And.intro hc (show ∀ (S : Nat → Prop) (w2 : World), (∀ q, S q → q < fb + 1) → Keep S w3 w2 → k68.C w2 A (P.map ofF).length (P.map ofF) from fun S w2 hS hk => hC S w2 (fun q hq => by have g1 := hS q hq; have g2 := HLF.out.fr.lt; have g3 := (hsb5).size; omega) hk))
          refine hK _ _ (Keep.of_below hsb3 _) ?_
          clear hK K hb3 hc hC
          (try simp only [Act.put, List.setIfInBounds_toArray, List.set_cons_zero, List.set_cons_succ])
          refine runT_op (by rfl) (by rfl) (fun K hK => ?_)
          go_simp
          have hpk : ProgK fb (w3) A (P.map ofF) := fun w' hk => H3.out.2 (fun q => q = fb) w' (fun q hq => by subst hq; exact Nat.lt_succ_self _) ((Keep.of_below (Below.refl w3.heap.size w3) _).then hk (fun q hq e => e))
          refine (exec_of (b := b) (d := d) hpk H3.out.1 (HLF.out.below hsb3)).mono ?_
          rw [← HR.out]
          rintro e w4 ⟨Aa, ca, Ab, cb, rfl, hE, hL, hk⟩
          have hs4 : Keep (fun q => q = fb) _ w4 := (Keep.of_below hsb3 (fun q => q = fb)).then hk (fun q hq e => e)
          have H4 := Aside0.mk (And.intro hE (And.intro hL hk))
          obtain ⟨V, hV⟩ : ∃ V, V = efV R.1 Aa ca Ab cb := ⟨_, rfl⟩
          rw [← hV]
          have HV := Aside0.mk hV
          refine hK _ _ hs4 ?_
          clear hK K hE hL hk hV hpk
          (try simp only [Act.put, List.setIfInBounds_toArray, List.set_cons_zero, List.set_cons_succ])
          have hs := hs4
          repeat (
            (first
              | (refine runT_take (v := ?_) (by rfl) (by rfl) (fun w' hS => ?_) hs ?_
                 rotate_left
                 · (skip; go_simp; exact rfl))
              | refine runT_skip (by rfl) (by rfl) hs ?_)
            (try simp only [Act.put, List.setIfInBounds_toArray, List.set_cons_zero, List.set_cons_succ]))
          have hbox := (H4.out.2.2.blk ((hb53.block _ (blk_lt H5.out.2.1)).trans H5.out.2.1) (by have := HLF.out.fr.lt; have := H5.out.2.2; omega))
          rw [HV.out, show efV R.1 Aa ca Ab cb = .agg #[.int .i64 R.1.kind, .int .i64 R.1.value, .int .i64 R.1.reg, .int .i64 R.1.fn, .int .i64 R.1.hand, .int .i64 R.1.why, .slice Aa R.1.args.length ca, .slice Ab R.1.path.length cb] from rfl]
          have q0 := blk_cell hbox 0
          have q1 := blk_cell hbox 1
          have q2 := blk_cell hbox 2
          have q3 := blk_cell hbox 3
          have q4 := blk_cell hbox 4
          have q5 := blk_cell hbox 5
          have q6 := blk_cell hbox 6
          have q7 := blk_cell hbox 7
          have f0 := blk_frozen hbox 0
          have f1 := blk_frozen hbox 1
          have f2 := blk_frozen hbox 2
          have f3 := blk_frozen hbox 3
          have f4 := blk_frozen hbox 4
          have f5 := blk_frozen hbox 5
          have f6 := blk_frozen hbox 6
          have f7 := blk_frozen hbox 7
          refine runT_op (by rfl) (by rfl) (fun K hK => ?_)
          go_simp
          obtain ⟨W6, hW6⟩ : ∃ W6, W6 = storeE (w4) eb R.1 Aa ca Ab cb := ⟨_, rfl⟩
          have e8 : (((((((((w4).setCell ⟨eb, 0, none⟩ (.int .i64 R.1.kind)).setCell ⟨eb, 1, none⟩ (.int .i64 R.1.value)).setCell ⟨eb, 2, none⟩ (.int .i64 R.1.reg)).setCell ⟨eb, 3, none⟩ (.int .i64 R.1.fn)).setCell ⟨eb, 4, none⟩ (.int .i64 R.1.hand)).setCell ⟨eb, 5, none⟩ (.int .i64 R.1.why)).setCell ⟨eb, 6, none⟩ (.slice Aa R.1.args.length ca)).setCell ⟨eb, 7, none⟩ (.slice Ab R.1.path.length cb)) = W6 := hW6.symm
          rw [e8]
          have hAX := (AfterX.early hsb3 ((hb53.block _ (blk_lt H5.out.2.1)).trans H5.out.2.1) H5.out.2.2 HLF.out.fr.lt H4.out.2.2 H4.out.2.1 HPB.out H4.out.1 hW6)
          have HAX := Aside0.mk hAX
          refine hK _ _ hAX.keep ?_
          clear hK K q0 q1 q2 q3 q4 q5 q6 q7 f0 f1 f2 f3 f4 f5 f6 f7 hW6 e8 hbox
          (try simp only [Act.put, List.setIfInBounds_toArray, List.set_cons_zero, List.set_cons_succ])
          refine runT_op (by rfl) (by rfl) (fun K hK => ?_)
          go_simp
          refine hK _ _ hAX.keep ?_
          clear hK K hAX
          (try simp only [Act.put, List.setIfInBounds_toArray, List.set_cons_zero, List.set_cons_succ])
          refine runT_done ?_
          exact hfin eb A c Aa ca Ab cb W6 HAX.out
      · intro eb A c Aa ca Ab cb W4 hAX
        have HAX := Aside0.mk hAX
        have hX4 := hAX.keep.blk HX3.out HZ.out
        have HX4 := Aside0.mk hX4
        have HB4 := Aside0.mk (HB3.out.trans (Keep.below (B := w.heap.size) hAX.keep HB3.out.size (fun q hq e => by have := HFW.out; omega)))
        have x1 := blk_cell hX4 1
        have x5 := blk_cell hX4 5
        have hbox := hAX.box
        have q0 := blk_cell hbox 0
        have q5 := blk_cell hbox 5
        clear hAX hX4 hbox hs hsb
        have hz : ¬ (R.2.1 ≠ 0 ∨ (R.1.kind = 8 ∧ R.1.why = 3 ∧ b ≤ st)) := by rw [HR.out, HF.out]; exact HCS.out.1
        have hc2 := HCS.out.2
        rw [← HF.out, ← HR.out] at hc2
        clear HCS
        have HCS := Aside0.mk hc2
        clear hc2
        obtain ⟨d1, d2, d3, d4⟩ := exec_done HR.out (by rw [HF.out]; exact hz)
        obtain ⟨f, k, g, x, t1, t2, t3, t4, t5, t6⟩ := there_at d1 d2
        have hkp := doF_kept (P.map ofF) d x (stepF F) t6
        rw [t5] at d4
        obtain ⟨E, hE⟩ : ∃ E, E = doF (P.map ofF) d x (stepF F) := ⟨_, rfl⟩
        rw [← hE] at hkp d4
        obtain ⟨E1, E2⟩ := E
        have d4 : R = (E1, 0, E2) := d4
        subst d4
        rw [HF.out] at t1 t2 hkp d3
        have hf : ∃ p, P[f]? = some p ∧ g = ofF p := by
          rw [List.getElem?_map] at t3
          cases hp : P[f]? with
          | none => rw [hp] at t3; cases t3
          | some p => rw [hp] at t3; exact ⟨p, rfl, (Option.some.inj t3).symm⟩
        obtain ⟨p, hp, rfl⟩ := hf
        have hx : ∃ y, p.f1[k]? = some y ∧ x = ofI y := by
          have t4 : (p.f1.map ofI)[k]? = some x := t4
          rw [List.getElem?_map] at t4
          cases hy : p.f1[k]? with
          | none => rw [hy] at t4; cases t4
          | some y => rw [hy] at t4; exact ⟨y, rfl, (Option.some.inj t4).symm⟩
        obtain ⟨y, hy, rfl⟩ := hx
        have t1 : fn = f := t1
        have t2 : at_ = k := t2
        subst t1 t2
        have e1 : (E1.kind == 8 && E1.why == 3 && decide (b ≤ st)) = false := by
          cases hq : (E1.kind == 8 && E1.why == 3 && decide (b ≤ st)) with
          | false => rfl
          | true =>
            simp at hq
            exact absurd (.inr ⟨hq.1.1, hq.1.2, hq.2⟩) hz
        have g4 : (st ≥ b) = False := eq_false (by have d3 : st < b := d3; omega)
        have g5 : (b ≤ st) = False := eq_false (by have d3 : st < b := d3; omega)
        have hP4 := Kd.C_below H0.out.1 HB4.out
        have hfl := (List.getElem?_eq_some_iff.1 hp).1
        have hkl := (List.getElem?_eq_some_iff.1 hy).1
        obtain ⟨ad, A1, c1, hAp, z0, z1, hl1, hC1⟩ := at_T52 hP4 (f : Int) (by omega) (by omega)
        have hrd : rd_T52 P (f : Int) = p := by simp [rd_T52, hp]
        rw [hrd] at z0 z1 hl1 hC1
        obtain ⟨ad2, hA1, v0, v1, v2, v3, v4⟩ := at_T61 hC1 (k : Int) (by omega) (by omega)
        have hrd2 : rd_T61 p.f1 (k : Int) = y := by simp [rd_T61, hy]
        rw [hrd2] at v0 v1 v2 v3 v4
        rw [Int.toNat_natCast] at z0 z1 v0 v1 v2 v3 v4
        subst hAp hA1
        have HU := Aside0.mk (And.intro z1 (And.intro v0 (And.intro v1 (And.intro v2 (And.intro v3 v4)))))
        have b1 := lt_trueF hfl
        have b2 := lt_trueF hkl
        have HWS := Aside0.mk (show IntKind.i64.wrap (st + 1) = st + 1 from IntWalk.i64_in _ (by have h1 := H0.out.2.2.2.2.2.2.1; have h2 := (of_decide_eq_true d1).2.1; have d3 : st < b := d3; omega))
        have HK := Aside0.mk (And.intro hkp (And.intro d3 HAX.out.lf))
        clear d1 d2 d3 d4 t3 t4 t5 t6 hp hy hkp hz e1 hE hP4 hfl hkl z0 z1 hl1 hC1 hrd hrd2 v0 v1 v2 v3 v4
        have g2 : (E1.kind == 8) = false := by simp [show E1.kind ≠ 8 from HCS.out.1]
        have HCS := Aside0.mk (show E2.kids ≠ ki ∧ E1.kind ≠ 3 from HCS.out.2)
        go_upto_region 7 with (fail)
        refine wp_region_T (fun w' => Below W4.heap.size W4 w') [] (.takes [0, 1, 2, 3, 4, 5, 6, 7, 8, 9, 10, 11, 12] (.op 13 (.op 14 .done))) (by kernel_rfl) (by kernel_rfl) (by kernel_rfl) (by kernel_rfl) (panic_via (P := Try.prog) (fn := Try.f5) (R := fun e w' => e = .returned (.bool true) ∧ Below w.heap.size w w') (fun _ _ _ => rfl)) ?_
        obtain ⟨wd, hwd⟩ : ∃ wd, wd = W4.drew := ⟨_, rfl⟩
        rw [← hwd]
        have hs : Below W4.heap.size W4 wd := by rw [hwd]; exact (Below.refl _ _).drew
        clear hwd
        simp only [Turns.takes]
        repeat (
          (first
            | (refine runT_take (v := ?_) (by rfl) (by rfl) (fun w' hS => ?_) hs ?_
               rotate_left
               · (have hX := (hS.block _ (blk_lt HX4.out)).trans HX4.out; have x0 := blk_cell hX 0; have x3 := blk_cell hX 3; have x4 := blk_cell hX 4; have u1 := (hS.cell (World.block_lt_of_cell? _ _ HU.out.1)).trans HU.out.1; have v0 := (hS.cell (World.block_lt_of_cell? _ _ HU.out.2.1)).trans HU.out.2.1; have v1 := (hS.cell (World.block_lt_of_cell? _ _ HU.out.2.2.1)).trans HU.out.2.2.1; have v2 := (hS.cell (World.block_lt_of_cell? _ _ HU.out.2.2.2.1)).trans HU.out.2.2.2.1; have v3 := (hS.cell (World.block_lt_of_cell? _ _ HU.out.2.2.2.2.1)).trans HU.out.2.2.2.2.1; have v4 := (hS.cell (World.block_lt_of_cell? _ _ HU.out.2.2.2.2.2)).trans HU.out.2.2.2.2.2; go_simp; exact rfl))
            | refine runT_skip (by rfl) (by rfl) hs ?_)
          (try simp only [Act.put, List.setIfInBounds_toArray, List.set_cons_zero, List.set_cons_succ]))
        refine runT_op (by rfl) (by rfl) (fun K hK => ?_)
        go_simp
        obtain ⟨yb, hyb⟩ : ∃ yb, yb = wd.heap.size := ⟨_, rfl⟩
        rw [← hyb]
        obtain ⟨W5, hW5⟩ : ∃ W5, W5 = wd.alloc (.cells #[.int .i64 0, .int .i64 0, .int .i64 0, .int .i64 0, .int .i64 0] 61) := ⟨_, rfl⟩
        rw [← hW5]
        have hb5 : Below wd.heap.size wd W5 := by rw [hW5]; exact (Below.refl _ _).alloc (Nat.le_refl _) _
        have hx5 : W5.heap[yb]? = some (.cells #[.int .i64 0, .int .i64 0, .int .i64 0, .int .i64 0, .int .i64 0] 61 (0, 0)) := by rw [hW5, hyb]; exact alloc_blk wd _
        have hyn : W4.heap.size ≤ yb := by rw [hyb]; exact hs.size
        have hs5 := hs.trans (hb5.mono hs.size)
        refine hK _ _ hs5 ?_
        clear hK K hs hb5 hW5 hyb
        (try simp only [Act.put, List.setIfInBounds_toArray, List.set_cons_zero, List.set_cons_succ])
        have q0 := blk_frozen hx5 0
        have q1 := blk_frozen hx5 1
        have q2 := blk_frozen hx5 2
        have q3 := blk_frozen hx5 3
        have q4 := blk_frozen hx5 4
        have p0 := blk_cell hx5 0
        have p1 := blk_cell hx5 1
        have p2 := blk_cell hx5 2
        have p3 := blk_cell hx5 3
        have p4 := blk_cell hx5 4
        refine runT_op (by rfl) (by rfl) (fun K hK => ?_)
        go_simp
        obtain ⟨W7, hW7⟩ : ∃ W7, W7 = ((((W5.setCell ⟨yb, 0, none⟩ (.int .i64 y.f0)).setCell ⟨yb, 1, none⟩ (.int .i64 y.f1)).setCell ⟨yb, 2, none⟩ (.int .i64 y.f2)).setCell ⟨yb, 3, none⟩ (.int .i64 y.f3)).setCell ⟨yb, 4, none⟩ (.int .i64 y.f4) := ⟨_, rfl⟩
        have hx7 : W7.heap[yb]? = some (.cells #[.int .i64 y.f0, .int .i64 y.f1, .int .i64 y.f2, .int .i64 y.f3, .int .i64 y.f4] 61 (0, 0)) := by
          rw [hW7]
          exact blk_set (blk_set (blk_set (blk_set (blk_set hx5 0 (.int .i64 y.f0)) 1 (.int .i64 y.f1)) 2 (.int .i64 y.f2)) 3 (.int .i64 y.f3)) 4 (.int .i64 y.f4)
        have hb7 : Below W4.heap.size W4 W7 := by
          rw [hW7]
          exact ((((hs5.setCell (p := ⟨yb, 0, none⟩) hyn _).setCell (p := ⟨yb, 1, none⟩) hyn _).setCell (p := ⟨yb, 2, none⟩) hyn _).setCell (p := ⟨yb, 3, none⟩) hyn _).setCell (p := ⟨yb, 4, none⟩) hyn _
        rw [← hW7]
        refine hK _ _ hb7 ?_
        clear hK K hs5 hW7 hx5 hyn q0 q1 q2 q3 q4 p0 p1 p2 p3 p4
        (try simp only [Act.put, List.setIfInBounds_toArray, List.set_cons_zero, List.set_cons_succ])
        refine runT_done ?_
        have HB7 := Aside0.mk (HB4.out.trans (hb7.mono HB4.out.size))
        have hX7 := (hb7.block _ (blk_lt HX4.out)).trans HX4.out
        have hlf7 : LF fb E2 A9 c9 W7 := HK.out.2.2.below hb7
        have hbox7 := (hb7.block _ (blk_lt HAX.out.box)).trans HAX.out.box
        have HX7 := Aside0.mk (And.intro hX7 (And.intro hlf7 (And.intro hbox7 hx7)))
        clear hX7 hlf7 hbox7 hx7 hb7 b1 b2 x1
        go_wp2_with fail
        go_loopw [7] (fun v7 wr => ∃ i m : Nat, v7 = .int .i64 i ∧ i ≤ 8 ∧ wr = W7.drewN m) (fun v7 _ => 8 - (intOf v7).toNat)
        case atStart => exact ⟨0, 0, rfl, Nat.zero_le _, rfl⟩
        case round =>
          obtain ⟨i, m, rfl, hi, rfl⟩ := hrel
          by_cases hik : i < 8
          · have hlt : ((i : Int) < 8) = True := eq_true (by omega)
            have hw8 : IntKind.i64.wrap ((i : Int) + 1) = (i : Int) + 1 := IntWalk.i64_in _ (by omega)
            have HIK := Aside0.mk hik
            have z1 := blk_cell HX7.out.2.2.2 1
            by_cases hia : (i : Int) = y.f1
            · have e1 : ((i : Int) == y.f1) = true := by simp [hia]
              have e1b : ((i : Int) = y.f1) = True := eq_true hia
              have e1c : ((i : Int) != y.f1) = false := by simp [hia]
              clear hi hik hia
              go_wp2_with fail
              go_quiet (fail)
              go_wp2_with fail
              go_roundw
              case rel => exact ⟨i + 1, _, by go_num, HIK.out, rfl⟩
              case measure => exact up_ltF HIK.out
            · have e1 : ((i : Int) == y.f1) = false := by simp [hia]
              have e1b : ((i : Int) = y.f1) = False := eq_false hia
              have e1c : ((i : Int) != y.f1) = true := by simp [hia]
              have e2 := HX7.out.2.1.fr.reg i hik
              have e3 := HK.out.1.regs i hia
              replace e3 : E2.regs.getD i 0 = [r0, r1, r2, r3, r4, r5, r6, r7].getD i 0 := e3
              have e4 : W7.cell? ⟨zb, 8 + i, none⟩ = some (.int .i64 ([r0, r1, r2, r3, r4, r5, r6, r7].getD i 0)) := by
                have : i = 0 ∨ i = 1 ∨ i = 2 ∨ i = 3 ∨ i = 4 ∨ i = 5 ∨ i = 6 ∨ i = 7 := by omega
                rcases this with rfl | rfl | rfl | rfl | rfl | rfl | rfl | rfl <;> exact blk_cell HX7.out.1 _
              replace e2 : W7.cell? ⟨fb, 5 + i, none⟩ = some (.int .i64 (E2.regs.getD i 0)) := e2
              rw [e3] at e2
              obtain ⟨v, hv⟩ : ∃ v, v = [r0, r1, r2, r3, r4, r5, r6, r7].getD i 0 := ⟨_, rfl⟩
              rw [← hv] at e2 e4
              have e5 : (v != v) = false := by simp
              clear hi hik hia e3 hv
              go_wp2_with fail
              go_quiet (fail)
              go_wp2_with fail
              go_roundw
              case rel => exact ⟨i + 1, _, by go_num, HIK.out, rfl⟩
              case measure => exact up_ltF HIK.out
          · obtain rfl : i = 8 := by omega
            clear hi hik
            have hfx := HX7.out.2.1.fr.fix
            have hst7 : W7.cell? ⟨fb, 2, none⟩ = some (.int .i64 (st + 1)) := by rw [hfx.2.2.1, HK.out.1.steps]; rfl
            have hfn7 : W7.cell? ⟨fb, 0, none⟩ = some (.int .i64 (f : Int)) := by rw [hfx.1, HK.out.1.fn]; rfl
            have hkd7 : W7.cell? ⟨fb, 3, none⟩ = some (.int .i64 E2.kids) := hfx.2.2.2.1
            have hh : E2.hands = [h0, h1, h2, h3] := HK.out.1.hands
            have hn13 : W7.cell? ⟨fb, 13, none⟩ = some (.int .i64 h0) := by have := HX7.out.2.1.fr.hand 0 (by decide); rw [hh] at this; exact this
            have hn14 : W7.cell? ⟨fb, 14, none⟩ = some (.int .i64 h1) := by have := HX7.out.2.1.fr.hand 1 (by decide); rw [hh] at this; exact this
            have hn15 : W7.cell? ⟨fb, 15, none⟩ = some (.int .i64 h2) := by have := HX7.out.2.1.fr.hand 2 (by decide); rw [hh] at this; exact this
            have hn16 : W7.cell? ⟨fb, 16, none⟩ = some (.int .i64 h3) := by have := HX7.out.2.1.fr.hand 3 (by decide); rw [hh] at this; exact this
            have x3 := blk_cell HX7.out.1 3
            have x4 := blk_cell HX7.out.1 4
            have x5 := blk_cell HX7.out.1 5
            have x6 := blk_cell HX7.out.1 6
            have x7 := blk_cell HX7.out.1 7
            have x8 := blk_cell HX7.out.1 8
            have x9 := blk_cell HX7.out.1 9
            have x10 := blk_cell HX7.out.1 10
            have x11 := blk_cell HX7.out.1 11
            have x12 := blk_cell HX7.out.1 12
            have x13 := blk_cell HX7.out.1 13
            have x14 := blk_cell HX7.out.1 14
            have x15 := blk_cell HX7.out.1 15
            have x16 := blk_cell HX7.out.1 16
            have x17 := blk_cell HX7.out.1 17
            have x18 := blk_cell HX7.out.1 18
            have x19 := blk_cell HX7.out.1 19
            have q0 := blk_cell HX7.out.2.2.1 0
            have hq4 := eq_arrayI 4 Try.underlying25 [h0, h1, h2, h3] rfl
            simp only [List.map_cons, List.map_nil] at hq4
            have hws : IntKind.i64.wrap (st + 1) = st + 1 := HWS.out
            have hkk : E2.kids = ki ∨ (E2.kids = wrap64 (ki + 1) ∧ (E1.kind = 3 ∨ E1.kind = 4)) := HK.out.1.kids
            have HB8 := Aside0.mk (HB7.out.trans ((pw_below_drewN (Below.refl W7.heap.size W7) m).mono HB7.out.size))
            clear hfx hh
            have e1 : (E2.kids == ki) = false := by simp [HCS.out.1]
            have hk2 := (hkk.resolve_left HCS.out.1).1
            have hk3 := (hkk.resolve_left HCS.out.1).2
            have e2 : (E2.kids == wrap64 (ki + 1)) = true := by simp [hk2]
            have e2b : (E2.kids == IntKind.i64.wrap (ki + 1)) = true := by rw [IntWalk.i64_left]; exact e2
            have e3 : (E1.kind == 3) = false := by simp [HCS.out.2]
            have e4 : (E1.kind == 4) = true := by simp [hk3.resolve_left HCS.out.2]
            clear hkk hk2 hk3
            go_upto_region 13 with (fail)
            obtain ⟨W8, hW8⟩ : ∃ W8, W8 = W7.drewN m := ⟨_, rfl⟩
            rw [← hW8] at HB8 ⊢
            have hb8 : Below W7.heap.size W7 W8 := by rw [hW8]; exact pw_below_drewN (Below.refl W7.heap.size W7) m
            have HX8 := Aside0.mk (And.intro (HX7.out.2.1.below hb8) (And.intro ((hb8.block _ (blk_lt HX7.out.1)).trans HX7.out.1) ((hb8.block _ (blk_lt HX7.out.2.2.1)).trans HX7.out.2.2.1)))
            have HN8 := Aside0.mk (And.intro ((hb8.cell (World.block_lt_of_cell? _ _ hfn7)).trans hfn7) (And.intro ((hb8.cell (World.block_lt_of_cell? _ _ hst7)).trans hst7) (And.intro ((hb8.cell (World.block_lt_of_cell? _ _ hkd7)).trans hkd7) (And.intro ((hb8.cell (World.block_lt_of_cell? _ _ hn13)).trans hn13) (And.intro ((hb8.cell (World.block_lt_of_cell? _ _ hn14)).trans hn14) (And.intro ((hb8.cell (World.block_lt_of_cell? _ _ hn15)).trans hn15) ((hb8.cell (World.block_lt_of_cell? _ _ hn16)).trans hn16)))))))
            clear hfn7 hst7 hkd7 hn13 hn14 hn15 hn16 x3 x4 x5 x6 x7 x8 x9 x10 x11 x12 x13 x14 x15 x16 x17 x18 x19 q0 hb8 hW8
            have hcz : ∀ w', Below W8.heap.size W8 w' → w'.cell? ⟨zb, 3, none⟩ = some (.int .i64 (f : Int)) ∧ w'.cell? ⟨zb, 5, none⟩ = some (.int .i64 st) ∧ w'.cell? ⟨zb, 6, none⟩ = some (.int .i64 ki) ∧ w'.cell? ⟨zb, 16, none⟩ = some (.int .i64 h0) ∧ w'.cell? ⟨zb, 17, none⟩ = some (.int .i64 h1) ∧ w'.cell? ⟨zb, 18, none⟩ = some (.int .i64 h2) ∧ w'.cell? ⟨zb, 19, none⟩ = some (.int .i64 h3) ∧ w'.cell? ⟨eb, 0, none⟩ = some (.int .i64 E1.kind) := fun w' hb => by
              have hX := (hb.block _ (blk_lt HX8.out.2.1)).trans HX8.out.2.1
              have hY := (hb.block _ (blk_lt HX8.out.2.2)).trans HX8.out.2.2
              exact ⟨blk_cell hX 3, blk_cell hX 5, blk_cell hX 6, blk_cell hX 16, blk_cell hX 17, blk_cell hX 18, blk_cell hX 19, blk_cell hY 0⟩
            have hcf : ∀ w', Below W8.heap.size W8 w' → w'.cell? ⟨fb, 0, none⟩ = some (.int .i64 (f : Int)) ∧ w'.cell? ⟨fb, 2, none⟩ = some (.int .i64 (st + 1)) ∧ w'.cell? ⟨fb, 3, none⟩ = some (.int .i64 E2.kids) ∧ w'.cell? ⟨fb, 13, none⟩ = some (.int .i64 h0) ∧ w'.cell? ⟨fb, 14, none⟩ = some (.int .i64 h1) ∧ w'.cell? ⟨fb, 15, none⟩ = some (.int .i64 h2) ∧ w'.cell? ⟨fb, 16, none⟩ = some (.int .i64 h3) := fun w' hb =>
              ⟨(hb.cell (World.block_lt_of_cell? _ _ HN8.out.1)).trans HN8.out.1, (hb.cell (World.block_lt_of_cell? _ _ HN8.out.2.1)).trans HN8.out.2.1, (hb.cell (World.block_lt_of_cell? _ _ HN8.out.2.2.1)).trans HN8.out.2.2.1, (hb.cell (World.block_lt_of_cell? _ _ HN8.out.2.2.2.1)).trans HN8.out.2.2.2.1, (hb.cell (World.block_lt_of_cell? _ _ HN8.out.2.2.2.2.1)).trans HN8.out.2.2.2.2.1, (hb.cell (World.block_lt_of_cell? _ _ HN8.out.2.2.2.2.2.1)).trans HN8.out.2.2.2.2.2.1, (hb.cell (World.block_lt_of_cell? _ _ HN8.out.2.2.2.2.2.2)).trans HN8.out.2.2.2.2.2.2⟩
            have HCZ := Aside0.mk (And.intro hcz hcf)
            clear hcz hcf
            refine wp_region_T (fun w' => Below W8.heap.size W8 w') [] (.takes [0, 1, 2, 3, 4, 5, 6, 7, 8, 9, 10, 11, 12, 13, 14, 15, 16, 17, 18, 19, 20, 21, 22, 23, 24, 25, 26, 27, 28, 29, 30, 31, 32, 33, 34, 35, 36, 37, 38, 39, 40, 41, 42, 43, 44, 45, 46, 47, 48, 49, 50, 51, 52, 53, 54, 55, 56, 57, 58, 59, 60] (.op 61 (.takes [62] (.op 63 .done)))) (by kernel_rfl) (by kernel_rfl) (by kernel_rfl) (by kernel_rfl) (panic_via (P := Try.prog) (fn := Try.f5) (R := fun e w' => e = .returned (.bool true) ∧ Below w.heap.size w w') (fun _ _ _ => rfl)) ?_
            have hs : Below W8.heap.size W8 W8.drew := (Below.refl _ _).drew
            simp only [Turns.takes]
            repeat (
              (first
                | (refine runT_take (v := ?_) (by rfl) (by rfl) (fun w' hS => ?_) hs ?_
                   rotate_left
                   · (have hZ := HCZ.out.1 _ hS; have hF := HCZ.out.2 _ hS; have x3 := hZ.1; have x5 := hZ.2.1; have x6 := hZ.2.2.1; have x16 := hZ.2.2.2.1; have x17 := hZ.2.2.2.2.1; have x18 := hZ.2.2.2.2.2.1; have x19 := hZ.2.2.2.2.2.2.1; have q0 := hZ.2.2.2.2.2.2.2; have f0 := hF.1; have f2 := hF.2.1; have f3 := hF.2.2.1; have f13 := hF.2.2.2.1; have f14 := hF.2.2.2.2.1; have f15 := hF.2.2.2.2.2.1; have f16 := hF.2.2.2.2.2.2; clear hZ hF; go_simp; exact rfl))
                | refine runT_skip (by rfl) (by rfl) hs ?_)
              (try simp only [Act.put, List.setIfInBounds_toArray, List.set_cons_zero, List.set_cons_succ]))
            refine runT_op (by rfl) (by rfl) (fun K hK => ?_)
            go_simp
            refine (awake_any _).mono ?_
            rintro e w9 ⟨rfl, hb9⟩
            have hs9 := hs.trans (hb9.mono hs.size)
            refine hK _ _ hs9 ?_
            have HB9 := Aside0.mk (HB8.out.trans (hs9.mono HB8.out.size))
            clear hK K hs hb9
            (try simp only [Act.put, List.setIfInBounds_toArray, List.set_cons_zero, List.set_cons_succ])
            have hs := hs9
            repeat (
              (first
                | (refine runT_take (v := ?_) (by rfl) (by rfl) (fun w' hS => ?_) hs ?_
                   rotate_left
                   · (skip; go_simp; exact rfl))
                | refine runT_skip (by rfl) (by rfl) hs ?_)
              (try simp only [Act.put, List.setIfInBounds_toArray, List.set_cons_zero, List.set_cons_succ]))
            refine runT_op (by rfl) (by rfl) (fun K hK => ?_)
            go_simp
            refine hK _ _ hs ?_
            clear hK K
            refine runT_done ?_
            go_wp2_with fail
            go_ret
            exact ⟨rfl, HB9.out⟩

end Go.Proofs.Ytcciejcpijlkfaa.H

