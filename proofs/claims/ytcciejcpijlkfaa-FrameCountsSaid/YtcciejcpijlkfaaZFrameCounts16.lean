/- What the proof of FrameCounts stands on, part 16: this session's own texts and the words that the kit's print lays, those that are used. -/
import Derived.Test.YtcciejcpijlkfaaZFrameCounts15
set_option linter.unusedVariables false
set_option linter.unusedSimpArgs false
namespace Go.Proofs.Ytcciejcpijlkfaa.H
open Go.RowKit Go.Hay Go.Proofs.YtcciejcpijlkfaaW.PrintWords Go.Proofs.YtcciejcpijlkfaaW.PrintLast Go.Proofs.YtcciejcpijlkfaaW.PrintMore
theorem exec_same {l : List S68} {b d : Int} {F : Fr} {R : Ef × Int × Fr} (hR : R = execP l b d F) (h : R.2.1 ≠ 0 ∨ (R.1.kind = 8 ∧ R.1.why = 3 ∧ b ≤ F.steps)) : R.2.2 = F := by
  unfold execP at hR
  by_cases h1 : frRight l b d = true
  · rw [if_pos h1] at hR
    by_cases h2 : thereP l F = true
    · rw [if_pos h2] at hR
      by_cases h3 : b ≤ F.steps
      · rw [if_pos h3] at hR; rw [hR]
      · rw [if_neg h3] at hR
        rcases h with h | h
        · rw [hR] at h; exact absurd rfl h
        · exact absurd h.2.2 h3
    · rw [if_neg h2] at hR; rw [hR]
  · rw [if_neg h1] at hR; rw [hR]
theorem exec_done {l : List S68} {b d : Int} {F : Fr} {R : Ef × Int × Fr} (hR : R = execP l b d F) (h : ¬ (R.2.1 ≠ 0 ∨ (R.1.kind = 8 ∧ R.1.why = 3 ∧ b ≤ F.steps))) : frRight l b d = true ∧ thereP l F = true ∧ F.steps < b ∧ R = ((doF l d (instrF l F) (stepF F)).1, 0, (doF l d (instrF l F) (stepF F)).2) := by
  unfold execP at hR
  by_cases h1 : frRight l b d = true
  · rw [if_pos h1] at hR
    by_cases h2 : thereP l F = true
    · rw [if_pos h2] at hR
      by_cases h3 : b ≤ F.steps
      · rw [if_pos h3] at hR
        exact absurd (.inr (by rw [hR]; exact ⟨rfl, rfl, h3⟩)) h
      · rw [if_neg h3] at hR
        exact ⟨h1, h2, by omega, hR⟩
    · rw [if_neg h2] at hR
      exact absurd (.inl (by rw [hR]; show (11 : Int) ≠ 0; decide)) h
  · rw [if_neg h1] at hR
    exact absurd (.inl (by rw [hR]; show (1 : Int) ≠ 0; decide)) h
/-- what an instruction leaves as_ it was. -/
structure Kept (x : S65) (F : Fr) (r : Ef × Fr) : Prop where
  fn : r.2.fn = F.fn
  steps : r.2.steps = F.steps
  hands : r.2.hands = F.hands
  kids : r.2.kids = F.kids ∨ (r.2.kids = wrap64 (F.kids + 1) ∧ (r.1.kind = 3 ∨ r.1.kind = 4))
  regs : ∀ i : Nat, (i : Int) ≠ x.f1 → r.2.regs.getD i 0 = F.regs.getD i 0
theorem Kept.same (x : S65) (F : Fr) (e : Ef) : Kept x F (e, F) := ⟨rfl, rfl, rfl, .inl rfl, fun _ _ => rfl⟩
theorem Kept.jump (x : S65) (F : Fr) (e : Ef) (a : Int) : Kept x F (e, { F with at_ := a }) := ⟨rfl, rfl, rfl, .inl rfl, fun _ _ => rfl⟩
theorem Kept.set (x : S65) (F : Fr) (e : Ef) (v : Int) (h0 : 0 ≤ x.f1) : Kept x F (e, fSet F x.f1 v) :=
  ⟨rfl, rfl, rfl, .inl rfl, fun i hi => by
    show (F.regs.set x.f1.toNat v).getD i 0 = _
    rw [List.getD_eq_getElem?_getD, List.getElem?_set_ne (by omega), ← List.getD_eq_getElem?_getD]⟩
theorem Kept.begin (l : List S68) (d : Int) (x : S65) (F : Fr) (k r h : Int) (hk : k = 3 ∨ k = 4) : Kept x F (beginF l d x F k r h) := by
  unfold beginF
  split
  · exact Kept.same x F _
  · exact ⟨rfl, rfl, rfl, .inr ⟨rfl, hk⟩, fun _ _ => rfl⟩
theorem doF_kept (l : List S68) (d : Int) (x : S65) (F : Fr) {lc : Nat} (hx : IOk l lc x) : Kept x F (doF l d x F) := by
  have ha : x.f0 ≤ 8 → 0 ≤ x.f1 := fun h => (hx.a (by omega) (by omega) (by omega) (by omega)).1
  have hop := hx.op
  unfold doF
  by_cases h1 : x.f0 = 1
  · rw [if_pos h1]; exact Kept.set x F _ _ (ha (by omega))
  rw [if_neg h1]
  by_cases h2 : x.f0 = 2
  · rw [if_pos h2]; exact Kept.set x F _ _ (ha (by omega))
  rw [if_neg h2]
  by_cases h8 : x.f0 ≤ 8
  · rw [if_pos h8]
    cases reckonP x.f0 (fR F x.f2) (fR F x.f3) with
    | none => exact Kept.same x F _
    | some n => exact Kept.set x F _ _ (ha h8)
  rw [if_neg h8]
  by_cases h9 : x.f0 = 9
  · rw [if_pos h9]; exact Kept.jump x F _ _
  rw [if_neg h9]
  by_cases h10 : x.f0 = 10
  · rw [if_pos h10]
    by_cases hz : fR F x.f1 = 0
    · rw [if_pos hz]; exact Kept.jump x F _ _
    · rw [if_neg hz]; exact Kept.same x F _
  rw [if_neg h10]
  by_cases h11 : x.f0 = 11
  · rw [if_pos h11]; exact Kept.begin l d x F _ _ _ (.inl rfl)
  rw [if_neg h11]
  by_cases h12 : x.f0 = 12
  · rw [if_pos h12]; exact Kept.same x F _
  rw [if_neg h12]
  by_cases h13 : x.f0 = 13
  · rw [if_pos h13]; exact Kept.begin l d x F _ _ _ (.inr rfl)
  rw [if_neg h13]
  by_cases h14 : x.f0 = 14
  · rw [if_pos h14]
    by_cases hz : fH F x.f2 = 0
    · rw [if_pos hz]; exact Kept.same x F _
    · rw [if_neg hz]; exact Kept.same x F _
  rw [if_neg h14]
  by_cases h15 : x.f0 = 15
  · rw [if_pos h15]; exact Kept.same x F _
  rw [if_neg h15]
  by_cases h16 : x.f0 = 16
  · rw [if_pos h16]; exact Kept.same x F _
  rw [if_neg h16]; exact Kept.same x F _
/-- a frame at an instruction: which one, and that its numbers fit. -/
theorem there_at {l : List S68} {b d : Int} (hr : frRight l b d = true) {F : Fr} (ht : thereP l F = true) : ∃ (f : Nat) (k : Nat) (g : S68) (x : S65), F.fn = f ∧ F.at_ = k ∧ l[f]? = some g ∧ g.f1[k]? = some x ∧ instrF l F = x ∧ IOk l g.f1.length x := by
  have hp := check_ok (of_decide_eq_true hr).1
  obtain ⟨⟨h0, h1⟩, h2, h3⟩ := of_decide_eq_true ht
  have hf : F.fn.toNat < l.length := by omega
  have hrd : rd_T68 l F.fn = l[F.fn.toNat] := by simp [rd_T68, hf]
  rw [hrd] at h3
  have hk : F.at_.toNat < l[F.fn.toNat].f1.length := by omega
  refine ⟨F.fn.toNat, F.at_.toNat, l[F.fn.toNat], l[F.fn.toNat].f1[F.at_.toNat], by omega, by omega, List.getElem?_eq_getElem hf, List.getElem?_eq_getElem hk, ?_, (hp.fn _ hf).2.2.1 _ hk⟩
  unfold instrF
  rw [hrd]
  simp [rd_T65, hk]
end Go.Proofs.Ytcciejcpijlkfaa.H

set_option linter.unusedVariables false
set_option linter.unusedSimpArgs false
namespace Go.Proofs.Ytcciejcpijlkfaa.H
open Go.RowKit Go.Hay Go.Proofs.YtcciejcpijlkfaaW.PrintWords Go.Proofs.YtcciejcpijlkfaaW.PrintLast Go.Proofs.YtcciejcpijlkfaaW.PrintMore
set_option maxRecDepth 100000 in
set_option maxHeartbeats 8000000 in
theorem counts_a (Ap : Option Addr) (cp : Nat) (P : List S52) (b d fn at_ st ki : Int) (Aq : Option Addr) (cq : Nat) (path : List Int) (r0 r1 r2 r3 r4 r5 r6 r7 h0 h1 h2 h3 : Int) (w : World) (hP : k52.C w Ap P.length P) (hcp : P.length ≤ cp) (hC : (Kd.int .i64).C w Aq path.length path) (hcq : path.length ≤ cq) (hst : -9223372036854775808 ≤ st) (hcs : (execP (P.map ofF) b d ⟨fn, at_, st, ki, path, [r0, r1, r2, r3, r4, r5, r6, r7], [h0, h1, h2, h3]⟩).2.1 ≠ 0 ∨ ((execP (P.map ofF) b d ⟨fn, at_, st, ki, path, [r0, r1, r2, r3, r4, r5, r6, r7], [h0, h1, h2, h3]⟩).1.kind = 8 ∧ (execP (P.map ofF) b d ⟨fn, at_, st, ki, path, [r0, r1, r2, r3, r4, r5, r6, r7], [h0, h1, h2, h3]⟩).1.why = 3 ∧ b ≤ st)) :
    Calls Try.prog 5 #[.agg #[.slice Ap P.length cp, .int .i64 b, .int .i64 d, .int .i64 fn, .int .i64 at_, .int .i64 st, .int .i64 ki, .slice Aq path.length cq, .int .i64 r0, .int .i64 r1, .int .i64 r2, .int .i64 r3, .int .i64 r4, .int .i64 r5, .int .i64 r6, .int .i64 r7, .int .i64 h0, .int .i64 h1, .int .i64 h2, .int .i64 h3]] w fun e w' => e = .returned (.bool true) ∧ Below w.heap.size w w' := by
  have HCS := Aside0.mk hcs
  clear hcs
  obtain ⟨zb, hzb⟩ : ∃ zb, zb = w.heap.size := ⟨_, rfl⟩
  obtain ⟨W1, hW1⟩ : ∃ W1, W1 = w.alloc (.cells #[.slice Ap P.length cp, .int .i64 b, .int .i64 d, .int .i64 fn, .int .i64 at_, .int .i64 st, .int .i64 ki, .slice Aq path.length cq, .int .i64 r0, .int .i64 r1, .int .i64 r2, .int .i64 r3, .int .i64 r4, .int .i64 r5, .int .i64 r6, .int .i64 r7, .int .i64 h0, .int .i64 h1, .int .i64 h2, .int .i64 h3] 29) := ⟨_, rfl⟩
  have hb1 : Below w.heap.size w W1 := by rw [hW1]; exact (Below.refl w.heap.size w).alloc (Nat.le_refl _) _
  have hx1 : W1.heap[zb]? = some (.cells #[.slice Ap P.length cp, .int .i64 b, .int .i64 d, .int .i64 fn, .int .i64 at_, .int .i64 st, .int .i64 ki, .slice Aq path.length cq, .int .i64 r0, .int .i64 r1, .int .i64 r2, .int .i64 r3, .int .i64 r4, .int .i64 r5, .int .i64 r6, .int .i64 r7, .int .i64 h0, .int .i64 h1, .int .i64 h2, .int .i64 h3] 29 (0, 0)) := by rw [hW1, hzb]; exact alloc_blk w _
  obtain ⟨lb, hlb, hlight⟩ := light_any Ap cp P W1 (Kd.C_below hP hb1) hcp
  have H0 := Aside0.mk (And.intro hP (And.intro hcp (And.intro hC (And.intro hcq (And.intro hb1 (And.intro hx1 (And.intro hst hzb)))))))
  have HL := Aside0.mk hlight
  have HLB := Aside0.mk hlb
  have HW1 := Aside0.mk (And.intro hW1 hzb)
  have x0 := blk_cell hx1 0
  have x7 := blk_cell hx1 7
  clear hP hcp hC hcq hb1 hx1 hlight hlb hW1 hst hzb
  go_enter Try.func5, Try.ntmps5
  go_upto_region 1 with (fail)
  rw [← HW1.out.1, ← HW1.out.2]
  go_wp2_with fail
  refine HL.out.mono ?_
  rintro e w2 ⟨rfl, hb2⟩
  have HB2 := Aside0.mk (H0.out.2.2.2.2.1.trans (hb2.mono H0.out.2.2.2.2.1.size))
  have hx2 := (hb2.block _ (blk_lt H0.out.2.2.2.2.2.1)).trans H0.out.2.2.2.2.2.1
  have HX2 := Aside0.mk hx2
  clear x0 x7 hb2 HW1
  have x0 := blk_cell hx2 0
  have x7 := blk_cell hx2 7
  clear hx2
  cases lb with
  | false =>
    clear HL HLB
    go_wp2_with fail
    go_ret
    exact ⟨rfl, HB2.out⟩
  | true =>
    obtain ⟨hl20, hl70⟩ := HLB.out rfl
    have HLL := Aside0.mk (And.intro hl20 hl70)
    clear HL HLB hl20 hl70
    by_cases hn : 50 < path.length
    · have hn2 : ((path.length : Int) > 50) = True := eq_true (by omega)
      clear hn
      go_wp2_with fail
      go_ret
      exact ⟨rfl, HB2.out⟩
    · have hn2 : ((path.length : Int) > 50) = False := eq_false (by omega)
      have HN := Aside0.mk hn
      clear hn
      have x3 := blk_cell HX2.out 3
      have x4 := blk_cell HX2.out 4
      have x5 := blk_cell HX2.out 5
      have x6 := blk_cell HX2.out 6
      have x8 := blk_cell HX2.out 8
      have x9 := blk_cell HX2.out 9
      have x10 := blk_cell HX2.out 10
      have x11 := blk_cell HX2.out 11
      have x12 := blk_cell HX2.out 12
      have x13 := blk_cell HX2.out 13
      have x14 := blk_cell HX2.out 14
      have x15 := blk_cell HX2.out 15
      have x16 := blk_cell HX2.out 16
      have x17 := blk_cell HX2.out 17
      have x18 := blk_cell HX2.out 18
      have x19 := blk_cell HX2.out 19
      go_wp2_with fail
      refine (given_any fn at_ st ki path r0 r1 r2 r3 r4 r5 r6 r7 h0 h1 h2 h3 Aq cq w2 (Kd.C_below H0.out.2.2.1 HB2.out) H0.out.2.2.2.1 (by have := HN.out; omega) H0.out.2.2.2.2.2.2.1).mono ?_
      intro e W3 hp
      obtain ⟨F, hF⟩ : ∃ F, F = (⟨fn, at_, st, ki, path, [r0, r1, r2, r3, r4, r5, r6, r7], [h0, h1, h2, h3]⟩ : Fr) := ⟨_, rfl⟩
      rw [← hF] at hp
      obtain ⟨fb, A9, c9, rfl, hfb, hfr, hb3, hpc, hpn, hpp, hpC⟩ := hp
      have hlf : LF fb F A9 c9 W3 := ⟨hfr, hpc, hpn, hpp.imp id (fun ⟨ad, e1, e2, e3⟩ => ⟨ad, e1, by omega⟩), hpC, by rw [hF]; exact H0.out.2.2.2.2.2.2.1⟩
      have HLF := Aside0.mk hlf
      have HF := Aside0.mk hF
      have HB3 := Aside0.mk (HB2.out.trans (hb3.mono HB2.out.size))
      have HX3 := Aside0.mk ((hb3.block _ (blk_lt HX2.out)).trans HX2.out)
      have HFW := Aside0.mk (show w.heap.size ≤ fb from Nat.le_trans HB2.out.size hfb)
      have HZ := Aside0.mk (show zb ≠ fb by have := blk_lt HX2.out; omega)
      obtain ⟨R, hR⟩ : ∃ R, R = execP (P.map ofF) b d F := ⟨_, rfl⟩
      have HR := Aside0.mk hR
      have HPB := Aside0.mk (show R.2.2.path = [] ∨ ∃ ad, A9 = some ad ∧ ad.block < W3.heap.size by
        rw [hR, (execP_path (P.map ofF) b d F).1]
        exact hpp.imp id (fun ⟨ad, e1, e2, e3⟩ => ⟨ad, e1, by have := hfr.lt; omega⟩))
      clear hlf hF hb3 hfb hfr hpc hpn hpp hpC hR x0 x3 x4 x5 x6 x7 x8 x9 x10 x11 x12 x13 x14 x15 x16 x17 x18 x19
      go_upto_region 4 with (fail)
      refine wp_region_T (fun w' => Keep (fun q => q = fb) (W3) w') [] (.takes [0, 1, 3, 4, 5, 6, 7, 8] (.alt 2 13 (.alt 9 13 (.takes [10, 11, 12] (.op 13 (.op 14 (.op 15 .done)))) (.op 9 (.takes [10, 11, 12] (.op 14 (.op 15 .done))))) (.op 2 (.op 9 (.takes [10, 11, 12] (.op 14 (.op 15 .done))))))) (by kernel_rfl) (by kernel_rfl) (by kernel_rfl) (by kernel_rfl) (panic_via (P := Try.prog) (fn := Try.f5) (R := fun e w' => e = .returned (.bool true) ∧ Below w.heap.size w w') (fun _ _ _ => rfl)) ?_
      obtain ⟨wd, hwd⟩ : ∃ wd, wd = (W3).drew := ⟨_, rfl⟩
      rw [← hwd]
      have hsb : Below (W3).heap.size (W3) wd := by rw [hwd]; exact (Below.refl _ _).drew
      have hs : Keep (fun q => q = fb) (W3) wd := Keep.of_below hsb _
      clear hwd
      simp only [Turns.takes]
      repeat (
        (first
          | (refine runT_take (v := ?_) (by rfl) (by rfl) (fun w' hS => ?_) hs ?_
             rotate_left
             · (have hX := hS.blk HX3.out HZ.out; have d0 := blk_cell hX 0; have d1 := blk_cell hX 1; have d2 := blk_cell hX 2; go_simp; exact rfl))
          | refine runT_skip (by rfl) (by rfl) hs ?_)
        (try simp only [Act.put, List.setIfInBounds_toArray, List.set_cons_zero, List.set_cons_succ]))
      rename_i K0 hK0
      refine' with_actX (F := fun eb A c Aa ca Ab cb W => AfterX W3 W fb eb R A9 c9 Aa ca Ab cb) (K := K0) _ (fun hfin => ?_) ?_
      rotate_left
      · refine runT_alt (by rfl) (by rfl) (by rfl) (by rfl) (fun K hK => ?_) (fun K hK => ?_)
        · go_simp
          refine (of_anyK Ap cp P _ (Kd.C_below H0.out.1 ((HB3).out.trans ((hsb).mono (HB3).out.size))) H0.out.2.1 HLL.out.1 HLL.out.2).mono ?_
          rintro e w3 ⟨hb3, A, c, rfl, hc, hC⟩
          have hsb3 := (hsb).trans (hb3.mono (hsb).size)
          have hb53 := hb3
          have H3 := Aside0.mk (And.intro hc (show ∀ (S : Nat → Prop) (w2 : World), (∀ q, S q → q < fb + 1) → Keep S w3 w2 → k68.C w2 A (P.map ofF).length (P.map ofF) from fun S w2 hS hk => hC S w2 (fun q hq => by have g1 := hS q hq; have g2 := HLF.out.fr.lt; have g3 := (hsb).size; omega) hk))
          refine hK _ _ (Keep.of_below hsb3 _) ?_
          clear hK K hb3 hc hC
          (try simp only [Act.put, List.setIfInBounds_toArray, List.set_cons_zero, List.set_cons_succ])
          refine runT_alt (by rfl) (by rfl) (by rfl) (by rfl) (fun K hK => ?_) (fun K hK => ?_)
          · go_simp
            have hpk : ProgK fb (w3) A (P.map ofF) := fun w' hk => H3.out.2 (fun q => q = fb) w' (fun q hq => by subst hq; exact Nat.lt_succ_self _) ((Keep.of_below (Below.refl w3.heap.size w3) _).then hk (fun q hq e => e))
            refine (exec_of (b := b) (d := d) hpk H3.out.1 (HLF.out.below hsb3)).mono ?_
            rw [← HR.out]
            rintro e w4 ⟨Aa, ca, Ab, cb, rfl, hE, hL, hk⟩
            have hs4 : Keep (fun q => q = fb) _ w4 := (Keep.of_below hsb3 (fun q => q = fb)).then hk (fun q hq e => e)
            have H4 := Aside0.mk (And.intro hE (And.intro hL hk))
            obtain ⟨V, hV⟩ : ∃ V, V = efV R.1 Aa ca Ab cb := ⟨_, rfl⟩
            rw [← hV]
            have HV := Aside0.mk hV
            refine hK _ _ hs4 ?_
            clear hK K hE hL hk hV hpk
            (try simp only [Act.put, List.setIfInBounds_toArray, List.set_cons_zero, List.set_cons_succ])
            have hs := hs4
            repeat (
              (first
                | (refine runT_take (v := ?_) (by rfl) (by rfl) (fun w' hS => ?_) hs ?_
                   rotate_left
                   · (skip; go_simp; exact rfl))
                | refine runT_skip (by rfl) (by rfl) hs ?_)
              (try simp only [Act.put, List.setIfInBounds_toArray, List.set_cons_zero, List.set_cons_succ]))
            refine runT_op (by rfl) (by rfl) (fun K hK => ?_)
            go_simp
            obtain ⟨eb, heb⟩ : ∃ eb, eb = (w4).heap.size := ⟨_, rfl⟩
            rw [← heb]
            obtain ⟨w5, hw5⟩ : ∃ w5, w5 = (w4).alloc (.cells #[.int .i64 0, .int .i64 0, .int .i64 0, .int .i64 0, .int .i64 0, .int .i64 0, .slice none 0 0, .slice none 0 0] 36) := ⟨_, rfl⟩
            rw [← hw5]
            have hb5 : Below (w4).heap.size (w4) w5 := by rw [hw5]; exact (Below.refl (w4).heap.size (w4)).alloc (Nat.le_refl _) _
            have hx5 : w5.heap[eb]? = some zEff := by rw [hw5, heb]; exact alloc_blk (w4) _
            have hs5 : Keep (fun q => q = fb) _ w5 := hs4.then (Keep.of_below hb5 (fun q => q = fb)) (fun q hq e => e)
            have H5 := Aside0.mk (And.intro hw5 (And.intro hx5 heb))
            refine hK _ _ hs5 ?_
            clear hK K hb5 heb hw5 hx5
            (try simp only [Act.put, List.setIfInBounds_toArray, List.set_cons_zero, List.set_cons_succ])
            have hbox := H5.out.2.1
            rw [HV.out, show efV R.1 Aa ca Ab cb = .agg #[.int .i64 R.1.kind, .int .i64 R.1.value, .int .i64 R.1.reg, .int .i64 R.1.fn, .int .i64 R.1.hand, .int .i64 R.1.why, .slice Aa R.1.args.length ca, .slice Ab R.1.path.length cb] from rfl]
            have q0 := blk_cell hbox 0
            have q1 := blk_cell hbox 1
            have q2 := blk_cell hbox 2
            have q3 := blk_cell hbox 3
            have q4 := blk_cell hbox 4
            have q5 := blk_cell hbox 5
            have q6 := blk_cell hbox 6
            have q7 := blk_cell hbox 7
            have f0 := blk_frozen hbox 0
            have f1 := blk_frozen hbox 1
            have f2 := blk_frozen hbox 2
            have f3 := blk_frozen hbox 3
            have f4 := blk_frozen hbox 4
            have f5 := blk_frozen hbox 5
            have f6 := blk_frozen hbox 6
            have f7 := blk_frozen hbox 7
            refine runT_op (by rfl) (by rfl) (fun K hK => ?_)
            go_simp
            obtain ⟨W6, hW6⟩ : ∃ W6, W6 = storeE (w5) eb R.1 Aa ca Ab cb := ⟨_, rfl⟩
            have e8 : (((((((((w5).setCell ⟨eb, 0, none⟩ (.int .i64 R.1.kind)).setCell ⟨eb, 1, none⟩ (.int .i64 R.1.value)).setCell ⟨eb, 2, none⟩ (.int .i64 R.1.reg)).setCell ⟨eb, 3, none⟩ (.int .i64 R.1.fn)).setCell ⟨eb, 4, none⟩ (.int .i64 R.1.hand)).setCell ⟨eb, 5, none⟩ (.int .i64 R.1.why)).setCell ⟨eb, 6, none⟩ (.slice Aa R.1.args.length ca)).setCell ⟨eb, 7, none⟩ (.slice Ab R.1.path.length cb)) = W6 := hW6.symm
            rw [e8]
            have hAX := (AfterX.late hs4 H4.out.2.1 (EfC.less H4.out.1 hsb3.size) eb H5.out.2.2 (hW6.trans (by rw [H5.out.1]; rfl)))
            have HAX := Aside0.mk hAX
            refine hK _ _ hAX.keep ?_
            clear hK K q0 q1 q2 q3 q4 q5 q6 q7 f0 f1 f2 f3 f4 f5 f6 f7 hW6 e8 hbox
            (try simp only [Act.put, List.setIfInBounds_toArray, List.set_cons_zero, List.set_cons_succ])
            refine runT_op (by rfl) (by rfl) (fun K hK => ?_)
            go_simp
            refine hK _ _ hAX.keep ?_
            clear hK K hAX
            (try simp only [Act.put, List.setIfInBounds_toArray, List.set_cons_zero, List.set_cons_succ])
            refine runT_done ?_
            exact hfin eb A c Aa ca Ab cb W6 HAX.out
          · go_simp
            obtain ⟨eb, heb⟩ : ∃ eb, eb = (w3).heap.size := ⟨_, rfl⟩
            rw [← heb]
            obtain ⟨w5, hw5⟩ : ∃ w5, w5 = (w3).alloc (.cells #[.int .i64 0, .int .i64 0, .int .i64 0, .int .i64 0, .int .i64 0, .int .i64 0, .slice none 0 0, .slice none 0 0] 36) := ⟨_, rfl⟩
            rw [← hw5]
            have hb5 : Below (w3).heap.size (w3) w5 := by rw [hw5]; exact (Below.refl (w3).heap.size (w3)).alloc (Nat.le_refl _) _
            have hx5 : w5.heap[eb]? = some zEff := by rw [hw5, heb]; exact alloc_blk (w3) _
            have hsb5 := (hsb3).trans (hb5.mono (hsb3).size)
            have H5 := Aside0.mk (And.intro hb5 (And.intro hx5 (show (W3).heap.size ≤ eb by rw [heb]; exact (hsb3).size)))
            refine hK _ _ (Keep.of_below hsb5 _) ?_
            clear hK K hb5 heb hw5 hx5
            (try simp only [Act.put, List.setIfInBounds_toArray, List.set_cons_zero, List.set_cons_succ])
            refine runT_op (by rfl) (by rfl) (fun K hK => ?_)
            go_simp
            have hpk : ProgK fb (w5) A (P.map ofF) := fun w' hk => H3.out.2 (fun q => q = fb) w' (fun q hq => by subst hq; exact Nat.lt_succ_self _) ((Keep.of_below H5.out.1 _).then hk (fun q hq e => e))
            refine (exec_of (b := b) (d := d) hpk H3.out.1 (HLF.out.below hsb5)).mono ?_
            rw [← HR.out]
            rintro e w4 ⟨Aa, ca, Ab, cb, rfl, hE, hL, hk⟩
            have hs4 : Keep (fun q => q = fb) _ w4 := (Keep.of_below hsb5 (fun q => q = fb)).then hk (fun q hq e => e)
            have H4 := Aside0.mk (And.intro hE (And.intro hL hk))
            obtain ⟨V, hV⟩ : ∃ V, V = efV R.1 Aa ca Ab cb := ⟨_, rfl⟩
            rw [← hV]
            have HV := Aside0.mk hV
            refine hK _ _ hs4 ?_
            clear hK K hE hL hk hV hpk
            (try simp only [Act.put, List.setIfInBounds_toArray, List.set_cons_zero, List.set_cons_succ])
            have hs := hs4
            repeat (
              (first
                | (refine runT_take (v := ?_) (by rfl) (by rfl) (fun w' hS => ?_) hs ?_
                   rotate_left
                   · (skip; go_simp; exact rfl))
                | refine runT_skip (by rfl) (by rfl) hs ?_)
              (try simp only [Act.put, List.setIfInBounds_toArray, List.set_cons_zero, List.set_cons_succ]))
            have hbox := (H4.out.2.2.blk H5.out.2.1 (by have := HLF.out.fr.lt; have := H5.out.2.2; omega))
            rw [HV.out, show efV R.1 Aa ca Ab cb = .agg #[.int .i64 R.1.kind, .int .i64 R.1.value, .int .i64 R.1.reg, .int .i64 R.1.fn, .int .i64 R.1.hand, .int .i64 R.1.why, .slice Aa R.1.args.length ca, .slice Ab R.1.path.length cb] from rfl]
            have q0 := blk_cell hbox 0
            have q1 := blk_cell hbox 1
            have q2 := blk_cell hbox 2
            have q3 := blk_cell hbox 3
            have q4 := blk_cell hbox 4
            have q5 := blk_cell hbox 5
            have q6 := blk_cell hbox 6
            have q7 := blk_cell hbox 7
            have f0 := blk_frozen hbox 0
            have f1 := blk_frozen hbox 1
            have f2 := blk_frozen hbox 2
            have f3 := blk_frozen hbox 3
            have f4 := blk_frozen hbox 4
            have f5 := blk_frozen hbox 5
            have f6 := blk_frozen hbox 6
            have f7 := blk_frozen hbox 7
            refine runT_op (by rfl) (by rfl) (fun K hK => ?_)
            go_simp
            obtain ⟨W6, hW6⟩ : ∃ W6, W6 = storeE (w4) eb R.1 Aa ca Ab cb := ⟨_, rfl⟩
            have e8 : (((((((((w4).setCell ⟨eb, 0, none⟩ (.int .i64 R.1.kind)).setCell ⟨eb, 1, none⟩ (.int .i64 R.1.value)).setCell ⟨eb, 2, none⟩ (.int .i64 R.1.reg)).setCell ⟨eb, 3, none⟩ (.int .i64 R.1.fn)).setCell ⟨eb, 4, none⟩ (.int .i64 R.1.hand)).setCell ⟨eb, 5, none⟩ (.int .i64 R.1.why)).setCell ⟨eb, 6, none⟩ (.slice Aa R.1.args.length ca)).setCell ⟨eb, 7, none⟩ (.slice Ab R.1.path.length cb)) = W6 := hW6.symm
            rw [e8]
            have hAX := (AfterX.early hsb5 H5.out.2.1 H5.out.2.2 HLF.out.fr.lt H4.out.2.2 H4.out.2.1 HPB.out H4.out.1 hW6)
            have HAX := Aside0.mk hAX
            refine hK _ _ hAX.keep ?_
            clear hK K q0 q1 q2 q3 q4 q5 q6 q7 f0 f1 f2 f3 f4 f5 f6 f7 hW6 e8 hbox
            (try simp only [Act.put, List.setIfInBounds_toArray, List.set_cons_zero, List.set_cons_succ])
            refine runT_op (by rfl) (by rfl) (fun K hK => ?_)
            go_simp
            refine hK _ _ hAX.keep ?_
            clear hK K hAX
            (try simp only [Act.put, List.setIfInBounds_toArray, List.set_cons_zero, List.set_cons_succ])
            refine runT_done ?_
            exact hfin eb A c Aa ca Ab cb W6 HAX.out
        · go_simp
          obtain ⟨eb, heb⟩ : ∃ eb, eb = (wd).heap.size := ⟨_, rfl⟩
          rw [← heb]
          obtain ⟨w5, hw5⟩ : ∃ w5, w5 = (wd).alloc (.cells #[.int .i64 0, .int .i64 0, .int .i64 0, .int .i64 0, .int .i64 0, .int .i64 0, .slice none 0 0, .slice none 0 0] 36) := ⟨_, rfl⟩
          rw [← hw5]
          have hb5 : Below (wd).heap.size (wd) w5 := by rw [hw5]; exact (Below.refl (wd).heap.size (wd)).alloc (Nat.le_refl _) _
          have hx5 : w5.heap[eb]? = some zEff := by rw [hw5, heb]; exact alloc_blk (wd) _
          have hsb5 := (hsb).trans (hb5.mono (hsb).size)
          have H5 := Aside0.mk (And.intro hb5 (And.intro hx5 (show (W3).heap.size ≤ eb by rw [heb]; exact (hsb).size)))
          refine hK _ _ (Keep.of_below hsb5 _) ?_
          clear hK K hb5 heb hw5 hx5
          (try simp only [Act.put, List.setIfInBounds_toArray, List.set_cons_zero, List.set_cons_succ])
          refine runT_op (by rfl) (by rfl) (fun K hK => ?_)
          go_simp
          refine (of_anyK Ap cp P _ (Kd.C_below H0.out.1 ((HB3).out.trans ((hsb5).mono (HB3).out.size))) H0.out.2.1 HLL.out.1 HLL.out.2).mono ?_
          rintro e w3 ⟨hb3, A, c, rfl, hc, hC⟩
          have hsb3 := (hsb5).trans (hb3.mono (hsb5).size)
          have hb53 := hb3
          have H3 := Aside0.mk (And.intro hc (show ∀ (S : Nat → Prop) (w2 : World), (∀ q, S q → q < fb + 1) → Keep S w3 w2 → k68.C w2 A (P.map ofF).length (P.map ofF) from fun S w2 hS hk => hC S w2 (fun q hq => by have g1 := hS q hq; have g2 := HLF.out.fr.lt; have g3 := (hsb5).size; omega) hk))
          refine hK _ _ (Keep.of_below hsb3 _) ?_
          clear hK K hb3 hc hC
          (try simp only [Act.put, List.setIfInBounds_toArray, List.set_cons_zero, List.set_cons_succ])
          refine runT_op (by rfl) (by rfl) (fun K hK => ?_)
          go_simp
          have hpk : ProgK fb (w3) A (P.map ofF) := fun w' hk => H3.out.2 (fun q => q = fb) w' (fun q hq => by subst hq; exact Nat.lt_succ_self _) ((Keep.of_below (Below.refl w3.heap.size w3) _).then hk (fun q hq e => e))
          refine (exec_of (b := b) (d := d) hpk H3.out.1 (HLF.out.below hsb3)).mono ?_
          rw [← HR.out]
          rintro e w4 ⟨Aa, ca, Ab, cb, rfl, hE, hL, hk⟩
          have hs4 : Keep (fun q => q = fb) _ w4 := (Keep.of_below hsb3 (fun q => q = fb)).then hk (fun q hq e => e)
          have H4 := Aside0.mk (And.intro hE (And.intro hL hk))
          obtain ⟨V, hV⟩ : ∃ V, V = efV R.1 Aa ca Ab cb := ⟨_, rfl⟩
          rw [← hV]
          have HV := Aside0.mk hV
          refine hK _ _ hs4 ?_
          clear hK K hE hL hk hV hpk
          (try simp only [Act.put, List.setIfInBounds_toArray, List.set_cons_zero, List.set_cons_succ])
          have hs := hs4
          repeat (
            (first
              | (refine runT_take (v := ?_) (by rfl) (by rfl) (fun w' hS => ?_) hs ?_
                 rotate_left
                 · (skip; go_simp; exact rfl))
              | refine runT_skip (by rfl) (by rfl) hs ?_)
            (try simp only [Act.put, List.setIfInBounds_toArray, List.set_cons_zero, List.set_cons_succ]))
          have hbox := (H4.out.2.2.blk ((hb53.block _ (blk_lt H5.out.2.1)).trans H5.out.2.1) (by have := HLF.out.fr.lt; have := H5.out.2.2; omega))
          rw [HV.out, show efV R.1 Aa ca Ab cb = .agg #[.int .i64 R.1.kind, .int .i64 R.1.value, .int .i64 R.1.reg, .int .i64 R.1.fn, .int .i64 R.1.hand, .int .i64 R.1.why, .slice Aa R.1.args.length ca, .slice Ab R.1.path.length cb] from rfl]
          have q0 := blk_cell hbox 0
          have q1 := blk_cell hbox 1
          have q2 := blk_cell hbox 2
          have q3 := blk_cell hbox 3
          have q4 := blk_cell hbox 4
          have q5 := blk_cell hbox 5
          have q6 := blk_cell hbox 6
          have q7 := blk_cell hbox 7
          have f0 := blk_frozen hbox 0
          have f1 := blk_frozen hbox 1
          have f2 := blk_frozen hbox 2
          have f3 := blk_frozen hbox 3
          have f4 := blk_frozen hbox 4
          have f5 := blk_frozen hbox 5
          have f6 := blk_frozen hbox 6
          have f7 := blk_frozen hbox 7
          refine runT_op (by rfl) (by rfl) (fun K hK => ?_)
          go_simp
          obtain ⟨W6, hW6⟩ : ∃ W6, W6 = storeE (w4) eb R.1 Aa ca Ab cb := ⟨_, rfl⟩
          have e8 : (((((((((w4).setCell ⟨eb, 0, none⟩ (.int .i64 R.1.kind)).setCell ⟨eb, 1, none⟩ (.int .i64 R.1.value)).setCell ⟨eb, 2, none⟩ (.int .i64 R.1.reg)).setCell ⟨eb, 3, none⟩ (.int .i64 R.1.fn)).setCell ⟨eb, 4, none⟩ (.int .i64 R.1.hand)).setCell ⟨eb, 5, none⟩ (.int .i64 R.1.why)).setCell ⟨eb, 6, none⟩ (.slice Aa R.1.args.length ca)).setCell ⟨eb, 7, none⟩ (.slice Ab R.1.path.length cb)) = W6 := hW6.symm
          rw [e8]
          have hAX := (AfterX.early hsb3 ((hb53.block _ (blk_lt H5.out.2.1)).trans H5.out.2.1) H5.out.2.2 HLF.out.fr.lt H4.out.2.2 H4.out.2.1 HPB.out H4.out.1 hW6)
          have HAX := Aside0.mk hAX
          refine hK _ _ hAX.keep ?_
          clear hK K q0 q1 q2 q3 q4 q5 q6 q7 f0 f1 f2 f3 f4 f5 f6 f7 hW6 e8 hbox
          (try simp only [Act.put, List.setIfInBounds_toArray, List.set_cons_zero, List.set_cons_succ])
          refine runT_op (by rfl) (by rfl) (fun K hK => ?_)
          go_simp
          refine hK _ _ hAX.keep ?_
          clear hK K hAX
          (try simp only [Act.put, List.setIfInBounds_toArray, List.set_cons_zero, List.set_cons_succ])
          refine runT_done ?_
          exact hfin eb A c Aa ca Ab cb W6 HAX.out
      · intro eb A c Aa ca Ab cb W4 hAX
        have HAX := Aside0.mk hAX
        have hX4 := hAX.keep.blk HX3.out HZ.out
        have HX4 := Aside0.mk hX4
        have HB4 := Aside0.mk (HB3.out.trans (Keep.below (B := w.heap.size) hAX.keep HB3.out.size (fun q hq e => by have := HFW.out; omega)))
        have x1 := blk_cell hX4 1
        have x5 := blk_cell hX4 5
        have hbox := hAX.box
        have q0 := blk_cell hbox 0
        have q5 := blk_cell hbox 5
        clear hAX hX4 hbox hs hsb
        have hz : R.2.1 ≠ 0 ∨ (R.1.kind = 8 ∧ R.1.why = 3 ∧ b ≤ st) := by rw [HR.out, HF.out]; exact HCS.out
        clear HCS
        have hs := exec_same HR.out (by rw [HF.out]; exact hz)
        have hlf := HAX.out.lf
        rw [hs, HF.out] at hlf
        have HL4 := Aside0.mk hlf
        clear hlf hs
        by_cases hg : R.2.1 = 0
        · have hz2 := hz.resolve_left (fun h => h hg)
          have g1 : (R.2.1 != 0) = false := by simp [hg]
          have g2 : (R.1.kind == 8) = true := by simp [hz2.1]
          have g3 : (R.1.why == 3) = true := by simp [hz2.2.1]
          have g4 : (st ≥ b) = True := eq_true hz2.2.2
          have g5 : (b ≤ st) = True := eq_true hz2.2.2
          clear hz hz2 hg x5
          have x3 := blk_cell HX4.out 3
          have x4 := blk_cell HX4.out 4
          have x5 := blk_cell HX4.out 5
          have x6 := blk_cell HX4.out 6
          have x7 := blk_cell HX4.out 7
          have x8 := blk_cell HX4.out 8
          have x9 := blk_cell HX4.out 9
          have x10 := blk_cell HX4.out 10
          have x11 := blk_cell HX4.out 11
          have x12 := blk_cell HX4.out 12
          have x13 := blk_cell HX4.out 13
          have x14 := blk_cell HX4.out 14
          have x15 := blk_cell HX4.out 15
          have x16 := blk_cell HX4.out 16
          have x17 := blk_cell HX4.out 17
          have x18 := blk_cell HX4.out 18
          have x19 := blk_cell HX4.out 19
          go_wp2_with fail
          refine (alike_any fn at_ st ki path r0 r1 r2 r3 r4 r5 r6 r7 h0 h1 h2 h3 fb A9 c9 Aq cq W4 HL4.out (Kd.C_below H0.out.2.2.1 HB4.out) H0.out.2.2.2.1 (by have := HN.out; omega)).mono ?_
          rintro e w5 ⟨rfl, hb5⟩
          have HB5 := Aside0.mk (HB4.out.trans (hb5.mono HB4.out.size))
          clear hb5
          go_wp2_with fail
          refine (awake_any _).mono ?_
          rintro e w9 ⟨rfl, hb9⟩
          have HB9 := Aside0.mk ((HB5).out.trans (hb9.mono (HB5).out.size))
          clear hb9
          go_wp2_with fail
          go_ret
          exact ⟨rfl, HB9.out⟩
        · have g1 : (R.2.1 != 0) = true := by simp [hg]
          clear hz hg x5
          have x3 := blk_cell HX4.out 3
          have x4 := blk_cell HX4.out 4
          have x5 := blk_cell HX4.out 5
          have x6 := blk_cell HX4.out 6
          have x7 := blk_cell HX4.out 7
          have x8 := blk_cell HX4.out 8
          have x9 := blk_cell HX4.out 9
          have x10 := blk_cell HX4.out 10
          have x11 := blk_cell HX4.out 11
          have x12 := blk_cell HX4.out 12
          have x13 := blk_cell HX4.out 13
          have x14 := blk_cell HX4.out 14
          have x15 := blk_cell HX4.out 15
          have x16 := blk_cell HX4.out 16
          have x17 := blk_cell HX4.out 17
          have x18 := blk_cell HX4.out 18
          have x19 := blk_cell HX4.out 19
          go_wp2_with fail
          refine (alike_any fn at_ st ki path r0 r1 r2 r3 r4 r5 r6 r7 h0 h1 h2 h3 fb A9 c9 Aq cq W4 HL4.out (Kd.C_below H0.out.2.2.1 HB4.out) H0.out.2.2.2.1 (by have := HN.out; omega)).mono ?_
          rintro e w5 ⟨rfl, hb5⟩
          have HB5 := Aside0.mk (HB4.out.trans (hb5.mono HB4.out.size))
          clear hb5
          go_wp2_with fail
          refine (awake_any _).mono ?_
          rintro e w9 ⟨rfl, hb9⟩
          have HB9 := Aside0.mk ((HB5).out.trans (hb9.mono (HB5).out.size))
          clear hb9
          go_wp2_with fail
          go_ret
          exact ⟨rfl, HB9.out⟩

end Go.Proofs.Ytcciejcpijlkfaa.H

