/- EpochActs, walked. -/
import Derived.Test.YthbooikhegppnaaEpAb
set_option linter.unusedVariables false
set_option linter.unusedSimpArgs false
namespace Go.Proofs.Ythbooikhegppnaa.H
open Go.RowKit Go.Hay Go.Proofs.YthbooikhegppnaaW.PrintWords Go.Proofs.YthbooikhegppnaaW.PrintLast Go.Proofs.YthbooikhegppnaaW.PrintMore
theorem AC.keep {w wr w1 : World} {r n i : Nat} {v1 v2 : Value} (h : AC w r n i v1 v2 wr) (hb : Below wr.heap.size wr w1) : AC w r n i v1 v2 w1 := by
  obtain ⟨now, ws, ann, L, B, ha, hs, hr, hB⟩ := h
  exact ⟨now, ws, ann, L, B, ha, hs.keep hb (fun q hq => by have := hr.pB q hq; omega), hr.below hb, hB⟩
theorem same_nil : ∃ k, haymowlaw11_same.f k [] [] = some true := same_same [] (by decide)
/-- what each worker's limbo holds, in both. -/
theorem lim_eq {w wr : World} {B r n i : Nat} {now : Int} {ws : List (Int × List Rt)} {ann : List Int} {L : List S45} {v1 v2 : Value} (ha : RA n i now ws ann L) (hs : St w (PR r v1 v2) w.heap.size now ws wr) (hr : RS B r now ann L v1 v2 wr) (hn : n ≤ 6) (hi : i ≤ 1000) (z : Int) :
    ∃ c : Nat, Calls Try.prog 17 #[.pointer (some ⟨w.heap.size, 0, none⟩), .int .i64 z] wr (fun e w' => e = .returned (.int .i64 c) ∧ wr = w') ∧ Calls Try.prog 18 #[.pointer (some ⟨r, 0, none⟩), .int .i64 z] wr fun e w' => e = .returned (.int .i64 c) ∧ wr = w' := by
  have hl : L.length ≤ 1000 := by have := ha.Ll; omega
  refine ⟨L.countP (fun x => x.f0 == z), ?_, rlimbo_any z wr hr hl⟩
  by_cases hz : z < 0 ∨ (n : Int) ≤ z
  · rw [ha.none z hz]
    exact hs.limbo_out z (by rw [ha.len]; omega) (by rw [ha.len]; exact hz)
  · obtain ⟨k, rfl⟩ : ∃ k : Nat, z = k := ⟨z.toNat, by omega⟩
    rw [ha.count (show k < n by omega)]
    exact hs.limbo k (by rw [ha.len]; omega) (by rw [ha.len]; omega)
set_option maxRecDepth 100000 in
set_option maxHeartbeats 8000000 in
theorem acts_any (a0 : Int) (h0 : 0 ≤ a0) (h0' : a0 ≤ 255) (A : Option Addr) (c : Nat) (l : List S30) (w : World) (hC : k30.C w A l.length l) : Calls Try.prog 5 #[.int .u8 a0, .slice A l.length c] w fun e w' => e = .returned (.bool true) ∧ Below w.heap.size w w' := by
  obtain ⟨n, hn, hn2, hn6⟩ : ∃ n : Nat, a0 % 6 + 1 = (n : Int) ∧ 1 ≤ n ∧ n ≤ 6 := ⟨(a0 % 6 + 1).toNat, by omega, by omega, by omega⟩
  have HC := Aside0.mk hC
  clear hC
  by_cases hl : 200 < l.length
  · have hl' : (200 < (l.length : Int)) = True := eq_true (by omega)
    clear hl
    go_enter Try.func5, Try.ntmps5
    go_wp2_with fail
    go_ret
    exact ⟨rfl, Below.refl _ _⟩
  · have hl' : (200 < (l.length : Int)) = False := eq_false (by omega)
    have hl2 : l.length ≤ 200 := by omega
    clear hl
    have HN := Aside0.mk (St.new (Below.refl w.heap.size w) n (by omega) (by omega))
    go_enter Try.func5, Try.ntmps5
    go_wp2_with fail
    refine HN.out.mono ?_
    rintro e w1 ⟨rfl, hb, hs⟩
    have HS := Aside0.mk (And.intro hb hs)
    have HM := Aside0.mk (rnew_any n w1 (by omega))
    clear HN hb hs hn
    go_wp2_with fail
    refine HM.out.mono ?_
    rintro e w2 ⟨v, rfl, hb, hrs⟩
    have hst := ((HS.out.2.less (P' := noP) (fun _ h => h.elim)).write (P' := PR w1.heap.size v (.slice none 0 0)) (Keep.of_below (hb.mono (Nat.le_refl _)) _) (fun _ h => h.elim) (fun q hq => by have := hrs.pB q hq; exact ⟨.inr this.1, this.2⟩))
    have HAC := Aside0.mk (show AC w w1.heap.size n 0 v (.slice none 0 0) w2 from ⟨0, _, _, [], _, RA.start n, hst, hrs, HS.out.1.size⟩)
    clear hb hrs hst HM HS
    go_wp2_with fail
    go_loopw [9] (fun v9 wr => ∃ (i : Nat) (v1 v2 : Value), v9 = .int .i64 i ∧ i ≤ l.length ∧ Aside0 (AC w w1.heap.size n i v1 v2 wr)) (fun v9 _ => l.length - (intOf v9).toNat)
    case atStart => exact ⟨0, _, _, rfl, Nat.zero_le _, HAC⟩
    case round =>
      clear HAC
      obtain ⟨i, v1, v2, rfl, hi, HAC⟩ := hrel
      by_cases hlt : i < l.length
      · obtain ⟨now, ws, ann, L, B, hra, hst, hrs, hB⟩ := HAC.out
        obtain ⟨ad, rfl, p0, p1, p2⟩ := at_T30 HC.out (i : Int) (by omega) (by omega)
        have p0' := (hst.below.cell (World.block_lt_of_cell? w _ p0)).trans p0
        have p1' := (hst.below.cell (World.block_lt_of_cell? w _ p1)).trans p1
        have p2' := (hst.below.cell (World.block_lt_of_cell? w _ p2)).trans p2
        rw [Int.toNat_natCast] at p0' p1' p2'
        generalize rd_T30 l i = x at p0 p1 p2 p0' p1' p2'
        clear p0 p1 p2
        have hi2 := hra.len
        have HL := Aside0.mk (And.intro hra.len hra.al)
        by_cases hin : 0 ≤ x.f1 ∧ x.f1 < n
        · obtain ⟨k, hk⟩ : ∃ k : Nat, x.f1 = k := ⟨x.f1.toNat, by omega⟩
          have hkn : k < n := by omega
          rw [hk] at p1'
          have hkn' : ((k : Int) < (n : Int)) = True := eq_true (by omega)
          cases hret : x.f0 with
          | true =>
            rw [hret] at p0'
            have hab := AB.start hst hrs hB (⟨true, k, x.f2⟩ : S30)
            have hrt := hab.retire k x.f2 (by rw [hra.len]; omega) (by rw [hra.len]; exact hkn) (by have := hra.small hkn; omega)
            have c0 := blk_cell hab.bx 0
            have c1 := blk_cell hab.bx 1
            have c2 := blk_cell hab.bx 2
            have HR := Aside0.mk (And.intro (hra.ret (t := x.f2) hkn) hrt)
            clear hab hrt hra hst hrs hB HAC hret hk hin hi2
            go_wp2_with fail
            refine HR.out.2.mono ?_
            rintro e w3 ⟨rfl, hab⟩
            clear c0 c1 c2
            have c0 := blk_cell hab.bx 0
            have c1 := blk_cell hab.bx 1
            have c2 := blk_cell hab.bx 2
            obtain ⟨A2, c2', rfl⟩ := Kd.R_slice hab.rs.r2
            have HAB := Aside0.mk hab
            clear hab
            go_wp2_with fail
            refine wp_region_seq2 (fun w' => w'.heap[w1.heap.size]? = w3.heap[w1.heap.size]? ∧ w'.heap[wr.heap.size]? = w3.heap[wr.heap.size]?) [18] [.take 0, .take 1, .take 2, .take 3, .take 4, .take 5, .take 6, .take 7, .take 8, .take 9, .take 10, .take 11, .take 12, .take 13, .op 14, .op 15, .op 16, .op 17, .fin 18] (by kernel_rfl) (by kernel_rfl) rfl (by kernel_rfl) (panic_via (P := Try.prog) (fn := Try.f5) (R := fun e w' => e = .returned (.bool true) ∧ Below w.heap.size w w') (fun _ _ _ => rfl)) ?_
            have hs : w3.drew.heap[w1.heap.size]? = w3.heap[w1.heap.size]? ∧ w3.drew.heap[wr.heap.size]? = w3.heap[wr.heap.size]? := ⟨rfl, rfl⟩
            repeat (
              (first
                | (refine runSeq2_take (v := ?_) (by rfl) (by rfl) (fun w' hS => ?_) hs ?_
                   rotate_left
                   · (have q0 := (World.cell?_of_block (w := w3) (a := ⟨w1.heap.size, 0, none⟩) hS.1).trans (blk_cell HAB.out.rs.node 0); have q2 := (World.cell?_of_block (w := w3) (a := ⟨w1.heap.size, 2, none⟩) hS.1).trans (blk_cell HAB.out.rs.node 2); have q3 := (World.cell?_of_block (w := w3) (a := ⟨wr.heap.size, 1, none⟩) hS.2).trans (blk_cell HAB.out.bx 1); have q4 := (World.cell?_of_block (w := w3) (a := ⟨wr.heap.size, 2, none⟩) hS.2).trans (blk_cell HAB.out.bx 2); go_simp; exact rfl))
                | refine runSeq2_skip (by rfl) (by rfl) hs ?_)
              (try simp only [Act.put, List.setIfInBounds_toArray, List.set_cons_zero, List.set_cons_succ]))
            refine runSeq2_op (by rfl) (by rfl) (fun K hK => ?_)
            go_simp
            have hb1 : Below w3.heap.size w3 (w3.drew.alloc (.cells #[.int .i64 k, .int .i64 x.f2, .int .i64 now] 45)) := (Below.refl _ _).drew.alloc (by exact Nat.le_refl _) _
            refine hK _ _ ⟨hb1.block _ (blk_lt HAB.out.rs.node), hb1.block _ (blk_lt HAB.out.bx)⟩ ?_
            clear hK K
            refine runSeq2_op (by rfl) (by rfl) (fun K hK => ?_)
            have hr2 := (HAB.out.rs.below hb1).r2
            have hBs : B ≤ w3.heap.size := Nat.le_trans HAB.out.rs.lo (Nat.le_of_lt (blk_lt HAB.out.rs.node))
            refine wp_append_rows k45 (Rr := k45.M (w3.drew.alloc (.cells #[.int .i64 k, .int .i64 x.f2, .int .i64 now] 45)) B (fun _ => False)) B rfl (.tmp 65) (.tmp 75) 41 45 (.agg #[(.int .i64 0), (.int .i64 0), (.int .i64 0)]) 24 rfl Try.underlying41 info45 rfl (by decide) (by decide) (.slice A2 L.length c2') L [⟨k, x.f2, now⟩] _ _ _ (fun _ => True) (fun _ => False) rfl rfl hr2 (reads_one (alloc_blk _ _) (k45_mkM _ _ _ (⟨k, x.f2, now⟩ : S45))) (fun _ _ h => h) (fun _ h => h.elim) (fun _ _ => trivial) (Nat.le_trans hBs hb1.size) (by have := HR.out.1.Ll; rw [List.length_append] at this; simp at this; omega) ?_
            intro v9 w9 hR9 hbw hg hat
            obtain ⟨A9, c9, rfl⟩ := Kd.R_slice hR9
            have hP := HAB.out.push hb1 hR9 hg hat
            have hE9 := hP.2
            have z2 := blk_frozen (hE9.1.trans HAB.out.rs.node) 2
            have q2 := (World.cell?_of_block (a := ⟨w1.heap.size, 2, none⟩) hE9.1).trans (blk_cell HAB.out.rs.node 2)
            have HP := Aside0.mk hP.1
            clear hR9 hbw hg hat hP hr2 hb1 hs
            refine hK _ _ hE9 ?_
            clear hK K
            refine runSeq2_op (by rfl) (by rfl) (fun K hK => ?_)
            go_simp
            refine hK _ _ hE9 ?_
            clear hK K
            refine runSeq2_op (by rfl) (by rfl) (fun K hK => ?_)
            go_simp
            refine hK _ _ hE9 ?_
            clear hK K
            refine runSeq2_fin (by rfl) (by rfl) (fun K hK => ?_)
            go_simp
            refine hK _ _ ?_
            refine runSeq2_nil ?_
            clear hK K hE9 z2 q2 c0 c1 c2
            rw [show (L ++ [(⟨k, x.f2, now⟩ : S45)]).length = L.length + 1 from by simp] at HP
            have HAC := Aside0.mk (HP.out.ac HR.out.1)
            obtain ⟨w4, hw4⟩ : ∃ w4, w4 = w9.setCell ⟨w1.heap.size, 2, none⟩ (.slice A9 (L.length + 1) c9) := ⟨_, rfl⟩
            rw [← hw4] at HAC ⊢
            clear HP HR HAB hw4
            have HAD := Aside0.mk (HAC.out.keep (below_drawn ((Drawn0.refl w4).step 1)))
            clear HAC
            obtain ⟨nowX, wsX, annX, LX, BX, hra, hst, hrs, hB⟩ := HAD.out
            have HX := Aside0.mk (And.intro hra (And.intro hst (And.intro hrs hst.tells)))
            clear hra hst hrs hB
            go_wp2_with fail
            refine wp_region_seq2 (fun w' => Drawn0 w4 w') [] [.take 0, .take 2, .take 3, .take 4, .take 5, .op 1, .take 6] (by kernel_rfl) (by kernel_rfl) rfl (by kernel_rfl) (panic_via (P := Try.prog) (fn := Try.f5) (R := fun e w' => e = .returned (.bool true) ∧ Below w.heap.size w w') (fun _ _ _ => rfl)) ?_
            have hs : Drawn0 w4 w4.drew := (Drawn0.refl w4).step 1
            repeat (
              (first
                | (refine runSeq2_take (v := ?_) (by rfl) (by rfl) (fun w' hS => ?_) hs ?_
                   rotate_left
                   · (obtain ⟨n, rfl⟩ := hS; have d0 := blk_cell (w := w4) HX.out.2.2.1.node 0; go_simp; exact rfl))
                | refine runSeq2_skip (by rfl) (by rfl) hs ?_)
              (try simp only [Act.put, List.setIfInBounds_toArray, List.set_cons_zero, List.set_cons_succ]))
            refine runSeq2_op (by rfl) (by rfl) (fun K hK => ?_)
            go_simp
            refine HX.out.2.2.2.mono ?_
            rintro e w' ⟨rfl, rfl⟩
            refine hK _ _ hs ?_
            clear hK K
            repeat (
              (first
                | (refine runSeq2_take (v := ?_) (by rfl) (by rfl) (fun w' hS => ?_) hs ?_
                   rotate_left
                   · (go_simp; go_simp; exact rfl))
                | refine runSeq2_skip (by rfl) (by rfl) hs ?_)
              (try simp only [Act.put, List.setIfInBounds_toArray, List.set_cons_zero, List.set_cons_succ]))
            refine runSeq2_nil ?_
            clear hs
            go_wp2_with fail
            go_loop [16] (fun v16 => ∃ z : Int, v16 = .int .i64 z ∧ -1 ≤ z ∧ z ≤ n + 1) (fun v16 => ((n : Int) + 1 - intOf v16).toNat)
            case atStart => exact ⟨-1, rfl, Int.le_refl _, by omega⟩
            case round =>
              obtain ⟨z, rfl, hz1, hz2⟩ := hrel
              by_cases hlz : z ≤ n
              · obtain ⟨cz, hc1, hc2⟩ := lim_eq HX.out.1 HX.out.2.1 HX.out.2.2.1 hn6 (by omega) z
                have HZ := Aside0.mk (And.intro hc1 hc2)
                clear hc1 hc2
                go_wp2_with fail
                refine HZ.out.1.mono ?_
                rintro e w5 ⟨rfl, rfl⟩
                go_wp2_with fail
                refine HZ.out.2.mono ?_
                rintro e w5 ⟨rfl, rfl⟩
                go_wp2_with fail
                go_round
                case rel => exact ⟨z + 1, rfl, by omega, by omega⟩
                case measure => simp [intOf]; omega
              · go_wp2_with fail
                go_roundw
                case rel => exact ⟨i + 1, _, _, by go_num, by omega, HAD⟩
                case measure => simp [intOf]; omega
          | false =>
            rw [hret] at p0'
            have hab := AB.start hst hrs hB (⟨false, k, x.f2⟩ : S30)
            have hrt := hab.announce k (by rw [hra.len]; omega) (by rw [hra.len]; exact hkn) (by have := hra.small hkn; omega) (hra.fine hkn) hra.now0 (by have := hra.nowi; omega)
            have c0 := blk_cell hab.bx 0
            have c1 := blk_cell hab.bx 1
            have c2 := blk_cell hab.bx 2
            have hrn := hra.ann hkn
            rw [← hra.now_eq hkn] at hrn
            have HR := Aside0.mk (And.intro hrn (And.intro hrt (And.intro hra (hra.now_eq hkn))))
            have hsm := hra.small hkn
            have hgl : (outP now ws k).length ≤ 1000 := Nat.le_trans (gone_len _ _) (by show (rowP ws k).length ≤ 1000; omega)
            obtain ⟨ks, hks⟩ := same_same (outP now ws k) (by omega)
            have HK := Aside0.mk hks
            clear hab hrt hra hst hrs hB HAC hret hk hin hi2 hrn hsm hks
            go_wp2_with fail
            refine HR.out.2.1.mono ?_
            rintro e w3 ⟨A3, c3, rfl, hR3, hab, hlt3⟩
            clear c0 c1 c2
            have c0 := blk_cell hab.bx 0
            have c1 := blk_cell hab.bx 1
            have c2 := blk_cell hab.bx 2
            have hra := HR.out.2.2.1
            have hrt := hab.rann k (by rw [hra.al]; exact hkn) (by have := hra.Ll; omega) (by rw [hra.al]; omega) hra.now0 (by have := hra.nowi; omega) hra.at_
            rw [HR.out.1.2] at hrt
            have HAB := Aside0.mk (And.intro hrt (And.intro hR3 hlt3))
            clear hra hrt hab hR3 hlt3
            go_wp2_with fail
            refine HAB.out.1.mono ?_
            rintro e w4 ⟨A4, c4, v8, rfl, hR4, hab, hkp⟩
            have hR3 := nums_flat (ok' := fun _ => True) (w1 := w4) HAB.out.2.1 (fun _ _ => trivial) (fun q hq => hkp.block q (nums_own HAB.out.2.1 q hq).2.2 (fun h2 => by have h3 := HAB.out.2.2 q h2; have h4 := (nums_own HAB.out.2.1 q hq).2.1; omega))
            have hab2 : AB w B w1.heap.size wr.heap.size ⟨false, k, x.f2⟩ (rNow now ann k) (annP now ws k) (rNow now ann k) (ann.set k now) (rLeft (rNow now ann k) k L) v1 v8 w4 := by rw [← HR.out.2.2.2] at hab; exact hab
            obtain ⟨_, hc3, hC3⟩ := Kd.R_reads' hR3
            obtain ⟨_, hc4, hC4⟩ := Kd.R_reads' hR4
            have HS := Aside0.mk (And.intro hab2 (And.intro (And.intro hC3 hc3) (And.intro hC4 hc4)))
            clear hR3 hab hab2 hkp hC3 hC4 hR4 HAB c0 c1 c2 hc3 hc4
            go_wp2_with fail
            refine (haymowlaw11_same.calls ks A3 c3 (outP now ws k) A4 c4 (outP now ws k) true _ HS.out.2.1.1 HS.out.2.1.2 HS.out.2.2.1 HS.out.2.2.2 HK.out).mono ?_
            rintro e w5 ⟨rfl, hd⟩
            have HAC := Aside0.mk ((HS.out.1.keep (below_drawn hd)).ac HR.out.1.1)
            clear hd HS HR HK hgl
            have HAD := Aside0.mk (HAC.out.keep (below_drawn ((Drawn0.refl w5).step 1)))
            clear HAC
            obtain ⟨nowX, wsX, annX, LX, BX, hra, hst, hrs, hB⟩ := HAD.out
            have HX := Aside0.mk (And.intro hra (And.intro hst (And.intro hrs hst.tells)))
            clear hra hst hrs hB
            go_wp2_with fail
            refine wp_region_seq2 (fun w' => Drawn0 w5 w') [] [.take 0, .take 2, .take 3, .take 4, .take 5, .op 1, .take 6] (by kernel_rfl) (by kernel_rfl) rfl (by kernel_rfl) (panic_via (P := Try.prog) (fn := Try.f5) (R := fun e w' => e = .returned (.bool true) ∧ Below w.heap.size w w') (fun _ _ _ => rfl)) ?_
            have hs : Drawn0 w5 w5.drew := (Drawn0.refl w5).step 1
            repeat (
              (first
                | (refine runSeq2_take (v := ?_) (by rfl) (by rfl) (fun w' hS => ?_) hs ?_
                   rotate_left
                   · (obtain ⟨n, rfl⟩ := hS; have d0 := blk_cell (w := w5) HX.out.2.2.1.node 0; go_simp; exact rfl))
                | refine runSeq2_skip (by rfl) (by rfl) hs ?_)
              (try simp only [Act.put, List.setIfInBounds_toArray, List.set_cons_zero, List.set_cons_succ]))
            refine runSeq2_op (by rfl) (by rfl) (fun K hK => ?_)
            go_simp
            refine HX.out.2.2.2.mono ?_
            rintro e w' ⟨rfl, rfl⟩
            refine hK _ _ hs ?_
            clear hK K
            repeat (
              (first
                | (refine runSeq2_take (v := ?_) (by rfl) (by rfl) (fun w' hS => ?_) hs ?_
                   rotate_left
                   · (go_simp; go_simp; exact rfl))
                | refine runSeq2_skip (by rfl) (by rfl) hs ?_)
              (try simp only [Act.put, List.setIfInBounds_toArray, List.set_cons_zero, List.set_cons_succ]))
            refine runSeq2_nil ?_
            clear hs
            go_wp2_with fail
            go_loop [16] (fun v16 => ∃ z : Int, v16 = .int .i64 z ∧ -1 ≤ z ∧ z ≤ n + 1) (fun v16 => ((n : Int) + 1 - intOf v16).toNat)
            case atStart => exact ⟨-1, rfl, Int.le_refl _, by omega⟩
            case round =>
              obtain ⟨z, rfl, hz1, hz2⟩ := hrel
              by_cases hlz : z ≤ n
              · obtain ⟨cz, hc1, hc2⟩ := lim_eq HX.out.1 HX.out.2.1 HX.out.2.2.1 hn6 (by omega) z
                have HZ := Aside0.mk (And.intro hc1 hc2)
                clear hc1 hc2
                go_wp2_with fail
                refine HZ.out.1.mono ?_
                rintro e w5 ⟨rfl, rfl⟩
                go_wp2_with fail
                refine HZ.out.2.mono ?_
                rintro e w5 ⟨rfl, rfl⟩
                go_wp2_with fail
                go_round
                case rel => exact ⟨z + 1, rfl, by omega, by omega⟩
                case measure => simp [intOf]; omega
              · go_wp2_with fail
                go_roundw
                case rel => exact ⟨i + 1, _, _, by go_num, by omega, HAD⟩
                case measure => simp [intOf]; omega
        · have hzo : x.f1 < 0 ∨ (n : Int) ≤ x.f1 := by omega
          generalize hz : x.f1 = z at p1' hzo
          have HI := Aside0.mk (And.intro hra (And.intro hst (And.intro hrs hB)))
          clear hin hi2 HAC hra hst hrs hB hz
          by_cases hneg : z < 0
          · have hneg' : (0 ≤ z) = False := eq_false (by omega)
            obtain ⟨hra, hst, hrs, hB⟩ := HI.out
            cases hret : x.f0 with
            | true =>
              rw [hret] at p0'
              have hab := AB.start hst hrs hB (⟨true, z, x.f2⟩ : S30)
              have hrt := hab.st.retire_out z x.f2 (by rw [hra.len]; omega) (by rw [hra.len]; exact hzo)
              have c0 := blk_cell hab.bx 0
              have c1 := blk_cell hab.bx 1
              have c2 := blk_cell hab.bx 2
              have HR := Aside0.mk (And.intro hrt (And.intro hab hra.skip))
              clear hab hrt hra hst hrs hB hret hzo hneg HI
              go_wp2_with fail
              refine HR.out.1.mono ?_
              rintro e w3 ⟨rfl, rfl⟩
              go_wp2_with fail
              have HAC := Aside0.mk (HR.out.2.1.ac HR.out.2.2)
              clear HR
              obtain ⟨w4, hw4⟩ : ∃ w4, w4 = wr.alloc (.cells #[.bool true, .int .i64 z, .int .i64 x.f2] 30) := ⟨_, rfl⟩
              rw [← hw4] at HAC ⊢
              clear c0 c1 c2 hw4
              have HAD := Aside0.mk (HAC.out.keep (below_drawn ((Drawn0.refl w4).step 1)))
              clear HAC
              obtain ⟨nowX, wsX, annX, LX, BX, hra, hst, hrs, hB⟩ := HAD.out
              have HX := Aside0.mk (And.intro hra (And.intro hst (And.intro hrs hst.tells)))
              clear hra hst hrs hB
              go_wp2_with fail
              refine wp_region_seq2 (fun w' => Drawn0 w4 w') [] [.take 0, .take 2, .take 3, .take 4, .take 5, .op 1, .take 6] (by kernel_rfl) (by kernel_rfl) rfl (by kernel_rfl) (panic_via (P := Try.prog) (fn := Try.f5) (R := fun e w' => e = .returned (.bool true) ∧ Below w.heap.size w w') (fun _ _ _ => rfl)) ?_
              have hs : Drawn0 w4 w4.drew := (Drawn0.refl w4).step 1
              repeat (
                (first
                  | (refine runSeq2_take (v := ?_) (by rfl) (by rfl) (fun w' hS => ?_) hs ?_
                     rotate_left
                     · (obtain ⟨n, rfl⟩ := hS; have d0 := blk_cell (w := w4) HX.out.2.2.1.node 0; go_simp; exact rfl))
                  | refine runSeq2_skip (by rfl) (by rfl) hs ?_)
                (try simp only [Act.put, List.setIfInBounds_toArray, List.set_cons_zero, List.set_cons_succ]))
              refine runSeq2_op (by rfl) (by rfl) (fun K hK => ?_)
              go_simp
              refine HX.out.2.2.2.mono ?_
              rintro e w' ⟨rfl, rfl⟩
              refine hK _ _ hs ?_
              clear hK K
              repeat (
                (first
                  | (refine runSeq2_take (v := ?_) (by rfl) (by rfl) (fun w' hS => ?_) hs ?_
                     rotate_left
                     · (go_simp; go_simp; exact rfl))
                  | refine runSeq2_skip (by rfl) (by rfl) hs ?_)
                (try simp only [Act.put, List.setIfInBounds_toArray, List.set_cons_zero, List.set_cons_succ]))
              refine runSeq2_nil ?_
              clear hs
              go_wp2_with fail
              go_loop [16] (fun v16 => ∃ z : Int, v16 = .int .i64 z ∧ -1 ≤ z ∧ z ≤ n + 1) (fun v16 => ((n : Int) + 1 - intOf v16).toNat)
              case atStart => exact ⟨-1, rfl, Int.le_refl _, by omega⟩
              case round =>
                obtain ⟨z, rfl, hz1, hz2⟩ := hrel
                by_cases hlz : z ≤ n
                · obtain ⟨cz, hc1, hc2⟩ := lim_eq HX.out.1 HX.out.2.1 HX.out.2.2.1 hn6 (by omega) z
                  have HZ := Aside0.mk (And.intro hc1 hc2)
                  clear hc1 hc2
                  go_wp2_with fail
                  refine HZ.out.1.mono ?_
                  rintro e w5 ⟨rfl, rfl⟩
                  go_wp2_with fail
                  refine HZ.out.2.mono ?_
                  rintro e w5 ⟨rfl, rfl⟩
                  go_wp2_with fail
                  go_round
                  case rel => exact ⟨z + 1, rfl, by omega, by omega⟩
                  case measure => simp [intOf]; omega
                · go_wp2_with fail
                  go_roundw
                  case rel => exact ⟨i + 1, _, _, by go_num, by omega, HAD⟩
                  case measure => simp [intOf]; omega
            | false =>
              rw [hret] at p0'
              have hab := AB.start hst hrs hB (⟨false, z, x.f2⟩ : S30)
              have hrt := hab.announce_out z (by rw [hra.len]; omega) (by rw [hra.len]; exact hzo)
              have c0 := blk_cell hab.bx 0
              have c1 := blk_cell hab.bx 1
              have c2 := blk_cell hab.bx 2
              have HR := Aside0.mk (And.intro hrt hra.skip)
              clear hab hrt hra hst hrs hB hret hzo hneg HI
              go_wp2_with fail
              refine HR.out.1.mono ?_
              rintro e w3 ⟨rfl, hab⟩
              have HS := Aside0.mk hab
              clear hab c0 c1 c2
              obtain ⟨ks, hks⟩ := same_nil
              have HK := Aside0.mk hks
              clear hks
              go_wp2_with fail
              refine (haymowlaw11_same.calls ks none 0 [] none 0 [] true _ (Kd.R_reads' (Kd.R_nil (Kd.int .i64) 3 _ 0 (fun _ => True))).2.2 (Nat.le_refl _) (Kd.R_reads' (Kd.R_nil (Kd.int .i64) 3 _ 0 (fun _ => True))).2.2 (Nat.le_refl _) HK.out).mono ?_
              rintro e w5 ⟨rfl, hd⟩
              have HAC := Aside0.mk ((HS.out.keep (below_drawn hd)).ac HR.out.2)
              clear hd HS HR HK
              have HAD := Aside0.mk (HAC.out.keep (below_drawn ((Drawn0.refl w5).step 1)))
              clear HAC
              obtain ⟨nowX, wsX, annX, LX, BX, hra, hst, hrs, hB⟩ := HAD.out
              have HX := Aside0.mk (And.intro hra (And.intro hst (And.intro hrs hst.tells)))
              clear hra hst hrs hB
              go_wp2_with fail
              refine wp_region_seq2 (fun w' => Drawn0 w5 w') [] [.take 0, .take 2, .take 3, .take 4, .take 5, .op 1, .take 6] (by kernel_rfl) (by kernel_rfl) rfl (by kernel_rfl) (panic_via (P := Try.prog) (fn := Try.f5) (R := fun e w' => e = .returned (.bool true) ∧ Below w.heap.size w w') (fun _ _ _ => rfl)) ?_
              have hs : Drawn0 w5 w5.drew := (Drawn0.refl w5).step 1
              repeat (
                (first
                  | (refine runSeq2_take (v := ?_) (by rfl) (by rfl) (fun w' hS => ?_) hs ?_
                     rotate_left
                     · (obtain ⟨n, rfl⟩ := hS; have d0 := blk_cell (w := w5) HX.out.2.2.1.node 0; go_simp; exact rfl))
                  | refine runSeq2_skip (by rfl) (by rfl) hs ?_)
                (try simp only [Act.put, List.setIfInBounds_toArray, List.set_cons_zero, List.set_cons_succ]))
              refine runSeq2_op (by rfl) (by rfl) (fun K hK => ?_)
              go_simp
              refine HX.out.2.2.2.mono ?_
              rintro e w' ⟨rfl, rfl⟩
              refine hK _ _ hs ?_
              clear hK K
              repeat (
                (first
                  | (refine runSeq2_take (v := ?_) (by rfl) (by rfl) (fun w' hS => ?_) hs ?_
                     rotate_left
                     · (go_simp; go_simp; exact rfl))
                  | refine runSeq2_skip (by rfl) (by rfl) hs ?_)
                (try simp only [Act.put, List.setIfInBounds_toArray, List.set_cons_zero, List.set_cons_succ]))
              refine runSeq2_nil ?_
              clear hs
              go_wp2_with fail
              go_loop [16] (fun v16 => ∃ z : Int, v16 = .int .i64 z ∧ -1 ≤ z ∧ z ≤ n + 1) (fun v16 => ((n : Int) + 1 - intOf v16).toNat)
              case atStart => exact ⟨-1, rfl, Int.le_refl _, by omega⟩
              case round =>
                obtain ⟨z, rfl, hz1, hz2⟩ := hrel
                by_cases hlz : z ≤ n
                · obtain ⟨cz, hc1, hc2⟩ := lim_eq HX.out.1 HX.out.2.1 HX.out.2.2.1 hn6 (by omega) z
                  have HZ := Aside0.mk (And.intro hc1 hc2)
                  clear hc1 hc2
                  go_wp2_with fail
                  refine HZ.out.1.mono ?_
                  rintro e w5 ⟨rfl, rfl⟩
                  go_wp2_with fail
                  refine HZ.out.2.mono ?_
                  rintro e w5 ⟨rfl, rfl⟩
                  go_wp2_with fail
                  go_round
                  case rel => exact ⟨z + 1, rfl, by omega, by omega⟩
                  case measure => simp [intOf]; omega
                · go_wp2_with fail
                  go_roundw
                  case rel => exact ⟨i + 1, _, _, by go_num, by omega, HAD⟩
                  case measure => simp [intOf]; omega
          · have hneg' : (0 ≤ z) = True := eq_true (by omega)
            have hneg2 : (z < (n : Int)) = False := eq_false (by omega)
            obtain ⟨hra, hst, hrs, hB⟩ := HI.out
            cases hret : x.f0 with
            | true =>
              rw [hret] at p0'
              have hab := AB.start hst hrs hB (⟨true, z, x.f2⟩ : S30)
              have hrt := hab.st.retire_out z x.f2 (by rw [hra.len]; omega) (by rw [hra.len]; exact hzo)
              have c0 := blk_cell hab.bx 0
              have c1 := blk_cell hab.bx 1
              have c2 := blk_cell hab.bx 2
              have HR := Aside0.mk (And.intro hrt (And.intro hab hra.skip))
              clear hab hrt hra hst hrs hB hret hzo hneg HI
              go_wp2_with fail
              refine HR.out.1.mono ?_
              rintro e w3 ⟨rfl, rfl⟩
              go_wp2_with fail
              have HAC := Aside0.mk (HR.out.2.1.ac HR.out.2.2)
              clear HR
              obtain ⟨w4, hw4⟩ : ∃ w4, w4 = wr.alloc (.cells #[.bool true, .int .i64 z, .int .i64 x.f2] 30) := ⟨_, rfl⟩
              rw [← hw4] at HAC ⊢
              clear c0 c1 c2 hw4
              have HAD := Aside0.mk (HAC.out.keep (below_drawn ((Drawn0.refl w4).step 1)))
              clear HAC
              obtain ⟨nowX, wsX, annX, LX, BX, hra, hst, hrs, hB⟩ := HAD.out
              have HX := Aside0.mk (And.intro hra (And.intro hst (And.intro hrs hst.tells)))
              clear hra hst hrs hB
              go_wp2_with fail
              refine wp_region_seq2 (fun w' => Drawn0 w4 w') [] [.take 0, .take 2, .take 3, .take 4, .take 5, .op 1, .take 6] (by kernel_rfl) (by kernel_rfl) rfl (by kernel_rfl) (panic_via (P := Try.prog) (fn := Try.f5) (R := fun e w' => e = .returned (.bool true) ∧ Below w.heap.size w w') (fun _ _ _ => rfl)) ?_
              have hs : Drawn0 w4 w4.drew := (Drawn0.refl w4).step 1
              repeat (
                (first
                  | (refine runSeq2_take (v := ?_) (by rfl) (by rfl) (fun w' hS => ?_) hs ?_
                     rotate_left
                     · (obtain ⟨n, rfl⟩ := hS; have d0 := blk_cell (w := w4) HX.out.2.2.1.node 0; go_simp; exact rfl))
                  | refine runSeq2_skip (by rfl) (by rfl) hs ?_)
                (try simp only [Act.put, List.setIfInBounds_toArray, List.set_cons_zero, List.set_cons_succ]))
              refine runSeq2_op (by rfl) (by rfl) (fun K hK => ?_)
              go_simp
              refine HX.out.2.2.2.mono ?_
              rintro e w' ⟨rfl, rfl⟩
              refine hK _ _ hs ?_
              clear hK K
              repeat (
                (first
                  | (refine runSeq2_take (v := ?_) (by rfl) (by rfl) (fun w' hS => ?_) hs ?_
                     rotate_left
                     · (go_simp; go_simp; exact rfl))
                  | refine runSeq2_skip (by rfl) (by rfl) hs ?_)
                (try simp only [Act.put, List.setIfInBounds_toArray, List.set_cons_zero, List.set_cons_succ]))
              refine runSeq2_nil ?_
              clear hs
              go_wp2_with fail
              go_loop [16] (fun v16 => ∃ z : Int, v16 = .int .i64 z ∧ -1 ≤ z ∧ z ≤ n + 1) (fun v16 => ((n : Int) + 1 - intOf v16).toNat)
              case atStart => exact ⟨-1, rfl, Int.le_refl _, by omega⟩
              case round =>
                obtain ⟨z, rfl, hz1, hz2⟩ := hrel
                by_cases hlz : z ≤ n
                · obtain ⟨cz, hc1, hc2⟩ := lim_eq HX.out.1 HX.out.2.1 HX.out.2.2.1 hn6 (by omega) z
                  have HZ := Aside0.mk (And.intro hc1 hc2)
                  clear hc1 hc2
                  go_wp2_with fail
                  refine HZ.out.1.mono ?_
                  rintro e w5 ⟨rfl, rfl⟩
                  go_wp2_with fail
                  refine HZ.out.2.mono ?_
                  rintro e w5 ⟨rfl, rfl⟩
                  go_wp2_with fail
                  go_round
                  case rel => exact ⟨z + 1, rfl, by omega, by omega⟩
                  case measure => simp [intOf]; omega
                · go_wp2_with fail
                  go_roundw
                  case rel => exact ⟨i + 1, _, _, by go_num, by omega, HAD⟩
                  case measure => simp [intOf]; omega
            | false =>
              rw [hret] at p0'
              have hab := AB.start hst hrs hB (⟨false, z, x.f2⟩ : S30)
              have hrt := hab.announce_out z (by rw [hra.len]; omega) (by rw [hra.len]; exact hzo)
              have c0 := blk_cell hab.bx 0
              have c1 := blk_cell hab.bx 1
              have c2 := blk_cell hab.bx 2
              have HR := Aside0.mk (And.intro hrt hra.skip)
              clear hab hrt hra hst hrs hB hret hzo hneg HI
              go_wp2_with fail
              refine HR.out.1.mono ?_
              rintro e w3 ⟨rfl, hab⟩
              have HS := Aside0.mk hab
              clear hab c0 c1 c2
              obtain ⟨ks, hks⟩ := same_nil
              have HK := Aside0.mk hks
              clear hks
              go_wp2_with fail
              refine (haymowlaw11_same.calls ks none 0 [] none 0 [] true _ (Kd.R_reads' (Kd.R_nil (Kd.int .i64) 3 _ 0 (fun _ => True))).2.2 (Nat.le_refl _) (Kd.R_reads' (Kd.R_nil (Kd.int .i64) 3 _ 0 (fun _ => True))).2.2 (Nat.le_refl _) HK.out).mono ?_
              rintro e w5 ⟨rfl, hd⟩
              have HAC := Aside0.mk ((HS.out.keep (below_drawn hd)).ac HR.out.2)
              clear hd HS HR HK
              have HAD := Aside0.mk (HAC.out.keep (below_drawn ((Drawn0.refl w5).step 1)))
              clear HAC
              obtain ⟨nowX, wsX, annX, LX, BX, hra, hst, hrs, hB⟩ := HAD.out
              have HX := Aside0.mk (And.intro hra (And.intro hst (And.intro hrs hst.tells)))
              clear hra hst hrs hB
              go_wp2_with fail
              refine wp_region_seq2 (fun w' => Drawn0 w5 w') [] [.take 0, .take 2, .take 3, .take 4, .take 5, .op 1, .take 6] (by kernel_rfl) (by kernel_rfl) rfl (by kernel_rfl) (panic_via (P := Try.prog) (fn := Try.f5) (R := fun e w' => e = .returned (.bool true) ∧ Below w.heap.size w w') (fun _ _ _ => rfl)) ?_
              have hs : Drawn0 w5 w5.drew := (Drawn0.refl w5).step 1
              repeat (
                (first
                  | (refine runSeq2_take (v := ?_) (by rfl) (by rfl) (fun w' hS => ?_) hs ?_
                     rotate_left
                     · (obtain ⟨n, rfl⟩ := hS; have d0 := blk_cell (w := w5) HX.out.2.2.1.node 0; go_simp; exact rfl))
                  | refine runSeq2_skip (by rfl) (by rfl) hs ?_)
                (try simp only [Act.put, List.setIfInBounds_toArray, List.set_cons_zero, List.set_cons_succ]))
              refine runSeq2_op (by rfl) (by rfl) (fun K hK => ?_)
              go_simp
              refine HX.out.2.2.2.mono ?_
              rintro e w' ⟨rfl, rfl⟩
              refine hK _ _ hs ?_
              clear hK K
              repeat (
                (first
                  | (refine runSeq2_take (v := ?_) (by rfl) (by rfl) (fun w' hS => ?_) hs ?_
                     rotate_left
                     · (go_simp; go_simp; exact rfl))
                  | refine runSeq2_skip (by rfl) (by rfl) hs ?_)
                (try simp only [Act.put, List.setIfInBounds_toArray, List.set_cons_zero, List.set_cons_succ]))
              refine runSeq2_nil ?_
              clear hs
              go_wp2_with fail
              go_loop [16] (fun v16 => ∃ z : Int, v16 = .int .i64 z ∧ -1 ≤ z ∧ z ≤ n + 1) (fun v16 => ((n : Int) + 1 - intOf v16).toNat)
              case atStart => exact ⟨-1, rfl, Int.le_refl _, by omega⟩
              case round =>
                obtain ⟨z, rfl, hz1, hz2⟩ := hrel
                by_cases hlz : z ≤ n
                · obtain ⟨cz, hc1, hc2⟩ := lim_eq HX.out.1 HX.out.2.1 HX.out.2.2.1 hn6 (by omega) z
                  have HZ := Aside0.mk (And.intro hc1 hc2)
                  clear hc1 hc2
                  go_wp2_with fail
                  refine HZ.out.1.mono ?_
                  rintro e w5 ⟨rfl, rfl⟩
                  go_wp2_with fail
                  refine HZ.out.2.mono ?_
                  rintro e w5 ⟨rfl, rfl⟩
                  go_wp2_with fail
                  go_round
                  case rel => exact ⟨z + 1, rfl, by omega, by omega⟩
                  case measure => simp [intOf]; omega
                · go_wp2_with fail
                  go_roundw
                  case rel => exact ⟨i + 1, _, _, by go_num, by omega, HAD⟩
                  case measure => simp [intOf]; omega
      · obtain rfl : i = l.length := by omega
        obtain ⟨_, _, _, _, _, _, hst, _⟩ := HAC.out
        have HB := Aside0.mk hst.below
        clear hlt hi HAC hst
        go_wp2_with fail
        refine (awake_any _).mono ?_
        rintro e w2 ⟨rfl, hb⟩
        have HB2 := Aside0.mk (HB.out.trans (hb.mono HB.out.size))
        clear hb HB
        go_wp2_with fail
        go_ret
        exact ⟨rfl, HB2.out⟩
def haymowlaw11_EpochActs.f (a0 : Int) (l1 : List S30) : Option Bool := if 0 ≤ a0 ∧ a0 ≤ 255 then some true else none
theorem haymowlaw11_EpochActs.calls (a0 : Int) (A1 : Option Addr) (c1 : Nat) (l1 : List S30) (r : Bool) (w : World) (hr1 : k30.C w A1 l1.length l1) (hc1 : l1.length ≤ c1) (h : haymowlaw11_EpochActs.f a0 l1 = some r) : Calls Try.prog 5 #[.int .u8 a0, .slice A1 l1.length c1] w fun e w' => e = .returned (.bool r) ∧ Below w.heap.size w w' := by
  unfold haymowlaw11_EpochActs.f at h
  split at h
  · rename_i hr
    obtain rfl : true = r := Option.some.inj h
    exact acts_any a0 hr.1 hr.2 A1 c1 l1 w hr1
  · cases h
#print axioms haymowlaw11_EpochActs.calls
end Go.Proofs.Ythbooikhegppnaa.H
