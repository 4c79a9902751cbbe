/- A new frame of any function, path, arguments and futures is what it was made of: for every input. No condition. -/
import Derived.Test.YtcciejcpijlkfaaZFrameNew15
import Derived.OpenShut
import Derived.Deep.Slices
import Derived.ChangeArms
import Derived.WideShapes
import Derived.WalkKit
import Derived.ProofKit
import Derived.ShutString
import Derived.ChangeOld
import Derived.Below
import Derived.SizedLaws
import Derived.Test.YtcciejcpijlkfaaRows
set_option linter.unusedVariables false
set_option linter.unusedSimpArgs false
namespace Go.Proofs.Ytcciejcpijlkfaa.H
open Go.RowKit Go.Hay Go.Proofs.YtcciejcpijlkfaaW.PrintWords Go.Proofs.YtcciejcpijlkfaaW.PrintLast Go.Proofs.YtcciejcpijlkfaaW.PrintMore
set_option maxRecDepth 100000 in
set_option maxHeartbeats 8000000 in
theorem new_walkA (fn : Int) (Aq : Option Addr) (cq : Nat) (path : List Int) (Aa : Option Addr) (ca : Nat) (args : List Int) (h0 h1 h2 h3 : Int) (w : World) (hC : (Kd.int .i64).C w Aq path.length path) (hcq : path.length ≤ cq) (hA : (Kd.int .i64).C w Aa args.length args) (hca : args.length ≤ ca) (hcs : args.length ≤ 8) :
    Calls Try.prog 4 #[.agg #[.int .i64 fn, .slice Aq path.length cq, .slice Aa args.length ca, .int .i64 h0, .int .i64 h1, .int .i64 h2, .int .i64 h3]] w fun e w' => e = .returned (.bool true) ∧ Below w.heap.size w w' := by
  have hpe := peq_some
  have HCS := Aside0.mk hcs
  clear hcs
  obtain ⟨zb, hzb⟩ : ∃ zb, zb = w.heap.size := ⟨_, rfl⟩
  obtain ⟨W1, hW1⟩ : ∃ W1, W1 = w.alloc (.cells #[.int .i64 fn, .slice Aq path.length cq, .slice Aa args.length ca, .int .i64 h0, .int .i64 h1, .int .i64 h2, .int .i64 h3] 57) := ⟨_, rfl⟩
  have hb1 : Below w.heap.size w W1 := by rw [hW1]; exact (Below.refl w.heap.size w).alloc (Nat.le_refl _) _
  have hx1 : W1.heap[zb]? = some (.cells #[.int .i64 fn, .slice Aq path.length cq, .slice Aa args.length ca, .int .i64 h0, .int .i64 h1, .int .i64 h2, .int .i64 h3] 57 (0, 0)) := by rw [hW1, hzb]; exact alloc_blk w _
  have H0 := Aside0.mk (And.intro hC (And.intro hcq (And.intro hA (And.intro hca (And.intro hb1 hx1)))))
  have HW1 := Aside0.mk (And.intro hW1 hzb)
  clear hC hcq hA hca hb1 hx1 hW1 hzb
  go_enter Try.func4, Try.ntmps4
  go_upto_region 1 with (fail)
  rw [← HW1.out.1, ← HW1.out.2]
  refine wp_region_T (fun w' => Below W1.heap.size W1 w') [] (.takes [0, 1, 2, 3, 4, 5, 6, 7] (.op 8 (.op 9 (.op 10 (.op 11 (.op 12 .done)))))) (by kernel_rfl) (by kernel_rfl) (by kernel_rfl) (by kernel_rfl) (panic_via (P := Try.prog) (fn := Try.f4) (R := fun e w' => e = .returned (.bool true) ∧ Below w.heap.size w w') (fun _ _ _ => rfl)) ?_
  obtain ⟨wd, hwd⟩ : ∃ wd, wd = W1.drew := ⟨_, rfl⟩
  rw [← hwd]
  have hs : Below W1.heap.size W1 wd := by rw [hwd]; exact (Below.refl _ _).drew
  clear hwd
  simp only [Turns.takes]
  repeat (
    (first
      | (refine runT_take (v := ?_) (by rfl) (by rfl) (fun w' hS => ?_) hs ?_
         rotate_left
         · (have hX := (hS.block _ (blk_lt H0.out.2.2.2.2.2)).trans H0.out.2.2.2.2.2; have d0 := blk_cell hX 0; have d1 := blk_cell hX 1; have d2 := blk_cell hX 2; have d3 := blk_cell hX 3; have d4 := blk_cell hX 4; have d5 := blk_cell hX 5; have d6 := blk_cell hX 6; go_simp; exact rfl))
      | refine runT_skip (by rfl) (by rfl) hs ?_)
    (try simp only [Act.put, List.setIfInBounds_toArray, List.set_cons_zero, List.set_cons_succ]))
  refine runT_op (by rfl) (by rfl) (fun K hK => ?_)
  go_simp
  obtain ⟨yb, hyb⟩ : ∃ yb, yb = wd.heap.size := ⟨_, rfl⟩
  rw [← hyb]
  obtain ⟨W5, hW5⟩ : ∃ W5, W5 = wd.alloc (.cells #[.int .i64 0, .int .i64 0, .int .i64 0, .int .i64 0] 25) := ⟨_, rfl⟩
  rw [← hW5]
  have hb5 : Below wd.heap.size wd W5 := by rw [hW5]; exact (Below.refl _ _).alloc (Nat.le_refl _) _
  have hx5 : W5.heap[yb]? = some (.cells #[.int .i64 0, .int .i64 0, .int .i64 0, .int .i64 0] 25 (0, 0)) := by rw [hW5, hyb]; exact alloc_blk wd _
  have hyn : W1.heap.size ≤ yb := by rw [hyb]; exact hs.size
  have hs5 := hs.trans (hb5.mono hs.size)
  refine hK _ _ hs5 ?_
  clear hK K hs hb5 hW5 hyb
  (try simp only [Act.put, List.setIfInBounds_toArray, List.set_cons_zero, List.set_cons_succ])
  refine runT_op (by rfl) (by rfl) (fun K hK => ?_)
  go_simp
  refine hK _ _ hs5 ?_
  clear hK K
  (try simp only [Act.put, List.setIfInBounds_toArray, List.set_cons_zero, List.set_cons_succ])
  refine runT_op (by rfl) (by rfl) (fun K hK => ?_)
  go_simp
  refine hK _ _ hs5 ?_
  clear hK K
  (try simp only [Act.put, List.setIfInBounds_toArray, List.set_cons_zero, List.set_cons_succ])
  refine runT_op (by rfl) (by rfl) (fun K hK => ?_)
  go_simp
  refine hK _ _ hs5 ?_
  clear hK K
  (try simp only [Act.put, List.setIfInBounds_toArray, List.set_cons_zero, List.set_cons_succ])
  have q0 := blk_frozen hx5 0
  have q1 := blk_frozen hx5 1
  have q2 := blk_frozen hx5 2
  have q3 := blk_frozen hx5 3
  have p0 := blk_cell hx5 0
  have p1 := blk_cell hx5 1
  have p2 := blk_cell hx5 2
  have p3 := blk_cell hx5 3
  refine runT_op (by rfl) (by rfl) (fun K hK => ?_)
  go_simp
  obtain ⟨W7, hW7⟩ : ∃ W7, W7 = (((W5.setCell ⟨yb, 0, none⟩ (.int .i64 h0)).setCell ⟨yb, 1, none⟩ (.int .i64 h1)).setCell ⟨yb, 2, none⟩ (.int .i64 h2)).setCell ⟨yb, 3, none⟩ (.int .i64 h3) := ⟨_, rfl⟩
  have hx7 : W7.heap[yb]? = some (.cells #[.int .i64 h0, .int .i64 h1, .int .i64 h2, .int .i64 h3] 25 (0, 0)) := by
    rw [hW7]
    exact blk_set (blk_set (blk_set (blk_set hx5 0 (.int .i64 h0)) 1 (.int .i64 h1)) 2 (.int .i64 h2)) 3 (.int .i64 h3)
  have hb7 : Below W1.heap.size W1 W7 := by
    rw [hW7]
    exact (((hs5.setCell (p := ⟨yb, 0, none⟩) hyn _).setCell (p := ⟨yb, 1, none⟩) hyn _).setCell (p := ⟨yb, 2, none⟩) hyn _).setCell (p := ⟨yb, 3, none⟩) hyn _
  rw [← hW7]
  refine hK _ _ hb7 ?_
  have HB7 := Aside0.mk (H0.out.2.2.2.2.1.trans (hb7.mono H0.out.2.2.2.2.1.size))
  have HX7 := Aside0.mk hx7
  clear hK K hs5 hW7 hx5 hyn q0 q1 q2 q3 p0 p1 p2 p3 hb7 hx7
  (try simp only [Act.put, List.setIfInBounds_toArray, List.set_cons_zero, List.set_cons_succ])
  refine runT_done ?_
  by_cases hn : 50 < path.length
  · have hn2 : ((path.length : Int) > 50) = True := eq_true (by omega)
    clear hn
    go_wp2_with fail
    go_ret
    exact ⟨rfl, HB7.out⟩
  have hn2 : ((path.length : Int) > 50) = False := eq_false (by omega)
  have HN := Aside0.mk hn
  clear hn
  by_cases hm : 50 < args.length
  · have hm2 : ((args.length : Int) > 50) = True := eq_true (by omega)
    clear hm
    go_wp2_with fail
    go_ret
    exact ⟨rfl, HB7.out⟩
  have hm2 : ((args.length : Int) > 50) = False := eq_false (by omega)
  have HM := Aside0.mk hm
  clear hm
  have HCW := Aside0.mk (And.intro (Kd.C_below H0.out.1 HB7.out) (Kd.C_below H0.out.2.2.1 HB7.out))
  have hnew : (Kd.int .i64).R 3 (W7.alloc (.cells #[] 3)) W7.heap.size (fun _ => True) (.slice (some ⟨W7.heap.size, 0, none⟩) 0 0) [] :=
    ⟨fun _ _ => trivial, [], ⟨rfl, .inr ⟨W7.heap.size, 0, #[], rfl, Nat.le_refl _, alloc_blk _ _, Nat.le_refl _, by decide, rfl, rfl⟩⟩, Reps.none _ _⟩
  go_wp2_with (first | ((with_reducible refine gate_builtin (b := .append) (xs := #[.tmp 28, .tmp 29]) rfl ?_); refine Kd.R_append_rows (Kd.int .i64) (w0 := W7) W7.heap.size rfl (.tmp 28) (.tmp 29) 23 3 (.int .i64 0) 8 rfl Try.underlying23 infoC3n rfl (by decide) (by omega) _ [] path _ _ _ (fun _ => True) (fun _ => False) rfl rfl ?aO ?aR (fun _ _ h => h) (fun _ h => h.elim) ?aF ?aB ?aS ?aL ?_))
  case aO => exact hnew
  case aR => exact Kd.C_alloc HCW.out.1 _
  case aF => exact fun _ _ => trivial
  case aB => exact (Below.refl W7.heap.size W7).alloc (Nat.le_refl _) _
  case aS => simp
  case aL => have := HN.out; simp only [List.length_nil]; omega
  intro v1 w1 hR hb1 _ _
  replace hR : (Kd.int .i64).R 3 w1 W7.heap.size (fun _ => True) v1 path := hR
  obtain ⟨A1, c1, rfl⟩ := Kd.R_slice hR
  have hq := Kd.R_reads' hR
  have hown := nums_own hR
  have hnil : A1 = none → c1 = 0 := fun e => by
    subst e
    obtain ⟨_, inner, ⟨h1, h2⟩, h3, h4⟩ := hR
    rcases h2 with h2 | ⟨g, cap, cur, e, _⟩
    · injection h2.1
    · cases e
  have HR1 := Aside0.mk hR
  have HQ1 := Aside0.mk (And.intro hq.2.2 (And.intro hq.2.1 hnil))
  have HB1 := Aside0.mk (HB7.out.trans (hb1.mono HB7.out.size))
  have hx1 := (hb1.block _ (blk_lt HX7.out)).trans HX7.out
  have HX1 := Aside0.mk hx1
  have HBS := Aside0.mk (show w.heap.size ≤ W7.heap.size from HB7.out.size)
  have z0 := blk_cell hx1 0
  have z1 := blk_cell hx1 1
  have z2 := blk_cell hx1 2
  have z3 := blk_cell hx1 3
  clear hR hq hown hnil hb1 hx1 hnew
  go_wp2_with fail
  refine (New_any fn A1 c1 path Aa ca args h0 h1 h2 h3 w1 HQ1.out.1 HQ1.out.2.1 HQ1.out.2.2 (by have := HN.out; omega) (Kd.C_below H0.out.2.2.1 HB1.out) H0.out.2.2.2.1).mono ?_
  intro e W3 hp
  obtain ⟨fb, A9, c9, rfl, hfb, hfr, hb3, hpc, hpn, hpp, hpC⟩ := hp
  have HB3 := Aside0.mk (HB1.out.trans (hb3.mono HB1.out.size))
  have HLF := Aside0.mk (And.intro hfr (And.intro hpc (And.intro hpn (And.intro hpp (And.intro hpC hfb)))))
  have HR3 := Aside0.mk (Kd.R_below HR1.out hb3)
  have HS3 := Aside0.mk hb3.size
  have hx3 := (hb3.block _ (blk_lt HX1.out)).trans HX1.out
  clear z0 z1 z2 z3
  have z0 := blk_cell hx3 0
  have z1 := blk_cell hx3 1
  have z2 := blk_cell hx3 2
  have z3 := blk_cell hx3 3
  clear hfr hpc hpn hpp hpC hfb hb3 hx3
  obtain ⟨nb, hnb⟩ : ∃ nb, nb = W3.heap.size := ⟨_, rfl⟩
  obtain ⟨W4, hW4⟩ : ∃ W4, W4 = W3.alloc (.cells #[.int .i64 fn, .int .i64 0, .int .i64 0, .int .i64 0, .slice Aq path.length cq, .int .i64 0, .int .i64 0, .int .i64 0, .int .i64 0, .int .i64 0, .int .i64 0, .int .i64 0, .int .i64 0, .int .i64 h0, .int .i64 h1, .int .i64 h2, .int .i64 h3] 27) := ⟨_, rfl⟩
  have hb4 : Below W3.heap.size W3 W4 := by rw [hW4]; exact (Below.refl _ _).alloc (Nat.le_refl _) _
  have hRB : RB nb ⟨fn, 0, 0, 0, path, regsN args 0, [h0, h1, h2, h3]⟩ (.slice Aq path.length cq) W4 := ⟨by rw [hW4, hnb]; exact alloc_blk W3 _, rfl, rfl⟩
  have HW4 := Aside0.mk (And.intro hW4 hnb)
  have H4 := Aside0.mk (And.intro hb4 (HB3.out.trans (hb4.mono HB3.out.size)))
  have HI := Aside0.mk (And.intro hRB (Keep.refl (fun q => q = nb) W4))
  clear hW4 hb4 hRB hnb
  go_upto_region 9 with (fail)
  rw [← HW4.out.1, ← HW4.out.2]
  clear z0 z1 z2 z3
  go_wp2_with fail
  go_loopw [10] (fun v10 wr => ∃ i : Nat, v10 = .int .i64 i ∧ (i ≤ args.length ∧ i ≤ 8) ∧ Aside0 (RB nb ⟨fn, 0, 0, 0, path, regsN args i, [h0, h1, h2, h3]⟩ (.slice Aq path.length cq) wr ∧ Keep (fun q => q = nb) W4 wr)) (fun v10 _ => 8 - (intOf v10).toNat)
  case atStart => exact ⟨0, rfl, ⟨Nat.zero_le _, Nat.zero_le _⟩, HI⟩
  case round =>
    clear HI
    obtain ⟨i, rfl, hi, HI⟩ := hrel
    have hbw : Below w.heap.size w wr := H4.out.2.trans (Keep.below (B := w.heap.size) HI.out.2 H4.out.2.size (fun q hq e => by have h1 := HW4.out.2; have h2 := HB3.out.size; omega))
    have HBW := Aside0.mk hbw
    by_cases hia : i < args.length
    · have ea := lt_trueF hia
      by_cases hi8 : i < 8
      · have e8 : ((i : Int) < 8) = True := eq_true (by omega)
        have hw8 : IntKind.i64.wrap ((i : Int) + 1) = (i : Int) + 1 := IntWalk.i64_in _ (by omega)
        obtain ⟨ad, hAa, hcell⟩ := args_cellsF (Kd.C_below H0.out.2.2.1 hbw) (by omega)
        obtain ⟨x, hx⟩ : ∃ x, args[i]? = some x := ⟨_, List.getElem?_eq_getElem hia⟩
        have u1 := hcell i (.int .i64 x) (by rw [List.getElem?_map, hx]; rfl)
        subst hAa
        have f1 := blk_frozen HI.out.1.node (5 + i)
        have c1 := HI.out.1.reg i hi8
        have HN1 := Aside0.mk (And.intro hia hi8)
        have hrb : RB nb ⟨fn, 0, 0, 0, path, (regsN args i).set i x, [h0, h1, h2, h3]⟩ (.slice Aq path.length cq) (wr.setCell ⟨nb, 5 + i, none⟩ (.int .i64 x)) := HI.out.1.setReg i hi8 x
        have hk2 := HI.out.2.set (p := ⟨nb, 5 + i, none⟩) (.inr rfl) (.int .i64 x)
        rw [regsN_next args hx hi8] at hrb
        have HNX := Aside0.mk (And.intro hrb hk2)
        clear hi hia hi8 hbw hcell hrb hk2 hx
        go_wp2_with fail
        go_roundw
        case rel => exact ⟨i + 1, by go_num, ⟨HN1.out.1, HN1.out.2⟩, HNX⟩
        case measure => exact up_ltF HN1.out.2
      · exact absurd hia (by have := HCS.out; omega)
    · have ea : ((i : Int) < (args.length : Nat)) = False := eq_false (by omega)
      have hrn : regsN args i = newRegs args := regsN_all args (by omega)
      obtain ⟨s0, s1, s2, s3, s4, s5, s6, s7, hreg⟩ := eightF (newRegsF_len args)
      have hrb := HI.out.1
      rw [hrn, hreg] at hrb
      have hlf : LF fb ⟨fn, 0, 0, 0, path, [s0, s1, s2, s3, s4, s5, s6, s7], [h0, h1, h2, h3]⟩ A9 c9 W3 := by
        have hfr := HLF.out.1
        unfold newFr at hfr
        rw [hreg] at hfr
        exact ⟨hfr, HLF.out.2.1, HLF.out.2.2.1, HLF.out.2.2.2.1.imp id (fun ⟨ad, e1, e2, e3⟩ => ⟨ad, e1, by omega⟩), HLF.out.2.2.2.2.1, by show (-9223372036854775808 : Int) ≤ 0; decide⟩
      have hkw : Keep (fun q => q = nb) W3 wr := (Keep.of_below H4.out.1 (fun q => q = nb)).then HI.out.2 (fun q hq e => e)
      have hfbl := hlf.fr.lt
      have hlfw := hlf.keepS hkw (by have := HW4.out.2; omega) (HLF.out.2.2.2.1.imp id (fun ⟨ad, e1, e2, e3⟩ => ⟨ad, e1, by have := HW4.out.2; omega⟩))
      have hRw : (Kd.int .i64).R 3 wr W7.heap.size (fun _ => True) (.slice A1 path.length c1) path := R_flat' HR3.out hkw (fun q hq => by have := (nums_own HR3.out q hq).2.2; have := HW4.out.2; omega)
      have HLW := Aside0.mk (And.intro hlfw (And.intro hrb hRw))
      have HR9 := Aside0.mk (And.intro hRw (Keep.refl (fun q => (Value.slice A1 path.length c1).ownBlock = some q) wr))
      obtain ⟨W9, hW9⟩ : ∃ W9, W9 = wr := ⟨_, rfl⟩
      rw [← hW9] at HBW HLW HR9 ⊢
      clear hrn hreg hrb hlf hkw hfbl hlfw hRw hia hi HI hbw hW9
      go_wp2_with fail
      go_loopw [11] (fun v11 wq => ∃ (j : Nat) (xs : List Int), v11 = .int .i64 j ∧ (j ≤ path.length ∧ xs.length = path.length) ∧ Aside0 ((Kd.int .i64).R 3 wq W7.heap.size (fun _ => True) (.slice A1 path.length c1) xs ∧ Keep (fun q => (Value.slice A1 path.length c1).ownBlock = some q) W9 wq)) (fun v11 _ => path.length - (intOf v11).toNat)
      case atStart => exact ⟨0, path, rfl, ⟨Nat.zero_le _, rfl⟩, HR9⟩
      case round =>
        clear HR9
        rename World => wq
        obtain ⟨j, xs, rfl, ⟨hj, hxl⟩, HQ⟩ := hrel
        by_cases hjp : j < path.length
        · have ej := lt_trueF hjp
          have hjx : j < xs.length := by omega
          obtain ⟨g, cp', hv, -⟩ := Kd.R_form HQ.out.1 (by omega)
          injection hv with hA1 hA2 hA3
          clear hA2 hA3
          subst hA1
          obtain ⟨n1, n2⟩ := nums_at HQ.out.1 hjx
          obtain ⟨x, hx⟩ : ∃ x, x = xs[j] := ⟨_, rfl⟩
          rw [← hx] at n1
          have hw8 : IntKind.i64.wrap ((j : Int) + 1) = (j : Int) + 1 := IntWalk.i64_in _ (by have := HN.out; omega)
          have HSET := Aside0.mk (fun z : Int => And.intro (nums_set HQ.out.1 hjx z) (HQ.out.2.set (p := ⟨g, j, none⟩) (.inr rfl) (.int .i64 z)))
          have HJ := Aside0.mk (And.intro hjp hxl)
          clear hj hjp hx hjx hxl
          go_wp2_with fail
          go_roundw
          case rel => exact ⟨j + 1, _, by go_num, ⟨HJ.out.1, by rw [List.length_set]; exact HJ.out.2⟩, ⟨HSET.out _⟩⟩
          case measure => exact up_ltF HJ.out.1
        · obtain rfl : j = path.length := Nat.le_antisymm hj (Nat.le_of_not_lt hjp)
          have hkq := HQ.out.2
          have hgl : ∀ q, (Value.slice A1 path.length c1).ownBlock = some q → W7.heap.size ≤ q ∧ q < w1.heap.size := fun q hq => ⟨(nums_own HR1.out q hq).2.1, (nums_own HR1.out q hq).2.2⟩
          have hlf := HLW.out.1.keepS hkq (fun e => by have h1 := (hgl _ e).2; have h2 := HLF.out.2.2.2.2.2; omega) (HLF.out.2.2.2.1.imp id (fun ⟨ad, e1, e2, e3⟩ => ⟨ad, e1, fun e => by have h1 := (hgl _ e).2; omega⟩))
          have hrb : wq.heap[nb]? = some (.cells #[.int .i64 fn, .int .i64 0, .int .i64 0, .int .i64 0, .slice Aq path.length cq, .int .i64 s0, .int .i64 s1, .int .i64 s2, .int .i64 s3, .int .i64 s4, .int .i64 s5, .int .i64 s6, .int .i64 s7, .int .i64 h0, .int .i64 h1, .int .i64 h2, .int .i64 h3] 27 (0, 0)) := hkq.blk HLW.out.2.1.node (fun e => by have h1 := (hgl _ e).2; have h2 := HS3.out; have h3 := HW4.out.2; omega)
          have hbq : Below w.heap.size w wq := HBW.out.trans (Keep.below (B := w.heap.size) hkq HBW.out.size (fun q hq e => by have h1 := (hgl _ e).1; have h2 := HBS.out; omega))
          have HBQ := Aside0.mk hbq
          have HL9 := Aside0.mk hlf
          have HP9 := Aside0.mk (Kd.C_below H0.out.1 hbq)
          have b0 := blk_cell hrb 0
          have b1 := blk_cell hrb 1
          have b2 := blk_cell hrb 2
          have b3 := blk_cell hrb 3
          have b4 := blk_cell hrb 4
          have b5 := blk_cell hrb 5
          have b6 := blk_cell hrb 6
          have b7 := blk_cell hrb 7
          have b8 := blk_cell hrb 8
          have b9 := blk_cell hrb 9
          have b10 := blk_cell hrb 10
          have b11 := blk_cell hrb 11
          have b12 := blk_cell hrb 12
          have b13 := blk_cell hrb 13
          have b14 := blk_cell hrb 14
          have b15 := blk_cell hrb 15
          have b16 := blk_cell hrb 16
          clear hj hjp hkq hgl hlf hrb hbq hxl HQ
          go_wp2_with fail
          refine (alike_any fn 0 0 0 path s0 s1 s2 s3 s4 s5 s6 s7 h0 h1 h2 h3 fb A9 c9 Aq cq _ HL9.out HP9.out H0.out.2.1 (by have := HN.out; omega)).mono ?_
          rintro e w5 ⟨rfl, hb5⟩
          have HB5 := Aside0.mk (HBQ.out.trans (hb5.mono HBQ.out.size))
          clear hb5 b0 b1 b2 b3 b4 b5 b6 b7 b8 b9 b10 b11 b12 b13 b14 b15 b16
          go_wp2_with fail
          refine (awake_any _).mono ?_
          rintro e w9 ⟨rfl, hb9⟩
          have HB9 := Aside0.mk ((HB5).out.trans (hb9.mono (HB5).out.size))
          clear hb9
          go_wp2_with fail
          go_ret
          exact ⟨rfl, HB9.out⟩
end Go.Proofs.Ytcciejcpijlkfaa.H

set_option linter.unusedVariables false
set_option linter.unusedSimpArgs false
namespace Go.Proofs.Ytcciejcpijlkfaa.H
open Go.RowKit Go.Hay Go.Proofs.YtcciejcpijlkfaaW.PrintWords Go.Proofs.YtcciejcpijlkfaaW.PrintLast Go.Proofs.YtcciejcpijlkfaaW.PrintMore
set_option maxRecDepth 100000 in
set_option maxHeartbeats 8000000 in
theorem new_walkB (fn : Int) (Aq : Option Addr) (cq : Nat) (path : List Int) (Aa : Option Addr) (ca : Nat) (args : List Int) (h0 h1 h2 h3 : Int) (w : World) (hC : (Kd.int .i64).C w Aq path.length path) (hcq : path.length ≤ cq) (hA : (Kd.int .i64).C w Aa args.length args) (hca : args.length ≤ ca) (hcs : 8 < args.length) :
    Calls Try.prog 4 #[.agg #[.int .i64 fn, .slice Aq path.length cq, .slice Aa args.length ca, .int .i64 h0, .int .i64 h1, .int .i64 h2, .int .i64 h3]] w fun e w' => e = .returned (.bool true) ∧ Below w.heap.size w w' := by
  have hpe := peq_some
  have HCS := Aside0.mk hcs
  clear hcs
  obtain ⟨zb, hzb⟩ : ∃ zb, zb = w.heap.size := ⟨_, rfl⟩
  obtain ⟨W1, hW1⟩ : ∃ W1, W1 = w.alloc (.cells #[.int .i64 fn, .slice Aq path.length cq, .slice Aa args.length ca, .int .i64 h0, .int .i64 h1, .int .i64 h2, .int .i64 h3] 57) := ⟨_, rfl⟩
  have hb1 : Below w.heap.size w W1 := by rw [hW1]; exact (Below.refl w.heap.size w).alloc (Nat.le_refl _) _
  have hx1 : W1.heap[zb]? = some (.cells #[.int .i64 fn, .slice Aq path.length cq, .slice Aa args.length ca, .int .i64 h0, .int .i64 h1, .int .i64 h2, .int .i64 h3] 57 (0, 0)) := by rw [hW1, hzb]; exact alloc_blk w _
  have H0 := Aside0.mk (And.intro hC (And.intro hcq (And.intro hA (And.intro hca (And.intro hb1 hx1)))))
  have HW1 := Aside0.mk (And.intro hW1 hzb)
  clear hC hcq hA hca hb1 hx1 hW1 hzb
  go_enter Try.func4, Try.ntmps4
  go_upto_region 1 with (fail)
  rw [← HW1.out.1, ← HW1.out.2]
  refine wp_region_T (fun w' => Below W1.heap.size W1 w') [] (.takes [0, 1, 2, 3, 4, 5, 6, 7] (.op 8 (.op 9 (.op 10 (.op 11 (.op 12 .done)))))) (by kernel_rfl) (by kernel_rfl) (by kernel_rfl) (by kernel_rfl) (panic_via (P := Try.prog) (fn := Try.f4) (R := fun e w' => e = .returned (.bool true) ∧ Below w.heap.size w w') (fun _ _ _ => rfl)) ?_
  obtain ⟨wd, hwd⟩ : ∃ wd, wd = W1.drew := ⟨_, rfl⟩
  rw [← hwd]
  have hs : Below W1.heap.size W1 wd := by rw [hwd]; exact (Below.refl _ _).drew
  clear hwd
  simp only [Turns.takes]
  repeat (
    (first
      | (refine runT_take (v := ?_) (by rfl) (by rfl) (fun w' hS => ?_) hs ?_
         rotate_left
         · (have hX := (hS.block _ (blk_lt H0.out.2.2.2.2.2)).trans H0.out.2.2.2.2.2; have d0 := blk_cell hX 0; have d1 := blk_cell hX 1; have d2 := blk_cell hX 2; have d3 := blk_cell hX 3; have d4 := blk_cell hX 4; have d5 := blk_cell hX 5; have d6 := blk_cell hX 6; go_simp; exact rfl))
      | refine runT_skip (by rfl) (by rfl) hs ?_)
    (try simp only [Act.put, List.setIfInBounds_toArray, List.set_cons_zero, List.set_cons_succ]))
  refine runT_op (by rfl) (by rfl) (fun K hK => ?_)
  go_simp
  obtain ⟨yb, hyb⟩ : ∃ yb, yb = wd.heap.size := ⟨_, rfl⟩
  rw [← hyb]
  obtain ⟨W5, hW5⟩ : ∃ W5, W5 = wd.alloc (.cells #[.int .i64 0, .int .i64 0, .int .i64 0, .int .i64 0] 25) := ⟨_, rfl⟩
  rw [← hW5]
  have hb5 : Below wd.heap.size wd W5 := by rw [hW5]; exact (Below.refl _ _).alloc (Nat.le_refl _) _
  have hx5 : W5.heap[yb]? = some (.cells #[.int .i64 0, .int .i64 0, .int .i64 0, .int .i64 0] 25 (0, 0)) := by rw [hW5, hyb]; exact alloc_blk wd _
  have hyn : W1.heap.size ≤ yb := by rw [hyb]; exact hs.size
  have hs5 := hs.trans (hb5.mono hs.size)
  refine hK _ _ hs5 ?_
  clear hK K hs hb5 hW5 hyb
  (try simp only [Act.put, List.setIfInBounds_toArray, List.set_cons_zero, List.set_cons_succ])
  refine runT_op (by rfl) (by rfl) (fun K hK => ?_)
  go_simp
  refine hK _ _ hs5 ?_
  clear hK K
  (try simp only [Act.put, List.setIfInBounds_toArray, List.set_cons_zero, List.set_cons_succ])
  refine runT_op (by rfl) (by rfl) (fun K hK => ?_)
  go_simp
  refine hK _ _ hs5 ?_
  clear hK K
  (try simp only [Act.put, List.setIfInBounds_toArray, List.set_cons_zero, List.set_cons_succ])
  refine runT_op (by rfl) (by rfl) (fun K hK => ?_)
  go_simp
  refine hK _ _ hs5 ?_
  clear hK K
  (try simp only [Act.put, List.setIfInBounds_toArray, List.set_cons_zero, List.set_cons_succ])
  have q0 := blk_frozen hx5 0
  have q1 := blk_frozen hx5 1
  have q2 := blk_frozen hx5 2
  have q3 := blk_frozen hx5 3
  have p0 := blk_cell hx5 0
  have p1 := blk_cell hx5 1
  have p2 := blk_cell hx5 2
  have p3 := blk_cell hx5 3
  refine runT_op (by rfl) (by rfl) (fun K hK => ?_)
  go_simp
  obtain ⟨W7, hW7⟩ : ∃ W7, W7 = (((W5.setCell ⟨yb, 0, none⟩ (.int .i64 h0)).setCell ⟨yb, 1, none⟩ (.int .i64 h1)).setCell ⟨yb, 2, none⟩ (.int .i64 h2)).setCell ⟨yb, 3, none⟩ (.int .i64 h3) := ⟨_, rfl⟩
  have hx7 : W7.heap[yb]? = some (.cells #[.int .i64 h0, .int .i64 h1, .int .i64 h2, .int .i64 h3] 25 (0, 0)) := by
    rw [hW7]
    exact blk_set (blk_set (blk_set (blk_set hx5 0 (.int .i64 h0)) 1 (.int .i64 h1)) 2 (.int .i64 h2)) 3 (.int .i64 h3)
  have hb7 : Below W1.heap.size W1 W7 := by
    rw [hW7]
    exact (((hs5.setCell (p := ⟨yb, 0, none⟩) hyn _).setCell (p := ⟨yb, 1, none⟩) hyn _).setCell (p := ⟨yb, 2, none⟩) hyn _).setCell (p := ⟨yb, 3, none⟩) hyn _
  rw [← hW7]
  refine hK _ _ hb7 ?_
  have HB7 := Aside0.mk (H0.out.2.2.2.2.1.trans (hb7.mono H0.out.2.2.2.2.1.size))
  have HX7 := Aside0.mk hx7
  clear hK K hs5 hW7 hx5 hyn q0 q1 q2 q3 p0 p1 p2 p3 hb7 hx7
  (try simp only [Act.put, List.setIfInBounds_toArray, List.set_cons_zero, List.set_cons_succ])
  refine runT_done ?_
  by_cases hn : 50 < path.length
  · have hn2 : ((path.length : Int) > 50) = True := eq_true (by omega)
    clear hn
    go_wp2_with fail
    go_ret
    exact ⟨rfl, HB7.out⟩
  have hn2 : ((path.length : Int) > 50) = False := eq_false (by omega)
  have HN := Aside0.mk hn
  clear hn
  by_cases hm : 50 < args.length
  · have hm2 : ((args.length : Int) > 50) = True := eq_true (by omega)
    clear hm
    go_wp2_with fail
    go_ret
    exact ⟨rfl, HB7.out⟩
  have hm2 : ((args.length : Int) > 50) = False := eq_false (by omega)
  have HM := Aside0.mk hm
  clear hm
  have HCW := Aside0.mk (And.intro (Kd.C_below H0.out.1 HB7.out) (Kd.C_below H0.out.2.2.1 HB7.out))
  have hnew : (Kd.int .i64).R 3 (W7.alloc (.cells #[] 3)) W7.heap.size (fun _ => True) (.slice (some ⟨W7.heap.size, 0, none⟩) 0 0) [] :=
    ⟨fun _ _ => trivial, [], ⟨rfl, .inr ⟨W7.heap.size, 0, #[], rfl, Nat.le_refl _, alloc_blk _ _, Nat.le_refl _, by decide, rfl, rfl⟩⟩, Reps.none _ _⟩
  go_wp2_with (first | ((with_reducible refine gate_builtin (b := .append) (xs := #[.tmp 28, .tmp 29]) rfl ?_); refine Kd.R_append_rows (Kd.int .i64) (w0 := W7) W7.heap.size rfl (.tmp 28) (.tmp 29) 23 3 (.int .i64 0) 8 rfl Try.underlying23 infoC3n rfl (by decide) (by omega) _ [] path _ _ _ (fun _ => True) (fun _ => False) rfl rfl ?aO ?aR (fun _ _ h => h) (fun _ h => h.elim) ?aF ?aB ?aS ?aL ?_))
  case aO => exact hnew
  case aR => exact Kd.C_alloc HCW.out.1 _
  case aF => exact fun _ _ => trivial
  case aB => exact (Below.refl W7.heap.size W7).alloc (Nat.le_refl _) _
  case aS => simp
  case aL => have := HN.out; simp only [List.length_nil]; omega
  intro v1 w1 hR hb1 _ _
  replace hR : (Kd.int .i64).R 3 w1 W7.heap.size (fun _ => True) v1 path := hR
  obtain ⟨A1, c1, rfl⟩ := Kd.R_slice hR
  have hq := Kd.R_reads' hR
  have hown := nums_own hR
  have hnil : A1 = none → c1 = 0 := fun e => by
    subst e
    obtain ⟨_, inner, ⟨h1, h2⟩, h3, h4⟩ := hR
    rcases h2 with h2 | ⟨g, cap, cur, e, _⟩
    · injection h2.1
    · cases e
  have HR1 := Aside0.mk hR
  have HQ1 := Aside0.mk (And.intro hq.2.2 (And.intro hq.2.1 hnil))
  have HB1 := Aside0.mk (HB7.out.trans (hb1.mono HB7.out.size))
  have hx1 := (hb1.block _ (blk_lt HX7.out)).trans HX7.out
  have HX1 := Aside0.mk hx1
  have HBS := Aside0.mk (show w.heap.size ≤ W7.heap.size from HB7.out.size)
  have z0 := blk_cell hx1 0
  have z1 := blk_cell hx1 1
  have z2 := blk_cell hx1 2
  have z3 := blk_cell hx1 3
  clear hR hq hown hnil hb1 hx1 hnew
  go_wp2_with fail
  refine (New_any fn A1 c1 path Aa ca args h0 h1 h2 h3 w1 HQ1.out.1 HQ1.out.2.1 HQ1.out.2.2 (by have := HN.out; omega) (Kd.C_below H0.out.2.2.1 HB1.out) H0.out.2.2.2.1).mono ?_
  intro e W3 hp
  obtain ⟨fb, A9, c9, rfl, hfb, hfr, hb3, hpc, hpn, hpp, hpC⟩ := hp
  have HB3 := Aside0.mk (HB1.out.trans (hb3.mono HB1.out.size))
  have HLF := Aside0.mk (And.intro hfr (And.intro hpc (And.intro hpn (And.intro hpp (And.intro hpC hfb)))))
  have HR3 := Aside0.mk (Kd.R_below HR1.out hb3)
  have HS3 := Aside0.mk hb3.size
  have hx3 := (hb3.block _ (blk_lt HX1.out)).trans HX1.out
  clear z0 z1 z2 z3
  have z0 := blk_cell hx3 0
  have z1 := blk_cell hx3 1
  have z2 := blk_cell hx3 2
  have z3 := blk_cell hx3 3
  clear hfr hpc hpn hpp hpC hfb hb3 hx3
  obtain ⟨nb, hnb⟩ : ∃ nb, nb = W3.heap.size := ⟨_, rfl⟩
  obtain ⟨W4, hW4⟩ : ∃ W4, W4 = W3.alloc (.cells #[.int .i64 fn, .int .i64 0, .int .i64 0, .int .i64 0, .slice Aq path.length cq, .int .i64 0, .int .i64 0, .int .i64 0, .int .i64 0, .int .i64 0, .int .i64 0, .int .i64 0, .int .i64 0, .int .i64 h0, .int .i64 h1, .int .i64 h2, .int .i64 h3] 27) := ⟨_, rfl⟩
  have hb4 : Below W3.heap.size W3 W4 := by rw [hW4]; exact (Below.refl _ _).alloc (Nat.le_refl _) _
  have hRB : RB nb ⟨fn, 0, 0, 0, path, regsN args 0, [h0, h1, h2, h3]⟩ (.slice Aq path.length cq) W4 := ⟨by rw [hW4, hnb]; exact alloc_blk W3 _, rfl, rfl⟩
  have HW4 := Aside0.mk (And.intro hW4 hnb)
  have H4 := Aside0.mk (And.intro hb4 (HB3.out.trans (hb4.mono HB3.out.size)))
  have HI := Aside0.mk (And.intro hRB (Keep.refl (fun q => q = nb) W4))
  clear hW4 hb4 hRB hnb
  go_upto_region 9 with (fail)
  rw [← HW4.out.1, ← HW4.out.2]
  clear z0 z1 z2 z3
  go_wp2_with fail
  go_loopw [10] (fun v10 wr => ∃ i : Nat, v10 = .int .i64 i ∧ (i ≤ args.length ∧ i ≤ 8) ∧ Aside0 (RB nb ⟨fn, 0, 0, 0, path, regsN args i, [h0, h1, h2, h3]⟩ (.slice Aq path.length cq) wr ∧ Keep (fun q => q = nb) W4 wr)) (fun v10 _ => 8 - (intOf v10).toNat)
  case atStart => exact ⟨0, rfl, ⟨Nat.zero_le _, Nat.zero_le _⟩, HI⟩
  case round =>
    clear HI
    obtain ⟨i, rfl, hi, HI⟩ := hrel
    have hbw : Below w.heap.size w wr := H4.out.2.trans (Keep.below (B := w.heap.size) HI.out.2 H4.out.2.size (fun q hq e => by have h1 := HW4.out.2; have h2 := HB3.out.size; omega))
    have HBW := Aside0.mk hbw
    by_cases hia : i < args.length
    · have ea := lt_trueF hia
      by_cases hi8 : i < 8
      · have e8 : ((i : Int) < 8) = True := eq_true (by omega)
        have hw8 : IntKind.i64.wrap ((i : Int) + 1) = (i : Int) + 1 := IntWalk.i64_in _ (by omega)
        obtain ⟨ad, hAa, hcell⟩ := args_cellsF (Kd.C_below H0.out.2.2.1 hbw) (by omega)
        obtain ⟨x, hx⟩ : ∃ x, args[i]? = some x := ⟨_, List.getElem?_eq_getElem hia⟩
        have u1 := hcell i (.int .i64 x) (by rw [List.getElem?_map, hx]; rfl)
        subst hAa
        have f1 := blk_frozen HI.out.1.node (5 + i)
        have c1 := HI.out.1.reg i hi8
        have HN1 := Aside0.mk (And.intro hia hi8)
        have hrb : RB nb ⟨fn, 0, 0, 0, path, (regsN args i).set i x, [h0, h1, h2, h3]⟩ (.slice Aq path.length cq) (wr.setCell ⟨nb, 5 + i, none⟩ (.int .i64 x)) := HI.out.1.setReg i hi8 x
        have hk2 := HI.out.2.set (p := ⟨nb, 5 + i, none⟩) (.inr rfl) (.int .i64 x)
        rw [regsN_next args hx hi8] at hrb
        have HNX := Aside0.mk (And.intro hrb hk2)
        clear hi hia hi8 hbw hcell hrb hk2 hx
        go_wp2_with fail
        go_roundw
        case rel => exact ⟨i + 1, by go_num, ⟨HN1.out.1, HN1.out.2⟩, HNX⟩
        case measure => exact up_ltF HN1.out.2
      · have e8 : ((i : Int) < 8) = False := eq_false (by omega)
        have hrn : regsN args i = newRegs args := regsN_all args (by omega)
        obtain ⟨s0, s1, s2, s3, s4, s5, s6, s7, hreg⟩ := eightF (newRegsF_len args)
        have hrb := HI.out.1
        rw [hrn, hreg] at hrb
        have hlf : LF fb ⟨fn, 0, 0, 0, path, [s0, s1, s2, s3, s4, s5, s6, s7], [h0, h1, h2, h3]⟩ A9 c9 W3 := by
          have hfr := HLF.out.1
          unfold newFr at hfr
          rw [hreg] at hfr
          exact ⟨hfr, HLF.out.2.1, HLF.out.2.2.1, HLF.out.2.2.2.1.imp id (fun ⟨ad, e1, e2, e3⟩ => ⟨ad, e1, by omega⟩), HLF.out.2.2.2.2.1, by show (-9223372036854775808 : Int) ≤ 0; decide⟩
        have hkw : Keep (fun q => q = nb) W3 wr := (Keep.of_below H4.out.1 (fun q => q = nb)).then HI.out.2 (fun q hq e => e)
        have hfbl := hlf.fr.lt
        have hlfw := hlf.keepS hkw (by have := HW4.out.2; omega) (HLF.out.2.2.2.1.imp id (fun ⟨ad, e1, e2, e3⟩ => ⟨ad, e1, by have := HW4.out.2; omega⟩))
        have hRw : (Kd.int .i64).R 3 wr W7.heap.size (fun _ => True) (.slice A1 path.length c1) path := R_flat' HR3.out hkw (fun q hq => by have := (nums_own HR3.out q hq).2.2; have := HW4.out.2; omega)
        have HLW := Aside0.mk (And.intro hlfw (And.intro hrb hRw))
        have HR9 := Aside0.mk (And.intro hRw (Keep.refl (fun q => (Value.slice A1 path.length c1).ownBlock = some q) wr))
        obtain ⟨W9, hW9⟩ : ∃ W9, W9 = wr := ⟨_, rfl⟩
        rw [← hW9] at HBW HLW HR9 ⊢
        clear hrn hreg hrb hlf hkw hfbl hlfw hRw hia hi HI hbw hW9
        go_wp2_with fail
        go_loopw [11] (fun v11 wq => ∃ (j : Nat) (xs : List Int), v11 = .int .i64 j ∧ (j ≤ path.length ∧ xs.length = path.length) ∧ Aside0 ((Kd.int .i64).R 3 wq W7.heap.size (fun _ => True) (.slice A1 path.length c1) xs ∧ Keep (fun q => (Value.slice A1 path.length c1).ownBlock = some q) W9 wq)) (fun v11 _ => path.length - (intOf v11).toNat)
        case atStart => exact ⟨0, path, rfl, ⟨Nat.zero_le _, rfl⟩, HR9⟩
        case round =>
          clear HR9
          rename World => wq
          obtain ⟨j, xs, rfl, ⟨hj, hxl⟩, HQ⟩ := hrel
          by_cases hjp : j < path.length
          · have ej := lt_trueF hjp
            have hjx : j < xs.length := by omega
            obtain ⟨g, cp', hv, -⟩ := Kd.R_form HQ.out.1 (by omega)
            injection hv with hA1 hA2 hA3
            clear hA2 hA3
            subst hA1
            obtain ⟨n1, n2⟩ := nums_at HQ.out.1 hjx
            obtain ⟨x, hx⟩ : ∃ x, x = xs[j] := ⟨_, rfl⟩
            rw [← hx] at n1
            have hw8 : IntKind.i64.wrap ((j : Int) + 1) = (j : Int) + 1 := IntWalk.i64_in _ (by have := HN.out; omega)
            have HSET := Aside0.mk (fun z : Int => And.intro (nums_set HQ.out.1 hjx z) (HQ.out.2.set (p := ⟨g, j, none⟩) (.inr rfl) (.int .i64 z)))
            have HJ := Aside0.mk (And.intro hjp hxl)
            clear hj hjp hx hjx hxl
            go_wp2_with fail
            go_roundw
            case rel => exact ⟨j + 1, _, by go_num, ⟨HJ.out.1, by rw [List.length_set]; exact HJ.out.2⟩, ⟨HSET.out _⟩⟩
            case measure => exact up_ltF HJ.out.1
          · obtain rfl : j = path.length := Nat.le_antisymm hj (Nat.le_of_not_lt hjp)
            have hkq := HQ.out.2
            have hgl : ∀ q, (Value.slice A1 path.length c1).ownBlock = some q → W7.heap.size ≤ q ∧ q < w1.heap.size := fun q hq => ⟨(nums_own HR1.out q hq).2.1, (nums_own HR1.out q hq).2.2⟩
            have hlf := HLW.out.1.keepS hkq (fun e => by have h1 := (hgl _ e).2; have h2 := HLF.out.2.2.2.2.2; omega) (HLF.out.2.2.2.1.imp id (fun ⟨ad, e1, e2, e3⟩ => ⟨ad, e1, fun e => by have h1 := (hgl _ e).2; omega⟩))
            have hrb : wq.heap[nb]? = some (.cells #[.int .i64 fn, .int .i64 0, .int .i64 0, .int .i64 0, .slice Aq path.length cq, .int .i64 s0, .int .i64 s1, .int .i64 s2, .int .i64 s3, .int .i64 s4, .int .i64 s5, .int .i64 s6, .int .i64 s7, .int .i64 h0, .int .i64 h1, .int .i64 h2, .int .i64 h3] 27 (0, 0)) := hkq.blk HLW.out.2.1.node (fun e => by have h1 := (hgl _ e).2; have h2 := HS3.out; have h3 := HW4.out.2; omega)
            have hbq : Below w.heap.size w wq := HBW.out.trans (Keep.below (B := w.heap.size) hkq HBW.out.size (fun q hq e => by have h1 := (hgl _ e).1; have h2 := HBS.out; omega))
            have HBQ := Aside0.mk hbq
            have HL9 := Aside0.mk hlf
            have HP9 := Aside0.mk (Kd.C_below H0.out.1 hbq)
            have b0 := blk_cell hrb 0
            have b1 := blk_cell hrb 1
            have b2 := blk_cell hrb 2
            have b3 := blk_cell hrb 3
            have b4 := blk_cell hrb 4
            have b5 := blk_cell hrb 5
            have b6 := blk_cell hrb 6
            have b7 := blk_cell hrb 7
            have b8 := blk_cell hrb 8
            have b9 := blk_cell hrb 9
            have b10 := blk_cell hrb 10
            have b11 := blk_cell hrb 11
            have b12 := blk_cell hrb 12
            have b13 := blk_cell hrb 13
            have b14 := blk_cell hrb 14
            have b15 := blk_cell hrb 15
            have b16 := blk_cell hrb 16
            clear hj hjp hkq hgl hlf hrb hbq hxl HQ
            go_wp2_with fail
            refine (alike_any fn 0 0 0 path s0 s1 s2 s3 s4 s5 s6 s7 h0 h1 h2 h3 fb A9 c9 Aq cq _ HL9.out HP9.out H0.out.2.1 (by have := HN.out; omega)).mono ?_
            rintro e w5 ⟨rfl, hb5⟩
            have HB5 := Aside0.mk (HBQ.out.trans (hb5.mono HBQ.out.size))
            clear hb5 b0 b1 b2 b3 b4 b5 b6 b7 b8 b9 b10 b11 b12 b13 b14 b15 b16
            go_wp2_with fail
            refine (awake_any _).mono ?_
            rintro e w9 ⟨rfl, hb9⟩
            have HB9 := Aside0.mk ((HB5).out.trans (hb9.mono (HB5).out.size))
            clear hb9
            go_wp2_with fail
            go_ret
            exact ⟨rfl, HB9.out⟩
    · exact absurd hia (by have := HCS.out; omega)
end Go.Proofs.Ytcciejcpijlkfaa.H

set_option linter.unusedVariables false
namespace Go.Proofs.Ytcciejcpijlkfaa.H
open Go.RowKit Go.Hay Go.Proofs.YtcciejcpijlkfaaW.PrintWords Go.Proofs.YtcciejcpijlkfaaW.PrintLast Go.Proofs.YtcciejcpijlkfaaW.PrintMore
theorem new_walk (fn : Int) (Aq : Option Addr) (cq : Nat) (path : List Int) (Aa : Option Addr) (ca : Nat) (args : List Int) (h0 h1 h2 h3 : Int) (w : World) (hC : (Kd.int .i64).C w Aq path.length path) (hcq : path.length ≤ cq) (hA : (Kd.int .i64).C w Aa args.length args) (hca : args.length ≤ ca) :
    Calls Try.prog 4 #[.agg #[.int .i64 fn, .slice Aq path.length cq, .slice Aa args.length ca, .int .i64 h0, .int .i64 h1, .int .i64 h2, .int .i64 h3]] w fun e w' => e = .returned (.bool true) ∧ Below w.heap.size w w' := by
  by_cases h : args.length ≤ 8
  · exact new_walkA fn Aq cq path Aa ca args h0 h1 h2 h3 w hC hcq hA hca h
  · exact new_walkB fn Aq cq path Aa ca args h0 h1 h2 h3 w hC hcq hA hca (by omega)
end Go.Proofs.Ytcciejcpijlkfaa.H

set_option linter.unusedVariables false
set_option linter.unusedSimpArgs false
namespace Go.Hay
open Go.RowKit Go.Proofs.YtcciejcpijlkfaaW.PrintWords Go.Proofs.YtcciejcpijlkfaaW.PrintLast Go.Proofs.YtcciejcpijlkfaaW.PrintMore

def Opens {α : Type} (P : Program) (t : TypeId) (d : Kd α) (wf : α → Prop) : Prop :=
  ∀ {H : Type} {enc : TypeId × Value → H} {w : World} {base : Nat} {spare : Nat → Bool} {held : Bool} {fuel : Nat} {cs : List Value} {x : DataW H × List MemPlace},
    DataW.trod enc P w base spare held fuel t cs = some x → ∃ a, d.K w a cs ∧ wf a

theorem opens_int {P : Program} {t : TypeId} {k : IntKind} (ht : P.underlying t = some (.int k)) : Opens P t (Kd.int k) (fun n => (Lit.int k n).wf = true) := by
  intro H enc w base spare held fuel cs x h
  cases fuel with
  | zero => simp [DataW.trod] at h
  | succ fuel =>
    unfold DataW.trod at h
    simp only [ht] at h
    split at h <;> simp_all
    rename_i k' n _
    obtain ⟨⟨rfl, hw⟩, _⟩ := h
    exact ⟨n, rfl, hw⟩
theorem opens_slice {α : Type} {P : Program} {t e e' : TypeId} {d : Kd α} {wf : α → Prop} (ht : P.underlying t = some (.slice e)) (hc : P.cellsOf e = d.sz) (he : Opens P e d wf) : Opens P t (Kd.slice e' d) (fun l => ∀ a ∈ l, wf a) := by
  intro H enc w base spare held fuel cs x h
  rcases Deep.open_slice ht h with ⟨rfl, _⟩ | ⟨a, len, cap, m, n, D, Pl, rfl, hb, hl, hm, hmm, rfl, hx⟩
  · exact ⟨[], ⟨none, 0, rfl, Nat.le_refl _, Kd.C_nil d w⟩, by simp⟩
  · have hlm : len ≤ m := by rw [hmm]; split <;> omega
    have each : ∀ i, i < len → ∃ y : α × List Value, w.cells? base (a.add (i * P.cellsOf e)) (P.cellsOf e) = some y.2 ∧ d.K w y.1 y.2 ∧ wf y.1 := by
      intro i hi
      obtain ⟨cs', h1, h2⟩ := hx i (by omega)
      obtain ⟨y, h3, h4⟩ := he h2
      exact ⟨(y, cs'), h1, h3, h4⟩
    have : Nonempty (∀ i : Fin len, ∃ y : α × List Value, w.cells? base (a.add (i * P.cellsOf e)) (P.cellsOf e) = some y.2 ∧ d.K w y.1 y.2 ∧ wf y.1) := ⟨fun i => each i i.2⟩
    obtain ⟨g, hg⟩ := Classical.axiomOfChoice (fun i : Fin len => each i i.2)
    refine ⟨List.ofFn fun i => (g i).1, ⟨some a, cap, by simp, by simpa using hl, ?_⟩, ?_⟩
    · refine ⟨rfl, ?_, fun _ => ⟨a, rfl, fun j p hj => ?_⟩⟩
      · rw [List.length_ofFn]; unfold maxLen at hm; omega
      · obtain ⟨hlt, hj⟩ := List.getElem?_eq_some_iff.1 hj
        rw [List.length_ofFn] at hlt
        rw [List.getElem_ofFn] at hj
        subst hj
        obtain ⟨g1, g2, g3⟩ := hg ⟨j, hlt⟩
        obtain ⟨_, hcl, hcell⟩ := World.cells?_some g1
        refine ⟨_, d.K_len g2, g2, fun i u hu => ?_⟩
        have hi : i < P.cellsOf e := by
          have := (List.getElem?_eq_some_iff.1 hu).1
          omega
        have := hcell i hi
        rw [hu] at this
        rw [← this, hc]
        congr 1
        unfold Addr.add
        by_cases e1 : j * d.sz = 0 <;> by_cases e2 : i = 0 <;> simp [e1, e2] <;> omega
    · intro y hy
      obtain ⟨i, rfl⟩ := List.mem_ofFn.1 hy
      exact (hg i).2.2
def OpensAt {α : Type} (P : Program) (fs : List Field) (off : Nat) (d : Kd α) (wf : α → Prop) : Prop :=
  ∀ {H : Type} {enc : TypeId × Value → H} {w : World} {base : Nat} {spare : Nat → Bool} {held : Bool} {n : Nat} {cs : List Value} {xs : List (DataW H × List MemPlace)},
    xs.length = fs.length → (∀ (i : Nat) (f : Field), fs[i]? = some f → DataW.trod enc P w base spare held n f.type ((cs.drop f.offset).take (P.cellsOf f.type)) = xs[i]?) → ∃ a, d.K w a ((cs.drop off).take d.sz) ∧ wf a
theorem opens_last {α : Type} {P : Program} {f : Field} {off : Nat} {d : Kd α} {wf : α → Prop} (ho : f.offset = off) (hc : P.cellsOf f.type = d.sz) (he : Opens P f.type d wf) : OpensAt P [f] off d wf := by
  intro H enc w base spare held n cs xs hl h
  have h0 := h 0 f rfl
  rw [ho, hc, List.getElem?_eq_getElem (by rw [hl]; simp)] at h0
  exact he h0
theorem opens_cons {α β : Type} {P : Program} {f : Field} {fs : List Field} {off : Nat} {d : Kd α} {d2 : Kd β} {wf : α → Prop} {wf2 : β → Prop} (ho : f.offset = off) (hc : P.cellsOf f.type = d.sz) (he : Opens P f.type d wf)
    (hr : OpensAt P fs (off + d.sz) d2 wf2) : OpensAt P (f :: fs) off (Kd.pair d d2) (fun p => wf p.1 ∧ wf2 p.2) := by
  intro H enc w base spare held n cs xs hl h
  have h0 := h 0 f rfl
  rw [ho, hc, List.getElem?_eq_getElem (by rw [hl]; simp)] at h0
  obtain ⟨a, ha, hwa⟩ := he h0
  obtain ⟨b, hb, hwb⟩ := hr (n := n) (cs := cs) (xs := xs.drop 1) (by simp [hl]) (fun i g hg => by
    have := h (i + 1) g (by simpa using hg)
    rw [this]; simp [Nat.add_comm])
  refine ⟨(a, b), ⟨_, _, ?_, ha, hb⟩, hwa, hwb⟩
  show (cs.drop off).take (d.sz + d2.sz) = _
  rw [List.take_add, List.drop_drop]
theorem opens_struct {α : Type} {P : Program} {t : TypeId} {fs : Array Field} {d : Kd α} {wf : α → Prop} (ht : P.underlying t = some (.struct fs)) (hc : P.cellsOf t = d.sz) (h : OpensAt P fs.toList 0 d wf) : Opens P t d wf := by
  intro H enc w base spare held fuel cs x hx
  obtain ⟨xs, n, rfl, rfl, hlen, hxl, hall⟩ := DataW.trod_struct ht hx
  obtain ⟨a, ha, hwa⟩ := h (n := n) (cs := cs) (xs := xs) (by simpa using hxl) (fun i f hf => hall i f (by simpa using hf))
  refine ⟨a, ?_, hwa⟩
  rwa [List.drop_zero, List.take_of_length_le (by omega)] at ha
/-- An array. -/
theorem opens_array {α : Type} {P : Program} {t e : TypeId} {n : Nat} {d : Kd α} {wf : α → Prop} (hs : 0 < d.sz) (ht : P.underlying t = some (.array n e)) (hc : P.cellsOf e = d.sz) (hct : P.cellsOf t = n * d.sz) (he : Opens P e d wf) : Opens P t (Kd.arr n d hs) (fun l => l.length = n ∧ ∀ a ∈ l, wf a) := by
  intro H enc w base spare held fuel cs x h
  obtain ⟨xs, m, rfl, rfl, hlen, hxl, hall⟩ := DataW.trod_array ht h
  have each : ∀ i, i < n → ∃ y : α, d.K w y ((cs.drop (i * d.sz)).take d.sz) ∧ wf y := by
    intro i hi
    have h0 := hall i hi
    rw [List.getElem?_eq_getElem (by omega), hc] at h0
    exact he h0
  obtain ⟨g, hg⟩ := Classical.axiomOfChoice (fun i : Fin n => each i i.2)
  refine ⟨List.ofFn g, ⟨by simp, by rw [List.length_ofFn, hlen, hct], fun j p hj => ?_⟩, by simp, fun a ha => ?_⟩
  · obtain ⟨hlt, hj⟩ := List.getElem?_eq_some_iff.1 hj
    rw [List.length_ofFn] at hlt
    rw [List.getElem_ofFn] at hj
    subst hj
    exact (hg ⟨j, hlt⟩).1
  · obtain ⟨i, rfl⟩ := List.mem_ofFn.1 ha
    exact (hg i).2
end Go.Hay

set_option linter.unusedVariables false
set_option linter.unusedSimpArgs false
namespace Go.Proofs.Ytcciejcpijlkfaa.H
open Go.ChangeShapes Go.WideShapes Go.ChangeAt Go.RowKit Go.Hay Go.Proofs.YtcciejcpijlkfaaW.PrintWords Go.Proofs.YtcciejcpijlkfaaW.PrintLast Go.Proofs.YtcciejcpijlkfaaW.PrintMore
abbrev kI : Kd Int := Kd.int .i64
abbrev W64 (x : Int) : Prop := (Lit.int .i64 x).wf = true
theorem opI64 : Opens Try.prog 2 kI (fun x => (Lit.int .i64 x).wf = true) := opens_int Try.underlying2
theorem opInt : Opens Try.prog 3 kI (fun x => (Lit.int .i64 x).wf = true) := opens_int Try.underlying3
theorem opInts : Opens Try.prog 23 (Kd.slice 3 kI) (fun l => ∀ y ∈ l, (Lit.int .i64 y).wf = true) := opens_slice (e := 3) Try.underlying23 (by kernel_rfl) opInt
theorem opI4 : Opens Try.prog 25 (Kd.arr 4 kI (by decide)) (fun l => l.length = 4 ∧ ∀ y ∈ l, (Lit.int .i64 y).wf = true) := opens_array (by decide) Try.underlying25 (by kernel_rfl) (by kernel_rfl) opInt
end Go.Proofs.Ytcciejcpijlkfaa.H

namespace Go.Proofs.Ytcciejcpijlkfaa.frameNew
open Go.ChangeShapes Go.WideShapes Go.ChangeAt Go.RowKit Go.Hay Go.Proofs.Ytcciejcpijlkfaa.H Go.Proofs.YtcciejcpijlkfaaW.PrintWords Go.Proofs.YtcciejcpijlkfaaW.PrintLast Go.Proofs.YtcciejcpijlkfaaW.PrintMore
open Go.ChangeMaps (open_string shut_string)
set_option linter.unusedVariables false
set_option linter.unusedSimpArgs false
theorem own : ownKnob Try.prog.godebug = none := by kernel_rfl
theorem laidOut : laidOutB Try.prog = true := by kernel_rfl
abbrev FreshT := Int × List Int × List Int × List Int
def kFresh : Kd FreshT := Kd.pair kI (Kd.pair (Kd.slice 3 kI) (Kd.pair (Kd.slice 2 kI) (Kd.arr 4 kI (by decide))))
theorem kFresh_open {w : World} {x : FreshT} {cs : List Value} (h : kFresh.K w x cs) : x.2.2.2.length = 4 ∧ ∃ A c A2 c2, x.2.1.length ≤ c ∧ kI.C w A x.2.1.length x.2.1 ∧ x.2.2.1.length ≤ c2 ∧ kI.C w A2 x.2.2.1.length x.2.2.1 ∧ cs = [.int .i64 x.1, .slice A x.2.1.length c, .slice A2 x.2.2.1.length c2] ++ x.2.2.2.map (Value.int .i64) := by
  obtain ⟨_, _, rfl, rfl, ⟨_, _, rfl, ⟨A, c, rfl, l0, g0⟩, ⟨_, _, rfl, ⟨A2, c2, rfl, l1, g1⟩, hb⟩⟩⟩ := h
  obtain ⟨h3, h4⟩ := Kd.arr_cells hb
  refine ⟨h3, A, c, A2, c2, l0, g0, l1, g1, ?_⟩
  rw [h4]
  rfl
def wfFresh (x : FreshT) : Prop := W64 x.1 ∧ (∀ y ∈ x.2.1, W64 y) ∧ (∀ y ∈ x.2.2.1, W64 y) ∧ (x.2.2.2.length = 4 ∧ ∀ y ∈ x.2.2.2, W64 y)
theorem opI64s : Opens Try.prog 34 (Kd.slice 2 kI) (fun l => ∀ y ∈ l, W64 y) := opens_slice (e := 2) Try.underlying34 (by kernel_rfl) opI64
theorem opFresh : Opens Try.prog 57 kFresh wfFresh := opens_struct Try.underlying57 (by kernel_rfl) (opens_cons rfl (by kernel_rfl) opInt (opens_cons rfl (by kernel_rfl) opInts (opens_cons rfl (by kernel_rfl) opI64s (opens_last rfl (by kernel_rfl) opI4))))
set_option maxRecDepth 100000 in
theorem lifted (os : Os) (started : os.Started) (H : Type) (enc : TypeId × Value → H) :
    ReturnsInHanded {} Try.checked os 4 .any (Rows.frameNewSpec.pre6 enc Try.prog Try.f4 Rows.frameNewRow.domain false) (Rows.frameNewSpec.post enc Try.prog Try.f4 false true false false) := by
  refine returnsInHanded_of_change_sized (C := Try.checked) own started (by kernel_rfl) Try.func4
    (ChangeSpec.witness6 (enc := enc) (C := Try.checked) false ⟨#[], #[.agg #[.int .i64 0, .slice none 0 0, .slice none 0 0, .int .i64 0, .int .i64 0, .int .i64 0, .int .i64 0]], []⟩ 8 (by kernel_rfl) (by kernel_rfl) (by kernel_rfl) (by kernel_rfl)) ?_
  intro W base args ds gs before hval0 hW hcnd hsz0 _
  have hval : ∀ (j : Nat) t v, Try.f4.params[j]? = some t → args[j]? = some v → Value.okWide Try.prog W .any base t v := hval0
  have hW' := hW
  obtain ⟨p, q, hA0, hV, rfl, hfz, hnd⟩ := hW
  have hA : DataW.TrodAll enc Try.prog W 0 (fun _ => true) true Try.f4.params.toList args.toList ds p := hA0
  rw [Try.params4] at hA hval
  obtain ⟨v0, vs0, d0, ds0, p0, q0, hargs, rfl, rfl, h0, r0⟩ := trodAll_cons hA
  obtain ⟨rfl, rfl, rfl⟩ := trodAll_nil r0
  obtain rfl : args = #[v0] := by cases args; simp_all
  obtain ⟨rfl, rfl⟩ := trodVars_none hV
  obtain ⟨cs0, rfl, hz0⟩ := okWide_struct Try.underlying57 (hval 0 57 v0 rfl rfl)
  have k0 := h0
  have lt0 : ∀ x ∈ p0, x.block < W.heap.size := by obtain ⟨m, hm⟩ := k0; exact DataW.trod_lt m _ _ _ hm
  obtain ⟨fuel0, hf0⟩ := h0
  obtain ⟨x0, hK0, hwf0⟩ := opFresh hf0
  obtain ⟨hl4, A1, c1, A2, c2, hc1, hC1, hc2, hC2, hcs0⟩ := kFresh_open hK0
  obtain ⟨fn, path, xs, hands⟩ := x0
  obtain ⟨t0, t1, t2, t3, rfl⟩ := fourF (show hands.length = 4 from hl4)
  obtain rfl : cs0 = #[.int .i64 fn, .slice A1 path.length c1, .slice A2 xs.length c2, .int .i64 t0, .int .i64 t1, .int .i64 t2, .int .i64 t3] := by cases cs0; simpa [Value.cells] using hcs0
  clear hA0 hval0 hsz0
  refine (new_walk fn A1 c1 path A2 c2 xs t0 t1 t2 t3 W hC1 hc1 hC2 hc2).mono fun e W' hpost => ?_
  obtain ⟨he, bel⟩ := hpost
  subst he
  exact ⟨_, rfl, _, _, _, [], _, [], hW', trodAll_mk1 (shut_bool Try.underlying4 _), (trodAll_cons_mk (Below.trod laidOut (by kernel_rfl) (of_decide_eq_true (by kernel_rfl)) k0 bel lt0) trodAll_mk0), rfl, bel.frame _, fun h => by cases h⟩
theorem over : Rows.frameNewRow.holds Try.pinned (OpenSpec.ofChange Rows.frameNewSpec) :=
  OpenClaim.holds_of_wide 4 Try.f4 rfl rfl rfl rfl rfl rfl rfl ⟨rfl, rfl, rfl, rfl, rfl⟩ rfl rfl rfl rfl rfl (by kernel_rfl) Try.func4 (by kernel_rfl)
    (of_decide_eq_true (by kernel_rfl)) (by unfold Func.isWrapper; first | (rw [if_pos (by decide +kernel)]; kernel_rfl) | (rw [if_neg (by decide +kernel)]; exact ⟨rfl, rfl⟩))
    (fun os started H enc _ => lifted os started H enc)
theorem said : Rows.FrameNewSaid := over
end Go.Proofs.Ytcciejcpijlkfaa.frameNew

namespace Go.Proofs.Ytcciejcpijlkfaa
open Go.RowKit
theorem frameNew_holds : Rows.FrameNewSaid := frameNew.said
#print axioms frameNew_holds
end Go.Proofs.Ytcciejcpijlkfaa

