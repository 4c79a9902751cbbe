/- Tasks that are begun have paths one behind the other, and the registers as arguments; at the depth none is begun: for every input. No condition. -/
import Derived.Test.YtcciejcpijlkfaaZFrameBegins15
import Derived.OpenShut
import Derived.Deep.Slices
import Derived.ChangeArms
import Derived.WideShapes
import Derived.WalkKit
import Derived.ProofKit
import Derived.ShutString
import Derived.ChangeOld
import Derived.Below
import Derived.SizedLaws
import Derived.Test.YtcciejcpijlkfaaRows
set_option linter.unusedVariables false
set_option linter.unusedSimpArgs false
namespace Go.Proofs.Ytcciejcpijlkfaa.H
open Go.RowKit Go.Hay Go.Proofs.YtcciejcpijlkfaaW.PrintWords Go.Proofs.YtcciejcpijlkfaaW.PrintLast Go.Proofs.YtcciejcpijlkfaaW.PrintMore
set_option maxRecDepth 100000 in
set_option maxHeartbeats 8000000 in
theorem begins_walkA (a0 a1 a2 a3 many deep : Int) (w : World) (hmy : 0 ≤ many ∧ many < 256) (hdp : 0 ≤ deep ∧ deep < 256) :
    Calls Try.prog 7 #[.agg #[.int .i64 a0, .int .i64 a1, .int .i64 a2, .int .i64 a3, .int .u8 many, .int .u8 deep, .bool false]] w fun e w' => e = .returned (.bool true) ∧ Below w.heap.size w w' := by
  obtain ⟨zb, hzb⟩ : ∃ zb, zb = w.heap.size := ⟨_, rfl⟩
  obtain ⟨d, hd⟩ : ∃ d : Nat, (d : Int) = deep % 5 := ⟨(deep % 5).toNat, by omega⟩
  obtain ⟨n, hn⟩ : ∃ n : Nat, (n : Int) = many % 10 := ⟨(many % 10).toNat, by omega⟩
  have hd5 : d < 5 := by omega
  have hn10 : n < 10 := by omega
  have hw1 : IntKind.i64.wrap deep = deep := IntWalk.i64_in _ (by omega)
  have hw2 : IntKind.i64.wrap many = many := IntWalk.i64_in _ (by omega)
  have hd1 : Int.tmod deep 5 = (d : Int) := by rw [Int.tmod_eq_emod_of_nonneg hdp.1]; exact hd.symm
  have hn1 : Int.tmod many 10 = (n : Int) := by rw [Int.tmod_eq_emod_of_nonneg hmy.1]; exact hn.symm
  have hw3 : IntKind.i64.wrap (d : Int) = (d : Int) := IntWalk.i64_in _ (by omega)
  have hw4 : IntKind.i64.wrap (n : Int) = (n : Int) := IntWalk.i64_in _ (by omega)
  have HDN := Aside0.mk (And.intro hd5 hn10)
  have hpe := peq_some
  clear hd hn hdp hmy
  obtain ⟨W1, hW1⟩ : ∃ W1, W1 = w.alloc (.cells #[.int .i64 a0, .int .i64 a1, .int .i64 a2, .int .i64 a3, .int .u8 many, .int .u8 deep, .bool false] 72) := ⟨_, rfl⟩
  have hb1 : Below w.heap.size w W1 := by rw [hW1]; exact (Below.refl w.heap.size w).alloc (Nat.le_refl _) _
  have hx1 : W1.heap[zb]? = some (.cells #[.int .i64 a0, .int .i64 a1, .int .i64 a2, .int .i64 a3, .int .u8 many, .int .u8 deep, .bool false] 72 (0, 0)) := by rw [hW1, hzb]; exact alloc_blk w _
  have H0 := Aside0.mk (And.intro hb1 hx1)
  have HW1 := Aside0.mk (And.intro hW1 hzb)
  have HQ5 := Aside0.mk (And.intro hd5 hn10)
  clear hb1 hx1 hW1 hzb hd5 hn10
  go_enter Try.func7, Try.ntmps7
  go_upto_region 1 with (fail)
  rw [← HW1.out.1, ← HW1.out.2]
  refine wp_region_T (fun w' => Below W1.heap.size W1 w') [] (.takes [0, 1, 2, 3, 4, 5, 6, 7] (.op 8 (.op 9 (.op 10 (.op 11 (.op 12 .done)))))) (by kernel_rfl) (by kernel_rfl) (by kernel_rfl) (by kernel_rfl) (panic_via (P := Try.prog) (fn := Try.f7) (R := fun e w' => e = .returned (.bool true) ∧ Below w.heap.size w w') (fun _ _ _ => rfl)) ?_
  obtain ⟨wd, hwd⟩ : ∃ wd, wd = W1.drew := ⟨_, rfl⟩
  rw [← hwd]
  have hs : Below W1.heap.size W1 wd := by rw [hwd]; exact (Below.refl _ _).drew
  clear hwd
  simp only [Turns.takes]
  repeat (
    (first
      | (refine runT_take (v := ?_) (by rfl) (by rfl) (fun w' hS => ?_) hs ?_
         rotate_left
         · (have hX := (hS.block _ (blk_lt H0.out.2)).trans H0.out.2; have d0 := blk_cell hX 0; have d1 := blk_cell hX 1; have d2 := blk_cell hX 2; have d3 := blk_cell hX 3; have d4 := blk_cell hX 4; have d5 := blk_cell hX 5; have d6 := blk_cell hX 6; go_simp; exact rfl))
      | refine runT_skip (by rfl) (by rfl) hs ?_)
    (try simp only [Act.put, List.setIfInBounds_toArray, List.set_cons_zero, List.set_cons_succ]))
  refine runT_op (by rfl) (by rfl) (fun K hK => ?_)
  go_simp
  obtain ⟨yb, hyb⟩ : ∃ yb, yb = wd.heap.size := ⟨_, rfl⟩
  rw [← hyb]
  obtain ⟨W5, hW5⟩ : ∃ W5, W5 = wd.alloc (.cells #[.int .i64 0, .int .i64 0, .int .i64 0, .int .i64 0] 70) := ⟨_, rfl⟩
  rw [← hW5]
  have hb5 : Below wd.heap.size wd W5 := by rw [hW5]; exact (Below.refl _ _).alloc (Nat.le_refl _) _
  have hx5 : W5.heap[yb]? = some (.cells #[.int .i64 0, .int .i64 0, .int .i64 0, .int .i64 0] 70 (0, 0)) := by rw [hW5, hyb]; exact alloc_blk wd _
  have hyn : W1.heap.size ≤ yb := by rw [hyb]; exact hs.size
  have hs5 := hs.trans (hb5.mono hs.size)
  refine hK _ _ hs5 ?_
  clear hK K hs hb5 hW5 hyb
  (try simp only [Act.put, List.setIfInBounds_toArray, List.set_cons_zero, List.set_cons_succ])
  have q0 := blk_frozen hx5 0
  have q1 := blk_frozen hx5 1
  have q2 := blk_frozen hx5 2
  have q3 := blk_frozen hx5 3
  have p0 := blk_cell hx5 0
  have p1 := blk_cell hx5 1
  have p2 := blk_cell hx5 2
  have p3 := blk_cell hx5 3
  refine runT_op (by rfl) (by rfl) (fun K hK => ?_)
  go_simp
  obtain ⟨W7, hW7⟩ : ∃ W7, W7 = (((W5.setCell ⟨yb, 0, none⟩ (.int .i64 a0)).setCell ⟨yb, 1, none⟩ (.int .i64 a1)).setCell ⟨yb, 2, none⟩ (.int .i64 a2)).setCell ⟨yb, 3, none⟩ (.int .i64 a3) := ⟨_, rfl⟩
  have hx7 : W7.heap[yb]? = some (.cells #[.int .i64 a0, .int .i64 a1, .int .i64 a2, .int .i64 a3] 70 (0, 0)) := by
    rw [hW7]
    exact blk_set (blk_set (blk_set (blk_set hx5 0 (.int .i64 a0)) 1 (.int .i64 a1)) 2 (.int .i64 a2)) 3 (.int .i64 a3)
  have hb7 : Below W1.heap.size W1 W7 := by
    rw [hW7]
    exact (((hs5.setCell (p := ⟨yb, 0, none⟩) hyn _).setCell (p := ⟨yb, 1, none⟩) hyn _).setCell (p := ⟨yb, 2, none⟩) hyn _).setCell (p := ⟨yb, 3, none⟩) hyn _
  rw [← hW7]
  refine hK _ _ hb7 ?_
  have HB7 := Aside0.mk (H0.out.1.trans (hb7.mono H0.out.1.size))
  have HX7 := Aside0.mk hx7
  clear hK K hs5 hW7 hx5 hyn q0 q1 q2 q3 p0 p1 p2 p3 hx7
  (try simp only [Act.put, List.setIfInBounds_toArray, List.set_cons_zero, List.set_cons_succ])
  refine runT_op (by rfl) (by rfl) (fun K hK => ?_)
  go_simp
  refine hK _ _ hb7 ?_
  clear hK K
  (try simp only [Act.put, List.setIfInBounds_toArray, List.set_cons_zero, List.set_cons_succ])
  refine runT_op (by rfl) (by rfl) (fun K hK => ?_)
  go_simp
  refine hK _ _ hb7 ?_
  clear hK K
  (try simp only [Act.put, List.setIfInBounds_toArray, List.set_cons_zero, List.set_cons_succ])
  refine runT_op (by rfl) (by rfl) (fun K hK => ?_)
  go_simp
  refine hK _ _ hb7 ?_
  clear hK K hb7
  (try simp only [Act.put, List.setIfInBounds_toArray, List.set_cons_zero, List.set_cons_succ])
  refine runT_done ?_
  obtain ⟨W, hW⟩ : ∃ W, W = ((W7.alloc (.cells #[.int .i64 11, .int .i64 2, .int .i64 1, .int .i64 1, .int .i64 0, .int .i64 9, .int .i64 0, .int .i64 0, .int .i64 0, .int .i64 0] 65)).alloc (.cells #[.int .i64 17, .int .i64 0, .int .i64 0, .int .i64 0, .int .i64 0] 65)).alloc (.cells #[.int .i64 4, .slice (some ⟨W7.heap.size, 0, none⟩) 2 2, .int .i64 3, .slice (some ⟨W7.heap.size + 1, 0, none⟩) 1 1] 68) := ⟨_, rfl⟩
  obtain ⟨hbP, hP, hsz⟩ := prog2N W7 ⟨4, [⟨11, 2, 1, 1, 0⟩, ⟨9, 0, 0, 0, 0⟩]⟩ ⟨3, [⟨17, 0, 0, 0, 0⟩]⟩ (by decide) (by decide) (W := W) (hW.trans rfl)
  obtain ⟨fA, hfA⟩ : ∃ fA, fA = W7.heap.size + 1 + 1 := ⟨_, rfl⟩
  rw [← hfA] at hP
  have HB8 := Aside0.mk (HB7.out.trans (hbP.mono HB7.out.size))
  have hx8 := (hbP.block _ (blk_lt HX7.out)).trans HX7.out
  have HX8 := Aside0.mk hx8
  have HP := Aside0.mk (show k68.C W (some ⟨fA, 0, none⟩) (bgP 11).length (bgP 11) from hP)
  have HW := Aside0.mk (And.intro hW hfA)
  clear hW hbP hP hsz hfA hx8 HX7
  go_upto_region 7 with (fail)
  rw [← HW.out.1, ← HW.out.2]
  have hsl4 := slice_four yb
  refine wp_region_T (fun w' => Below W.heap.size W w') [] (.takes [0, 2, 3] (.op 1 (.op 4 (.op 5 .done)))) (by kernel_rfl) (by kernel_rfl) (by kernel_rfl) (by kernel_rfl) (panic_via (P := Try.prog) (fn := Try.f7) (R := fun e w' => e = .returned (.bool true) ∧ Below w.heap.size w w') (fun _ _ _ => rfl)) ?_
  obtain ⟨wd, hwd⟩ : ∃ wd, wd = W.drew := ⟨_, rfl⟩
  rw [← hwd]
  have hs : Below W.heap.size W wd := by rw [hwd]; exact (Below.refl _ _).drew
  clear hwd
  simp only [Turns.takes]
  repeat (
    (first
      | (refine runT_take (v := ?_) (by rfl) (by rfl) (fun w' hS => ?_) hs ?_
         rotate_left
         · (skip; go_simp; exact rfl))
      | refine runT_skip (by rfl) (by rfl) hs ?_)
    (try simp only [Act.put, List.setIfInBounds_toArray, List.set_cons_zero, List.set_cons_succ]))
  refine runT_op (by rfl) (by rfl) (fun K hK => ?_)
  refine wp_make_ints rfl rfl (.tmp 37) (.tmp 37) rfl d rfl rfl (by have := HDN.out.1; omega) ?_
  intro v1 w1 hR hb1
  have hs1 := hs.trans (hb1.mono hs.size)
  refine hK _ _ hs1 ?_
  obtain ⟨A1, c1, rfl⟩ := Kd.R_slice hR
  have hq := Kd.R_reads' hR
  have hnil : A1 = none → c1 = 0 := fun e => by
    subst e
    obtain ⟨_, inner, ⟨h1, h2⟩, h3, h4⟩ := hR
    rcases h2 with h2 | ⟨g, cap, cur, e, _⟩
    · injection h2.1
    · cases e
  have hx9 := (hs1.block _ (blk_lt HX8.out)).trans HX8.out
  have HX9 := Aside0.mk hx9
  have HB9 := Aside0.mk (HB8.out.trans (hs1.mono HB8.out.size))
  have HPP := Aside0.mk (Kd.C_below HP.out hs1)
  have HQ1 := Aside0.mk (And.intro hq.2.2 (And.intro hq.2.1 (And.intro hnil hs1)))
  clear hK K hR hb1 hq hnil hx9 hs
  (try simp only [Act.put, List.setIfInBounds_toArray, List.set_cons_zero, List.set_cons_succ])
  refine runT_op (by rfl) (by rfl) (fun K hK => ?_)
  go_simp
  obtain ⟨path, hpath⟩ : ∃ path : List Int, path = List.replicate d 0 := ⟨_, rfl⟩
  have hpl : path.length = d := by rw [hpath, List.length_replicate]
  rw [← hpath] at HQ1
  have hnew := New_any 0 A1 c1 path (some ⟨yb, 0, none⟩) 4 [a0, a1, a2, a3] 0 0 0 0 w1 HQ1.out.1 HQ1.out.2.1 HQ1.out.2.2.1 (by have := HDN.out.1; omega) (four_C HX9.out) (Nat.le_refl _)
  rw [hpl] at hnew
  refine hnew.mono ?_
  clear hnew
  intro e W3 hp
  obtain ⟨fb, Ap, cp, rfl, hfb, hL, hb3⟩ := hp.live (by show (-9223372036854775808 : Int) ≤ 0; decide)
  have hV : BgS w fb (bgF path a0 a1 a2 a3 0 0 0) Ap cp (some ⟨fA, 0, none⟩) (bgP 11) yb a0 a1 a2 a3 W3 :=
    ⟨HB9.out.trans (hb3.mono HB9.out.size), ProgK.old HPP.out hb3 hfb, (hb3.block _ (blk_lt HX9.out)).trans HX9.out, by have := blk_lt HX9.out; omega, Nat.le_trans HB9.out.size hfb, hL⟩
  have HV := Aside0.mk hV
  have hs3 := HQ1.out.2.2.2.trans (hb3.mono HQ1.out.2.2.2.size)
  refine hK _ _ hs3 ?_
  clear hK K hp hfb hL hb3 hV
  (try simp only [Act.put, List.setIfInBounds_toArray, List.set_cons_zero, List.set_cons_succ])
  refine runT_op (by rfl) (by rfl) (fun K hK => ?_)
  go_simp
  refine hK _ _ hs3 ?_
  clear hK K hs3
  refine runT_done ?_
  have HPL := Aside0.mk (And.intro hpl hpath)
  clear hpl hpath hsl4
  go_wp2_with fail
  go_loopw [11] (fun v11 wr => ∃ i : Nat, v11 = .int .i64 i ∧ (i ≤ n ∧ (3 ≤ d → i = 0)) ∧ Aside0 (BgS w fb (bgF path a0 a1 a2 a3 0 ((2 * i : Nat) : Int) i) Ap cp (some ⟨fA, 0, none⟩) (bgP 11) yb a0 a1 a2 a3 wr)) (fun v11 _ => n - (intOf v11).toNat)
  case atStart => exact ⟨0, rfl, ⟨Nat.zero_le _, fun _ => rfl⟩, HV⟩
  case round =>
    clear HV
    obtain ⟨i, rfl, ⟨hi, hi0⟩, HV⟩ := hrel
    by_cases hin : i < n
    · have hlt := lt_trueF hin
      have HIN := Aside0.mk hin
      have HI := Aside0.mk (And.intro hi hi0)
      have hi10 : i < 10 := Nat.lt_trans hin HDN.out.2
      have HI10 := Aside0.mk hi10
      clear hi hi0 hin hi10
      go_wp2_with fail
      refine (exec_any (b := 99) (d := 3) HV.out.pg (Nat.le_refl _) HV.out.lf).mono ?_
      by_cases hd3 : d < 3
      · have HD3 := Aside0.mk hd3
        rw [bg_1 (op := 11) (by decide) path a0 a1 a2 a3 _ i (Nat.lt_trans HI10.out (by decide)) (two_lt HI10.out) (len_lt HPL.out.1 hd3)]
        rintro e w3 ⟨Aa, ca, Ab, cb, rfl, hE, hL, hk⟩
        have HV := Aside0.mk (HV.out.next hL hk)
        obtain ⟨pn, hpn⟩ : ∃ pn, pn = (path ++ [(i : Int)]).length := ⟨_, rfl⟩
        have hpn2 : pn = d + 1 := by rw [hpn, List.length_append, HPL.out.1]; rfl
        unfold efV
        dsimp only
        rw [← hpn, hpn2]
        rw [show ([a1, a2, a3] : List Int).length = 3 from rfl]
        simp only [show ((11 : Int) = 11) = True from eq_self 11, show ((13 : Int) = 11) = False from by decide, if_true, if_false]
        obtain ⟨eb, heb⟩ : ∃ eb, eb = w3.heap.size := ⟨_, rfl⟩
        obtain ⟨W4, hW4⟩ : ∃ W4, W4 = w3.alloc (.cells #[.int .i64 3, .int .i64 0, .int .i64 2, .int .i64 1, .int .i64 0, .int .i64 0, .slice Aa 3 ca, .slice Ab (d + 1) cb] 36) := ⟨_, rfl⟩
        have hb4 : Below w3.heap.size w3 W4 := by rw [hW4]; exact (Below.refl _ _).alloc (Nat.le_refl _) _
        have hx4 : W4.heap[eb]? = some (.cells #[.int .i64 3, .int .i64 0, .int .i64 2, .int .i64 1, .int .i64 0, .int .i64 0, .slice Aa 3 ca, .slice Ab (d + 1) cb] 36 (0, 0)) := by rw [hW4, heb]; exact alloc_blk w3 _
        have hE4 := hE.below hb4
        have hpC : (Kd.int .i64).C W4 Ab (d + 1) (path ++ [(i : Int)]) := by have := hE4.path; rw [← hpn2, hpn]; exact this
        have haC : (Kd.int .i64).C W4 Aa 3 [a1, a2, a3] := hE4.args
        have hac : 3 ≤ ca := hE4.argsC
        have HW4 := Aside0.mk (And.intro hW4 heb)
        have HV := Aside0.mk (HV.out.below2 hb4)
        have HA := Aside0.mk (And.intro haC hac)
        obtain ⟨ad, hAb, p0⟩ := at_path HPL.out.1 hpC
        subst hAb
        have HXE := Aside0.mk hx4
        have q0 := blk_cell hx4 0
        have q2 := blk_cell hx4 2
        have q3 := blk_cell hx4 3
        have q4 := blk_cell hx4 4
        have q6 := blk_cell hx4 6
        have q7 := blk_cell hx4 7
        have hd3f := bgd_ge hd3
        have hd3g := bgd_le hd3
        have hwd := bgd_w (Nat.lt_trans HDN.out.1 (show 5 < 100 by decide))
        have hwd2 := bgd_w2 (Nat.lt_trans HDN.out.1 (show 5 < 100 by decide))
        have hdl := bgd_l d
        have hdl2 := bgd_l2 d
        have hdl0 := bgd_0 d
        have hsl3 := slice_three yb
        clear hE hL hk hpn hpn2 hW4 heb hb4 hx4 hE4 hpC haC hac hlt hd3
        go_upto_region 18 with (fail)
        rw [← HW4.out.1, ← HW4.out.2]
        go_quiet (first | (go_at_call 19; refine (num_is Aa ca [a1, a2, a3] (some ⟨yb, 1, none⟩) 3 [a1, a2, a3] _ (r := true) (by simp) ?_ HA.out.2 ?_ (Nat.le_refl _) (show 3 ≤ 9223372036854775807 by decide)).mono ?_; (repeat (first | exact HA.out.1 | exact HV.out.three | (with_reducible refine Kd.C_drewN ?_ _) | (with_reducible refine Kd.C_drew ?_))); rintro e w' ⟨rfl, ⟨nd, rfl⟩⟩; (try first | exact ⟨rfl, _, World.drewN_drewN _ _ _⟩ | exact ⟨rfl, _, Eq.trans (World.drewN_drewN _ _ _) (congrArg (World.drewN _) (Nat.add_assoc _ _ _))⟩)))
        go_wp2_with fail
        have HV := Aside0.mk (HV.out.below2 (pw_below_drewN (Below.refl W4.heap.size W4) nq))
        clear q0 q2 q3 q4 q6 q7 p0 hd3f hd3g hwd hwd2 hdl hdl2 hdl0 hsl3
        refine (exec_any (b := 99) (d := 3) HV.out.pg (Nat.le_refl _) HV.out.lf).mono ?_
        rw [bg_2 (op := 11) (by decide) path a0 a1 a2 a3 _ (i + 1) (two_lt1 HI10.out)]
        rintro e w5 ⟨Ac, cc, Ad, cd, rfl, hE, hL, hk⟩
        have HV := Aside0.mk (HV.out.next hL hk)
        unfold efV
        dsimp only [efGoes, List.length_nil]
        obtain ⟨eb2, heb⟩ : ∃ eb2, eb2 = w5.heap.size := ⟨_, rfl⟩
        obtain ⟨W6, hW6⟩ : ∃ W6, W6 = w5.alloc (.cells #[.int .i64 1, .int .i64 0, .int .i64 0, .int .i64 0, .int .i64 0, .int .i64 0, .slice Ac 0 cc, .slice Ad 0 cd] 36) := ⟨_, rfl⟩
        have hb6 : Below w5.heap.size w5 W6 := by rw [hW6]; exact (Below.refl _ _).alloc (Nat.le_refl _) _
        have hx6 : W6.heap[eb2]? = some (.cells #[.int .i64 1, .int .i64 0, .int .i64 0, .int .i64 0, .int .i64 0, .int .i64 0, .slice Ac 0 cc, .slice Ad 0 cd] 36 (0, 0)) := by rw [hW6, heb]; exact alloc_blk w5 _
        have HW6 := Aside0.mk (And.intro hW6 heb)
        have hV6 := HV.out.below2 hb6
        have hkd : W6.cell? ⟨fb, 3, none⟩ = some (.int .i64 ((i + 1 : Nat) : Int)) := hV6.lf.fr.fix.2.2.2.1
        have HV := Aside0.mk hV6
        have q0 := blk_cell hx6 0
        have hw8 := bgd_w (Nat.lt_trans HI10.out (show 10 < 100 by decide))
        have hw9 := bgd_w2 (Nat.lt_trans HI10.out (show 10 < 100 by decide))
        clear hE hL hk hW6 heb hb6 hx6 hV6
        go_upto_region 21 with (fail)
        rw [← HW6.out.1, ← HW6.out.2]
        go_wp2_with fail
        go_roundw
        case rel =>
          have h9 := HV.out
          rw [two_next] at h9
          exact ⟨i + 1, by go_num, ⟨HIN.out, fun h => absurd h (by have h3 := HD3.out; omega)⟩, ⟨h9⟩⟩
        case measure => exact up_ltF HIN.out
      · rw [bg_3 (op := 11) (by decide) path a0 a1 a2 a3 _ i (two_lt HI10.out) (len_ge HPL.out.1 hd3)]
        rintro e w3 ⟨Aa, ca, Ab, cb, rfl, hE, hL, hk⟩
        have hi00 := HI.out.2 (by omega)
        subst hi00
        have HV := Aside0.mk (HV.out.next hL hk)
        unfold efV
        dsimp only [efFails, List.length_nil]
        obtain ⟨eb, heb⟩ : ∃ eb, eb = w3.heap.size := ⟨_, rfl⟩
        obtain ⟨W4, hW4⟩ : ∃ W4, W4 = w3.alloc (.cells #[.int .i64 8, .int .i64 0, .int .i64 0, .int .i64 0, .int .i64 0, .int .i64 4, .slice Aa 0 ca, .slice Ab 0 cb] 36) := ⟨_, rfl⟩
        have hb4 : Below w3.heap.size w3 W4 := by rw [hW4]; exact (Below.refl _ _).alloc (Nat.le_refl _) _
        have hx4 : W4.heap[eb]? = some (.cells #[.int .i64 8, .int .i64 0, .int .i64 0, .int .i64 0, .int .i64 0, .int .i64 4, .slice Aa 0 ca, .slice Ab 0 cb] 36 (0, 0)) := by rw [hW4, heb]; exact alloc_blk w3 _
        have HW4 := Aside0.mk (And.intro hW4 heb)
        have hV4 := HV.out.below2 hb4
        have hkd : W4.cell? ⟨fb, 3, none⟩ = some (.int .i64 ((0 : Nat) : Int)) := hV4.lf.fr.fix.2.2.2.1
        have HV := Aside0.mk hV4
        have q0 := blk_cell hx4 0
        have q5 := blk_cell hx4 5
        have hd3f := bgd_ge2 hd3
        have hd3g := bgd_le2 hd3
        clear hE hL hk hW4 heb hb4 hx4 hV4 hlt hd3
        go_upto_region 14 with (fail)
        rw [← HW4.out.1, ← HW4.out.2]
        go_wp2_with fail
        have HB9 := Aside0.mk HV.out.below
        refine (awake_any _).mono ?_
        rintro e w9 ⟨rfl, hb9⟩
        have HB9 := Aside0.mk ((HB9).out.trans (hb9.mono (HB9).out.size))
        clear hb9
        go_wp2_with fail
        go_ret
        exact ⟨rfl, HB9.out⟩
    · obtain rfl : i = n := Nat.le_antisymm hi (Nat.le_of_not_lt hin)
      clear hi hi0 hin
      go_wp2_with fail
      have HB9 := Aside0.mk HV.out.below
      refine (awake_any _).mono ?_
      rintro e w9 ⟨rfl, hb9⟩
      have HB9 := Aside0.mk ((HB9).out.trans (hb9.mono (HB9).out.size))
      clear hb9
      go_wp2_with fail
      go_ret
      exact ⟨rfl, HB9.out⟩
end Go.Proofs.Ytcciejcpijlkfaa.H

set_option linter.unusedVariables false
set_option linter.unusedSimpArgs false
namespace Go.Proofs.Ytcciejcpijlkfaa.H
open Go.RowKit Go.Hay Go.Proofs.YtcciejcpijlkfaaW.PrintWords Go.Proofs.YtcciejcpijlkfaaW.PrintLast Go.Proofs.YtcciejcpijlkfaaW.PrintMore
set_option maxRecDepth 100000 in
set_option maxHeartbeats 8000000 in
theorem begins_walkB (a0 a1 a2 a3 many deep : Int) (w : World) (hmy : 0 ≤ many ∧ many < 256) (hdp : 0 ≤ deep ∧ deep < 256) :
    Calls Try.prog 7 #[.agg #[.int .i64 a0, .int .i64 a1, .int .i64 a2, .int .i64 a3, .int .u8 many, .int .u8 deep, .bool true]] w fun e w' => e = .returned (.bool true) ∧ Below w.heap.size w w' := by
  obtain ⟨zb, hzb⟩ : ∃ zb, zb = w.heap.size := ⟨_, rfl⟩
  obtain ⟨d, hd⟩ : ∃ d : Nat, (d : Int) = deep % 5 := ⟨(deep % 5).toNat, by omega⟩
  obtain ⟨n, hn⟩ : ∃ n : Nat, (n : Int) = many % 10 := ⟨(many % 10).toNat, by omega⟩
  have hd5 : d < 5 := by omega
  have hn10 : n < 10 := by omega
  have hw1 : IntKind.i64.wrap deep = deep := IntWalk.i64_in _ (by omega)
  have hw2 : IntKind.i64.wrap many = many := IntWalk.i64_in _ (by omega)
  have hd1 : Int.tmod deep 5 = (d : Int) := by rw [Int.tmod_eq_emod_of_nonneg hdp.1]; exact hd.symm
  have hn1 : Int.tmod many 10 = (n : Int) := by rw [Int.tmod_eq_emod_of_nonneg hmy.1]; exact hn.symm
  have hw3 : IntKind.i64.wrap (d : Int) = (d : Int) := IntWalk.i64_in _ (by omega)
  have hw4 : IntKind.i64.wrap (n : Int) = (n : Int) := IntWalk.i64_in _ (by omega)
  have HDN := Aside0.mk (And.intro hd5 hn10)
  have hpe := peq_some
  clear hd hn hdp hmy
  obtain ⟨W1, hW1⟩ : ∃ W1, W1 = w.alloc (.cells #[.int .i64 a0, .int .i64 a1, .int .i64 a2, .int .i64 a3, .int .u8 many, .int .u8 deep, .bool true] 72) := ⟨_, rfl⟩
  have hb1 : Below w.heap.size w W1 := by rw [hW1]; exact (Below.refl w.heap.size w).alloc (Nat.le_refl _) _
  have hx1 : W1.heap[zb]? = some (.cells #[.int .i64 a0, .int .i64 a1, .int .i64 a2, .int .i64 a3, .int .u8 many, .int .u8 deep, .bool true] 72 (0, 0)) := by rw [hW1, hzb]; exact alloc_blk w _
  have H0 := Aside0.mk (And.intro hb1 hx1)
  have HW1 := Aside0.mk (And.intro hW1 hzb)
  have HQ5 := Aside0.mk (And.intro hd5 hn10)
  clear hb1 hx1 hW1 hzb hd5 hn10
  go_enter Try.func7, Try.ntmps7
  go_upto_region 1 with (fail)
  rw [← HW1.out.1, ← HW1.out.2]
  refine wp_region_T (fun w' => Below W1.heap.size W1 w') [] (.takes [0, 1, 2, 3, 4, 5, 6, 7] (.op 8 (.op 9 (.op 10 (.op 11 (.op 12 .done)))))) (by kernel_rfl) (by kernel_rfl) (by kernel_rfl) (by kernel_rfl) (panic_via (P := Try.prog) (fn := Try.f7) (R := fun e w' => e = .returned (.bool true) ∧ Below w.heap.size w w') (fun _ _ _ => rfl)) ?_
  obtain ⟨wd, hwd⟩ : ∃ wd, wd = W1.drew := ⟨_, rfl⟩
  rw [← hwd]
  have hs : Below W1.heap.size W1 wd := by rw [hwd]; exact (Below.refl _ _).drew
  clear hwd
  simp only [Turns.takes]
  repeat (
    (first
      | (refine runT_take (v := ?_) (by rfl) (by rfl) (fun w' hS => ?_) hs ?_
         rotate_left
         · (have hX := (hS.block _ (blk_lt H0.out.2)).trans H0.out.2; have d0 := blk_cell hX 0; have d1 := blk_cell hX 1; have d2 := blk_cell hX 2; have d3 := blk_cell hX 3; have d4 := blk_cell hX 4; have d5 := blk_cell hX 5; have d6 := blk_cell hX 6; go_simp; exact rfl))
      | refine runT_skip (by rfl) (by rfl) hs ?_)
    (try simp only [Act.put, List.setIfInBounds_toArray, List.set_cons_zero, List.set_cons_succ]))
  refine runT_op (by rfl) (by rfl) (fun K hK => ?_)
  go_simp
  obtain ⟨yb, hyb⟩ : ∃ yb, yb = wd.heap.size := ⟨_, rfl⟩
  rw [← hyb]
  obtain ⟨W5, hW5⟩ : ∃ W5, W5 = wd.alloc (.cells #[.int .i64 0, .int .i64 0, .int .i64 0, .int .i64 0] 70) := ⟨_, rfl⟩
  rw [← hW5]
  have hb5 : Below wd.heap.size wd W5 := by rw [hW5]; exact (Below.refl _ _).alloc (Nat.le_refl _) _
  have hx5 : W5.heap[yb]? = some (.cells #[.int .i64 0, .int .i64 0, .int .i64 0, .int .i64 0] 70 (0, 0)) := by rw [hW5, hyb]; exact alloc_blk wd _
  have hyn : W1.heap.size ≤ yb := by rw [hyb]; exact hs.size
  have hs5 := hs.trans (hb5.mono hs.size)
  refine hK _ _ hs5 ?_
  clear hK K hs hb5 hW5 hyb
  (try simp only [Act.put, List.setIfInBounds_toArray, List.set_cons_zero, List.set_cons_succ])
  have q0 := blk_frozen hx5 0
  have q1 := blk_frozen hx5 1
  have q2 := blk_frozen hx5 2
  have q3 := blk_frozen hx5 3
  have p0 := blk_cell hx5 0
  have p1 := blk_cell hx5 1
  have p2 := blk_cell hx5 2
  have p3 := blk_cell hx5 3
  refine runT_op (by rfl) (by rfl) (fun K hK => ?_)
  go_simp
  obtain ⟨W7, hW7⟩ : ∃ W7, W7 = (((W5.setCell ⟨yb, 0, none⟩ (.int .i64 a0)).setCell ⟨yb, 1, none⟩ (.int .i64 a1)).setCell ⟨yb, 2, none⟩ (.int .i64 a2)).setCell ⟨yb, 3, none⟩ (.int .i64 a3) := ⟨_, rfl⟩
  have hx7 : W7.heap[yb]? = some (.cells #[.int .i64 a0, .int .i64 a1, .int .i64 a2, .int .i64 a3] 70 (0, 0)) := by
    rw [hW7]
    exact blk_set (blk_set (blk_set (blk_set hx5 0 (.int .i64 a0)) 1 (.int .i64 a1)) 2 (.int .i64 a2)) 3 (.int .i64 a3)
  have hb7 : Below W1.heap.size W1 W7 := by
    rw [hW7]
    exact (((hs5.setCell (p := ⟨yb, 0, none⟩) hyn _).setCell (p := ⟨yb, 1, none⟩) hyn _).setCell (p := ⟨yb, 2, none⟩) hyn _).setCell (p := ⟨yb, 3, none⟩) hyn _
  rw [← hW7]
  refine hK _ _ hb7 ?_
  have HB7 := Aside0.mk (H0.out.1.trans (hb7.mono H0.out.1.size))
  have HX7 := Aside0.mk hx7
  clear hK K hs5 hW7 hx5 hyn q0 q1 q2 q3 p0 p1 p2 p3 hx7
  (try simp only [Act.put, List.setIfInBounds_toArray, List.set_cons_zero, List.set_cons_succ])
  refine runT_op (by rfl) (by rfl) (fun K hK => ?_)
  go_simp
  refine hK _ _ hb7 ?_
  clear hK K
  (try simp only [Act.put, List.setIfInBounds_toArray, List.set_cons_zero, List.set_cons_succ])
  refine runT_op (by rfl) (by rfl) (fun K hK => ?_)
  go_simp
  refine hK _ _ hb7 ?_
  clear hK K
  (try simp only [Act.put, List.setIfInBounds_toArray, List.set_cons_zero, List.set_cons_succ])
  refine runT_op (by rfl) (by rfl) (fun K hK => ?_)
  go_simp
  refine hK _ _ hb7 ?_
  clear hK K hb7
  (try simp only [Act.put, List.setIfInBounds_toArray, List.set_cons_zero, List.set_cons_succ])
  refine runT_done ?_
  obtain ⟨W, hW⟩ : ∃ W, W = ((W7.alloc (.cells #[.int .i64 13, .int .i64 2, .int .i64 1, .int .i64 1, .int .i64 0, .int .i64 9, .int .i64 0, .int .i64 0, .int .i64 0, .int .i64 0] 65)).alloc (.cells #[.int .i64 17, .int .i64 0, .int .i64 0, .int .i64 0, .int .i64 0] 65)).alloc (.cells #[.int .i64 4, .slice (some ⟨W7.heap.size, 0, none⟩) 2 2, .int .i64 3, .slice (some ⟨W7.heap.size + 1, 0, none⟩) 1 1] 68) := ⟨_, rfl⟩
  obtain ⟨hbP, hP, hsz⟩ := prog2N W7 ⟨4, [⟨13, 2, 1, 1, 0⟩, ⟨9, 0, 0, 0, 0⟩]⟩ ⟨3, [⟨17, 0, 0, 0, 0⟩]⟩ (by decide) (by decide) (W := W) (hW.trans rfl)
  obtain ⟨fA, hfA⟩ : ∃ fA, fA = W7.heap.size + 1 + 1 := ⟨_, rfl⟩
  rw [← hfA] at hP
  have HB8 := Aside0.mk (HB7.out.trans (hbP.mono HB7.out.size))
  have hx8 := (hbP.block _ (blk_lt HX7.out)).trans HX7.out
  have HX8 := Aside0.mk hx8
  have HP := Aside0.mk (show k68.C W (some ⟨fA, 0, none⟩) (bgP 13).length (bgP 13) from hP)
  have HW := Aside0.mk (And.intro hW hfA)
  clear hW hbP hP hsz hfA hx8 HX7
  go_upto_region 7 with (fail)
  rw [← HW.out.1, ← HW.out.2]
  have hsl4 := slice_four yb
  refine wp_region_T (fun w' => Below W.heap.size W w') [] (.takes [0, 2, 3] (.op 1 (.op 4 (.op 5 .done)))) (by kernel_rfl) (by kernel_rfl) (by kernel_rfl) (by kernel_rfl) (panic_via (P := Try.prog) (fn := Try.f7) (R := fun e w' => e = .returned (.bool true) ∧ Below w.heap.size w w') (fun _ _ _ => rfl)) ?_
  obtain ⟨wd, hwd⟩ : ∃ wd, wd = W.drew := ⟨_, rfl⟩
  rw [← hwd]
  have hs : Below W.heap.size W wd := by rw [hwd]; exact (Below.refl _ _).drew
  clear hwd
  simp only [Turns.takes]
  repeat (
    (first
      | (refine runT_take (v := ?_) (by rfl) (by rfl) (fun w' hS => ?_) hs ?_
         rotate_left
         · (skip; go_simp; exact rfl))
      | refine runT_skip (by rfl) (by rfl) hs ?_)
    (try simp only [Act.put, List.setIfInBounds_toArray, List.set_cons_zero, List.set_cons_succ]))
  refine runT_op (by rfl) (by rfl) (fun K hK => ?_)
  refine wp_make_ints rfl rfl (.tmp 37) (.tmp 37) rfl d rfl rfl (by have := HDN.out.1; omega) ?_
  intro v1 w1 hR hb1
  have hs1 := hs.trans (hb1.mono hs.size)
  refine hK _ _ hs1 ?_
  obtain ⟨A1, c1, rfl⟩ := Kd.R_slice hR
  have hq := Kd.R_reads' hR
  have hnil : A1 = none → c1 = 0 := fun e => by
    subst e
    obtain ⟨_, inner, ⟨h1, h2⟩, h3, h4⟩ := hR
    rcases h2 with h2 | ⟨g, cap, cur, e, _⟩
    · injection h2.1
    · cases e
  have hx9 := (hs1.block _ (blk_lt HX8.out)).trans HX8.out
  have HX9 := Aside0.mk hx9
  have HB9 := Aside0.mk (HB8.out.trans (hs1.mono HB8.out.size))
  have HPP := Aside0.mk (Kd.C_below HP.out hs1)
  have HQ1 := Aside0.mk (And.intro hq.2.2 (And.intro hq.2.1 (And.intro hnil hs1)))
  clear hK K hR hb1 hq hnil hx9 hs
  (try simp only [Act.put, List.setIfInBounds_toArray, List.set_cons_zero, List.set_cons_succ])
  refine runT_op (by rfl) (by rfl) (fun K hK => ?_)
  go_simp
  obtain ⟨path, hpath⟩ : ∃ path : List Int, path = List.replicate d 0 := ⟨_, rfl⟩
  have hpl : path.length = d := by rw [hpath, List.length_replicate]
  rw [← hpath] at HQ1
  have hnew := New_any 0 A1 c1 path (some ⟨yb, 0, none⟩) 4 [a0, a1, a2, a3] 0 0 0 0 w1 HQ1.out.1 HQ1.out.2.1 HQ1.out.2.2.1 (by have := HDN.out.1; omega) (four_C HX9.out) (Nat.le_refl _)
  rw [hpl] at hnew
  refine hnew.mono ?_
  clear hnew
  intro e W3 hp
  obtain ⟨fb, Ap, cp, rfl, hfb, hL, hb3⟩ := hp.live (by show (-9223372036854775808 : Int) ≤ 0; decide)
  have hV : BgS w fb (bgF path a0 a1 a2 a3 0 0 0) Ap cp (some ⟨fA, 0, none⟩) (bgP 13) yb a0 a1 a2 a3 W3 :=
    ⟨HB9.out.trans (hb3.mono HB9.out.size), ProgK.old HPP.out hb3 hfb, (hb3.block _ (blk_lt HX9.out)).trans HX9.out, by have := blk_lt HX9.out; omega, Nat.le_trans HB9.out.size hfb, hL⟩
  have HV := Aside0.mk hV
  have hs3 := HQ1.out.2.2.2.trans (hb3.mono HQ1.out.2.2.2.size)
  refine hK _ _ hs3 ?_
  clear hK K hp hfb hL hb3 hV
  (try simp only [Act.put, List.setIfInBounds_toArray, List.set_cons_zero, List.set_cons_succ])
  refine runT_op (by rfl) (by rfl) (fun K hK => ?_)
  go_simp
  refine hK _ _ hs3 ?_
  clear hK K hs3
  refine runT_done ?_
  have HPL := Aside0.mk (And.intro hpl hpath)
  clear hpl hpath hsl4
  go_wp2_with fail
  go_loopw [11] (fun v11 wr => ∃ i : Nat, v11 = .int .i64 i ∧ (i ≤ n ∧ (3 ≤ d → i = 0)) ∧ Aside0 (BgS w fb (bgF path a0 a1 a2 a3 0 ((2 * i : Nat) : Int) i) Ap cp (some ⟨fA, 0, none⟩) (bgP 13) yb a0 a1 a2 a3 wr)) (fun v11 _ => n - (intOf v11).toNat)
  case atStart => exact ⟨0, rfl, ⟨Nat.zero_le _, fun _ => rfl⟩, HV⟩
  case round =>
    clear HV
    obtain ⟨i, rfl, ⟨hi, hi0⟩, HV⟩ := hrel
    by_cases hin : i < n
    · have hlt := lt_trueF hin
      have HIN := Aside0.mk hin
      have HI := Aside0.mk (And.intro hi hi0)
      have hi10 : i < 10 := Nat.lt_trans hin HDN.out.2
      have HI10 := Aside0.mk hi10
      clear hi hi0 hin hi10
      go_wp2_with fail
      refine (exec_any (b := 99) (d := 3) HV.out.pg (Nat.le_refl _) HV.out.lf).mono ?_
      by_cases hd3 : d < 3
      · have HD3 := Aside0.mk hd3
        rw [bg_1 (op := 13) (by decide) path a0 a1 a2 a3 _ i (Nat.lt_trans HI10.out (by decide)) (two_lt HI10.out) (len_lt HPL.out.1 hd3)]
        rintro e w3 ⟨Aa, ca, Ab, cb, rfl, hE, hL, hk⟩
        have HV := Aside0.mk (HV.out.next hL hk)
        obtain ⟨pn, hpn⟩ : ∃ pn, pn = (path ++ [(i : Int)]).length := ⟨_, rfl⟩
        have hpn2 : pn = d + 1 := by rw [hpn, List.length_append, HPL.out.1]; rfl
        unfold efV
        dsimp only
        rw [← hpn, hpn2]
        rw [show ([a1, a2, a3] : List Int).length = 3 from rfl]
        simp only [show ((11 : Int) = 11) = True from eq_self 11, show ((13 : Int) = 11) = False from by decide, if_true, if_false]
        obtain ⟨eb, heb⟩ : ∃ eb, eb = w3.heap.size := ⟨_, rfl⟩
        obtain ⟨W4, hW4⟩ : ∃ W4, W4 = w3.alloc (.cells #[.int .i64 4, .int .i64 0, .int .i64 0, .int .i64 1, .int .i64 2, .int .i64 0, .slice Aa 3 ca, .slice Ab (d + 1) cb] 36) := ⟨_, rfl⟩
        have hb4 : Below w3.heap.size w3 W4 := by rw [hW4]; exact (Below.refl _ _).alloc (Nat.le_refl _) _
        have hx4 : W4.heap[eb]? = some (.cells #[.int .i64 4, .int .i64 0, .int .i64 0, .int .i64 1, .int .i64 2, .int .i64 0, .slice Aa 3 ca, .slice Ab (d + 1) cb] 36 (0, 0)) := by rw [hW4, heb]; exact alloc_blk w3 _
        have hE4 := hE.below hb4
        have hpC : (Kd.int .i64).C W4 Ab (d + 1) (path ++ [(i : Int)]) := by have := hE4.path; rw [← hpn2, hpn]; exact this
        have haC : (Kd.int .i64).C W4 Aa 3 [a1, a2, a3] := hE4.args
        have hac : 3 ≤ ca := hE4.argsC
        have HW4 := Aside0.mk (And.intro hW4 heb)
        have HV := Aside0.mk (HV.out.below2 hb4)
        have HA := Aside0.mk (And.intro haC hac)
        obtain ⟨ad, hAb, p0⟩ := at_path HPL.out.1 hpC
        subst hAb
        have HXE := Aside0.mk hx4
        have q0 := blk_cell hx4 0
        have q2 := blk_cell hx4 2
        have q3 := blk_cell hx4 3
        have q4 := blk_cell hx4 4
        have q6 := blk_cell hx4 6
        have q7 := blk_cell hx4 7
        have hd3f := bgd_ge hd3
        have hd3g := bgd_le hd3
        have hwd := bgd_w (Nat.lt_trans HDN.out.1 (show 5 < 100 by decide))
        have hwd2 := bgd_w2 (Nat.lt_trans HDN.out.1 (show 5 < 100 by decide))
        have hdl := bgd_l d
        have hdl2 := bgd_l2 d
        have hdl0 := bgd_0 d
        have hsl3 := slice_three yb
        clear hE hL hk hpn hpn2 hW4 heb hb4 hx4 hE4 hpC haC hac hlt hd3
        go_upto_region 18 with (fail)
        rw [← HW4.out.1, ← HW4.out.2]
        go_quiet (first | (go_at_call 19; refine (num_is Aa ca [a1, a2, a3] (some ⟨yb, 1, none⟩) 3 [a1, a2, a3] _ (r := true) (by simp) ?_ HA.out.2 ?_ (Nat.le_refl _) (show 3 ≤ 9223372036854775807 by decide)).mono ?_; (repeat (first | exact HA.out.1 | exact HV.out.three | (with_reducible refine Kd.C_drewN ?_ _) | (with_reducible refine Kd.C_drew ?_))); rintro e w' ⟨rfl, ⟨nd, rfl⟩⟩; (try first | exact ⟨rfl, _, World.drewN_drewN _ _ _⟩ | exact ⟨rfl, _, Eq.trans (World.drewN_drewN _ _ _) (congrArg (World.drewN _) (Nat.add_assoc _ _ _))⟩)))
        go_wp2_with fail
        have HV := Aside0.mk (HV.out.below2 (pw_below_drewN (Below.refl W4.heap.size W4) nq))
        clear q0 q2 q3 q4 q6 q7 p0 hd3f hd3g hwd hwd2 hdl hdl2 hdl0 hsl3
        refine (exec_any (b := 99) (d := 3) HV.out.pg (Nat.le_refl _) HV.out.lf).mono ?_
        rw [bg_2 (op := 13) (by decide) path a0 a1 a2 a3 _ (i + 1) (two_lt1 HI10.out)]
        rintro e w5 ⟨Ac, cc, Ad, cd, rfl, hE, hL, hk⟩
        have HV := Aside0.mk (HV.out.next hL hk)
        unfold efV
        dsimp only [efGoes, List.length_nil]
        obtain ⟨eb2, heb⟩ : ∃ eb2, eb2 = w5.heap.size := ⟨_, rfl⟩
        obtain ⟨W6, hW6⟩ : ∃ W6, W6 = w5.alloc (.cells #[.int .i64 1, .int .i64 0, .int .i64 0, .int .i64 0, .int .i64 0, .int .i64 0, .slice Ac 0 cc, .slice Ad 0 cd] 36) := ⟨_, rfl⟩
        have hb6 : Below w5.heap.size w5 W6 := by rw [hW6]; exact (Below.refl _ _).alloc (Nat.le_refl _) _
        have hx6 : W6.heap[eb2]? = some (.cells #[.int .i64 1, .int .i64 0, .int .i64 0, .int .i64 0, .int .i64 0, .int .i64 0, .slice Ac 0 cc, .slice Ad 0 cd] 36 (0, 0)) := by rw [hW6, heb]; exact alloc_blk w5 _
        have HW6 := Aside0.mk (And.intro hW6 heb)
        have hV6 := HV.out.below2 hb6
        have hkd : W6.cell? ⟨fb, 3, none⟩ = some (.int .i64 ((i + 1 : Nat) : Int)) := hV6.lf.fr.fix.2.2.2.1
        have HV := Aside0.mk hV6
        have q0 := blk_cell hx6 0
        have hw8 := bgd_w (Nat.lt_trans HI10.out (show 10 < 100 by decide))
        have hw9 := bgd_w2 (Nat.lt_trans HI10.out (show 10 < 100 by decide))
        clear hE hL hk hW6 heb hb6 hx6 hV6
        go_upto_region 21 with (fail)
        rw [← HW6.out.1, ← HW6.out.2]
        go_wp2_with fail
        go_roundw
        case rel =>
          have h9 := HV.out
          rw [two_next] at h9
          exact ⟨i + 1, by go_num, ⟨HIN.out, fun h => absurd h (by have h3 := HD3.out; omega)⟩, ⟨h9⟩⟩
        case measure => exact up_ltF HIN.out
      · rw [bg_3 (op := 13) (by decide) path a0 a1 a2 a3 _ i (two_lt HI10.out) (len_ge HPL.out.1 hd3)]
        rintro e w3 ⟨Aa, ca, Ab, cb, rfl, hE, hL, hk⟩
        have hi00 := HI.out.2 (by omega)
        subst hi00
        have HV := Aside0.mk (HV.out.next hL hk)
        unfold efV
        dsimp only [efFails, List.length_nil]
        obtain ⟨eb, heb⟩ : ∃ eb, eb = w3.heap.size := ⟨_, rfl⟩
        obtain ⟨W4, hW4⟩ : ∃ W4, W4 = w3.alloc (.cells #[.int .i64 8, .int .i64 0, .int .i64 0, .int .i64 0, .int .i64 0, .int .i64 4, .slice Aa 0 ca, .slice Ab 0 cb] 36) := ⟨_, rfl⟩
        have hb4 : Below w3.heap.size w3 W4 := by rw [hW4]; exact (Below.refl _ _).alloc (Nat.le_refl _) _
        have hx4 : W4.heap[eb]? = some (.cells #[.int .i64 8, .int .i64 0, .int .i64 0, .int .i64 0, .int .i64 0, .int .i64 4, .slice Aa 0 ca, .slice Ab 0 cb] 36 (0, 0)) := by rw [hW4, heb]; exact alloc_blk w3 _
        have HW4 := Aside0.mk (And.intro hW4 heb)
        have hV4 := HV.out.below2 hb4
        have hkd : W4.cell? ⟨fb, 3, none⟩ = some (.int .i64 ((0 : Nat) : Int)) := hV4.lf.fr.fix.2.2.2.1
        have HV := Aside0.mk hV4
        have q0 := blk_cell hx4 0
        have q5 := blk_cell hx4 5
        have hd3f := bgd_ge2 hd3
        have hd3g := bgd_le2 hd3
        clear hE hL hk hW4 heb hb4 hx4 hV4 hlt hd3
        go_upto_region 14 with (fail)
        rw [← HW4.out.1, ← HW4.out.2]
        go_wp2_with fail
        have HB9 := Aside0.mk HV.out.below
        refine (awake_any _).mono ?_
        rintro e w9 ⟨rfl, hb9⟩
        have HB9 := Aside0.mk ((HB9).out.trans (hb9.mono (HB9).out.size))
        clear hb9
        go_wp2_with fail
        go_ret
        exact ⟨rfl, HB9.out⟩
    · obtain rfl : i = n := Nat.le_antisymm hi (Nat.le_of_not_lt hin)
      clear hi hi0 hin
      go_wp2_with fail
      have HB9 := Aside0.mk HV.out.below
      refine (awake_any _).mono ?_
      rintro e w9 ⟨rfl, hb9⟩
      have HB9 := Aside0.mk ((HB9).out.trans (hb9.mono (HB9).out.size))
      clear hb9
      go_wp2_with fail
      go_ret
      exact ⟨rfl, HB9.out⟩
end Go.Proofs.Ytcciejcpijlkfaa.H

set_option linter.unusedVariables false
set_option linter.unusedSimpArgs false
namespace Go.Hay
open Go.RowKit Go.Proofs.YtcciejcpijlkfaaW.PrintWords Go.Proofs.YtcciejcpijlkfaaW.PrintLast Go.Proofs.YtcciejcpijlkfaaW.PrintMore

def Opens {α : Type} (P : Program) (t : TypeId) (d : Kd α) (wf : α → Prop) : Prop :=
  ∀ {H : Type} {enc : TypeId × Value → H} {w : World} {base : Nat} {spare : Nat → Bool} {held : Bool} {fuel : Nat} {cs : List Value} {x : DataW H × List MemPlace},
    DataW.trod enc P w base spare held fuel t cs = some x → ∃ a, d.K w a cs ∧ wf a

theorem opens_int {P : Program} {t : TypeId} {k : IntKind} (ht : P.underlying t = some (.int k)) : Opens P t (Kd.int k) (fun n => (Lit.int k n).wf = true) := by
  intro H enc w base spare held fuel cs x h
  cases fuel with
  | zero => simp [DataW.trod] at h
  | succ fuel =>
    unfold DataW.trod at h
    simp only [ht] at h
    split at h <;> simp_all
    rename_i k' n _
    obtain ⟨⟨rfl, hw⟩, _⟩ := h
    exact ⟨n, rfl, hw⟩
theorem opens_bool {P : Program} {t : TypeId} (ht : P.underlying t = some .bool) : Opens P t Kd.bool (fun _ => True) := by
  intro H enc w base spare held fuel cs x h
  cases fuel with
  | zero => simp [DataW.trod] at h
  | succ fuel =>
    unfold DataW.trod at h
    rw [ht] at h
    split at h <;> first | (exfalso; simp_all; done) | skip
    rename_i b _
    exact ⟨b, rfl, trivial⟩
def OpensAt {α : Type} (P : Program) (fs : List Field) (off : Nat) (d : Kd α) (wf : α → Prop) : Prop :=
  ∀ {H : Type} {enc : TypeId × Value → H} {w : World} {base : Nat} {spare : Nat → Bool} {held : Bool} {n : Nat} {cs : List Value} {xs : List (DataW H × List MemPlace)},
    xs.length = fs.length → (∀ (i : Nat) (f : Field), fs[i]? = some f → DataW.trod enc P w base spare held n f.type ((cs.drop f.offset).take (P.cellsOf f.type)) = xs[i]?) → ∃ a, d.K w a ((cs.drop off).take d.sz) ∧ wf a
theorem opens_last {α : Type} {P : Program} {f : Field} {off : Nat} {d : Kd α} {wf : α → Prop} (ho : f.offset = off) (hc : P.cellsOf f.type = d.sz) (he : Opens P f.type d wf) : OpensAt P [f] off d wf := by
  intro H enc w base spare held n cs xs hl h
  have h0 := h 0 f rfl
  rw [ho, hc, List.getElem?_eq_getElem (by rw [hl]; simp)] at h0
  exact he h0
theorem opens_cons {α β : Type} {P : Program} {f : Field} {fs : List Field} {off : Nat} {d : Kd α} {d2 : Kd β} {wf : α → Prop} {wf2 : β → Prop} (ho : f.offset = off) (hc : P.cellsOf f.type = d.sz) (he : Opens P f.type d wf)
    (hr : OpensAt P fs (off + d.sz) d2 wf2) : OpensAt P (f :: fs) off (Kd.pair d d2) (fun p => wf p.1 ∧ wf2 p.2) := by
  intro H enc w base spare held n cs xs hl h
  have h0 := h 0 f rfl
  rw [ho, hc, List.getElem?_eq_getElem (by rw [hl]; simp)] at h0
  obtain ⟨a, ha, hwa⟩ := he h0
  obtain ⟨b, hb, hwb⟩ := hr (n := n) (cs := cs) (xs := xs.drop 1) (by simp [hl]) (fun i g hg => by
    have := h (i + 1) g (by simpa using hg)
    rw [this]; simp [Nat.add_comm])
  refine ⟨(a, b), ⟨_, _, ?_, ha, hb⟩, hwa, hwb⟩
  show (cs.drop off).take (d.sz + d2.sz) = _
  rw [List.take_add, List.drop_drop]
theorem opens_struct {α : Type} {P : Program} {t : TypeId} {fs : Array Field} {d : Kd α} {wf : α → Prop} (ht : P.underlying t = some (.struct fs)) (hc : P.cellsOf t = d.sz) (h : OpensAt P fs.toList 0 d wf) : Opens P t d wf := by
  intro H enc w base spare held fuel cs x hx
  obtain ⟨xs, n, rfl, rfl, hlen, hxl, hall⟩ := DataW.trod_struct ht hx
  obtain ⟨a, ha, hwa⟩ := h (n := n) (cs := cs) (xs := xs) (by simpa using hxl) (fun i f hf => hall i f (by simpa using hf))
  refine ⟨a, ?_, hwa⟩
  rwa [List.drop_zero, List.take_of_length_le (by omega)] at ha
/-- An array. -/
theorem opens_array {α : Type} {P : Program} {t e : TypeId} {n : Nat} {d : Kd α} {wf : α → Prop} (hs : 0 < d.sz) (ht : P.underlying t = some (.array n e)) (hc : P.cellsOf e = d.sz) (hct : P.cellsOf t = n * d.sz) (he : Opens P e d wf) : Opens P t (Kd.arr n d hs) (fun l => l.length = n ∧ ∀ a ∈ l, wf a) := by
  intro H enc w base spare held fuel cs x h
  obtain ⟨xs, m, rfl, rfl, hlen, hxl, hall⟩ := DataW.trod_array ht h
  have each : ∀ i, i < n → ∃ y : α, d.K w y ((cs.drop (i * d.sz)).take d.sz) ∧ wf y := by
    intro i hi
    have h0 := hall i hi
    rw [List.getElem?_eq_getElem (by omega), hc] at h0
    exact he h0
  obtain ⟨g, hg⟩ := Classical.axiomOfChoice (fun i : Fin n => each i i.2)
  refine ⟨List.ofFn g, ⟨by simp, by rw [List.length_ofFn, hlen, hct], fun j p hj => ?_⟩, by simp, fun a ha => ?_⟩
  · obtain ⟨hlt, hj⟩ := List.getElem?_eq_some_iff.1 hj
    rw [List.length_ofFn] at hlt
    rw [List.getElem_ofFn] at hj
    subst hj
    exact (hg ⟨j, hlt⟩).1
  · obtain ⟨i, rfl⟩ := List.mem_ofFn.1 ha
    exact (hg i).2
end Go.Hay

set_option linter.unusedVariables false
set_option linter.unusedSimpArgs false
namespace Go.Proofs.Ytcciejcpijlkfaa.H
open Go.ChangeShapes Go.WideShapes Go.ChangeAt Go.RowKit Go.Hay Go.Proofs.YtcciejcpijlkfaaW.PrintWords Go.Proofs.YtcciejcpijlkfaaW.PrintLast Go.Proofs.YtcciejcpijlkfaaW.PrintMore
abbrev kI : Kd Int := Kd.int .i64
abbrev W64 (x : Int) : Prop := (Lit.int .i64 x).wf = true
theorem opI64 : Opens Try.prog 2 kI (fun x => (Lit.int .i64 x).wf = true) := opens_int Try.underlying2
end Go.Proofs.Ytcciejcpijlkfaa.H

namespace Go.Proofs.Ytcciejcpijlkfaa.frameBegins
open Go.ChangeShapes Go.WideShapes Go.ChangeAt Go.RowKit Go.Hay Go.Proofs.Ytcciejcpijlkfaa.H Go.Proofs.YtcciejcpijlkfaaW.PrintWords Go.Proofs.YtcciejcpijlkfaaW.PrintLast Go.Proofs.YtcciejcpijlkfaaW.PrintMore
open Go.ChangeMaps (open_string shut_string)
set_option linter.unusedVariables false
set_option linter.unusedSimpArgs false
theorem own : ownKnob Try.prog.godebug = none := by kernel_rfl
theorem laidOut : laidOutB Try.prog = true := by kernel_rfl
abbrev KidsT := List Int × Int × Int × Bool
def kKids : Kd KidsT := Kd.pair (Kd.arr 4 kI (by decide)) (Kd.pair (Kd.int .u8) (Kd.pair (Kd.int .u8) Kd.bool))
theorem kKids_open {w : World} {x : KidsT} {cs : List Value} (h : kKids.K w x cs) : x.1.length = 4 ∧ cs = x.1.map (Value.int .i64) ++ [.int .u8 x.2.1, .int .u8 x.2.2.1, .bool x.2.2.2] := by
  obtain ⟨_, _, rfl, hb, ⟨_, _, rfl, rfl, ⟨_, _, rfl, rfl, rfl⟩⟩⟩ := h
  obtain ⟨h3, h4⟩ := Kd.arr_cells hb
  refine ⟨h3, ?_⟩
  rw [h4]
  rfl
abbrev W8 (x : Int) : Prop := (Lit.int .u8 x).wf = true
def wfKids (x : KidsT) : Prop := (x.1.length = 4 ∧ ∀ y ∈ x.1, W64 y) ∧ W8 x.2.1 ∧ W8 x.2.2.1 ∧ True
theorem opU8 : Opens Try.prog 5 (Kd.int .u8) (fun x => (Lit.int .u8 x).wf = true) := opens_int Try.underlying5
theorem opBool : Opens Try.prog 4 Kd.bool (fun _ => True) := opens_bool Try.underlying4
theorem opA4 : Opens Try.prog 70 (Kd.arr 4 kI (by decide)) (fun l => l.length = 4 ∧ ∀ y ∈ l, W64 y) := opens_array (by decide) Try.underlying70 (by kernel_rfl) (by kernel_rfl) opI64
theorem opKids : Opens Try.prog 72 kKids wfKids := opens_struct Try.underlying72 (by kernel_rfl) (opens_cons rfl (by kernel_rfl) opA4 (opens_cons rfl (by kernel_rfl) opU8 (opens_cons rfl (by kernel_rfl) opU8 (opens_last rfl (by kernel_rfl) opBool))))
theorem u8_range {n : Int} (h : (Lit.int .u8 n).wf = true) : 0 ≤ n ∧ n < 256 := by
  have e1 : IntKind.u8.min = 0 := by decide
  have e2 : IntKind.u8.max = 255 := by decide
  have h' : IntKind.u8.min ≤ n ∧ n ≤ IntKind.u8.max := by simpa [Lit.wf, go_sem] using h
  rw [e1, e2] at h'
  omega
theorem begins_walk (a0 a1 a2 a3 many deep : Int) (f : Bool) (w : World) (hmy : 0 ≤ many ∧ many < 256) (hdp : 0 ≤ deep ∧ deep < 256) :
    Calls Try.prog 7 #[.agg #[.int .i64 a0, .int .i64 a1, .int .i64 a2, .int .i64 a3, .int .u8 many, .int .u8 deep, .bool f]] w fun e w' => e = .returned (.bool true) ∧ Below w.heap.size w w' := by
  cases f with
  | false => exact begins_walkA a0 a1 a2 a3 many deep w hmy hdp
  | true => exact begins_walkB a0 a1 a2 a3 many deep w hmy hdp
set_option maxRecDepth 100000 in
theorem lifted (os : Os) (started : os.Started) (H : Type) (enc : TypeId × Value → H) :
    ReturnsInHanded {} Try.checked os 7 .any (Rows.frameBeginsSpec.pre6 enc Try.prog Try.f7 Rows.frameBeginsRow.domain false) (Rows.frameBeginsSpec.post enc Try.prog Try.f7 false true false false) := by
  refine returnsInHanded_of_change_sized (C := Try.checked) own started (by kernel_rfl) Try.func7
    (ChangeSpec.witness6 (enc := enc) (C := Try.checked) false ⟨#[], #[.agg #[.int .i64 0, .int .i64 0, .int .i64 0, .int .i64 0, .int .u8 0, .int .u8 0, .bool false]], []⟩ 8 (by kernel_rfl) (by kernel_rfl) (by kernel_rfl) (by kernel_rfl)) ?_
  intro W base args ds gs before hval0 hW hcnd hsz0 _
  have hval : ∀ (j : Nat) t v, Try.f7.params[j]? = some t → args[j]? = some v → Value.okWide Try.prog W .any base t v := hval0
  have hW' := hW
  obtain ⟨p, q, hA0, hV, rfl, hfz, hnd⟩ := hW
  have hA : DataW.TrodAll enc Try.prog W 0 (fun _ => true) true Try.f7.params.toList args.toList ds p := hA0
  rw [Try.params7] at hA hval
  obtain ⟨v0, vs0, d0, ds0, p0, q0, hargs, rfl, rfl, h0, r0⟩ := trodAll_cons hA
  obtain ⟨rfl, rfl, rfl⟩ := trodAll_nil r0
  obtain rfl : args = #[v0] := by cases args; simp_all
  obtain ⟨rfl, rfl⟩ := trodVars_none hV
  obtain ⟨cs0, rfl, hz0⟩ := okWide_struct Try.underlying72 (hval 0 72 v0 rfl rfl)
  have k0 := h0
  have lt0 : ∀ x ∈ p0, x.block < W.heap.size := by obtain ⟨m, hm⟩ := k0; exact DataW.trod_lt m _ _ _ hm
  obtain ⟨fuel0, hf0⟩ := h0
  obtain ⟨x0, hK0, hwf0⟩ := opKids hf0
  obtain ⟨hl4, hcs0⟩ := kKids_open hK0
  obtain ⟨xs, many, deep, f⟩ := x0
  obtain ⟨t0, t1, t2, t3, rfl⟩ := fourF (show xs.length = 4 from hl4)
  obtain rfl : cs0 = #[.int .i64 t0, .int .i64 t1, .int .i64 t2, .int .i64 t3, .int .u8 many, .int .u8 deep, .bool f] := by cases cs0; simpa [Value.cells] using hcs0
  clear hA0 hval0 hsz0
  refine (begins_walk t0 t1 t2 t3 many deep f W (u8_range hwf0.2.1) (u8_range hwf0.2.2.1)).mono fun e W' hpost => ?_
  obtain ⟨he, bel⟩ := hpost
  subst he
  exact ⟨_, rfl, _, _, _, [], _, [], hW', trodAll_mk1 (shut_bool Try.underlying4 _), (trodAll_cons_mk (Below.trod laidOut (by kernel_rfl) (of_decide_eq_true (by kernel_rfl)) k0 bel lt0) trodAll_mk0), rfl, bel.frame _, fun h => by cases h⟩
theorem over : Rows.frameBeginsRow.holds Try.pinned (OpenSpec.ofChange Rows.frameBeginsSpec) :=
  OpenClaim.holds_of_wide 7 Try.f7 rfl rfl rfl rfl rfl rfl rfl ⟨rfl, rfl, rfl, rfl, rfl⟩ rfl rfl rfl rfl rfl (by kernel_rfl) Try.func7 (by kernel_rfl)
    (of_decide_eq_true (by kernel_rfl)) (by unfold Func.isWrapper; first | (rw [if_pos (by decide +kernel)]; kernel_rfl) | (rw [if_neg (by decide +kernel)]; exact ⟨rfl, rfl⟩))
    (fun os started H enc _ => lifted os started H enc)
theorem said : Rows.FrameBeginsSaid := over
end Go.Proofs.Ytcciejcpijlkfaa.frameBegins

namespace Go.Proofs.Ytcciejcpijlkfaa
open Go.RowKit
theorem frameBegins_holds : Rows.FrameBeginsSaid := frameBegins.said
#print axioms frameBegins_holds
end Go.Proofs.Ytcciejcpijlkfaa

