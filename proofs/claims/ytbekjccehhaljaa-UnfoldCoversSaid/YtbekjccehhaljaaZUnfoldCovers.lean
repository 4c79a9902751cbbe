/- Each task that is evaluated is unfolded, too, with at least as many instructions: for every input. No condition. -/
import Derived.Test.YtbekjccehhaljaaZUnfoldCovers7
import Derived.OpenShut
import Derived.Deep.Slices
import Derived.ChangeArms
import Derived.WideShapes
import Derived.Test.YtbekjccehhaljaaRows
import Derived.WalkKit
import Derived.ProofKit
import Derived.ShutString
import Derived.ChangeOld
import Derived.Below
import Derived.SizedLaws
set_option linter.unusedVariables false
set_option linter.unusedSimpArgs false
namespace Go.Proofs.Ytbekjccehhaljaa.H
open Go.RowKit Go.Hay Go.Proofs.YtbekjccehhaljaaW.PrintWords Go.Proofs.YtbekjccehhaljaaW.PrintLast Go.Proofs.YtbekjccehhaljaaW.PrintMore
set_option maxRecDepth 100000 in
set_option maxHeartbeats 8000000 in
theorem covers_walk (Ap : Option Addr) (cp : Nat) (P : List S83) (Aa : Option Addr) (ca : Nat) (args : List Int) (b d : Int) (w : World) (hP : k83.C w Ap P.length P) (hcp : P.length ≤ cp) (hA : (Kd.int .i64).C w Aa args.length args) (hca : args.length ≤ ca) :
    Calls Try.prog 8 #[.agg #[.slice Ap P.length cp, .slice Aa args.length ca, .int .i64 b, .int .i64 d]] w fun e w' => e = .returned (.bool true) ∧ Below w.heap.size w w' := by
  obtain ⟨W1, hW1⟩ : ∃ W1, W1 = w.alloc (.cells #[.slice Ap P.length cp, .slice Aa args.length ca, .int .i64 b, .int .i64 d] 25) := ⟨_, rfl⟩
  have hb1 : Below w.heap.size w W1 := by rw [hW1]; exact (Below.refl w.heap.size w).alloc (Nat.le_refl _) _
  have hx1 : W1.heap[w.heap.size]? = some (.cells #[.slice Ap P.length cp, .slice Aa args.length ca, .int .i64 b, .int .i64 d] 25 (0, 0)) := by rw [hW1]; exact alloc_blk w _
  obtain ⟨lb, hlb, hlight⟩ := light_any Ap cp P W1 (Kd.C_below hP hb1) hcp
  have H0 := Aside0.mk (And.intro hP (And.intro hcp (And.intro hA (And.intro hca (And.intro hb1 hx1)))))
  have HL := Aside0.mk hlight
  have HLB := Aside0.mk hlb
  have HW1 := Aside0.mk hW1
  have x0 := blk_cell hx1 0
  have x1 := blk_cell hx1 1
  clear hP hcp hA hca hb1 hx1 hlight hlb hW1
  go_enter Try.func8, Try.ntmps8
  go_upto_region 1 with (fail)
  rw [← HW1.out]
  go_wp2_with fail
  refine HL.out.mono ?_
  rintro e w2 ⟨rfl, hb2⟩
  have HB2 := Aside0.mk (H0.out.2.2.2.2.1.trans (hb2.mono H0.out.2.2.2.2.1.size))
  have hx2 := (hb2.block _ (blk_lt H0.out.2.2.2.2.2)).trans H0.out.2.2.2.2.2
  have HX2 := Aside0.mk hx2
  have HLW := Aside0.mk hb2
  clear x0 x1 hb2 HW1
  have x0 := blk_cell hx2 0
  have x1 := blk_cell hx2 1
  clear hx2
  cases lb with
  | false =>
    clear HL HLB
    go_wp2_with fail
    go_ret
    exact ⟨rfl, HB2.out⟩
  | true =>
    obtain ⟨hl20, hl70⟩ := HLB.out rfl
    have HLL := Aside0.mk (And.intro hl20 hl70)
    clear HL HLB hl20 hl70
    by_cases hn : 20 < args.length
    · have hn2 : ((args.length : Int) > 20) = True := eq_true (by omega)
      clear hn
      go_wp2_with fail
      go_ret
      exact ⟨rfl, HB2.out⟩
    · have hn2 : ((args.length : Int) > 20) = False := eq_false (by omega)
      have HN := Aside0.mk hn
      clear hn
      have x2 := blk_cell HX2.out 2
      have x3 := blk_cell HX2.out 3
      obtain ⟨lb, hlb⟩ : ∃ lb, lb = w2.heap.size := ⟨_, rfl⟩
      obtain ⟨w6, hw6⟩ : ∃ w6, w6 = w2.alloc (.cells #[.int .i64 b, .int .i64 d] 40) := ⟨_, rfl⟩
      have hb6 : Below w2.heap.size w2 w6 := by rw [hw6]; exact (Below.refl w2.heap.size w2).alloc (Nat.le_refl _) _
      have hx6 : w6.heap[lb]? = some (.cells #[.int .i64 b, .int .i64 d] 40 (0, 0)) := by rw [hw6, hlb]; exact alloc_blk w2 _
      have HB6 := Aside0.mk (HB2.out.trans (hb6.mono HB2.out.size))
      have HL6 := Aside0.mk hx6
      have HX6 := Aside0.mk ((hb6.block _ (blk_lt HX2.out)).trans HX2.out)
      have HW6 := Aside0.mk (And.intro hw6 hlb)
      clear hb6 hx6 hw6 hlb HLW
      go_upto_region 4 with (fail)
      rw [← HW6.out.1, ← HW6.out.2]
      clear x0 x1 x2 x3
      refine wp_region_T (fun w' => Below (w6).heap.size (w6) w') [] (.takes [0, 1, 3, 4, 5] (.alt 2 10 (.alt 6 10 (.takes [7, 8, 9] (.op 10 (.op 11 (.op 12 .done)))) (.op 6 (.takes [7, 8, 9] (.op 11 (.op 12 .done))))) (.op 2 (.op 6 (.takes [7, 8, 9] (.op 11 (.op 12 .done))))))) (by kernel_rfl) (by kernel_rfl) (by kernel_rfl) (by kernel_rfl) (panic_via (P := Try.prog) (fn := Try.f8) (R := fun e w' => e = .returned (.bool true) ∧ Below w.heap.size w w') (fun _ _ _ => rfl)) ?_
      obtain ⟨wd, hwd⟩ : ∃ wd, wd = (w6).drew := ⟨_, rfl⟩
      rw [← hwd]
      have hs : Below (w6).heap.size (w6) wd := by rw [hwd]; exact (Below.refl _ _).drew
      clear hwd
      simp only [Turns.takes]
      repeat (
        (first
          | (refine runT_take (v := ?_) (by rfl) (by rfl) (fun w' hS => ?_) hs ?_
             rotate_left
             · (have hX := (hS.block _ (blk_lt HX6.out)).trans HX6.out; have d0 := blk_cell hX 0; have d1 := blk_cell hX 1; have hL := (hS.block _ (blk_lt HL6.out)).trans HL6.out; have d2 := blk_cell hL 0; have d3 := blk_cell hL 1; go_simp; exact rfl))
          | refine runT_skip (by rfl) (by rfl) hs ?_)
        (try simp only [Act.put, List.setIfInBounds_toArray, List.set_cons_zero, List.set_cons_succ]))
      rename_i K0 hK0
      obtain ⟨r, hr⟩ : ∃ r, r = unfoldR (P.map ofF) args b d 3000 := ⟨_, rfl⟩
      have HR := Aside0.mk hr
      clear hr
      refine' with_actU (F := fun bx A c a Al n cl G e9 W => AfterU w6 W bx r a Al n cl G e9) (K := K0) _ (fun hfin => ?_) ?_
      rotate_left
      · refine runT_alt (by rfl) (by rfl) (by rfl) (by rfl) (fun K hK => ?_) (fun K hK => ?_)
        · go_simp
          refine (of_any Ap cp P _ (Kd.C_below H0.out.1 ((HB6).out.trans ((hs).mono (HB6).out.size))) H0.out.2.1 HLL.out.1 HLL.out.2).mono ?_
          rintro e w3 ⟨hb3, A, c, rfl, hc, hC⟩
          have hs3 := (hs).trans (hb3.mono (hs).size)
          have H3 := Aside0.mk (And.intro hc (And.intro hC hb3))
          refine hK _ _ hs3 ?_
          clear hK K hb3 hc hC
          (try simp only [Act.put, List.setIfInBounds_toArray, List.set_cons_zero, List.set_cons_succ])
          refine runT_alt (by rfl) (by rfl) (by rfl) (by rfl) (fun K hK => ?_) (fun K hK => ?_)
          · go_simp
            have hA3 := Kd.C_below H0.out.2.2.1 ((HB6).out.trans ((hs3).mono (HB6).out.size))
            refine (unfold_of A c P Aa ca args b d 3000 w3 (Kd.C_below H3.out.2.1 (Below.refl _ _)) H3.out.1 hA3 H0.out.2.2.2.1 ((by decide)) HR.out).mono ?_
            rintro e w4 ⟨hb4, a, Al, n, cl, G, e9, rfl, hU⟩
            have hs4 := (hs3).trans (hb4.mono (hs3).size)
            have H4 := Aside0.mk (And.intro hU hb4)
            obtain ⟨V, hV⟩ : ∃ V, V = treeV a Al n cl G := ⟨_, rfl⟩
            rw [← hV]
            have HV := Aside0.mk hV
            refine hK _ _ hs4 ?_
            clear hK K hb4 hU hA3 hV
            (try simp only [Act.put, List.setIfInBounds_toArray, List.set_cons_zero, List.set_cons_succ])
            have hs := hs4
            repeat (
              (first
                | (refine runT_take (v := ?_) (by rfl) (by rfl) (fun w' hS => ?_) hs ?_
                   rotate_left
                   · (skip; go_simp; exact rfl))
                | refine runT_skip (by rfl) (by rfl) hs ?_)
              (try simp only [Act.put, List.setIfInBounds_toArray, List.set_cons_zero, List.set_cons_succ]))
            refine runT_op (by rfl) (by rfl) (fun K hK => ?_)
            go_simp
            obtain ⟨bx, hbx⟩ : ∃ bx, bx = (w4).heap.size := ⟨_, rfl⟩
            rw [← hbx]
            obtain ⟨w5, hw5⟩ : ∃ w5, w5 = (w4).alloc (.cells #[.pointer none, .slice none 0 0, .int .i64 0, .int .i64 0, .int .i64 0, .int .i64 0] 33) := ⟨_, rfl⟩
            rw [← hw5]
            have hb5 : Below (w4).heap.size (w4) w5 := by rw [hw5]; exact (Below.refl (w4).heap.size (w4)).alloc (Nat.le_refl _) _
            have hx5 : w5.heap[bx]? = some zTree := by rw [hw5, hbx]; exact alloc_blk (w4) _
            have hs5 := (hs4).trans (hb5.mono (hs4).size)
            have H5 := Aside0.mk (And.intro hb5 (And.intro hx5 (And.intro (show (w6).heap.size ≤ bx by rw [hbx]; exact (hs4).size) (Nat.le_of_eq hbx.symm))))
            refine hK _ _ hs5 ?_
            clear hK K hb5 hbx hw5 hx5
            (try simp only [Act.put, List.setIfInBounds_toArray, List.set_cons_zero, List.set_cons_succ])
            have hbox := H5.out.2.1
            rw [HV.out, show treeV a Al n cl G = .agg #[.pointer a, .slice Al n cl, .int .i64 G.frames, .int .i64 G.cells, .int .i64 G.chunks, .int .i64 G.steps] from rfl]
            have q0 := blk_cell hbox 0
            have q1 := blk_cell hbox 1
            have q2 := blk_cell hbox 2
            have q3 := blk_cell hbox 3
            have q4 := blk_cell hbox 4
            have q5 := blk_cell hbox 5
            have f0 := blk_frozen hbox 0
            have f1 := blk_frozen hbox 1
            have f2 := blk_frozen hbox 2
            have f3 := blk_frozen hbox 3
            have f4 := blk_frozen hbox 4
            have f5 := blk_frozen hbox 5
            refine runT_op (by rfl) (by rfl) (fun K hK => ?_)
            go_simp
            obtain ⟨W, hW⟩ : ∃ W, W = ((((((w5).setCell ⟨bx, 0, none⟩ (.pointer a)).setCell ⟨bx, 1, none⟩ (.slice Al n cl)).setCell ⟨bx, 2, none⟩ (.int .i64 G.frames)).setCell ⟨bx, 3, none⟩ (.int .i64 G.cells)).setCell ⟨bx, 4, none⟩ (.int .i64 G.chunks)).setCell ⟨bx, 5, none⟩ (.int .i64 G.steps) := ⟨_, rfl⟩
            rw [← hW]
            have hAE := after_storeU hs5 hbox H5.out.2.2.1 (H4.out.1.new H5.out.1 H5.out.2.2.2) hW
            have HAE := Aside0.mk hAE
            refine hK _ _ hAE.below ?_
            clear hK K q0 q1 q2 q3 q4 q5 f0 f1 f2 f3 f4 f5 hW
            (try simp only [Act.put, List.setIfInBounds_toArray, List.set_cons_zero, List.set_cons_succ])
            refine runT_op (by rfl) (by rfl) (fun K hK => ?_)
            go_simp
            refine hK _ _ hAE.below ?_
            clear hK K hAE
            (try simp only [Act.put, List.setIfInBounds_toArray, List.set_cons_zero, List.set_cons_succ])
            refine runT_done ?_
            exact hfin bx A c a Al n cl G e9 W HAE.out
          · go_simp
            obtain ⟨bx, hbx⟩ : ∃ bx, bx = (w3).heap.size := ⟨_, rfl⟩
            rw [← hbx]
            obtain ⟨w5, hw5⟩ : ∃ w5, w5 = (w3).alloc (.cells #[.pointer none, .slice none 0 0, .int .i64 0, .int .i64 0, .int .i64 0, .int .i64 0] 33) := ⟨_, rfl⟩
            rw [← hw5]
            have hb5 : Below (w3).heap.size (w3) w5 := by rw [hw5]; exact (Below.refl (w3).heap.size (w3)).alloc (Nat.le_refl _) _
            have hx5 : w5.heap[bx]? = some zTree := by rw [hw5, hbx]; exact alloc_blk (w3) _
            have hs5 := (hs3).trans (hb5.mono (hs3).size)
            have H5 := Aside0.mk (And.intro hb5 (And.intro hx5 (And.intro (show (w6).heap.size ≤ bx by rw [hbx]; exact (hs3).size) (Nat.le_of_eq hbx.symm))))
            refine hK _ _ hs5 ?_
            clear hK K hb5 hbx hw5 hx5
            (try simp only [Act.put, List.setIfInBounds_toArray, List.set_cons_zero, List.set_cons_succ])
            refine runT_op (by rfl) (by rfl) (fun K hK => ?_)
            go_simp
            have hA3 := Kd.C_below H0.out.2.2.1 ((HB6).out.trans ((hs5).mono (HB6).out.size))
            refine (unfold_of A c P Aa ca args b d 3000 w5 (Kd.C_below H3.out.2.1 H5.out.1) H3.out.1 hA3 H0.out.2.2.2.1 ((by decide)) HR.out).mono ?_
            rintro e w4 ⟨hb4, a, Al, n, cl, G, e9, rfl, hU⟩
            have hs4 := (hs5).trans (hb4.mono (hs5).size)
            have H4 := Aside0.mk (And.intro hU hb4)
            obtain ⟨V, hV⟩ : ∃ V, V = treeV a Al n cl G := ⟨_, rfl⟩
            rw [← hV]
            have HV := Aside0.mk hV
            refine hK _ _ hs4 ?_
            clear hK K hb4 hU hA3 hV
            (try simp only [Act.put, List.setIfInBounds_toArray, List.set_cons_zero, List.set_cons_succ])
            have hs := hs4
            repeat (
              (first
                | (refine runT_take (v := ?_) (by rfl) (by rfl) (fun w' hS => ?_) hs ?_
                   rotate_left
                   · (skip; go_simp; exact rfl))
                | refine runT_skip (by rfl) (by rfl) hs ?_)
              (try simp only [Act.put, List.setIfInBounds_toArray, List.set_cons_zero, List.set_cons_succ]))
            have hbox := ((H4.out.2.block _ (blk_lt H5.out.2.1)).trans H5.out.2.1)
            rw [HV.out, show treeV a Al n cl G = .agg #[.pointer a, .slice Al n cl, .int .i64 G.frames, .int .i64 G.cells, .int .i64 G.chunks, .int .i64 G.steps] from rfl]
            have q0 := blk_cell hbox 0
            have q1 := blk_cell hbox 1
            have q2 := blk_cell hbox 2
            have q3 := blk_cell hbox 3
            have q4 := blk_cell hbox 4
            have q5 := blk_cell hbox 5
            have f0 := blk_frozen hbox 0
            have f1 := blk_frozen hbox 1
            have f2 := blk_frozen hbox 2
            have f3 := blk_frozen hbox 3
            have f4 := blk_frozen hbox 4
            have f5 := blk_frozen hbox 5
            refine runT_op (by rfl) (by rfl) (fun K hK => ?_)
            go_simp
            obtain ⟨W, hW⟩ : ∃ W, W = ((((((w4).setCell ⟨bx, 0, none⟩ (.pointer a)).setCell ⟨bx, 1, none⟩ (.slice Al n cl)).setCell ⟨bx, 2, none⟩ (.int .i64 G.frames)).setCell ⟨bx, 3, none⟩ (.int .i64 G.cells)).setCell ⟨bx, 4, none⟩ (.int .i64 G.chunks)).setCell ⟨bx, 5, none⟩ (.int .i64 G.steps) := ⟨_, rfl⟩
            rw [← hW]
            have hAE := after_storeU hs4 hbox H5.out.2.2.1 (H4.out.1.old (blk_lt H5.out.2.1) hbox) hW
            have HAE := Aside0.mk hAE
            refine hK _ _ hAE.below ?_
            clear hK K q0 q1 q2 q3 q4 q5 f0 f1 f2 f3 f4 f5 hW
            (try simp only [Act.put, List.setIfInBounds_toArray, List.set_cons_zero, List.set_cons_succ])
            refine runT_op (by rfl) (by rfl) (fun K hK => ?_)
            go_simp
            refine hK _ _ hAE.below ?_
            clear hK K hAE
            (try simp only [Act.put, List.setIfInBounds_toArray, List.set_cons_zero, List.set_cons_succ])
            refine runT_done ?_
            exact hfin bx A c a Al n cl G e9 W HAE.out
        · go_simp
          obtain ⟨bx, hbx⟩ : ∃ bx, bx = (wd).heap.size := ⟨_, rfl⟩
          rw [← hbx]
          obtain ⟨w5, hw5⟩ : ∃ w5, w5 = (wd).alloc (.cells #[.pointer none, .slice none 0 0, .int .i64 0, .int .i64 0, .int .i64 0, .int .i64 0] 33) := ⟨_, rfl⟩
          rw [← hw5]
          have hb5 : Below (wd).heap.size (wd) w5 := by rw [hw5]; exact (Below.refl (wd).heap.size (wd)).alloc (Nat.le_refl _) _
          have hx5 : w5.heap[bx]? = some zTree := by rw [hw5, hbx]; exact alloc_blk (wd) _
          have hs5 := (hs).trans (hb5.mono (hs).size)
          have H5 := Aside0.mk (And.intro hb5 (And.intro hx5 (And.intro (show (w6).heap.size ≤ bx by rw [hbx]; exact (hs).size) (Nat.le_of_eq hbx.symm))))
          refine hK _ _ hs5 ?_
          clear hK K hb5 hbx hw5 hx5
          (try simp only [Act.put, List.setIfInBounds_toArray, List.set_cons_zero, List.set_cons_succ])
          refine runT_op (by rfl) (by rfl) (fun K hK => ?_)
          go_simp
          refine (of_any Ap cp P _ (Kd.C_below H0.out.1 ((HB6).out.trans ((hs5).mono (HB6).out.size))) H0.out.2.1 HLL.out.1 HLL.out.2).mono ?_
          rintro e w3 ⟨hb3, A, c, rfl, hc, hC⟩
          have hs3 := (hs5).trans (hb3.mono (hs5).size)
          have H3 := Aside0.mk (And.intro hc (And.intro hC hb3))
          refine hK _ _ hs3 ?_
          clear hK K hb3 hc hC
          (try simp only [Act.put, List.setIfInBounds_toArray, List.set_cons_zero, List.set_cons_succ])
          refine runT_op (by rfl) (by rfl) (fun K hK => ?_)
          go_simp
          have hA3 := Kd.C_below H0.out.2.2.1 ((HB6).out.trans ((hs3).mono (HB6).out.size))
          refine (unfold_of A c P Aa ca args b d 3000 w3 (Kd.C_below H3.out.2.1 (Below.refl _ _)) H3.out.1 hA3 H0.out.2.2.2.1 ((by decide)) HR.out).mono ?_
          rintro e w4 ⟨hb4, a, Al, n, cl, G, e9, rfl, hU⟩
          have hs4 := (hs3).trans (hb4.mono (hs3).size)
          have H4 := Aside0.mk (And.intro hU hb4)
          obtain ⟨V, hV⟩ : ∃ V, V = treeV a Al n cl G := ⟨_, rfl⟩
          rw [← hV]
          have HV := Aside0.mk hV
          refine hK _ _ hs4 ?_
          clear hK K hb4 hU hA3 hV
          (try simp only [Act.put, List.setIfInBounds_toArray, List.set_cons_zero, List.set_cons_succ])
          have hs := hs4
          repeat (
            (first
              | (refine runT_take (v := ?_) (by rfl) (by rfl) (fun w' hS => ?_) hs ?_
                 rotate_left
                 · (skip; go_simp; exact rfl))
              | refine runT_skip (by rfl) (by rfl) hs ?_)
            (try simp only [Act.put, List.setIfInBounds_toArray, List.set_cons_zero, List.set_cons_succ]))
          have hbox := ((H4.out.2.block _ (Nat.lt_of_lt_of_le (blk_lt H5.out.2.1) H3.out.2.2.size)).trans ((H3.out.2.2.block _ (blk_lt H5.out.2.1)).trans H5.out.2.1))
          rw [HV.out, show treeV a Al n cl G = .agg #[.pointer a, .slice Al n cl, .int .i64 G.frames, .int .i64 G.cells, .int .i64 G.chunks, .int .i64 G.steps] from rfl]
          have q0 := blk_cell hbox 0
          have q1 := blk_cell hbox 1
          have q2 := blk_cell hbox 2
          have q3 := blk_cell hbox 3
          have q4 := blk_cell hbox 4
          have q5 := blk_cell hbox 5
          have f0 := blk_frozen hbox 0
          have f1 := blk_frozen hbox 1
          have f2 := blk_frozen hbox 2
          have f3 := blk_frozen hbox 3
          have f4 := blk_frozen hbox 4
          have f5 := blk_frozen hbox 5
          refine runT_op (by rfl) (by rfl) (fun K hK => ?_)
          go_simp
          obtain ⟨W, hW⟩ : ∃ W, W = ((((((w4).setCell ⟨bx, 0, none⟩ (.pointer a)).setCell ⟨bx, 1, none⟩ (.slice Al n cl)).setCell ⟨bx, 2, none⟩ (.int .i64 G.frames)).setCell ⟨bx, 3, none⟩ (.int .i64 G.cells)).setCell ⟨bx, 4, none⟩ (.int .i64 G.chunks)).setCell ⟨bx, 5, none⟩ (.int .i64 G.steps) := ⟨_, rfl⟩
          rw [← hW]
          have hAE := after_storeU hs4 hbox H5.out.2.2.1 (H4.out.1.old (Nat.lt_of_lt_of_le (blk_lt H5.out.2.1) H3.out.2.2.size) hbox) hW
          have HAE := Aside0.mk hAE
          refine hK _ _ hAE.below ?_
          clear hK K q0 q1 q2 q3 q4 q5 f0 f1 f2 f3 f4 f5 hW
          (try simp only [Act.put, List.setIfInBounds_toArray, List.set_cons_zero, List.set_cons_succ])
          refine runT_op (by rfl) (by rfl) (fun K hK => ?_)
          go_simp
          refine hK _ _ hAE.below ?_
          clear hK K hAE
          (try simp only [Act.put, List.setIfInBounds_toArray, List.set_cons_zero, List.set_cons_succ])
          refine runT_done ?_
          exact hfin bx A c a Al n cl G e9 W HAE.out
      · intro bu A c a Al n cl G e9 W hAE
        have HAU := Aside0.mk hAE
        have HBW := Aside0.mk (HB6.out.trans (hAE.below.mono HB6.out.size))
        have HXW := Aside0.mk ((hAE.below.block _ (blk_lt HX6.out)).trans HX6.out)
        have HLW := Aside0.mk ((hAE.below.block _ (blk_lt HL6.out)).trans HL6.out)
        have HRU := HR
        clear HR hAE hs
        obtain ⟨rE, hrE⟩ : ∃ rE, rE = evalR (P.map ofF) args b d 3000 := ⟨_, rfl⟩
        obtain ⟨⟨rv, rf, told, log⟩, r2⟩ := rE
        have HR := Aside0.mk hrE
        clear hrE
        go_upto_region 5 with (fail)
        refine wp_region_T (fun w' => Below (W).heap.size (W) w') [] (.takes [0, 1, 3, 4, 5] (.alt 2 10 (.alt 6 10 (.takes [7, 8, 9] (.op 10 (.op 11 (.op 12 .done)))) (.op 6 (.takes [7, 8, 9] (.op 11 (.op 12 .done))))) (.op 2 (.op 6 (.takes [7, 8, 9] (.op 11 (.op 12 .done))))))) (by kernel_rfl) (by kernel_rfl) (by kernel_rfl) (by kernel_rfl) (panic_via (P := Try.prog) (fn := Try.f8) (R := fun e w' => e = .returned (.bool true) ∧ Below w.heap.size w w') (fun _ _ _ => rfl)) ?_
        obtain ⟨wd, hwd⟩ : ∃ wd, wd = (W).drew := ⟨_, rfl⟩
        rw [← hwd]
        have hs : Below (W).heap.size (W) wd := by rw [hwd]; exact (Below.refl _ _).drew
        clear hwd
        simp only [Turns.takes]
        repeat (
          (first
            | (refine runT_take (v := ?_) (by rfl) (by rfl) (fun w' hS => ?_) hs ?_
               rotate_left
               · (have hX := (hS.block _ (blk_lt HXW.out)).trans HXW.out; have d0 := blk_cell hX 0; have d1 := blk_cell hX 1; have hL := (hS.block _ (blk_lt HLW.out)).trans HLW.out; have d2 := blk_cell hL 0; have d3 := blk_cell hL 1; go_simp; exact rfl))
            | refine runT_skip (by rfl) (by rfl) hs ?_)
          (try simp only [Act.put, List.setIfInBounds_toArray, List.set_cons_zero, List.set_cons_succ]))
        rename_i K1 hK1
        refine' with_act (F := fun bx A c At ct Al cl W2 => AfterE W W2 bx rv rf told log At ct Al cl) (K := K1) _ (fun hfin => ?_) ?_
        rotate_left
        · refine runT_alt (by rfl) (by rfl) (by rfl) (by rfl) (fun K hK => ?_) (fun K hK => ?_)
          · go_simp
            refine (of_any Ap cp P _ (Kd.C_below H0.out.1 ((HBW).out.trans ((hs).mono (HBW).out.size))) H0.out.2.1 HLL.out.1 HLL.out.2).mono ?_
            rintro e w3 ⟨hb3, A, c, rfl, hc, hC⟩
            have hs3 := (hs).trans (hb3.mono (hs).size)
            have H3 := Aside0.mk (And.intro hc (And.intro hC hb3))
            refine hK _ _ hs3 ?_
            clear hK K hb3 hc hC
            (try simp only [Act.put, List.setIfInBounds_toArray, List.set_cons_zero, List.set_cons_succ])
            refine runT_alt (by rfl) (by rfl) (by rfl) (by rfl) (fun K hK => ?_) (fun K hK => ?_)
            · go_simp
              have hA3 := Kd.C_below H0.out.2.2.1 ((HBW).out.trans ((hs3).mono (HBW).out.size))
              refine (eval_of A c P Aa ca args b d 3000 w3 (Kd.C_below H3.out.2.1 (Below.refl _ _)) H3.out.1 hA3 H0.out.2.2.2.1 ((by decide)) HR.out).mono ?_
              rintro e w4 ⟨⟨At, ct, Al, cl, rfl, hrc⟩, hb4⟩
              have hs4 := (hs3).trans (hb4.mono (hs3).size)
              have H4 := Aside0.mk (And.intro hrc hb4)
              obtain ⟨V, hV⟩ : ∃ V, V = resV (((rv, rf, told, log), r2) : EvR).1 At ct Al cl := ⟨_, rfl⟩
              rw [← hV]
              have HV := Aside0.mk hV
              refine hK _ _ hs4 ?_
              clear hK K hb4 hrc hA3 hV
              (try simp only [Act.put, List.setIfInBounds_toArray, List.set_cons_zero, List.set_cons_succ])
              have hs := hs4
              repeat (
                (first
                  | (refine runT_take (v := ?_) (by rfl) (by rfl) (fun w' hS => ?_) hs ?_
                     rotate_left
                     · (skip; go_simp; exact rfl))
                  | refine runT_skip (by rfl) (by rfl) hs ?_)
                (try simp only [Act.put, List.setIfInBounds_toArray, List.set_cons_zero, List.set_cons_succ]))
              refine runT_op (by rfl) (by rfl) (fun K hK => ?_)
              go_simp
              obtain ⟨bx, hbx⟩ : ∃ bx, bx = (w4).heap.size := ⟨_, rfl⟩
              rw [← hbx]
              obtain ⟨w5, hw5⟩ : ∃ w5, w5 = (w4).alloc (.cells #[.int .i64 0, .int .i64 0, .slice none 0 0, .slice none 0 0] 77) := ⟨_, rfl⟩
              rw [← hw5]
              have hb5 : Below (w4).heap.size (w4) w5 := by rw [hw5]; exact (Below.refl (w4).heap.size (w4)).alloc (Nat.le_refl _) _
              have hx5 : w5.heap[bx]? = some zRes := by rw [hw5, hbx]; exact alloc_blk (w4) _
              have hs5 := (hs4).trans (hb5.mono (hs4).size)
              have H5 := Aside0.mk (And.intro hb5 (And.intro hx5 (show (W).heap.size ≤ bx by rw [hbx]; exact (hs4).size)))
              refine hK _ _ hs5 ?_
              clear hK K hb5 hbx hw5 hx5
              (try simp only [Act.put, List.setIfInBounds_toArray, List.set_cons_zero, List.set_cons_succ])
              have hbox := H5.out.2.1
              rw [HV.out, show resV (((rv, rf, told, log), r2) : EvR).1 At ct Al cl = .agg #[.int .i64 rv, .int .i64 rf, .slice At told.length ct, .slice Al log.length cl] from rfl]
              have q0 := blk_cell hbox 0
              have q1 := blk_cell hbox 1
              have q2 := blk_cell hbox 2
              have q3 := blk_cell hbox 3
              have f0 := blk_frozen hbox 0
              have f1 := blk_frozen hbox 1
              have f2 := blk_frozen hbox 2
              have f3 := blk_frozen hbox 3
              refine runT_op (by rfl) (by rfl) (fun K hK => ?_)
              go_simp
              obtain ⟨W, hW⟩ : ∃ W, W = ((((w5).setCell ⟨bx, 0, none⟩ (.int .i64 rv)).setCell ⟨bx, 1, none⟩ (.int .i64 rf)).setCell ⟨bx, 2, none⟩ (.slice At told.length ct)).setCell ⟨bx, 3, none⟩ (.slice Al log.length cl) := ⟨_, rfl⟩
              rw [← hW]
              have hAE := after_store hs5 hbox H5.out.2.2 (H4.out.1.below H5.out.1) hW
              have HAE := Aside0.mk hAE
              refine hK _ _ hAE.below ?_
              clear hK K q0 q1 q2 q3 f0 f1 f2 f3 hW
              (try simp only [Act.put, List.setIfInBounds_toArray, List.set_cons_zero, List.set_cons_succ])
              refine runT_op (by rfl) (by rfl) (fun K hK => ?_)
              go_simp
              refine hK _ _ hAE.below ?_
              clear hK K hAE
              (try simp only [Act.put, List.setIfInBounds_toArray, List.set_cons_zero, List.set_cons_succ])
              refine runT_done ?_
              exact hfin bx A c At ct Al cl W HAE.out
            · go_simp
              obtain ⟨bx, hbx⟩ : ∃ bx, bx = (w3).heap.size := ⟨_, rfl⟩
              rw [← hbx]
              obtain ⟨w5, hw5⟩ : ∃ w5, w5 = (w3).alloc (.cells #[.int .i64 0, .int .i64 0, .slice none 0 0, .slice none 0 0] 77) := ⟨_, rfl⟩
              rw [← hw5]
              have hb5 : Below (w3).heap.size (w3) w5 := by rw [hw5]; exact (Below.refl (w3).heap.size (w3)).alloc (Nat.le_refl _) _
              have hx5 : w5.heap[bx]? = some zRes := by rw [hw5, hbx]; exact alloc_blk (w3) _
              have hs5 := (hs3).trans (hb5.mono (hs3).size)
              have H5 := Aside0.mk (And.intro hb5 (And.intro hx5 (show (W).heap.size ≤ bx by rw [hbx]; exact (hs3).size)))
              refine hK _ _ hs5 ?_
              clear hK K hb5 hbx hw5 hx5
              (try simp only [Act.put, List.setIfInBounds_toArray, List.set_cons_zero, List.set_cons_succ])
              refine runT_op (by rfl) (by rfl) (fun K hK => ?_)
              go_simp
              have hA3 := Kd.C_below H0.out.2.2.1 ((HBW).out.trans ((hs5).mono (HBW).out.size))
              refine (eval_of A c P Aa ca args b d 3000 w5 (Kd.C_below H3.out.2.1 H5.out.1) H3.out.1 hA3 H0.out.2.2.2.1 ((by decide)) HR.out).mono ?_
              rintro e w4 ⟨⟨At, ct, Al, cl, rfl, hrc⟩, hb4⟩
              have hs4 := (hs5).trans (hb4.mono (hs5).size)
              have H4 := Aside0.mk (And.intro hrc hb4)
              obtain ⟨V, hV⟩ : ∃ V, V = resV (((rv, rf, told, log), r2) : EvR).1 At ct Al cl := ⟨_, rfl⟩
              rw [← hV]
              have HV := Aside0.mk hV
              refine hK _ _ hs4 ?_
              clear hK K hb4 hrc hA3 hV
              (try simp only [Act.put, List.setIfInBounds_toArray, List.set_cons_zero, List.set_cons_succ])
              have hs := hs4
              repeat (
                (first
                  | (refine runT_take (v := ?_) (by rfl) (by rfl) (fun w' hS => ?_) hs ?_
                     rotate_left
                     · (skip; go_simp; exact rfl))
                  | refine runT_skip (by rfl) (by rfl) hs ?_)
                (try simp only [Act.put, List.setIfInBounds_toArray, List.set_cons_zero, List.set_cons_succ]))
              have hbox := ((H4.out.2.block _ (blk_lt H5.out.2.1)).trans H5.out.2.1)
              rw [HV.out, show resV (((rv, rf, told, log), r2) : EvR).1 At ct Al cl = .agg #[.int .i64 rv, .int .i64 rf, .slice At told.length ct, .slice Al log.length cl] from rfl]
              have q0 := blk_cell hbox 0
              have q1 := blk_cell hbox 1
              have q2 := blk_cell hbox 2
              have q3 := blk_cell hbox 3
              have f0 := blk_frozen hbox 0
              have f1 := blk_frozen hbox 1
              have f2 := blk_frozen hbox 2
              have f3 := blk_frozen hbox 3
              refine runT_op (by rfl) (by rfl) (fun K hK => ?_)
              go_simp
              obtain ⟨W, hW⟩ : ∃ W, W = ((((w4).setCell ⟨bx, 0, none⟩ (.int .i64 rv)).setCell ⟨bx, 1, none⟩ (.int .i64 rf)).setCell ⟨bx, 2, none⟩ (.slice At told.length ct)).setCell ⟨bx, 3, none⟩ (.slice Al log.length cl) := ⟨_, rfl⟩
              rw [← hW]
              have hAE := after_store hs4 hbox H5.out.2.2 H4.out.1 hW
              have HAE := Aside0.mk hAE
              refine hK _ _ hAE.below ?_
              clear hK K q0 q1 q2 q3 f0 f1 f2 f3 hW
              (try simp only [Act.put, List.setIfInBounds_toArray, List.set_cons_zero, List.set_cons_succ])
              refine runT_op (by rfl) (by rfl) (fun K hK => ?_)
              go_simp
              refine hK _ _ hAE.below ?_
              clear hK K hAE
              (try simp only [Act.put, List.setIfInBounds_toArray, List.set_cons_zero, List.set_cons_succ])
              refine runT_done ?_
              exact hfin bx A c At ct Al cl W HAE.out
          · go_simp
            obtain ⟨bx, hbx⟩ : ∃ bx, bx = (wd).heap.size := ⟨_, rfl⟩
            rw [← hbx]
            obtain ⟨w5, hw5⟩ : ∃ w5, w5 = (wd).alloc (.cells #[.int .i64 0, .int .i64 0, .slice none 0 0, .slice none 0 0] 77) := ⟨_, rfl⟩
            rw [← hw5]
            have hb5 : Below (wd).heap.size (wd) w5 := by rw [hw5]; exact (Below.refl (wd).heap.size (wd)).alloc (Nat.le_refl _) _
            have hx5 : w5.heap[bx]? = some zRes := by rw [hw5, hbx]; exact alloc_blk (wd) _
            have hs5 := (hs).trans (hb5.mono (hs).size)
            have H5 := Aside0.mk (And.intro hb5 (And.intro hx5 (show (W).heap.size ≤ bx by rw [hbx]; exact (hs).size)))
            refine hK _ _ hs5 ?_
            clear hK K hb5 hbx hw5 hx5
            (try simp only [Act.put, List.setIfInBounds_toArray, List.set_cons_zero, List.set_cons_succ])
            refine runT_op (by rfl) (by rfl) (fun K hK => ?_)
            go_simp
            refine (of_any Ap cp P _ (Kd.C_below H0.out.1 ((HBW).out.trans ((hs5).mono (HBW).out.size))) H0.out.2.1 HLL.out.1 HLL.out.2).mono ?_
            rintro e w3 ⟨hb3, A, c, rfl, hc, hC⟩
            have hs3 := (hs5).trans (hb3.mono (hs5).size)
            have H3 := Aside0.mk (And.intro hc (And.intro hC hb3))
            refine hK _ _ hs3 ?_
            clear hK K hb3 hc hC
            (try simp only [Act.put, List.setIfInBounds_toArray, List.set_cons_zero, List.set_cons_succ])
            refine runT_op (by rfl) (by rfl) (fun K hK => ?_)
            go_simp
            have hA3 := Kd.C_below H0.out.2.2.1 ((HBW).out.trans ((hs3).mono (HBW).out.size))
            refine (eval_of A c P Aa ca args b d 3000 w3 (Kd.C_below H3.out.2.1 (Below.refl _ _)) H3.out.1 hA3 H0.out.2.2.2.1 ((by decide)) HR.out).mono ?_
            rintro e w4 ⟨⟨At, ct, Al, cl, rfl, hrc⟩, hb4⟩
            have hs4 := (hs3).trans (hb4.mono (hs3).size)
            have H4 := Aside0.mk (And.intro hrc hb4)
            obtain ⟨V, hV⟩ : ∃ V, V = resV (((rv, rf, told, log), r2) : EvR).1 At ct Al cl := ⟨_, rfl⟩
            rw [← hV]
            have HV := Aside0.mk hV
            refine hK _ _ hs4 ?_
            clear hK K hb4 hrc hA3 hV
            (try simp only [Act.put, List.setIfInBounds_toArray, List.set_cons_zero, List.set_cons_succ])
            have hs := hs4
            repeat (
              (first
                | (refine runT_take (v := ?_) (by rfl) (by rfl) (fun w' hS => ?_) hs ?_
                   rotate_left
                   · (skip; go_simp; exact rfl))
                | refine runT_skip (by rfl) (by rfl) hs ?_)
              (try simp only [Act.put, List.setIfInBounds_toArray, List.set_cons_zero, List.set_cons_succ]))
            have hbox := ((H4.out.2.block _ (Nat.lt_of_lt_of_le (blk_lt H5.out.2.1) H3.out.2.2.size)).trans ((H3.out.2.2.block _ (blk_lt H5.out.2.1)).trans H5.out.2.1))
            rw [HV.out, show resV (((rv, rf, told, log), r2) : EvR).1 At ct Al cl = .agg #[.int .i64 rv, .int .i64 rf, .slice At told.length ct, .slice Al log.length cl] from rfl]
            have q0 := blk_cell hbox 0
            have q1 := blk_cell hbox 1
            have q2 := blk_cell hbox 2
            have q3 := blk_cell hbox 3
            have f0 := blk_frozen hbox 0
            have f1 := blk_frozen hbox 1
            have f2 := blk_frozen hbox 2
            have f3 := blk_frozen hbox 3
            refine runT_op (by rfl) (by rfl) (fun K hK => ?_)
            go_simp
            obtain ⟨W, hW⟩ : ∃ W, W = ((((w4).setCell ⟨bx, 0, none⟩ (.int .i64 rv)).setCell ⟨bx, 1, none⟩ (.int .i64 rf)).setCell ⟨bx, 2, none⟩ (.slice At told.length ct)).setCell ⟨bx, 3, none⟩ (.slice Al log.length cl) := ⟨_, rfl⟩
            rw [← hW]
            have hAE := after_store hs4 hbox H5.out.2.2 H4.out.1 hW
            have HAE := Aside0.mk hAE
            refine hK _ _ hAE.below ?_
            clear hK K q0 q1 q2 q3 f0 f1 f2 f3 hW
            (try simp only [Act.put, List.setIfInBounds_toArray, List.set_cons_zero, List.set_cons_succ])
            refine runT_op (by rfl) (by rfl) (fun K hK => ?_)
            go_simp
            refine hK _ _ hAE.below ?_
            clear hK K hAE
            (try simp only [Act.put, List.setIfInBounds_toArray, List.set_cons_zero, List.set_cons_succ])
            refine runT_done ?_
            exact hfin bx A c At ct Al cl W HAE.out
        · intro bx A2 c2 At ct Al2 cl2 W2 hAE
          have HAE := Aside0.mk hAE
          have HBW2 := Aside0.mk (HBW.out.trans (hAE.below.mono HBW.out.size))
          have hres := HAU.out.res.below hAE.below
          have hbu := (hAE.below.block _ (blk_lt HAU.out.box)).trans HAU.out.box
          clear hAE hs
          cases r with
          | err e =>
            obtain ⟨rfl, _⟩ := hres
            have he : (e9 != 0) = true := by rcases unfoldR_err HRU.out.symm with h | h <;> rw [h] <;> rfl
            clear HR HRU hbu
            go_wp2_with fail
            refine (awake_any _).mono ?_
            rintro e w9 ⟨rfl, hb9⟩
            have HB9 := Aside0.mk ((HBW2).out.trans (hb9.mono (HBW2).out.size))
            clear hb9
            go_wp2_with fail
            go_ret
            exact ⟨rfl, HB9.out⟩
          | ok t G2 =>
            obtain ⟨rfl, rfl, hnc, hT, L, rfl, hpm, hsrt, hLA⟩ := hres
            obtain ⟨hrt, hp⟩ := unfoldR_ok HRU.out.symm
            obtain ⟨k1, k2, k3, k4, k5⟩ := evRight_ok hrt
            obtain ⟨j1, j2, j3, j4, j5, j6, j7, j8, j9, j10⟩ := unfoldP_need3 hp k1 k2 k3 k5
            have htl := walkT_len t [] 0 j1
            obtain ⟨v, f, told', log', m1, m2, m3, m4, m5⟩ := unfold_cov hrt hp hpm hsrt
            have hev : evalR (P.map ofF) args b d 3000 = ((v, f, told', log'), 0) := by unfold evalR; rw [if_pos hrt, m1]
            have hE := HR.out.trans hev
            cases hE
            have HMC := Aside0.mk (First_any t a W2 hT (fun _ => by omega))
            have hll : log.length ≤ 9223372036854775807 := HAE.out.res.log.2.1
            have hLl : L.length ≤ 9223372036854775807 := by
              have h1 := hpm.length_eq
              omega
            have hL0 : 0 < L.length := by rw [hpm.length_eq]; exact unfoldP_ne hp
            have hl0 : 0 < log.length := evalP_ne (by omega) (by omega) m1
            obtain ⟨g, Ag, cg, rfl, -⟩ := hLA 0 hL0
            obtain ⟨ad, rfl, -⟩ := log_cells HAE.out.res hl0
            obtain ⟨first, is, hfi⟩ : ∃ first is, firstP t = (first, is) := ⟨_, _, rfl⟩
            rw [hfi] at m4 m5
            replace m4 : is = decide (rf ≠ 0) := m4
            have hnl : (is == (rf != 0)) = true := by rw [m4]; by_cases h : rf = 0 <;> simp [h]
            have HCV := Aside0.mk (show CovAt is first L log 0 0 from ⟨by rw [m4]; exact m5, Nat.zero_le _, Nat.zero_le _⟩)
            have HFI := Aside0.mk hfi
            have HLL2 := Aside0.mk (And.intro hll hLl)
            have HLA := Aside0.mk (And.intro hLA (Aside0.mk hbu))
            have q0 := blk_cell hbu 0
            clear HR HRU hnc hT hpm hsrt hLA hrt hp k1 k2 k3 k4 k5 j1 j2 j3 j4 j5 j6 j7 j8 j9 j10 m1 m2 m3 m4 m5 htl hev hll hLl hfi hbu HAU hL0 hl0
            have y1 := blk_cell HAE.out.box 1
            go_wp2_with fail
            refine HMC.out.mono ?_
            rintro e w7 ⟨Af, cf, rfl, hpf, hb7⟩
            rw [HFI.out] at hpf ⊢
            clear HMC HFI q0 y1
            have HB7 := Aside0.mk (HBW2.out.trans (hb7.mono HBW2.out.size))
            have hbe := (hb7.block _ (blk_lt HAE.out.box)).trans HAE.out.box
            have hbu := (hb7.block _ (blk_lt HLA.out.2.out)).trans HLA.out.2.out
            have HLE := Aside0.mk (HAE.out.res.below hb7)
            have HLU := Aside0.mk (HLA.out.1.below hb7)
            have HPF := Aside0.mk (And.intro hpf.1 hpf.len)
            have q1 := blk_cell hbu 1
            have y1 := blk_cell hbe 1
            have y3 := blk_cell hbe 3
            clear hpf hb7 hbe hbu HAE HLA
            obtain ⟨n1, hn1⟩ : ∃ n1, n1 = L.length := ⟨_, rfl⟩
            obtain ⟨n2, hn2'⟩ : ∃ n2, n2 = log.length := ⟨_, rfl⟩
            rw [← hn1] at q1
            rw [← hn2'] at y3
            have HN1 := Aside0.mk (And.intro hn1 hn2')
            clear hn1 hn2'
            go_wp2_with fail
            go_loopw [10, 11] (fun v10 v11 wr => ∃ i k m : Nat, v10 = .int .i64 k ∧ v11 = .int .i64 i ∧ CovAt is first L log i k ∧ wr = w7.drewN m) (fun _ v11 _ => n1 - (intOf v11).toNat)
            case atStart => exact ⟨0, 0, 0, rfl, rfl, HCV.out, rfl⟩
            case round =>
              obtain ⟨i, k, m, rfl, rfl, hC, rfl⟩ := hrel
              obtain ⟨hv1, hv2⟩ := HN1.out
              have hi9 := hC.il
              have hk9 := hC.kl
              have hn8 := HLL2.out
              by_cases hik : i < n1
              · have hiL : i < L.length := hv1 ▸ hik
                obtain ⟨U, A0, c0, e0, e1, e2, e3, e4, hU⟩ : ∃ (U : List Int × Int) (A0 : Option Addr) (c0 : Nat), w7.cell? ⟨g, i * 2, none⟩ = some (.slice A0 U.1.length c0) ∧ w7.cell? ⟨g, i * 2 + 1, none⟩ = some (.int .i64 U.2) ∧ U.1.length ≤ c0 ∧ U.1.length ≤ 1000 ∧ (Kd.int .i64).C w7 A0 U.1.length U.1 ∧ L[i] = U := by
                  obtain ⟨g', A0, c0, hg, e0, e1, e2, e3, e4⟩ := HLU.out i hiL
                  cases hg
                  exact ⟨L[i], A0, c0, e0, e1, e2, e3, e4, rfl⟩
                have hlt : ((i : Int) < (n1 : Nat)) = True := eq_true (by omega)
                have hw8 : IntKind.i64.wrap ((i : Int) + 1) = (i : Int) + 1 := IntWalk.i64_in _ (by omega)
                have HI := Aside0.mk hik
                have HE := Aside0.mk (And.intro e2 (And.intro e3 e4))
                by_cases hkl : k < n2
                · have hkL : k < log.length := hv2 ▸ hkl
                  obtain ⟨E, A1, c1, k0, k1, k2, k3, hE⟩ : ∃ (E : List Int × Int) (A0 : Option Addr) (c0 : Nat), w7.cell? (ad.add (k * 2)) = some (.slice A0 E.1.length c0) ∧ w7.cell? ⟨(ad.add (k * 2)).block, (ad.add (k * 2)).off + 1, none⟩ = some (.int .i64 E.2) ∧ E.1.length ≤ c0 ∧ (Kd.int .i64).C w7 A0 E.1.length E.1 ∧ log[k] = E := by
                    obtain ⟨ad2, h9, hh⟩ := log_cells HLE.out (by omega)
                    cases h9
                    obtain ⟨A0, c0, e0, e1, e2, e3⟩ := hh k hkL
                    exact ⟨log[k], A0, c0, e0, e1, e2, e3, rfl⟩
                  have hkt : ((k : Int) < (n2 : Nat)) = True := eq_true (by omega)
                  have hw9 : IntKind.i64.wrap ((k : Int) + 1) = (k : Int) + 1 := IntWalk.i64_in _ (by omega)
                  by_cases he : E.1 = U.1
                  · obtain ⟨t1, t2, t3⟩ := hC.hit hiL hkL (by rw [hE, hU]; exact he)
                    rw [hE, hU] at t1 t2
                    have hg1 : (U.2 < E.2) = False := eq_false (by omega)
                    have HJ := Aside0.mk (And.intro (show cmpP U.1 E.1 = 0 by rw [he]; exact cmpP_self _) (And.intro (show U.1.length ≤ 4611686018427387904 by omega) (And.intro k2 (And.intro k3 t3))))
                    cases is with
                    | false =>
                      have hg2 : U.2 = E.2 := t2 rfl
                      have hg3 : (U.2 == E.2) = true := by simp [hg2]
                      clear t1 t2 t3 he hE hU hC hi9 hk9 hn8 hik hiL hkl hkL hv1 hv2 e2 e3 e4 k2 k3 hg2
                      go_wp2_with fail
                      go_quiet (first | (go_at_call 17; refine (cmp_is A0 c0 U.1 A1 c1 E.1 _ HJ.out.1 ?_ HE.out.1 ?_ HJ.out.2.2.1 HJ.out.2.1).mono ?_; (repeat (first | exact HE.out.2.2 | exact HJ.out.2.2.2.1 | (with_reducible refine Kd.C_drewN ?_ _) | (with_reducible refine Kd.C_drew ?_))); rintro e w' ⟨rfl, ⟨nd, rfl⟩⟩; (try first | exact ⟨rfl, _, World.drewN_drewN _ _ _⟩ | exact ⟨rfl, _, Eq.trans (World.drewN_drewN _ _ _) (congrArg (World.drewN _) (Nat.add_assoc _ _ _))⟩)))
                      go_wp2_with fail
                      go_quiet (fail)
                      go_wp2_with fail
                      go_roundw
                      case rel => exact ⟨i + 1, k + 1, _, by go_num, by go_num, HJ.out.2.2.2.2, rfl⟩
                      case measure => exact up_lt HI.out
                    | true =>
                      clear t1 t2 t3 he hE hU hC hi9 hk9 hn8 hik hiL hkl hkL hv1 hv2 e2 e3 e4 k2 k3
                      go_wp2_with fail
                      go_quiet (first | (go_at_call 17; refine (cmp_is A0 c0 U.1 A1 c1 E.1 _ HJ.out.1 ?_ HE.out.1 ?_ HJ.out.2.2.1 HJ.out.2.1).mono ?_; (repeat (first | exact HE.out.2.2 | exact HJ.out.2.2.2.1 | (with_reducible refine Kd.C_drewN ?_ _) | (with_reducible refine Kd.C_drew ?_))); rintro e w' ⟨rfl, ⟨nd, rfl⟩⟩; (try first | exact ⟨rfl, _, World.drewN_drewN _ _ _⟩ | exact ⟨rfl, _, Eq.trans (World.drewN_drewN _ _ _) (congrArg (World.drewN _) (Nat.add_assoc _ _ _))⟩)))
                      go_wp2_with fail
                      go_quiet (fail)
                      go_wp2_with fail
                      go_roundw
                      case rel => exact ⟨i + 1, k + 1, _, by go_num, by go_num, HJ.out.2.2.2.2, rfl⟩
                      case measure => exact up_lt HI.out
                  · obtain ⟨t1, t2, t3⟩ := hC.miss hiL (fun hk => by rw [hE, hU]; exact he)
                    subst t1
                    rw [hU] at t2
                    obtain ⟨z, hz⟩ : ∃ z, cmpP U.1 E.1 = z := ⟨_, rfl⟩
                    have hz0 : z ≠ 0 := hz ▸ cmpP_ne (fun e => he e.symm)
                    have hz1 : (z == 0) = false := by simp [hz0]
                    have hz2 : (z = 0) = False := eq_false hz0
                    have HM := Aside0.mk (And.intro t2 (And.intro (show U.1.length ≤ 4611686018427387904 by omega) t3))
                    have HJ := Aside0.mk (And.intro hz (And.intro (show U.1.length ≤ 4611686018427387904 by omega) (And.intro k2 (And.intro k3 True.intro))))
                    clear t2 t3 he hE hU hC hi9 hk9 hn8 hik hiL hkl hkL hv1 hv2 e2 e3 e4 k2 k3 hz hz0
                    go_wp2_with fail
                    go_quiet (first | (go_at_call 17; refine (cmp_is A0 c0 U.1 A1 c1 E.1 _ HJ.out.1 ?_ HE.out.1 ?_ HJ.out.2.2.1 HJ.out.2.1).mono ?_; (repeat (first | exact HE.out.2.2 | exact HJ.out.2.2.2.1 | (with_reducible refine Kd.C_drewN ?_ _) | (with_reducible refine Kd.C_drew ?_))); rintro e w' ⟨rfl, ⟨nd, rfl⟩⟩; (try first | exact ⟨rfl, _, World.drewN_drewN _ _ _⟩ | exact ⟨rfl, _, Eq.trans (World.drewN_drewN _ _ _) (congrArg (World.drewN _) (Nat.add_assoc _ _ _))⟩)))
                    go_wp2_with fail
                    refine (cmp_is A0 c0 U.1 Af cf first _ HM.out.1 ?_ HE.out.1 ?_ HPF.out.2 HM.out.2.1).mono ?_
                    · (repeat (first | exact HE.out.2.2 | (with_reducible refine Kd.C_drewN ?_ _) | (with_reducible refine Kd.C_drew ?_)))
                    · (repeat (first | exact HPF.out.1 | (with_reducible refine Kd.C_drewN ?_ _) | (with_reducible refine Kd.C_drew ?_)))
                    rintro e w8 ⟨rfl, ⟨nd2, rfl⟩⟩
                    go_wp2_with fail
                    go_roundw
                    case rel => exact ⟨i + 1, k, _, rfl, by go_num, HM.out.2.2, by first | rfl | rw [World.drewN_drewN] | (rw [World.drewN_drewN, World.drewN_drewN])⟩
                    case measure => exact up_lt HI.out
                · have hkt : ((k : Int) < (n2 : Nat)) = False := eq_false (by omega)
                  obtain ⟨t1, t2, t3⟩ := hC.miss hiL (fun hk => absurd hk (by omega))
                  subst t1
                  rw [hU] at t2
                  have HM := Aside0.mk (And.intro t2 (And.intro (show U.1.length ≤ 4611686018427387904 by omega) t3))
                  clear t2 t3 hU hC hi9 hk9 hn8 hik hiL hkl hv1 hv2 e2 e3 e4
                  go_wp2_with fail
                  go_quiet (fail)
                  go_wp2_with fail
                  refine (cmp_is A0 c0 U.1 Af cf first _ HM.out.1 ?_ HE.out.1 ?_ HPF.out.2 HM.out.2.1).mono ?_
                  · (repeat (first | exact HE.out.2.2 | (with_reducible refine Kd.C_drewN ?_ _) | (with_reducible refine Kd.C_drew ?_)))
                  · (repeat (first | exact HPF.out.1 | (with_reducible refine Kd.C_drewN ?_ _) | (with_reducible refine Kd.C_drew ?_)))
                  rintro e w8 ⟨rfl, ⟨nd2, rfl⟩⟩
                  go_wp2_with fail
                  go_roundw
                  case rel => exact ⟨i + 1, k, _, rfl, by go_num, HM.out.2.2, by first | rfl | rw [World.drewN_drewN] | (rw [World.drewN_drewN, World.drewN_drewN])⟩
                  case measure => exact up_lt HI.out
              · obtain rfl : i = n1 := by omega
                have hk2 : k = n2 := by
                  have hC2 := hC
                  rw [hv1] at hC2
                  rw [hC2.fin, hv2]
                subst hk2
                have HB8 := Aside0.mk (HB7.out.trans ((pw_below_drewN (Below.refl w7.heap.size w7) m).mono HB7.out.size))
                clear hC hi9 hk9 hn8 hik hv1 hv2
                go_wp2_with fail
                refine (awake_any _).mono ?_
                rintro e w9 ⟨rfl, hb9⟩
                have HB9 := Aside0.mk ((HB8).out.trans (hb9.mono (HB8).out.size))
                clear hb9
                go_wp2_with fail
                go_ret
                exact ⟨rfl, HB9.out⟩
def haymowlaw08_UnfoldCovers.f (l0_0 : List S83) (l0_1 : List Int) (a0_2 a0_3 : Int) : Option Bool := some true
theorem haymowlaw08_UnfoldCovers.calls (A0_0 : Option Addr) (c0_0 : Nat) (l0_0 : List S83) (A0_1 : Option Addr) (c0_1 : Nat) (l0_1 : List Int) (a0_2 a0_3 : Int) (r : Bool) (w : World) (hr0_0 : k83.C w A0_0 l0_0.length l0_0) (hc0_0 : l0_0.length ≤ c0_0) (hr0_1 : (Kd.int .i64).C w A0_1 l0_1.length l0_1) (hc0_1 : l0_1.length ≤ c0_1) (h : haymowlaw08_UnfoldCovers.f l0_0 l0_1 a0_2 a0_3 = some r) :
    Calls Try.prog 8 #[.agg #[.slice A0_0 l0_0.length c0_0, .slice A0_1 l0_1.length c0_1, .int .i64 a0_2, .int .i64 a0_3]] w fun e w' => e = .returned (.bool r) ∧ Below w.heap.size w w' := by
  cases h
  exact covers_walk A0_0 c0_0 l0_0 A0_1 c0_1 l0_1 a0_2 a0_3 w hr0_0 hc0_0 hr0_1 hc0_1
end Go.Proofs.Ytbekjccehhaljaa.H

set_option linter.unusedVariables false
set_option linter.unusedSimpArgs false
namespace Go.Hay
open Go.RowKit Go.Proofs.YtbekjccehhaljaaW.PrintWords Go.Proofs.YtbekjccehhaljaaW.PrintLast Go.Proofs.YtbekjccehhaljaaW.PrintMore

def Opens {α : Type} (P : Program) (t : TypeId) (d : Kd α) (wf : α → Prop) : Prop :=
  ∀ {H : Type} {enc : TypeId × Value → H} {w : World} {base : Nat} {spare : Nat → Bool} {held : Bool} {fuel : Nat} {cs : List Value} {x : DataW H × List MemPlace},
    DataW.trod enc P w base spare held fuel t cs = some x → ∃ a, d.K w a cs ∧ wf a

theorem opens_int {P : Program} {t : TypeId} {k : IntKind} (ht : P.underlying t = some (.int k)) : Opens P t (Kd.int k) (fun n => (Lit.int k n).wf = true) := by
  intro H enc w base spare held fuel cs x h
  cases fuel with
  | zero => simp [DataW.trod] at h
  | succ fuel =>
    unfold DataW.trod at h
    simp only [ht] at h
    split at h <;> simp_all
    rename_i k' n _
    obtain ⟨⟨rfl, hw⟩, _⟩ := h
    exact ⟨n, rfl, hw⟩
theorem opens_slice {α : Type} {P : Program} {t e e' : TypeId} {d : Kd α} {wf : α → Prop} (ht : P.underlying t = some (.slice e)) (hc : P.cellsOf e = d.sz) (he : Opens P e d wf) : Opens P t (Kd.slice e' d) (fun l => ∀ a ∈ l, wf a) := by
  intro H enc w base spare held fuel cs x h
  rcases Deep.open_slice ht h with ⟨rfl, _⟩ | ⟨a, len, cap, m, n, D, Pl, rfl, hb, hl, hm, hmm, rfl, hx⟩
  · exact ⟨[], ⟨none, 0, rfl, Nat.le_refl _, Kd.C_nil d w⟩, by simp⟩
  · have hlm : len ≤ m := by rw [hmm]; split <;> omega
    have each : ∀ i, i < len → ∃ y : α × List Value, w.cells? base (a.add (i * P.cellsOf e)) (P.cellsOf e) = some y.2 ∧ d.K w y.1 y.2 ∧ wf y.1 := by
      intro i hi
      obtain ⟨cs', h1, h2⟩ := hx i (by omega)
      obtain ⟨y, h3, h4⟩ := he h2
      exact ⟨(y, cs'), h1, h3, h4⟩
    have : Nonempty (∀ i : Fin len, ∃ y : α × List Value, w.cells? base (a.add (i * P.cellsOf e)) (P.cellsOf e) = some y.2 ∧ d.K w y.1 y.2 ∧ wf y.1) := ⟨fun i => each i i.2⟩
    obtain ⟨g, hg⟩ := Classical.axiomOfChoice (fun i : Fin len => each i i.2)
    refine ⟨List.ofFn fun i => (g i).1, ⟨some a, cap, by simp, by simpa using hl, ?_⟩, ?_⟩
    · refine ⟨rfl, ?_, fun _ => ⟨a, rfl, fun j p hj => ?_⟩⟩
      · rw [List.length_ofFn]; unfold maxLen at hm; omega
      · obtain ⟨hlt, hj⟩ := List.getElem?_eq_some_iff.1 hj
        rw [List.length_ofFn] at hlt
        rw [List.getElem_ofFn] at hj
        subst hj
        obtain ⟨g1, g2, g3⟩ := hg ⟨j, hlt⟩
        obtain ⟨_, hcl, hcell⟩ := World.cells?_some g1
        refine ⟨_, d.K_len g2, g2, fun i u hu => ?_⟩
        have hi : i < P.cellsOf e := by
          have := (List.getElem?_eq_some_iff.1 hu).1
          omega
        have := hcell i hi
        rw [hu] at this
        rw [← this, hc]
        congr 1
        unfold Addr.add
        by_cases e1 : j * d.sz = 0 <;> by_cases e2 : i = 0 <;> simp [e1, e2] <;> omega
    · intro y hy
      obtain ⟨i, rfl⟩ := List.mem_ofFn.1 hy
      exact (hg i).2.2
def OpensAt {α : Type} (P : Program) (fs : List Field) (off : Nat) (d : Kd α) (wf : α → Prop) : Prop :=
  ∀ {H : Type} {enc : TypeId × Value → H} {w : World} {base : Nat} {spare : Nat → Bool} {held : Bool} {n : Nat} {cs : List Value} {xs : List (DataW H × List MemPlace)},
    xs.length = fs.length → (∀ (i : Nat) (f : Field), fs[i]? = some f → DataW.trod enc P w base spare held n f.type ((cs.drop f.offset).take (P.cellsOf f.type)) = xs[i]?) → ∃ a, d.K w a ((cs.drop off).take d.sz) ∧ wf a
theorem opens_last {α : Type} {P : Program} {f : Field} {off : Nat} {d : Kd α} {wf : α → Prop} (ho : f.offset = off) (hc : P.cellsOf f.type = d.sz) (he : Opens P f.type d wf) : OpensAt P [f] off d wf := by
  intro H enc w base spare held n cs xs hl h
  have h0 := h 0 f rfl
  rw [ho, hc, List.getElem?_eq_getElem (by rw [hl]; simp)] at h0
  exact he h0
theorem opens_cons {α β : Type} {P : Program} {f : Field} {fs : List Field} {off : Nat} {d : Kd α} {d2 : Kd β} {wf : α → Prop} {wf2 : β → Prop} (ho : f.offset = off) (hc : P.cellsOf f.type = d.sz) (he : Opens P f.type d wf)
    (hr : OpensAt P fs (off + d.sz) d2 wf2) : OpensAt P (f :: fs) off (Kd.pair d d2) (fun p => wf p.1 ∧ wf2 p.2) := by
  intro H enc w base spare held n cs xs hl h
  have h0 := h 0 f rfl
  rw [ho, hc, List.getElem?_eq_getElem (by rw [hl]; simp)] at h0
  obtain ⟨a, ha, hwa⟩ := he h0
  obtain ⟨b, hb, hwb⟩ := hr (n := n) (cs := cs) (xs := xs.drop 1) (by simp [hl]) (fun i g hg => by
    have := h (i + 1) g (by simpa using hg)
    rw [this]; simp [Nat.add_comm])
  refine ⟨(a, b), ⟨_, _, ?_, ha, hb⟩, hwa, hwb⟩
  show (cs.drop off).take (d.sz + d2.sz) = _
  rw [List.take_add, List.drop_drop]
theorem opens_struct {α : Type} {P : Program} {t : TypeId} {fs : Array Field} {d : Kd α} {wf : α → Prop} (ht : P.underlying t = some (.struct fs)) (hc : P.cellsOf t = d.sz) (h : OpensAt P fs.toList 0 d wf) : Opens P t d wf := by
  intro H enc w base spare held fuel cs x hx
  obtain ⟨xs, n, rfl, rfl, hlen, hxl, hall⟩ := DataW.trod_struct ht hx
  obtain ⟨a, ha, hwa⟩ := h (n := n) (cs := cs) (xs := xs) (by simpa using hxl) (fun i f hf => hall i f (by simpa using hf))
  refine ⟨a, ?_, hwa⟩
  rwa [List.drop_zero, List.take_of_length_le (by omega)] at ha
theorem opens_iso {α β : Type} {P : Program} {t : TypeId} {d : Kd α} {wf : α → Prop} (g : β → α) (f : α → β) (hf : ∀ a, g (f a) = a) (h : Opens P t d wf) : Opens P t (Kd.iso d g) (fun b => wf (g b)) := by
  intro H enc w base spare held fuel cs x hx
  obtain ⟨a, ha, hwa⟩ := h hx
  exact ⟨f a, by show d.K w (g (f a)) cs; rw [hf]; exact ha, by show wf (g (f a)); rw [hf]; exact hwa⟩
end Go.Hay

-- made by this session's gen.py: the row of the law haymow/haymowlaw08.UnfoldCovers; not trusted: Lean checks it
namespace Go.Proofs.Ytbekjccehhaljaa.unfoldCovers
open Go.ChangeShapes Go.WideShapes Go.ChangeAt Go.RowKit Go.Hay Go.Proofs.Ytbekjccehhaljaa.H Go.Proofs.YtbekjccehhaljaaW.PrintWords Go.Proofs.YtbekjccehhaljaaW.PrintLast Go.Proofs.YtbekjccehhaljaaW.PrintMore
open Go.ChangeMaps (open_string shut_string)
set_option linter.unusedVariables false
set_option linter.unusedSimpArgs false
theorem own : ownKnob Try.prog.godebug = none := by kernel_rfl
theorem laidOut : laidOutB Try.prog = true := by kernel_rfl
structure S25 where
  f0 : List (S83)
  f1 : List Int
  f2 : Int
  f3 : Int
def k25 : Kd S25 := Kd.iso (Kd.pair ((Kd.slice 83 k83)) (Kd.pair ((Kd.slice 2 (Kd.int .i64))) (Kd.pair ((Kd.int .i64)) ((Kd.int .i64))))) (fun x : S25 => (x.f0, x.f1, x.f2, x.f3))
theorem k25_open {w : World} {x : S25} {cs : List Value} (h : k25.K w x cs) : ∃ A0 c0 A1 c1, cs = [.slice A0 x.f0.length c0, .slice A1 x.f1.length c1, .int .i64 x.f2, .int .i64 x.f3] ∧ x.f0.length ≤ c0 ∧ Kd.C k83 w A0 x.f0.length x.f0 ∧ x.f1.length ≤ c1 ∧ Kd.C (Kd.int .i64) w A1 x.f1.length x.f1 := by
  obtain ⟨_, _, rfl, ⟨A0, c0, rfl, l0, g0⟩, ⟨_, _, rfl, ⟨A1, c1, rfl, l1, g1⟩, ⟨_, _, rfl, rfl, rfl⟩⟩⟩ := h
  exact ⟨A0, c0, A1, c1, rfl, l0, g0, l1, g1⟩
theorem opens3 : Opens Try.prog 3 (Kd.int .i64) (fun x => (Lit.int .i64 x).wf = true) := opens_int Try.underlying3
def wfT84 (x : S84) : Prop := ((Lit.int .i64 x.f0).wf = true ∧ (Lit.int .i64 x.f1).wf = true ∧ (Lit.int .i64 x.f2).wf = true ∧ (Lit.int .i64 x.f3).wf = true ∧ (Lit.int .i64 x.f4).wf = true)
theorem opens84 : Opens Try.prog 84 k84 wfT84 := opens_iso _ (fun y => (⟨y.1, y.2.1, y.2.2.1, y.2.2.2.1, y.2.2.2.2⟩ : S84)) (fun _ => rfl) (opens_struct Try.underlying84 (by kernel_rfl) (opens_cons rfl (by kernel_rfl) opens3 (opens_cons rfl (by kernel_rfl) opens3 (opens_cons rfl (by kernel_rfl) opens3 (opens_cons rfl (by kernel_rfl) opens3 (opens_last rfl (by kernel_rfl) opens3))))))
theorem opens81 : Opens Try.prog 81 (Kd.slice 84 k84) (fun x => (∀ y81 ∈ x, wfT84 y81)) := opens_slice (e := 84) Try.underlying81 (by kernel_rfl) opens84
def wfT83 (x : S83) : Prop := ((Lit.int .i64 x.f0).wf = true ∧ (∀ y81 ∈ x.f1, wfT84 y81))
theorem opens83 : Opens Try.prog 83 k83 wfT83 := opens_iso _ (fun y => (⟨y.1, y.2⟩ : S83)) (fun _ => rfl) (opens_struct Try.underlying83 (by kernel_rfl) (opens_cons rfl (by kernel_rfl) opens3 (opens_last rfl (by kernel_rfl) opens81)))
theorem opens22 : Opens Try.prog 22 (Kd.slice 83 k83) (fun x => (∀ y22 ∈ x, wfT83 y22)) := opens_slice (e := 83) Try.underlying22 (by kernel_rfl) opens83
theorem opens2 : Opens Try.prog 2 (Kd.int .i64) (fun x => (Lit.int .i64 x).wf = true) := opens_int Try.underlying2
theorem opens23 : Opens Try.prog 23 (Kd.slice 2 (Kd.int .i64)) (fun x => (∀ y23 ∈ x, (Lit.int .i64 y23).wf = true)) := opens_slice (e := 2) Try.underlying23 (by kernel_rfl) opens2
def wfT25 (x : S25) : Prop := ((∀ y22 ∈ x.f0, wfT83 y22) ∧ (∀ y23 ∈ x.f1, (Lit.int .i64 y23).wf = true) ∧ (Lit.int .i64 x.f2).wf = true ∧ (Lit.int .i64 x.f3).wf = true)
theorem opens25 : Opens Try.prog 25 k25 wfT25 := opens_iso _ (fun y => (⟨y.1, y.2.1, y.2.2.1, y.2.2.2⟩ : S25)) (fun _ => rfl) (opens_struct Try.underlying25 (by kernel_rfl) (opens_cons rfl (by kernel_rfl) opens22 (opens_cons rfl (by kernel_rfl) opens23 (opens_cons rfl (by kernel_rfl) opens3 (opens_last rfl (by kernel_rfl) opens3)))))
def Pure : Prop := ∀ (l0_0 : List (S83)) (l0_1 : List Int) (a0_2 : Int) (a0_3 : Int), wfT25 ⟨l0_0, l0_1, a0_2, a0_3⟩ → haymowlaw08_UnfoldCovers.f l0_0 l0_1 a0_2 a0_3 = some true
set_option maxRecDepth 100000 in
theorem lifted (PU : Pure) (os : Os) (started : os.Started) (H : Type) (enc : TypeId × Value → H) :
    ReturnsInHanded {} Try.checked os 8 .any (Rows.unfoldCoversSpec.pre6 enc Try.prog Try.f8 Rows.unfoldCoversRow.domain false) (Rows.unfoldCoversSpec.post enc Try.prog Try.f8 false true false false) := by
  refine returnsInHanded_of_change_sized (C := Try.checked) own started (by kernel_rfl) Try.func8
    (ChangeSpec.witness6 (enc := enc) (C := Try.checked) false ⟨#[], #[.agg #[.slice none 0 0, .slice none 0 0, .int .i64 0, .int .i64 0]], []⟩ 8 (by kernel_rfl) (by kernel_rfl) (by kernel_rfl) (by kernel_rfl)) ?_
  intro W base args ds gs before hval0 hW hcnd hsz0 _
  have hval : ∀ (j : Nat) t v, Try.f8.params[j]? = some t → args[j]? = some v → Value.okWide Try.prog W .any base t v := hval0
  have hW' := hW
  obtain ⟨p, q, hA0, hV, rfl, hfz, hnd⟩ := hW
  have hA : DataW.TrodAll enc Try.prog W 0 (fun _ => true) true Try.f8.params.toList args.toList ds p := hA0
  rw [Try.params8] at hA hval
  obtain ⟨v0, vs0, d0, ds0, p0, q0, hargs, rfl, rfl, h0, r0⟩ := trodAll_cons hA
  obtain ⟨rfl, rfl, rfl⟩ := trodAll_nil r0
  obtain rfl : args = #[v0] := by cases args; simp_all
  obtain ⟨rfl, rfl⟩ := trodVars_none hV
  obtain ⟨cs0, rfl, hz0⟩ := okWide_struct Try.underlying25 (hval 0 25 v0 rfl rfl)
  have k0 := h0
  have lt0 : ∀ x ∈ p0, x.block < W.heap.size := by obtain ⟨m, hm⟩ := k0; exact DataW.trod_lt m _ _ _ hm
  obtain ⟨fuel0, hf0⟩ := h0
  obtain ⟨x0, hK0, hwf0⟩ := opens25 hf0
  obtain ⟨A0_0, c0_0, A0_1, c0_1, hcs0, hc0_0, hC0_0, hc0_1, hC0_1⟩ := k25_open hK0
  obtain rfl : cs0 = #[.slice A0_0 x0.f0.length c0_0, .slice A0_1 x0.f1.length c0_1, .int .i64 x0.f2, .int .i64 x0.f3] := by cases cs0; simpa [Value.cells] using hcs0
  clear hA0 hval0 hsz0
  have hpure := PU x0.f0 x0.f1 x0.f2 x0.f3 hwf0
  refine (haymowlaw08_UnfoldCovers.calls _ _ x0.f0 _ _ x0.f1 x0.f2 x0.f3 true W hC0_0 hc0_0 hC0_1 hc0_1 hpure).mono fun e W' hpost => ?_
  obtain ⟨he, bel⟩ := hpost
  subst he
  exact ⟨_, rfl, _, _, _, [], _, [], hW', trodAll_mk1 (shut_bool Try.underlying4 _), (trodAll_cons_mk (Below.trod laidOut (by kernel_rfl) (of_decide_eq_true (by kernel_rfl)) k0 bel lt0) trodAll_mk0), rfl, bel.frame _, fun h => by cases h⟩
theorem over (PU : Pure) : Rows.unfoldCoversRow.holds Try.pinned (OpenSpec.ofChange Rows.unfoldCoversSpec) :=
  OpenClaim.holds_of_wide 8 Try.f8 rfl rfl rfl rfl rfl rfl rfl ⟨rfl, rfl, rfl, rfl, rfl⟩ rfl rfl rfl rfl rfl (by kernel_rfl) Try.func8 (by kernel_rfl)
    (of_decide_eq_true (by kernel_rfl)) (by unfold Func.isWrapper; first | (rw [if_pos (by decide +kernel)]; kernel_rfl) | (rw [if_neg (by decide +kernel)]; exact ⟨rfl, rfl⟩))
    (fun os started H enc _ => lifted PU os started H enc)
theorem said (PU : Pure) : Rows.UnfoldCoversSaid := over PU
end Go.Proofs.Ytbekjccehhaljaa.unfoldCovers

namespace Go.Proofs.Ytbekjccehhaljaa
open Go.RowKit
theorem unfoldCovers_holds : Rows.UnfoldCoversSaid := unfoldCovers.said (fun _ _ _ _ _ => rfl)
#print axioms unfoldCovers_holds
end Go.Proofs.Ytbekjccehhaljaa

