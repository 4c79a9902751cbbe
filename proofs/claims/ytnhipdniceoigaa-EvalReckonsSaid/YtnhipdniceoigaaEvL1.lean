/- EvalReckons. -/
import Derived.Test.YtnhipdniceoigaaEvQ
import Derived.Test.YtnhipdniceoigaaH23
set_option linter.unusedVariables false
set_option linter.unusedSimpArgs false
namespace Go.Proofs.Ytnhipdniceoigaa.H
open Go.RowKit Go.Hay Go.Proofs.YtnhipdniceoigaaW.PrintWords Go.Proofs.YtnhipdniceoigaaW.PrintLast Go.Proofs.YtnhipdniceoigaaW.PrintMore
def recP (op : Int) : List S58 := [⟨2, [⟨op, 2, 0, 1, 0⟩, ⟨17, 2, 0, 0, 0⟩]⟩]
def recV (want : Int) (ok : Bool) : Int := if ok = true then want else 0
def recF (ok : Bool) : Int := if ok = true then 0 else 1
def recS (ok : Bool) : Int := if ok = true then 2 else 1
theorem rec_right {op : Int} (hx : op = 3 ∨ op = 4 ∨ op = 5 ∨ op = 6 ∨ op = 7 ∨ op = 8) : evRight (recP op) 2 9 0 = true := by
  rcases hx with rfl | rfl | rfl | rfl | rfl | rfl <;> kernel_rfl
theorem rec_run {op a b v : Int} (hx : op = 3 ∨ op = 4 ∨ op = 5 ∨ op = 6 ∨ op = 7 ∨ op = 8) (hs : simple ⟨op, 2, 0, 1, 0⟩ { newTask [a, b] noHands with at_ := 1 } = .go (setR { newTask [a, b] noHands with at_ := 1 } 2 v)) : evalR (recP op) [a, b] 9 0 9 = ((v, 0, [], [([], 2)]), 0) := by
  rw [evalR_end (rec_right hx)]
  have h1 := q_go (l := recP op) (b := 9) (d := 0) (k := 9) (n := 8) (me := 0) (told := []) (log := [([], 0)]) (path := []) (code := (rd_T58 (recP op) 0).f1) (T := newTask [a, b] noHands) ⟨op, 2, 0, 1, 0⟩ (by decide) rfl (by show op ≠ 17 ∧ op ≠ 11 ∧ op ≠ 13 ∧ op ≠ 15; omega) hs
  rw [h1]
  have h2 := q_ret (l := recP op) (b := 9) (d := 0) (k := 8) (n := 7) (me := 0) (told := []) (log := bump [([], 0)] 0) (path := []) (code := (rd_T58 (recP op) 0).f1) (T := setR { newTask [a, b] noHands with at_ := 1 } 2 v) ⟨17, 2, 0, 0, 0⟩ (by decide) rfl rfl
  rw [h2]
  rfl
theorem rec_zero {a : Int} : evalR (recP 6) [a, 0] 9 0 9 = ((0, 1, [], [([], 1)]), 0) := by
  rw [evalR_end (rec_right (by omega))]
  have h1 := q_fail (l := recP 6) (b := 9) (d := 0) (k := 9) (n := 8) (me := 0) (told := []) (log := [([], 0)]) (path := []) (code := (rd_T58 (recP 6) 0).f1) (T := newTask [a, 0] noHands) ⟨6, 2, 0, 1, 0⟩ (why := 1) (by decide) rfl (by decide) rfl
  rw [h1]
  rfl
/-- what any of them answers. -/
theorem rec_ends {op a b : Int} (hx : 3 ≤ op ∧ op ≤ 8) : ∃ want ok, haymowref06_Reckon.f op a b = some (want, ok) ∧ evalR (recP op) [a, b] 9 0 9 = ((recV want ok, recF ok, [], [([], recS ok)]), 0) := by
  have h : op = 3 ∨ op = 4 ∨ op = 5 ∨ op = 6 ∨ op = 7 ∨ op = 8 := by omega
  have hc := h
  rcases hc with rfl | rfl | rfl | rfl | rfl | rfl
  · exact ⟨wrap64 (a + b), true, rfl, rec_run h rfl⟩
  · exact ⟨wrap64 (a - b), true, rfl, rec_run h rfl⟩
  · exact ⟨wrap64 (a * b), true, rfl, rec_run h rfl⟩
  · by_cases hb : b = 0
    · subst hb
      exact ⟨0, false, rfl, rec_zero⟩
    · have hs : simple ⟨6, 2, 0, 1, 0⟩ { newTask [a, b] noHands with at_ := 1 } = .go (setR { newTask [a, b] noHands with at_ := 1 } 2 (wrap64 (a.tdiv b))) := if_neg hb
      by_cases hm : b = -1
      · refine ⟨wrap64 (-a), true, ?_, ?_⟩
        · unfold haymowref06_Reckon.f
          rw [if_neg (by decide), if_neg (by decide), if_neg (by decide), if_pos rfl, if_neg hb, if_pos hm]
        · have e : a.tdiv b = -a := by rw [hm, Int.tdiv_neg, Int.tdiv_one]
          rw [e] at hs
          exact rec_run h hs
      · refine ⟨wrap64 (a.tdiv b), true, ?_, rec_run h hs⟩
        unfold haymowref06_Reckon.f
        rw [if_neg (by decide), if_neg (by decide), if_neg (by decide), if_pos rfl, if_neg hb, if_neg hm]
  · refine ⟨lessV a b, true, ?_, rec_run h rfl⟩
    unfold haymowref06_Reckon.f lessV
    rw [if_neg (by decide), if_neg (by decide), if_neg (by decide), if_neg (by decide), if_pos rfl]
    split <;> rfl
  · refine ⟨sameV a b, true, ?_, rec_run h rfl⟩
    unfold haymowref06_Reckon.f sameV
    rw [if_neg (by decide), if_neg (by decide), if_neg (by decide), if_neg (by decide), if_neg (by decide)]
    split <;> rfl
def i64In (n : Int) : Bool := decide (-9223372036854775808 ≤ n ∧ n < 9223372036854775808)
set_option maxRecDepth 100000 in
set_option maxHeartbeats 8000000 in
theorem reckons_walk (a b : Int) (w : World) : Calls Try.prog 9 #[.int .i64 a, .int .i64 b] w fun e w' => e = .returned (.bool true) ∧ Below w.heap.size w w' := by
  have H0 := Aside0.mk (Below.refl w.heap.size w)
  go_enter Try.func9, Try.ntmps9
  go_wp2_with fail
  go_loopw [5] (fun v5 wr => ∃ op : Int, v5 = .int .i64 op ∧ 3 ≤ op ∧ op ≤ 9 ∧ Aside0 (Below w.heap.size w wr)) (fun v5 _ => (9 - intOf v5).toNat)
  case atStart => exact ⟨3, rfl, by decide, by decide, H0⟩
  case round =>
    clear H0
    obtain ⟨op, rfl, h3, h9, HB⟩ := hrel
    by_cases hlt : op ≤ 8
    · have hlt2 : (op ≤ 8) = True := eq_true hlt
      obtain ⟨want, ok, hrec, hev⟩ := rec_ends (a := a) (b := b) (op := op) ⟨h3, hlt⟩
      obtain ⟨W3, hW3⟩ : ∃ W3, W3 = ((wr.alloc (.cells (([⟨op, 2, 0, 1, 0⟩, ⟨17, 2, 0, 0, 0⟩] : List S55).flatMap icells).toArray 55)).alloc (.cells #[.int .i64 2, .slice (some ⟨wr.heap.size, 0, none⟩) 2 2] 58)).alloc (.cells (([a, b] : List Int).map (Value.int .i64)).toArray 2) := ⟨_, rfl⟩
      obtain ⟨hb3, hP, hA⟩ := prog1_C wr ⟨2, [⟨op, 2, 0, 1, 0⟩, ⟨17, 2, 0, 0, 0⟩]⟩ [a, b] (by simp) (by simp) (W := W3) hW3
      have hcall := Eval_any (A := some ⟨wr.heap.size + 1, 0, none⟩) (c := 1) (Aa := some ⟨wr.heap.size + 1 + 1, 0, none⟩) (ca := 2) (l := recP op) (args := [a, b]) (b := 9) (d := 0) (most := 9) hP (Nat.le_refl _) hA (Nat.le_refl _) (by decide)
      rw [show evalR (recP op) [a, b] 9 0 (9 : Int).toNat = _ from hev] at hcall
      have HC := Aside0.mk hcall
      have HW := Aside0.mk hW3
      have HB3 := Aside0.mk (HB.out.trans (hb3.mono HB.out.size))
      have HREC := Aside0.mk (And.intro hrec (And.intro h3 hlt))
      clear hcall hW3 hb3 hP hA hrec hev h3 hlt h9
      go_wp2_with fail
      have hcall := HC.out
      rw [HW.out] at hcall
      refine hcall.mono ?_
      clear hcall HC
      rintro e w4 ⟨⟨At, ct, Al, cl, rfl, hrc⟩, hb4⟩
      have hb4' : Below W3.heap.size W3 w4 := by rw [HW.out]; exact hb4
      obtain ⟨V, hV⟩ : ∃ V, V = resV ((recV want ok, recF ok, [], [([], recS ok)]), 0).1 At ct Al cl := ⟨_, rfl⟩
      rw [← hV]
      replace hV : V = .agg #[.int .i64 (recV want ok), .int .i64 (recF ok), .slice At 0 ct, .slice Al 1 cl] := hV
      subst hV
      obtain ⟨W4, hW4⟩ : ∃ W4, W4 = w4.alloc (.cells #[.int .i64 (recV want ok), .int .i64 (recF ok), .slice At 0 ct, .slice Al 1 cl] 30) := ⟨_, rfl⟩
      have hb5 : Below w4.heap.size w4 W4 := by rw [hW4]; exact (Below.refl w4.heap.size w4).alloc (Nat.le_refl _) _
      have hx4 : W4.heap[w4.heap.size]? = some (.cells #[.int .i64 (recV want ok), .int .i64 (recF ok), .slice At 0 ct, .slice Al 1 cl] 30 (0, 0)) := by rw [hW4]; exact alloc_blk w4 _
      have HB4 := Aside0.mk (HB3.out.trans ((hb4'.trans (hb5.mono hb4'.size)).mono HB3.out.size))
      have HW4 := Aside0.mk hW4
      have HX4 := Aside0.mk hx4
      clear hb4 hb4' hb5 hx4 hW4 hrc
      go_upto_region 5 with (fail)
      rw [← HW4.out]
      go_wp2_with fail
      refine (haymowref06_Reckon.calls op a b want ok W4 HREC.out.1).mono ?_
      rintro e w5 ⟨rfl, hd5⟩
      have hb5 : Below W4.heap.size W4 w5 := by obtain ⟨n, rfl⟩ := hd5; exact pw_below_drewN (Below.refl _ _) n
      clear hd5
      have hx5 := (hb5.block _ (blk_lt HX4.out)).trans HX4.out
      have x0 := blk_cell hx5 0
      have x1 := blk_cell hx5 1
      have HB5 := Aside0.mk (HB4.out.trans (hb5.mono HB4.out.size))
      have hw : IntKind.i64.wrap (op + 1) = op + 1 := IntWalk.i64_in _ (by have := HREC.out.2; omega)
      clear hb5 hx5
      cases ok with
      | true =>
        replace x0 : w5.cell? ⟨w4.heap.size, 0, none⟩ = some (.int .i64 want) := x0
        replace x1 : w5.cell? ⟨w4.heap.size, 1, none⟩ = some (.int .i64 0) := x1
        go_wp2_with fail
        go_roundw
        case rel => exact ⟨op + 1, by go_num, by have := HREC.out.2; omega, by have := HREC.out.2; omega, HB5⟩
        case measure => simp [intOf]; have := HREC.out.2; omega
      | false =>
        replace x0 : w5.cell? ⟨w4.heap.size, 0, none⟩ = some (.int .i64 0) := x0
        replace x1 : w5.cell? ⟨w4.heap.size, 1, none⟩ = some (.int .i64 1) := x1
        go_wp2_with fail
        go_roundw
        case rel => exact ⟨op + 1, by go_num, by have := HREC.out.2; omega, by have := HREC.out.2; omega, HB5⟩
        case measure => simp [intOf]; have := HREC.out.2; omega
    · have hlt2 : (op ≤ 8) = False := eq_false hlt
      clear hlt h3 h9
      go_wp2_with fail
      refine (awake_any _).mono ?_
      rintro e w4 ⟨rfl, hb4⟩
      have HB4 := Aside0.mk (HB.out.trans (hb4.mono HB.out.size))
      clear hb4
      go_wp2_with fail
      go_ret
      exact ⟨rfl, HB4.out⟩
def haymowlaw06_EvalReckons.f (a0 a1 : Int) : Option Bool := some true
theorem haymowlaw06_EvalReckons.calls (a0 a1 : Int) (r : Bool) (w : World) (h : haymowlaw06_EvalReckons.f a0 a1 = some r) : Calls Try.prog 9 #[.int .i64 a0, .int .i64 a1] w fun e w' => e = .returned (.bool r) ∧ Below w.heap.size w w' := by
  cases h
  exact reckons_walk a0 a1 w
#print axioms haymowlaw06_EvalReckons.calls
end Go.Proofs.Ytnhipdniceoigaa.H
