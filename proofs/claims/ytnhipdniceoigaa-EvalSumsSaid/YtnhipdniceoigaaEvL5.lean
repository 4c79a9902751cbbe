/- EvalSums: the walk. -/
import Derived.Test.YtnhipdniceoigaaEvQ2
import Derived.Test.YtnhipdniceoigaaEvP4
set_option linter.unusedVariables false
set_option linter.unusedSimpArgs false
namespace Go.Proofs.Ytnhipdniceoigaa.H
open Go.RowKit Go.Hay Go.Proofs.YtnhipdniceoigaaW.PrintWords Go.Proofs.YtnhipdniceoigaaW.PrintLast Go.Proofs.YtnhipdniceoigaaW.PrintMore
/-- a row of instructions is appended, and may be appended to again. -/
theorem wpList_codesR {ops : Array Oper} {rest : List Oper} {o : Oper} {a : Act} {Q : Exit → Act → World → Prop} (hgd : o.guard = none) (s x : Operand)
    (ho : o.op = .call { callee := .builtin .append, args := #[s, x], argTypes := #[56, 56] }) {w W : World} {b0 : Nat} {v : Value} (xs ys : List S55) (hb : Below w.heap.size w W) (hw : w.heap.size ≤ b0) (hR : k55.R 55 W b0 (fun _ => True) v xs) (hbW : b0 ≤ W.heap.size) (hl : xs.length + ys.length ≤ 1000)
    (hs : a.eval s = v) (bk : Nat) (hbk : W.heap.size = bk) (hx : a.eval x = .slice (some ⟨bk, 0, none⟩) ys.length ys.length)
    (h : ∀ A9 c9 w9, Below w.heap.size w w9 → k55.R 55 w9 b0 (fun _ => True) (.slice A9 (xs ++ ys).length c9) (xs ++ ys) → b0 ≤ w9.heap.size → wpList Try.prog ops Q rest (a.put o.dst (.slice A9 (xs ++ ys).length c9)) w9) :
    wpList Try.prog ops Q (o :: rest) a (W.alloc (.cells (ys.flatMap icells).toArray 55)) := by
  subst hbk
  have hba : Below W.heap.size W (W.alloc (.cells (ys.flatMap icells).toArray 55)) := (Below.refl _ _).alloc (Nat.le_refl _) _
  have hR2 : k55.R 55 (W.alloc (.cells (ys.flatMap icells).toArray 55)) b0 (fun _ => True) v xs := Kd.R_alloc hR _
  have hy := reads_flat (W := W.alloc (.cells (ys.flatMap icells).toArray 55)) (b := W.heap.size) (t := 55) (fr := (0, 0)) (R := k55.M (W.alloc (.cells (ys.flatMap icells).toArray 55)) b0 (fun _ => False)) (s := 5) id icells ys (fun _ _ => rfl) (fun x _ => k55_mkM _ _ _ x) (alloc_blk W _) (by omega)
  rw [List.map_id] at hy
  refine wpList_plain hgd (fun K hK => ?_)
  refine wp_append_rows k55 (Rr := k55.M (W.alloc (.cells (ys.flatMap icells).toArray 55)) b0 (fun _ => False)) b0 hgd s x 56 55 (.agg #[.int .i64 0, .int .i64 0, .int .i64 0, .int .i64 0, .int .i64 0]) 40 ho Try.underlying56 infoI rfl (by decide) (by decide) v xs ys _ _ _ (fun _ => True) (fun _ => False) hs hx hR2 hy (fun _ _ h => h) (fun _ h => h.elim) (fun _ _ => trivial) (Nat.le_trans hbW hba.size) (by omega) ?_
  intro v9 w9 hR9 hbw hgr hat
  obtain ⟨A9, c9, rfl⟩ := Kd.R_slice hR9
  exact hK _ _ (h A9 c9 w9 ((hb.trans (hba.mono hb.size)).trans (hbw.mono hw)) hR9 (Nat.le_trans (Nat.le_trans hbW hba.size) hbw.size))
theorem sumPre_len (fut : Bool) (k : Nat) : (sumPre fut k).length = 1 + k * (if fut = true then 3 else 2) := by
  induction k with
  | zero => simp [sumPre]
  | succ k ih => cases fut <;> simp [sumPre, sumMore, ih] <;> omega
theorem sumPre_le {fut : Bool} {i : Nat} (h : i ≤ 20) : (sumPre fut i).length + 2 ≤ 1000 := by
  rw [sumPre_len]; split <;> omega
theorem sum_gt {fut : Bool} {k : Nat} (h : k < 20) : (64 < ((sumPre fut k).length : Int) + 1) = False := by
  rw [sumPre_len]; refine eq_false ?_; split <;> omega
theorem sumPre_le3 {i : Nat} (h : i ≤ 20) : (sumPre true i ++ ([⟨13, 2, 1, 1, 0⟩, ⟨12, 0, 0, 0, 0⟩] : List S55)).length + 1 ≤ 1000 := by
  rw [List.length_append, sumPre_len, if_pos rfl]; show 1 + i * 3 + 2 + 1 ≤ 1000; omega
theorem sumPre_nextT (i : Nat) : sumPre true (i + 1) = sumPre true i ++ [⟨13, 2, 1, 1, 0⟩, ⟨12, 0, 0, 0, 0⟩] ++ [⟨14, 2, 2, 0, 0⟩] := by simp [sumPre, sumOp, sumMore]
theorem two_more (xs : List S55) (a b : S55) : (xs ++ [a, b]).length = xs.length + 2 := List.length_append
theorem sumPre_next (i : Nat) : sumPre false (i + 1) = sumPre false i ++ [⟨11, 2, 1, 1, 0⟩, ⟨12, 0, 0, 0, 0⟩] := by simp [sumPre, sumOp, sumMore]
/-- a program of two functions, the first one's code given, and its arguments. -/
theorem prog2_C (w : World) (f1 f2 : S58) (A9 : Option Addr) (c9 : Nat) (args : List Int) (h1 : k55.C w A9 f1.f1.length f1.f1) (hc9 : f1.f1.length ≤ c9) (hf2 : f2.f1.length ≤ 1000) (ha : args.length ≤ 1000) {W : World}
    (hW : W = ((w.alloc (.cells (f2.f1.flatMap icells).toArray 55)).alloc (.cells (([(f1, A9, c9), (f2, some ⟨w.heap.size, 0, none⟩, f2.f1.length)] : List (S58 × Option Addr × Nat)).flatMap fcells).toArray 58)).alloc (.cells (args.map (Value.int .i64)).toArray 2)) :
    Below w.heap.size w W ∧ k58.C W (some ⟨w.heap.size + 1, 0, none⟩) 2 [f1, f2] ∧ (Kd.int .i64).C W (some ⟨w.heap.size + 1 + 1, 0, none⟩) args.length args := by
  obtain ⟨Wa, hWa⟩ : ∃ Wa, Wa = w.alloc (.cells (f2.f1.flatMap icells).toArray 55) := ⟨_, rfl⟩
  obtain ⟨Wc, hWc⟩ : ∃ Wc, Wc = Wa.alloc (.cells (([(f1, A9, c9), (f2, some ⟨w.heap.size, 0, none⟩, f2.f1.length)] : List (S58 × Option Addr × Nat)).flatMap fcells).toArray 58) := ⟨_, rfl⟩
  rw [← hWa, ← hWc] at hW
  have e1 : Wa.heap.size = w.heap.size + 1 := by rw [hWa]; exact Array.size_push _
  have e3 : Wc.heap.size = w.heap.size + 1 + 1 := by rw [← e1, hWc]; exact Array.size_push _
  have ba : Below w.heap.size w Wa := by rw [hWa]; exact (Below.refl _ _).alloc (Nat.le_refl _) _
  have bc : Below w.heap.size w Wc := by rw [hWc]; exact ba.alloc ba.size _
  have bd : Below w.heap.size w W := by rw [hW]; exact bc.alloc bc.size _
  have g2 : W.heap[w.heap.size]? = some (.cells (f2.f1.flatMap icells).toArray 55 (0, 0)) := by
    rw [hW]; refine blk_alloc ?_ _; rw [hWc]; refine blk_alloc ?_ _; rw [hWa]; exact alloc_blk w _
  have g4 : W.heap[w.heap.size + 1]? = some (.cells (([(f1, A9, c9), (f2, some ⟨w.heap.size, 0, none⟩, f2.f1.length)] : List (S58 × Option Addr × Nat)).flatMap fcells).toArray 58 (0, 0)) := by
    rw [hW]; refine blk_alloc ?_ _; rw [hWc, ← e1]; exact alloc_blk Wa _
  have g5 : W.heap[w.heap.size + 1 + 1]? = some (.cells (args.map (Value.int .i64)).toArray 2 (0, 0)) := by
    rw [hW, ← e3]; exact alloc_blk Wc _
  refine ⟨bd, prog_C _ g4 (by simp) (fun p hp => ?_), reads_nums args g5 (by omega)⟩
  simp only [List.mem_cons, List.not_mem_nil, or_false] at hp
  rcases hp with rfl | rfl
  · exact ⟨Kd.C_below h1 bd, hc9⟩
  · exact ⟨code_C _ g2 (by show f2.f1.length ≤ _; omega), Nat.le_refl _⟩
/-- the code under construction. -/
structure SumW (w : World) (fut : Bool) (b0 i : Nat) (A : Option Addr) (c : Nat) (wr : World) : Prop where
  below : Below w.heap.size w wr
  row : k55.R 55 wr b0 (fun _ => True) (.slice A (sumPre fut i).length c) (sumPre fut i)
  lo : w.heap.size ≤ b0
  hi : b0 ≤ wr.heap.size
theorem up_lt4 {k i : Nat} (h : i < k) : k - (intOf (.int .i64 ((i : Int) + 1))).toNat < k - (intOf (.int .i64 (i : Int))).toNat := by simp [intOf]; omega
set_option maxRecDepth 100000 in
set_option maxHeartbeats 8000000 in
theorem sums_walk (n v : Int) (fut : Bool) (hv : -2147483648 ≤ v ∧ v < 2147483648) (hn : 0 ≤ n ∧ n < 256) (w : World) : Calls Try.prog 6 #[.int .u8 n, .int .i32 v, .bool fut] w fun e w' => e = .returned (.bool true) ∧ Below w.heap.size w w' := by
  obtain ⟨k, hk⟩ : ∃ k : Nat, (k : Int) = n % 20 := ⟨(n % 20).toNat, by omega⟩
  have hk1 : k < 20 := by omega
  have hw1 : IntKind.i64.wrap n = n := IntWalk.i64_in _ (by omega)
  have hr1 : Int.tmod n 20 = (k : Int) := by rw [Int.tmod_eq_emod_of_nonneg hn.1]; exact hk.symm
  have hw3 : IntKind.i64.wrap (k : Int) = (k : Int) := IntWalk.i64_in _ (by omega)
  have hw4 : IntKind.i64.wrap v = v := IntWalk.i64_in _ (by omega)
  have hw5 : IntKind.i64.wrap (2 * v) = 2 * v := IntWalk.i64_in _ (by omega)
  have hvv : wrap64 (v + v) = 2 * v := by unfold wrap64; omega
  have HEV := Aside0.mk (And.intro (sum_ends v hk1 fut) (And.intro hvv hk1))
  clear hk hk1 hv hn hvv
  have H1 := Aside0.mk (show SumW w fut w.heap.size 0 (some ⟨w.heap.size, 0, none⟩) 1 (w.alloc (.cells (([⟨2, 1, 0, 0, 0⟩] : List S55).flatMap icells).toArray 55)) from ⟨(Below.refl w.heap.size w).alloc (Nat.le_refl _) _, code_R w [⟨2, 1, 0, 0, 0⟩] (by simp), Nat.le_refl _, ((Below.refl w.heap.size w).alloc (Nat.le_refl _) _).size⟩)
  cases fut with
  | false =>
    go_enter Try.func6, Try.ntmps6
    go_wp2_with fail
    go_loopw [9, 10] (fun v9 v10 wr => ∃ (i : Nat) (A : Option Addr) (c : Nat), v9 = .slice A (sumPre false i).length c ∧ v10 = .int .i64 i ∧ i ≤ k ∧ Aside0 (SumW w false w.heap.size i A c wr)) (fun _ v10 _ => k - (intOf v10).toNat)
    case atStart => exact ⟨0, _, _, rfl, rfl, Nat.zero_le _, H1⟩
    case round =>
      clear H1
      obtain ⟨i, A, c, rfl, rfl, hi, HS⟩ := hrel
      by_cases hik : i < k
      · have hlt := lt_true hik
        have hw8 : IntKind.i64.wrap ((i : Int) + 1) = (i : Int) + 1 := i64_small (Nat.lt_trans hik (Nat.lt_trans HEV.out.2.2 (by decide)))
        have HI := Aside0.mk hik
        have HLE := Aside0.mk (sumPre_le (fut := false) (i := i) (Nat.le_of_lt (Nat.lt_trans hik HEV.out.2.2)))
        clear hik hi
        go_wp2_with (first | (at_builtin; refine wpList_codesR (by rfl) (.tmp 26) (.tmp 30) (by rfl) (sumPre false i) [⟨11, 2, 1, 1, 0⟩, ⟨12, 0, 0, 0, 0⟩] HS.out.below HS.out.lo HS.out.row HS.out.hi HLE.out (by rfl) wr.heap.size rfl (by rfl) ?_; intro A9 c9 w9 hb9 hR9 hh9; have H9 := Aside0.mk (And.intro hb9 (And.intro hR9 hh9)); clear hb9 hR9 hh9) | fail)
        have HN := Aside0.mk (show SumW w false w.heap.size (i + 1) A9 c9 w9 from ⟨H9.out.1, by rw [sumPre_next]; exact H9.out.2.1, Nat.le_refl _, H9.out.2.2⟩)
        refine ⟨⟨i + 1, A9, c9, ?_, by go_num, HI.out, HN⟩, up_lt4 HI.out⟩
        rw [sumPre_next, List.length_append]; rfl
      · obtain rfl : i = k := Nat.le_antisymm hi (Nat.le_of_not_lt hik)
        have hgt := sum_gt (fut := false) HEV.out.2.2
        have HLE := Aside0.mk (sumPre_le (fut := false) (i := i) (Nat.le_of_lt HEV.out.2.2))
        clear hik hi
        go_wp2_with (first | (at_builtin; refine wpList_codesR (by rfl) (.tmp 37) (.tmp 39) (by rfl) (sumPre false i) [⟨17, 2, 0, 0, 0⟩] HS.out.below HS.out.lo HS.out.row HS.out.hi (by show (sumPre false i).length + 1 ≤ 1000; exact Nat.le_of_succ_le HLE.out) (by rfl) wr.heap.size rfl (by rfl) ?_; intro A9 c9 w9 hb9 hR9 hh9; have H9 := Aside0.mk (And.intro hb9 (And.intro hR9 hh9)); clear hb9 hR9 hh9) | fail)
        have e5 : (sumPre false i ++ [(⟨17, 2, 0, 0, 0⟩ : S55)]).length = (sumPre false i).length + 1 := by rw [List.length_append]; rfl
        obtain ⟨W5, hW5⟩ : ∃ W5, W5 = ((w9.alloc (.cells (([⟨15, 0, 0, 0, 0⟩, ⟨3, 3, 0, 0, 0⟩, ⟨17, 3, 0, 0, 0⟩] : List S55).flatMap icells).toArray 55)).alloc (.cells #[.int .i64 1, .slice A9 ((sumPre false i).length + 1) c9, .int .i64 1, .slice (some ⟨w9.heap.size, 0, none⟩) 3 3] 58)).alloc (.cells (([v] : List Int).map (Value.int .i64)).toArray 2) := ⟨_, rfl⟩
        have hq9 := Kd.R_reads' H9.out.2.1
        obtain ⟨hb5, hP, hA⟩ := prog2_C w9 ⟨1, sumPre false i ++ [⟨17, 2, 0, 0, 0⟩]⟩ ⟨1, [⟨15, 0, 0, 0, 0⟩, ⟨3, 3, 0, 0, 0⟩, ⟨17, 3, 0, 0, 0⟩]⟩ A9 c9 [v] hq9.2.2 hq9.2.1 (by simp) (by simp) (W := W5) (hW5.trans (by rw [← e5]; rfl))
        have hcall := Eval_any (A := some ⟨w9.heap.size + 1, 0, none⟩) (c := 2) (Aa := some ⟨w9.heap.size + 1 + 1, 0, none⟩) (ca := 1) (l := sumP false i) (args := [v]) (b := 100) (d := 1) (most := 3000) hP (Nat.le_refl _) hA (Nat.le_refl _) (by decide)
        rw [show evalR (sumP false i) [v] 100 1 (3000 : Int).toNat = ((sumV v i, 0, List.replicate i v, sumLog false i), 0) from HEV.out.1] at hcall
        have HB5 := Aside0.mk (H9.out.1.trans (hb5.mono H9.out.1.size))
        have HW5 := Aside0.mk hW5
        rw [hW5] at hcall
        have HCC := Aside0.mk hcall
        clear hcall hW5 hb5 hP hA hq9 e5 hgt
        refine HCC.out.mono ?_
        clear HCC
        rintro e w4 ⟨⟨At, ct, Al, cl, rfl, hrc⟩, hb4⟩
        have hb4' : Below W5.heap.size W5 w4 := by rw [HW5.out]; exact hb4
        have HB6 := Aside0.mk (HB5.out.trans (hb4'.mono HB5.out.size))
        obtain ⟨V, hV⟩ : ∃ V, V = resV ((sumV v i, 0, List.replicate i v, sumLog false i), (0 : Int)).1 At ct Al cl := ⟨_, rfl⟩
        rw [← hV]
        have hV2 : V = .agg #[.int .i64 (sumV v i), .int .i64 0, .slice At i ct, .slice Al (i + 1) cl] := by
          rw [hV]; unfold resV; simp [sumLog]
        clear hV
        subst hV2
        obtain ⟨W4, hW4⟩ : ∃ W4, W4 = w4.alloc (.cells #[.int .i64 (sumV v i), .int .i64 (0), .slice At (i) ct, .slice Al ((i + 1)) cl] 30) := ⟨_, rfl⟩
        have hb5 : Below w4.heap.size w4 W4 := by rw [hW4]; exact (Below.refl w4.heap.size w4).alloc (Nat.le_refl _) _
        have hx4 : W4.heap[w4.heap.size]? = some (.cells #[.int .i64 (sumV v i), .int .i64 (0), .slice At (i) ct, .slice Al ((i + 1)) cl] 30 (0, 0)) := by rw [hW4]; exact alloc_blk w4 _
        have htold : (Kd.int .i64).C w4 At (List.replicate i v).length (List.replicate i v) := hrc.told
        have HT := Aside0.mk (show 0 < i → ∃ ad, At = some ad ∧ ∀ j, j < i → W4.cell? (ad.add j) = some (.int .i64 v) from fun hp => by
          obtain ⟨ad, e1, htc⟩ := args_cells htold (by rw [List.length_replicate]; exact hp)
          refine ⟨ad, e1, fun j hj => ?_⟩
          have h1 := htc j (.int .i64 v) (by rw [List.getElem?_map, List.getElem?_replicate, if_pos hj]; rfl)
          exact (hb5.cell (World.block_lt_of_cell? _ _ h1)).trans h1)
        have x0 := blk_cell hx4 0
        have x1 := blk_cell hx4 1
        have x2 := blk_cell hx4 2
        have x3 := blk_cell hx4 3
        have HB7 := Aside0.mk (HB6.out.trans (hb5.mono HB6.out.size))
        have HW4 := Aside0.mk hW4
        have hwk : IntKind.i64.wrap ((i : Int) + 1) = (i : Int) + 1 := i64_small (Nat.lt_trans HEV.out.2.2 (by decide))
        clear hW4 hb5 hx4 hb4 hb4' hrc htold
        go_upto_region 17 with (fail)
        rw [← HW4.out]
        go_wp2_with fail
        go_loopw [14] (fun v14 wr => ∃ j : Nat, v14 = .int .i64 j ∧ j ≤ i ∧ wr = W4) (fun v14 _ => i - (intOf v14).toNat)
        case atStart => exact ⟨0, rfl, Nat.zero_le _, rfl⟩
        case round =>
          obtain ⟨j, rfl, hj, rfl⟩ := hrel
          by_cases hik : j < i
          · obtain ⟨ad, e1, htc⟩ := HT.out (Nat.lt_of_le_of_lt (Nat.zero_le _) hik)
            subst e1
            have t0 := htc j hik
            have hlt := lt_true hik
            have hw8 : IntKind.i64.wrap ((j : Int) + 1) = (j : Int) + 1 := i64_small (Nat.lt_trans hik (Nat.lt_trans HEV.out.2.2 (by decide)))
            have HI := Aside0.mk hik
            clear hj hik htc
            go_wp2_with fail
            go_roundw
            case rel => exact ⟨j + 1, by go_num, HI.out, trivial⟩
            case measure => exact up_lt4 HI.out
          · obtain rfl : i = j := Nat.le_antisymm (Nat.le_of_not_lt hik) hj
            clear hik hj
            by_cases hz : i = 0
            · subst hz
              replace x0 : wr.cell? ⟨w4.heap.size, 0, none⟩ = some (.int .i64 0) := x0
              go_wp2_with fail
              refine (awake_any _).mono ?_
              rintro e w5 ⟨rfl, hb5⟩
              have HB8 := Aside0.mk (HB7.out.trans (hb5.mono HB7.out.size))
              clear hb5
              go_wp2_with fail
              go_ret
              exact ⟨rfl, HB8.out⟩
            · have hsv : sumV v i = 2 * v := by
                cases i with
                | zero => exact absurd rfl hz
                | succ i => exact HEV.out.2.1
              have hsv0 : wr.cell? ⟨w4.heap.size, 0, none⟩ = some (.int .i64 (sumV v i)) := x0
              clear x0
              have x0 := hsv0
              rw [hsv] at x0
              have hzz : ((i : Int) == 0) = false := by simpa using hz
              have hzi : ((i : Int) = 0) = False := eq_false (by simpa using hz)
              clear hsv hsv0 hz
              go_wp2_with fail
              refine (awake_any _).mono ?_
              rintro e w5 ⟨rfl, hb5⟩
              have HB8 := Aside0.mk (HB7.out.trans (hb5.mono HB7.out.size))
              clear hb5
              go_wp2_with fail
              go_ret
              exact ⟨rfl, HB8.out⟩
  | true =>
    go_enter Try.func6, Try.ntmps6
    go_wp2_with fail
    go_loopw [9, 10] (fun v9 v10 wr => ∃ (i : Nat) (A : Option Addr) (c : Nat), v9 = .slice A (sumPre true i).length c ∧ v10 = .int .i64 i ∧ i ≤ k ∧ Aside0 (SumW w true w.heap.size i A c wr)) (fun _ v10 _ => k - (intOf v10).toNat)
    case atStart => exact ⟨0, _, _, rfl, rfl, Nat.zero_le _, H1⟩
    case round =>
      clear H1
      obtain ⟨i, A, c, rfl, rfl, hi, HS⟩ := hrel
      by_cases hik : i < k
      · have hlt := lt_true hik
        have hw8 : IntKind.i64.wrap ((i : Int) + 1) = (i : Int) + 1 := i64_small (Nat.lt_trans hik (Nat.lt_trans HEV.out.2.2 (by decide)))
        have HI := Aside0.mk hik
        have HLE := Aside0.mk (sumPre_le (fut := true) (i := i) (Nat.le_of_lt (Nat.lt_trans hik HEV.out.2.2)))
        have HLE3 := Aside0.mk (sumPre_le3 (i := i) (Nat.le_of_lt (Nat.lt_trans hik HEV.out.2.2)))
        clear hik hi
        go_wp2_with (first | (at_builtin; refine wpList_codesR (by rfl) (.tmp 26) (.tmp 30) (by rfl) (sumPre true i) [⟨13, 2, 1, 1, 0⟩, ⟨12, 0, 0, 0, 0⟩] HS.out.below HS.out.lo HS.out.row HS.out.hi HLE.out (by rfl) wr.heap.size rfl (by rfl) ?_; intro A8 c8 w8 hb9 hR9 hh9; rw [two_more] at hR9; have H8 := Aside0.mk (And.intro hb9 (And.intro hR9 hh9)); clear hb9 hR9 hh9) | (at_builtin; refine wpList_codesR (by rfl) (.tmp 33) (.tmp 35) (by rfl) (sumPre true i ++ [⟨13, 2, 1, 1, 0⟩, ⟨12, 0, 0, 0, 0⟩]) [⟨14, 2, 2, 0, 0⟩] H8.out.1 (Nat.le_refl _) H8.out.2.1 H8.out.2.2 HLE3.out (by rfl) w8.heap.size rfl (by rfl) ?_; intro A9 c9 w9 hb9 hR9 hh9; have H9 := Aside0.mk (And.intro hb9 (And.intro hR9 hh9)); clear hb9 hR9 hh9) | fail)
        have HN := Aside0.mk (show SumW w true w.heap.size (i + 1) A9 c9 w9 from ⟨H9.out.1, by rw [sumPre_nextT]; exact H9.out.2.1, Nat.le_refl _, H9.out.2.2⟩)
        refine ⟨⟨i + 1, A9, c9, ?_, by go_num, HI.out, HN⟩, up_lt4 HI.out⟩
        rw [sumPre_nextT, List.length_append, List.length_append]; rfl
      · obtain rfl : i = k := Nat.le_antisymm hi (Nat.le_of_not_lt hik)
        have hgt := sum_gt (fut := true) HEV.out.2.2
        have HLE := Aside0.mk (sumPre_le (fut := true) (i := i) (Nat.le_of_lt HEV.out.2.2))
        clear hik hi
        go_wp2_with (first | (at_builtin; refine wpList_codesR (by rfl) (.tmp 37) (.tmp 39) (by rfl) (sumPre true i) [⟨17, 2, 0, 0, 0⟩] HS.out.below HS.out.lo HS.out.row HS.out.hi (by show (sumPre true i).length + 1 ≤ 1000; exact Nat.le_of_succ_le HLE.out) (by rfl) wr.heap.size rfl (by rfl) ?_; intro A9 c9 w9 hb9 hR9 hh9; have H9 := Aside0.mk (And.intro hb9 (And.intro hR9 hh9)); clear hb9 hR9 hh9) | fail)
        have e5 : (sumPre true i ++ [(⟨17, 2, 0, 0, 0⟩ : S55)]).length = (sumPre true i).length + 1 := by rw [List.length_append]; rfl
        obtain ⟨W5, hW5⟩ : ∃ W5, W5 = ((w9.alloc (.cells (([⟨15, 0, 0, 0, 0⟩, ⟨3, 3, 0, 0, 0⟩, ⟨17, 3, 0, 0, 0⟩] : List S55).flatMap icells).toArray 55)).alloc (.cells #[.int .i64 1, .slice A9 ((sumPre true i).length + 1) c9, .int .i64 1, .slice (some ⟨w9.heap.size, 0, none⟩) 3 3] 58)).alloc (.cells (([v] : List Int).map (Value.int .i64)).toArray 2) := ⟨_, rfl⟩
        have hq9 := Kd.R_reads' H9.out.2.1
        obtain ⟨hb5, hP, hA⟩ := prog2_C w9 ⟨1, sumPre true i ++ [⟨17, 2, 0, 0, 0⟩]⟩ ⟨1, [⟨15, 0, 0, 0, 0⟩, ⟨3, 3, 0, 0, 0⟩, ⟨17, 3, 0, 0, 0⟩]⟩ A9 c9 [v] hq9.2.2 hq9.2.1 (by simp) (by simp) (W := W5) (hW5.trans (by rw [← e5]; rfl))
        have hcall := Eval_any (A := some ⟨w9.heap.size + 1, 0, none⟩) (c := 2) (Aa := some ⟨w9.heap.size + 1 + 1, 0, none⟩) (ca := 1) (l := sumP true i) (args := [v]) (b := 100) (d := 1) (most := 3000) hP (Nat.le_refl _) hA (Nat.le_refl _) (by decide)
        rw [show evalR (sumP true i) [v] 100 1 (3000 : Int).toNat = ((sumV v i, 0, List.replicate i v, sumLog true i), 0) from HEV.out.1] at hcall
        have HB5 := Aside0.mk (H9.out.1.trans (hb5.mono H9.out.1.size))
        have HW5 := Aside0.mk hW5
        rw [hW5] at hcall
        have HCC := Aside0.mk hcall
        clear hcall hW5 hb5 hP hA hq9 e5 hgt
        refine HCC.out.mono ?_
        clear HCC
        rintro e w4 ⟨⟨At, ct, Al, cl, rfl, hrc⟩, hb4⟩
        have hb4' : Below W5.heap.size W5 w4 := by rw [HW5.out]; exact hb4
        have HB6 := Aside0.mk (HB5.out.trans (hb4'.mono HB5.out.size))
        obtain ⟨V, hV⟩ : ∃ V, V = resV ((sumV v i, 0, List.replicate i v, sumLog true i), (0 : Int)).1 At ct Al cl := ⟨_, rfl⟩
        rw [← hV]
        have hV2 : V = .agg #[.int .i64 (sumV v i), .int .i64 0, .slice At i ct, .slice Al (i + 1) cl] := by
          rw [hV]; unfold resV; simp [sumLog]
        clear hV
        subst hV2
        obtain ⟨W4, hW4⟩ : ∃ W4, W4 = w4.alloc (.cells #[.int .i64 (sumV v i), .int .i64 (0), .slice At (i) ct, .slice Al ((i + 1)) cl] 30) := ⟨_, rfl⟩
        have hb5 : Below w4.heap.size w4 W4 := by rw [hW4]; exact (Below.refl w4.heap.size w4).alloc (Nat.le_refl _) _
        have hx4 : W4.heap[w4.heap.size]? = some (.cells #[.int .i64 (sumV v i), .int .i64 (0), .slice At (i) ct, .slice Al ((i + 1)) cl] 30 (0, 0)) := by rw [hW4]; exact alloc_blk w4 _
        have htold : (Kd.int .i64).C w4 At (List.replicate i v).length (List.replicate i v) := hrc.told
        have HT := Aside0.mk (show 0 < i → ∃ ad, At = some ad ∧ ∀ j, j < i → W4.cell? (ad.add j) = some (.int .i64 v) from fun hp => by
          obtain ⟨ad, e1, htc⟩ := args_cells htold (by rw [List.length_replicate]; exact hp)
          refine ⟨ad, e1, fun j hj => ?_⟩
          have h1 := htc j (.int .i64 v) (by rw [List.getElem?_map, List.getElem?_replicate, if_pos hj]; rfl)
          exact (hb5.cell (World.block_lt_of_cell? _ _ h1)).trans h1)
        have x0 := blk_cell hx4 0
        have x1 := blk_cell hx4 1
        have x2 := blk_cell hx4 2
        have x3 := blk_cell hx4 3
        have HB7 := Aside0.mk (HB6.out.trans (hb5.mono HB6.out.size))
        have HW4 := Aside0.mk hW4
        have hwk : IntKind.i64.wrap ((i : Int) + 1) = (i : Int) + 1 := i64_small (Nat.lt_trans HEV.out.2.2 (by decide))
        clear hW4 hb5 hx4 hb4 hb4' hrc htold
        go_upto_region 17 with (fail)
        rw [← HW4.out]
        go_wp2_with fail
        go_loopw [14] (fun v14 wr => ∃ j : Nat, v14 = .int .i64 j ∧ j ≤ i ∧ wr = W4) (fun v14 _ => i - (intOf v14).toNat)
        case atStart => exact ⟨0, rfl, Nat.zero_le _, rfl⟩
        case round =>
          obtain ⟨j, rfl, hj, rfl⟩ := hrel
          by_cases hik : j < i
          · obtain ⟨ad, e1, htc⟩ := HT.out (Nat.lt_of_le_of_lt (Nat.zero_le _) hik)
            subst e1
            have t0 := htc j hik
            have hlt := lt_true hik
            have hw8 : IntKind.i64.wrap ((j : Int) + 1) = (j : Int) + 1 := i64_small (Nat.lt_trans hik (Nat.lt_trans HEV.out.2.2 (by decide)))
            have HI := Aside0.mk hik
            clear hj hik htc
            go_wp2_with fail
            go_roundw
            case rel => exact ⟨j + 1, by go_num, HI.out, trivial⟩
            case measure => exact up_lt4 HI.out
          · obtain rfl : i = j := Nat.le_antisymm (Nat.le_of_not_lt hik) hj
            clear hik hj
            by_cases hz : i = 0
            · subst hz
              replace x0 : wr.cell? ⟨w4.heap.size, 0, none⟩ = some (.int .i64 0) := x0
              go_wp2_with fail
              refine (awake_any _).mono ?_
              rintro e w5 ⟨rfl, hb5⟩
              have HB8 := Aside0.mk (HB7.out.trans (hb5.mono HB7.out.size))
              clear hb5
              go_wp2_with fail
              go_ret
              exact ⟨rfl, HB8.out⟩
            · have hsv : sumV v i = 2 * v := by
                cases i with
                | zero => exact absurd rfl hz
                | succ i => exact HEV.out.2.1
              have hsv0 : wr.cell? ⟨w4.heap.size, 0, none⟩ = some (.int .i64 (sumV v i)) := x0
              clear x0
              have x0 := hsv0
              rw [hsv] at x0
              have hzz : ((i : Int) == 0) = false := by simpa using hz
              have hzi : ((i : Int) = 0) = False := eq_false (by simpa using hz)
              clear hsv hsv0 hz
              go_wp2_with fail
              refine (awake_any _).mono ?_
              rintro e w5 ⟨rfl, hb5⟩
              have HB8 := Aside0.mk (HB7.out.trans (hb5.mono HB7.out.size))
              clear hb5
              go_wp2_with fail
              go_ret
              exact ⟨rfl, HB8.out⟩
def haymowlaw06_EvalSums.f (a0 a1 : Int) (a2 : Bool) : Option Bool := if inR 0 256 a0 && inR (-2147483648) 2147483648 a1 then some true else none
theorem haymowlaw06_EvalSums.calls (a0 a1 : Int) (a2 : Bool) (r : Bool) (w : World) (h : haymowlaw06_EvalSums.f a0 a1 a2 = some r) : Calls Try.prog 6 #[.int .u8 a0, .int .i32 a1, .bool a2] w fun e w' => e = .returned (.bool r) ∧ Below w.heap.size w w' := by
  unfold haymowlaw06_EvalSums.f at h
  split at h
  · rename_i hc
    cases h
    rw [Bool.and_eq_true] at hc
    exact sums_walk a0 a1 a2 (of_decide_eq_true hc.2) (of_decide_eq_true hc.1) w
  · cases h
#print axioms haymowlaw06_EvalSums.calls
end Go.Proofs.Ytnhipdniceoigaa.H
