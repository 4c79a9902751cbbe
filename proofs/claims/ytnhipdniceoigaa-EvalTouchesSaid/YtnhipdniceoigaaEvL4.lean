/- EvalTouches: the walk. -/
import Derived.Test.YtnhipdniceoigaaEvL2
import Derived.Test.YtnhipdniceoigaaEvP3
set_option linter.unusedVariables false
set_option linter.unusedSimpArgs false
namespace Go.Proofs.Ytnhipdniceoigaa.H
open Go.RowKit Go.Hay Go.Proofs.YtnhipdniceoigaaW.PrintWords Go.Proofs.YtnhipdniceoigaaW.PrintLast Go.Proofs.YtnhipdniceoigaaW.PrintMore
theorem infoI : (Try.prog.info? 55).map (fun i => (i.zero, i.size, i.bytes)) = some (some (.agg #[.int .i64 0, .int .i64 0, .int .i64 0, .int .i64 0, .int .i64 0]), 5, 40) := by kernel_rfl
/-- a row of instructions, newly written. -/
theorem code_R (W : World) (xs : List S55) (hl : xs.length ≤ 1000) : k55.R 55 (W.alloc (.cells (xs.flatMap icells).toArray 55)) W.heap.size (fun _ => True) (.slice (some ⟨W.heap.size, 0, none⟩) xs.length xs.length) xs := by
  have hlen : (xs.flatMap icells).length = xs.length * 5 := by
    clear hl
    induction xs with
    | nil => rfl
    | cons x xs ih => rw [List.flatMap_cons, List.length_append, ih, List.length_cons, Nat.succ_mul, Nat.add_comm]; rfl
  refine ⟨fun _ _ => trivial, xs.flatMap icells, ?_, ⟨hlen, fun j p hj => ?_⟩⟩
  · have h2 := World.ownsRow_lit (base := W.heap.size) (e := 55) (size := k55.sz) W (xs.flatMap icells).toArray xs.length (Nat.le_refl _) (by unfold maxLen; omega) (show (xs.flatMap icells).toArray.size = xs.length * 5 from hlen)
    simpa using h2
  · have hlt : j < xs.length := (List.getElem?_eq_some_iff.1 hj).1
    rw [List.getElem?_eq_getElem hlt] at hj
    have hj : xs[j] = p := Option.some.inj hj
    subst hj
    have := flatMap_piece (s := 5) icells xs (fun _ _ => rfl) j hlt
    show k55.M _ _ _ _ (((xs.flatMap icells).drop (j * 5)).take 5)
    rw [this]
    exact k55_mkM _ _ _ _
/-- a row of instructions is appended. -/
theorem wpList_codes {ops : Array Oper} {rest : List Oper} {o : Oper} {a : Act} {Q : Exit → Act → World → Prop} (hgd : o.guard = none) (s x : Operand)
    (ho : o.op = .call { callee := .builtin .append, args := #[s, x], argTypes := #[56, 56] }) {w W : World} {b0 : Nat} {v : Value} (xs ys : List S55) (hb : Below w.heap.size w W) (hw : w.heap.size ≤ b0) (hR : k55.R 55 W b0 (fun _ => True) v xs) (hbW : b0 ≤ W.heap.size) (hl : xs.length + ys.length ≤ 1000)
    (hs : a.eval s = v) (bk : Nat) (hbk : W.heap.size = bk) (hx : a.eval x = .slice (some ⟨bk, 0, none⟩) ys.length ys.length)
    (h : ∀ A9 c9 w9, Below w.heap.size w w9 → k55.C w9 A9 (xs ++ ys).length (xs ++ ys) → (xs ++ ys).length ≤ c9 → wpList Try.prog ops Q rest (a.put o.dst (.slice A9 (xs ++ ys).length c9)) w9) :
    wpList Try.prog ops Q (o :: rest) a (W.alloc (.cells (ys.flatMap icells).toArray 55)) := by
  subst hbk
  have hba : Below W.heap.size W (W.alloc (.cells (ys.flatMap icells).toArray 55)) := (Below.refl _ _).alloc (Nat.le_refl _) _
  have hR2 : k55.R 55 (W.alloc (.cells (ys.flatMap icells).toArray 55)) b0 (fun _ => True) v xs := Kd.R_alloc hR _
  have hy := reads_flat (W := W.alloc (.cells (ys.flatMap icells).toArray 55)) (b := W.heap.size) (t := 55) (fr := (0, 0)) (R := k55.M (W.alloc (.cells (ys.flatMap icells).toArray 55)) b0 (fun _ => False)) (s := 5) id icells ys (fun _ _ => rfl) (fun x _ => k55_mkM _ _ _ x) (alloc_blk W _) (by omega)
  rw [List.map_id] at hy
  refine wpList_plain hgd (fun K hK => ?_)
  refine wp_append_rows k55 (Rr := k55.M (W.alloc (.cells (ys.flatMap icells).toArray 55)) b0 (fun _ => False)) b0 hgd s x 56 55 (.agg #[.int .i64 0, .int .i64 0, .int .i64 0, .int .i64 0, .int .i64 0]) 40 ho Try.underlying56 infoI rfl (by decide) (by decide) v xs ys _ _ _ (fun _ => True) (fun _ => False) hs hx hR2 hy (fun _ _ h => h) (fun _ h => h.elim) (fun _ _ => trivial) (Nat.le_trans hbW hba.size) (by omega) ?_
  intro v9 w9 hR9 hbw hgr hat
  obtain ⟨A9, c9, rfl⟩ := Kd.R_slice hR9
  have hq := Kd.R_reads' hR9
  exact hK _ _ (h A9 c9 w9 ((hb.trans (hba.mono hb.size)).trans (hbw.mono hw)) hq.2.2 hq.2.1)
/-- a program of three functions, the first one's code given, and its arguments. -/
theorem prog3_C (w : World) (f1 f2 f3 : S58) (A9 : Option Addr) (c9 : Nat) (args : List Int) (h1 : k55.C w A9 f1.f1.length f1.f1) (hc9 : f1.f1.length ≤ c9) (hf2 : f2.f1.length ≤ 1000) (hf3 : f3.f1.length ≤ 1000) (ha : args.length ≤ 1000) {W : World}
    (hW : W = (((w.alloc (.cells (f2.f1.flatMap icells).toArray 55)).alloc (.cells (f3.f1.flatMap icells).toArray 55)).alloc (.cells (([(f1, A9, c9), (f2, some ⟨w.heap.size, 0, none⟩, f2.f1.length), (f3, some ⟨w.heap.size + 1, 0, none⟩, f3.f1.length)] : List (S58 × Option Addr × Nat)).flatMap fcells).toArray 58)).alloc (.cells (args.map (Value.int .i64)).toArray 2)) :
    Below w.heap.size w W ∧ k58.C W (some ⟨w.heap.size + 1 + 1, 0, none⟩) 3 [f1, f2, f3] ∧ (Kd.int .i64).C W (some ⟨w.heap.size + 1 + 1 + 1, 0, none⟩) args.length args := by
  obtain ⟨Wa, hWa⟩ : ∃ Wa, Wa = w.alloc (.cells (f2.f1.flatMap icells).toArray 55) := ⟨_, rfl⟩
  obtain ⟨Wb, hWb⟩ : ∃ Wb, Wb = Wa.alloc (.cells (f3.f1.flatMap icells).toArray 55) := ⟨_, rfl⟩
  obtain ⟨Wc, hWc⟩ : ∃ Wc, Wc = Wb.alloc (.cells (([(f1, A9, c9), (f2, some ⟨w.heap.size, 0, none⟩, f2.f1.length), (f3, some ⟨w.heap.size + 1, 0, none⟩, f3.f1.length)] : List (S58 × Option Addr × Nat)).flatMap fcells).toArray 58) := ⟨_, rfl⟩
  rw [← hWa, ← hWb, ← hWc] at hW
  have e1 : Wa.heap.size = w.heap.size + 1 := by rw [hWa]; exact Array.size_push _
  have e2 : Wb.heap.size = w.heap.size + 1 + 1 := by rw [← e1, hWb]; exact Array.size_push _
  have e3 : Wc.heap.size = w.heap.size + 1 + 1 + 1 := by rw [← e2, hWc]; exact Array.size_push _
  have ba : Below w.heap.size w Wa := by rw [hWa]; exact (Below.refl _ _).alloc (Nat.le_refl _) _
  have bb : Below w.heap.size w Wb := by rw [hWb]; exact ba.alloc ba.size _
  have bc : Below w.heap.size w Wc := by rw [hWc]; exact bb.alloc bb.size _
  have bd : Below w.heap.size w W := by rw [hW]; exact bc.alloc bc.size _
  have g2 : W.heap[w.heap.size]? = some (.cells (f2.f1.flatMap icells).toArray 55 (0, 0)) := by
    rw [hW]; refine blk_alloc ?_ _; rw [hWc]; refine blk_alloc ?_ _; rw [hWb]; refine blk_alloc ?_ _; rw [hWa]; exact alloc_blk w _
  have g3 : W.heap[w.heap.size + 1]? = some (.cells (f3.f1.flatMap icells).toArray 55 (0, 0)) := by
    rw [hW]; refine blk_alloc ?_ _; rw [hWc]; refine blk_alloc ?_ _; rw [hWb, ← e1]; exact alloc_blk Wa _
  have g4 : W.heap[w.heap.size + 1 + 1]? = some (.cells (([(f1, A9, c9), (f2, some ⟨w.heap.size, 0, none⟩, f2.f1.length), (f3, some ⟨w.heap.size + 1, 0, none⟩, f3.f1.length)] : List (S58 × Option Addr × Nat)).flatMap fcells).toArray 58 (0, 0)) := by
    rw [hW]; refine blk_alloc ?_ _; rw [hWc, ← e2]; exact alloc_blk Wb _
  have g5 : W.heap[w.heap.size + 1 + 1 + 1]? = some (.cells (args.map (Value.int .i64)).toArray 2 (0, 0)) := by
    rw [hW, ← e3]; exact alloc_blk Wc _
  refine ⟨bd, prog_C _ g4 (by simp) (fun p hp => ?_), reads_nums args g5 (by omega)⟩
  simp only [List.mem_cons, List.not_mem_nil, or_false] at hp
  rcases hp with rfl | rfl | rfl
  · exact ⟨Kd.C_below h1 bd, hc9⟩
  · exact ⟨code_C _ g2 (by show f2.f1.length ≤ _; omega), Nat.le_refl _⟩
  · exact ⟨code_C _ g3 (by show f3.f1.length ≤ _; omega), Nat.le_refl _⟩
set_option maxRecDepth 100000 in
set_option maxHeartbeats 8000000 in
theorem touches_walk (v n : Int) (ahead : Bool) (hv : -2147483648 ≤ v ∧ v < 2147483648) (hn : 0 ≤ n ∧ n < 256) (w : World) : Calls Try.prog 10 #[.int .i32 v, .int .u8 n, .bool ahead] w fun e w' => e = .returned (.bool true) ∧ Below w.heap.size w w' := by
  obtain ⟨h, hh⟩ : ∃ h : Nat, (h : Int) = n % 4 := ⟨(n % 4).toNat, by omega⟩
  have hh1 : h < 4 := by omega
  have hw1 : IntKind.i64.wrap n = n := IntWalk.i64_in _ (by omega)
  have hr1 : Int.tmod n 4 = (h : Int) := by rw [Int.tmod_eq_emod_of_nonneg hn.1]; exact hh.symm
  have hw3 : IntKind.i64.wrap (h : Int) = (h : Int) := IntWalk.i64_in _ (by omega)
  have hw4 : IntKind.i64.wrap v = v := IntWalk.i64_in _ (by omega)
  have hw5 : IntKind.i64.wrap (2 * v) = 2 * v := IntWalk.i64_in _ (by omega)
  have hvv : wrap64 (v + v) = 2 * v := by unfold wrap64; omega
  have HEV := Aside0.mk (tch_ends v hh1 ahead)
  have HVV := Aside0.mk hvv
  clear hh hh1 hv hn hvv
  cases ahead with
  | false =>
    have H1 := Aside0.mk (And.intro ((Below.refl w.heap.size w).alloc (Nat.le_refl _) (.cells (([⟨13, h, 0, 1, 0⟩, ⟨11, 2, 0, 2, 0⟩] : List S55).flatMap icells).toArray 55)) (And.intro (Nat.le_refl w.heap.size) (And.intro (code_R w [⟨13, h, 0, 1, 0⟩, ⟨11, 2, 0, 2, 0⟩] (by simp)) (And.intro ((Below.refl w.heap.size w).alloc (Nat.le_refl _) (.cells (([⟨13, h, 0, 1, 0⟩, ⟨11, 2, 0, 2, 0⟩] : List S55).flatMap icells).toArray 55)).size (show (w.alloc (.cells (([⟨13, h, 0, 1, 0⟩, ⟨11, 2, 0, 2, 0⟩] : List S55).flatMap icells).toArray 55)).heap.size = w.heap.size + 1 from Array.size_push _)))))
    go_enter Try.func10, Try.ntmps10
    go_wp2_with (first | (at_builtin; refine wpList_codes (by rfl) (.tmp 24) (.tmp 27) (by rfl) ([⟨13, h, 0, 1, 0⟩, ⟨11, 2, 0, 2, 0⟩]) [⟨12, 0, 0, 0, 0⟩, ⟨17, 2, 0, 0, 0⟩] H1.out.1 H1.out.2.1 H1.out.2.2.1 H1.out.2.2.2.1 (by simp) (by rfl) (w.heap.size + 1) H1.out.2.2.2.2 (by rfl) ?_; intro A9 c9 w9 hb9 hC9 hc9; have H9 := Aside0.mk (And.intro hb9 (And.intro hC9 hc9)); clear hb9 hC9 hc9) | fail)
    obtain ⟨W5, hW5⟩ : ∃ W5, W5 = (((w9.alloc (.cells (([⟨3, 1, 0, 0, 0⟩, ⟨17, 1, 0, 0, 0⟩] : List S55).flatMap icells).toArray 55)).alloc (.cells (([⟨15, 0, 0, 0, 0⟩, ⟨14, 3, h, 0, 0⟩, ⟨17, 3, 0, 0, 0⟩] : List S55).flatMap icells).toArray 55)).alloc (.cells (([((⟨1, [⟨13, h, 0, 1, 0⟩, ⟨11, 2, 0, 2, 0⟩] ++ [⟨12, 0, 0, 0, 0⟩, ⟨17, 2, 0, 0, 0⟩]⟩ : S58), A9, c9), (⟨1, [⟨3, 1, 0, 0, 0⟩, ⟨17, 1, 0, 0, 0⟩]⟩, some ⟨w9.heap.size, 0, none⟩, 2), (⟨1, [⟨15, 0, 0, 0, 0⟩, ⟨14, 3, h, 0, 0⟩, ⟨17, 3, 0, 0, 0⟩]⟩, some ⟨w9.heap.size + 1, 0, none⟩, 3)] : List (S58 × Option Addr × Nat)).flatMap fcells).toArray 58)).alloc (.cells (([v] : List Int).map (Value.int .i64)).toArray 2) := ⟨_, rfl⟩
    obtain ⟨hb5, hP, hA⟩ := prog3_C w9 ⟨1, [⟨13, h, 0, 1, 0⟩, ⟨11, 2, 0, 2, 0⟩] ++ [⟨12, 0, 0, 0, 0⟩, ⟨17, 2, 0, 0, 0⟩]⟩ ⟨1, [⟨3, 1, 0, 0, 0⟩, ⟨17, 1, 0, 0, 0⟩]⟩ ⟨1, [⟨15, 0, 0, 0, 0⟩, ⟨14, 3, h, 0, 0⟩, ⟨17, 3, 0, 0, 0⟩]⟩ A9 c9 [v] H9.out.2.1 H9.out.2.2 (by simp) (by simp) (by simp) (W := W5) hW5
    have hcall := Eval_any (A := some ⟨w9.heap.size + 1 + 1, 0, none⟩) (c := 3) (Aa := some ⟨w9.heap.size + 1 + 1 + 1, 0, none⟩) (ca := 1) (l := tchP h false) (args := [v]) (b := 9) (d := 1) (most := 99) hP (Nat.le_refl _) hA (Nat.le_refl _) (by decide)
    rw [show evalR (tchP h false) [v] 9 1 (99 : Int).toNat = tchR v false from HEV.out] at hcall
    have HB5 := Aside0.mk (H9.out.1.trans (hb5.mono H9.out.1.size))
    have HW5 := Aside0.mk hW5
    rw [hW5] at hcall
    have HCC := Aside0.mk hcall
    clear hcall hW5 hb5 hP hA
    refine HCC.out.mono ?_
    clear HCC
    rintro e w4 ⟨⟨At, ct, Al, cl, rfl, hrc⟩, hb4⟩
    have hb4' : Below W5.heap.size W5 w4 := by rw [HW5.out]; exact hb4
    have HB6 := Aside0.mk (HB5.out.trans (hb4'.mono HB5.out.size))
    clear hb4 hb4' hrc
    obtain ⟨V, hV⟩ : ∃ V, V = resV (tchR v false).1 At ct Al cl := ⟨_, rfl⟩
    rw [← hV]
    replace hV : V = .agg #[.int .i64 (wrap64 (v + v)), .int .i64 0, .slice At 1 ct, .slice Al 3 cl] := hV
    rw [HVV.out] at hV
    rw [show (tchR v false).2 = 0 from rfl]
    subst hV
    obtain ⟨W4, hW4⟩ : ∃ W4, W4 = w4.alloc (.cells #[.int .i64 (2 * v), .int .i64 (0), .slice At (1) ct, .slice Al (3) cl] 30) := ⟨_, rfl⟩
    have hb5 : Below w4.heap.size w4 W4 := by rw [hW4]; exact (Below.refl w4.heap.size w4).alloc (Nat.le_refl _) _
    have hx4 : W4.heap[w4.heap.size]? = some (.cells #[.int .i64 (2 * v), .int .i64 (0), .slice At (1) ct, .slice Al (3) cl] 30 (0, 0)) := by rw [hW4]; exact alloc_blk w4 _
    have x0 := blk_cell hx4 0
    have x1 := blk_cell hx4 1
    have x2 := blk_cell hx4 2
    have x3 := blk_cell hx4 3
    have HB7 := Aside0.mk (HB6.out.trans (hb5.mono HB6.out.size))
    have HW4 := Aside0.mk hW4
    clear hW4 hb5 hx4
    go_upto_region 7 with (fail)
    rw [← HW4.out]
    go_wp2_with fail
    refine (awake_any _).mono ?_
    rintro e w5 ⟨rfl, hb5⟩
    have HB8 := Aside0.mk (HB7.out.trans (hb5.mono HB7.out.size))
    clear hb5
    go_wp2_with fail
    go_ret
    exact ⟨rfl, HB8.out⟩
  | true =>
    obtain ⟨W1, hW1⟩ : ∃ W1, W1 = w.alloc (.cells (([⟨13, h, 0, 1, 0⟩, ⟨11, 2, 0, 2, 0⟩] : List S55).flatMap icells).toArray 55) := ⟨_, rfl⟩
    have hs1 : W1.heap.size = w.heap.size + 1 := by rw [hW1]; exact Array.size_push _
    have hb1 : Below w.heap.size w W1 := by rw [hW1]; exact (Below.refl w.heap.size w).alloc (Nat.le_refl _) _
    have hcr := code_R W1 [⟨11, 2, 0, 2, 0⟩, ⟨13, h, 0, 1, 0⟩] (by simp)
    have hba := (Below.refl W1.heap.size W1).alloc (Nat.le_refl _) (.cells (([⟨11, 2, 0, 2, 0⟩, ⟨13, h, 0, 1, 0⟩] : List S55).flatMap icells).toArray 55)
    have hs2 : (W1.alloc (.cells (([⟨11, 2, 0, 2, 0⟩, ⟨13, h, 0, 1, 0⟩] : List S55).flatMap icells).toArray 55)).heap.size = w.heap.size + 1 + 1 := by rw [← hs1]; exact Array.size_push _
    rw [hs1] at hcr
    have hfin := And.intro (hb1.trans (hba.mono hb1.size)) (And.intro (Nat.le_add_right w.heap.size 1) (And.intro hcr (And.intro (show w.heap.size + 1 ≤ (W1.alloc (.cells (([⟨11, 2, 0, 2, 0⟩, ⟨13, h, 0, 1, 0⟩] : List S55).flatMap icells).toArray 55)).heap.size by rw [hs2]; exact Nat.le_add_right _ _) hs2)))
    rw [hW1] at hfin
    have H1 := Aside0.mk hfin
    clear hfin hs1 hs2 hb1 hcr hba hW1
    go_enter Try.func10, Try.ntmps10
    go_wp2_with (first | (at_builtin; refine wpList_codes (by rfl) (.tmp 24) (.tmp 27) (by rfl) ([⟨11, 2, 0, 2, 0⟩, ⟨13, h, 0, 1, 0⟩]) [⟨12, 0, 0, 0, 0⟩, ⟨17, 2, 0, 0, 0⟩] H1.out.1 H1.out.2.1 H1.out.2.2.1 H1.out.2.2.2.1 (by simp) (by rfl) (w.heap.size + 1 + 1) H1.out.2.2.2.2 (by rfl) ?_; intro A9 c9 w9 hb9 hC9 hc9; have H9 := Aside0.mk (And.intro hb9 (And.intro hC9 hc9)); clear hb9 hC9 hc9) | fail)
    obtain ⟨W5, hW5⟩ : ∃ W5, W5 = (((w9.alloc (.cells (([⟨3, 1, 0, 0, 0⟩, ⟨17, 1, 0, 0, 0⟩] : List S55).flatMap icells).toArray 55)).alloc (.cells (([⟨15, 0, 0, 0, 0⟩, ⟨14, 3, h, 0, 0⟩, ⟨17, 3, 0, 0, 0⟩] : List S55).flatMap icells).toArray 55)).alloc (.cells (([((⟨1, [⟨11, 2, 0, 2, 0⟩, ⟨13, h, 0, 1, 0⟩] ++ [⟨12, 0, 0, 0, 0⟩, ⟨17, 2, 0, 0, 0⟩]⟩ : S58), A9, c9), (⟨1, [⟨3, 1, 0, 0, 0⟩, ⟨17, 1, 0, 0, 0⟩]⟩, some ⟨w9.heap.size, 0, none⟩, 2), (⟨1, [⟨15, 0, 0, 0, 0⟩, ⟨14, 3, h, 0, 0⟩, ⟨17, 3, 0, 0, 0⟩]⟩, some ⟨w9.heap.size + 1, 0, none⟩, 3)] : List (S58 × Option Addr × Nat)).flatMap fcells).toArray 58)).alloc (.cells (([v] : List Int).map (Value.int .i64)).toArray 2) := ⟨_, rfl⟩
    obtain ⟨hb5, hP, hA⟩ := prog3_C w9 ⟨1, [⟨11, 2, 0, 2, 0⟩, ⟨13, h, 0, 1, 0⟩] ++ [⟨12, 0, 0, 0, 0⟩, ⟨17, 2, 0, 0, 0⟩]⟩ ⟨1, [⟨3, 1, 0, 0, 0⟩, ⟨17, 1, 0, 0, 0⟩]⟩ ⟨1, [⟨15, 0, 0, 0, 0⟩, ⟨14, 3, h, 0, 0⟩, ⟨17, 3, 0, 0, 0⟩]⟩ A9 c9 [v] H9.out.2.1 H9.out.2.2 (by simp) (by simp) (by simp) (W := W5) hW5
    have hcall := Eval_any (A := some ⟨w9.heap.size + 1 + 1, 0, none⟩) (c := 3) (Aa := some ⟨w9.heap.size + 1 + 1 + 1, 0, none⟩) (ca := 1) (l := tchP h true) (args := [v]) (b := 9) (d := 1) (most := 99) hP (Nat.le_refl _) hA (Nat.le_refl _) (by decide)
    rw [show evalR (tchP h true) [v] 9 1 (99 : Int).toNat = tchR v true from HEV.out] at hcall
    have HB5 := Aside0.mk (H9.out.1.trans (hb5.mono H9.out.1.size))
    have HW5 := Aside0.mk hW5
    rw [hW5] at hcall
    have HCC := Aside0.mk hcall
    clear hcall hW5 hb5 hP hA
    refine HCC.out.mono ?_
    clear HCC
    rintro e w4 ⟨⟨At, ct, Al, cl, rfl, hrc⟩, hb4⟩
    have hb4' : Below W5.heap.size W5 w4 := by rw [HW5.out]; exact hb4
    have HB6 := Aside0.mk (HB5.out.trans (hb4'.mono HB5.out.size))
    clear hb4 hb4' hrc
    obtain ⟨V, hV⟩ : ∃ V, V = resV (tchR v true).1 At ct Al cl := ⟨_, rfl⟩
    rw [← hV]
    replace hV : V = .agg #[.int .i64 0, .int .i64 2, .slice At 1 ct, .slice Al 2 cl] := hV
    rw [show (tchR v true).2 = 0 from rfl]
    subst hV
    obtain ⟨W4, hW4⟩ : ∃ W4, W4 = w4.alloc (.cells #[.int .i64 (0), .int .i64 (2), .slice At (1) ct, .slice Al (2) cl] 30) := ⟨_, rfl⟩
    have hb5 : Below w4.heap.size w4 W4 := by rw [hW4]; exact (Below.refl w4.heap.size w4).alloc (Nat.le_refl _) _
    have hx4 : W4.heap[w4.heap.size]? = some (.cells #[.int .i64 (0), .int .i64 (2), .slice At (1) ct, .slice Al (2) cl] 30 (0, 0)) := by rw [hW4]; exact alloc_blk w4 _
    have x0 := blk_cell hx4 0
    have x1 := blk_cell hx4 1
    have x2 := blk_cell hx4 2
    have x3 := blk_cell hx4 3
    have HB7 := Aside0.mk (HB6.out.trans (hb5.mono HB6.out.size))
    have HW4 := Aside0.mk hW4
    clear hW4 hb5 hx4
    go_upto_region 7 with (fail)
    rw [← HW4.out]
    go_wp2_with fail
    refine (awake_any _).mono ?_
    rintro e w5 ⟨rfl, hb5⟩
    have HB8 := Aside0.mk (HB7.out.trans (hb5.mono HB7.out.size))
    clear hb5
    go_wp2_with fail
    go_ret
    exact ⟨rfl, HB8.out⟩
def haymowlaw06_EvalTouches.f (a0 a1 : Int) (a2 : Bool) : Option Bool := if inR (-2147483648) 2147483648 a0 && inR 0 256 a1 then some true else none
theorem haymowlaw06_EvalTouches.calls (a0 a1 : Int) (a2 : Bool) (r : Bool) (w : World) (h : haymowlaw06_EvalTouches.f a0 a1 a2 = some r) : Calls Try.prog 10 #[.int .i32 a0, .int .u8 a1, .bool a2] w fun e w' => e = .returned (.bool r) ∧ Below w.heap.size w w' := by
  unfold haymowlaw06_EvalTouches.f at h
  split at h
  · rename_i hc
    cases h
    rw [Bool.and_eq_true] at hc
    exact touches_walk a0 a1 a2 (of_decide_eq_true hc.1) (of_decide_eq_true hc.2) w
  · cases h
#print axioms haymowlaw06_EvalTouches.calls
end Go.Proofs.Ytnhipdniceoigaa.H
