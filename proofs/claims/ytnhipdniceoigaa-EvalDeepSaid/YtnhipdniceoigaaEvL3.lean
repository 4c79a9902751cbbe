/- EvalDeep: the walk. -/
import Derived.Test.YtnhipdniceoigaaEvL2
import Derived.Test.YtnhipdniceoigaaEvP3
set_option linter.unusedVariables false
set_option linter.unusedSimpArgs false
namespace Go.Proofs.Ytnhipdniceoigaa.H
open Go.RowKit Go.Hay Go.Proofs.YtnhipdniceoigaaW.PrintWords Go.Proofs.YtnhipdniceoigaaW.PrintLast Go.Proofs.YtnhipdniceoigaaW.PrintMore
theorem up_lt2 {k i : Nat} (h : i < k + 1) : k + 1 - (intOf (.int .i64 ((i : Int) + 1))).toNat < k + 1 - (intOf (.int .i64 (i : Int))).toNat := by simp [intOf]; omega
theorem le_true2 {i d : Nat} (h : i < d + 1) : ((i : Int) ≤ (d : Int)) = True := eq_true (by omega)
theorem lt_true2 {i d : Nat} (h : i < d + 1) : ((i : Int) < ((d + 1 : Nat) : Int)) = True := eq_true (by omega)
theorem lt_true3 {i d : Nat} (h : i < d + 1) : ((i : Int) < (d : Int) + 1) = True := eq_true (by omega)
theorem le_false2 {d : Nat} : (((d + 1 : Nat) : Int) ≤ (d : Int)) = False := eq_false (by omega)
theorem i64_small2 {i d : Nat} (h : i < d + 1) (hd : d < 31) : IntKind.i64.wrap ((i : Int) + 1) = (i : Int) + 1 := IntWalk.i64_in _ (by omega)
theorem deep_log {log : List (List Int × Int)} {d : Nat} (h : log.map (fun p => (p.1.length, p.2)) = (List.range (d + 1)).map (fun i => (i, (4 : Int)))) : log.length = d + 1 ∧ ∀ i, i < d + 1 → (rd_T49 (log.map entS) (i : Int)).f0.length = i ∧ (rd_T49 (log.map entS) (i : Int)).f1 = 4 := by
  have hl : log.length = d + 1 := by have := congrArg List.length h; simpa using this
  refine ⟨hl, fun i hi => ?_⟩
  have hi2 : i < log.length := by omega
  have h2 : (log.map (fun p => (p.1.length, p.2)))[i]? = some (i, 4) := by rw [h, List.getElem?_map, List.getElem?_range hi]; rfl
  rw [List.getElem?_map, List.getElem?_eq_getElem hi2] at h2
  have h3 : (log[i].1.length, log[i].2) = (i, (4 : Int)) := Option.some.inj h2
  have e : rd_T49 (log.map entS) (i : Int) = entS log[i] := by simp [rd_T49, hi2]
  rw [e]
  exact ⟨congrArg Prod.fst h3, congrArg Prod.snd h3⟩
set_option maxRecDepth 100000 in
set_option maxHeartbeats 8000000 in
theorem deep_walk (n : Int) (fut : Bool) (hn : 0 ≤ n ∧ n < 256) (w : World) : Calls Try.prog 8 #[.int .u8 n, .bool fut] w fun e w' => e = .returned (.bool true) ∧ Below w.heap.size w w' := by
  obtain ⟨d, hd⟩ : ∃ d : Nat, (d : Int) = n % 31 := ⟨(n % 31).toNat, by omega⟩
  have hd1 : d < 31 := by omega
  have hw1 : IntKind.i64.wrap n = n := IntWalk.i64_in _ (by omega)
  have hr1 : Int.tmod n 31 = (d : Int) := by rw [Int.tmod_eq_emod_of_nonneg hn.1]; exact hd.symm
  have hw3 : IntKind.i64.wrap (d : Int) = (d : Int) := IntWalk.i64_in _ (by omega)
  have hw4 : IntKind.i64.wrap ((d : Int) + 1) = ((d + 1 : Nat) : Int) := (IntWalk.i64_in _ (by omega)).trans (by omega)
  obtain ⟨op, hop⟩ : ∃ op : Int, op = if fut = true then 13 else 11 := ⟨_, rfl⟩
  obtain ⟨told, log, hev, ht, hlog⟩ := deep_ends (op := op) (by rw [hop]; split; exact .inr rfl; exact .inl rfl) hd1
  obtain ⟨hll, hlg⟩ := deep_log hlog
  have htl : told.length = d + 1 := by rw [ht]; simp
  have htg : ∀ i, i < d + 1 → told[i]? = some (i : Int) := fun i hi => by rw [ht, List.getElem?_map, List.getElem?_range hi]; rfl
  obtain ⟨W3, hW3⟩ : ∃ W3, W3 = ((w.alloc (.cells ((deepC op).flatMap icells).toArray 55)).alloc (.cells #[.int .i64 1, .slice (some ⟨w.heap.size, 0, none⟩) 5 5] 58)).alloc (.cells (([0] : List Int).map (Value.int .i64)).toArray 2) := ⟨_, rfl⟩
  obtain ⟨hb3, hP, hA⟩ := prog1_C w ⟨1, deepC op⟩ [0] (by show 5 ≤ 1000; decide) (by simp) (W := W3) hW3
  have hcall := Eval_any (A := some ⟨w.heap.size + 1, 0, none⟩) (c := 1) (Aa := some ⟨w.heap.size + 1 + 1, 0, none⟩) (ca := 1) (l := deepP op) (args := [0]) (b := 9) (d := d) (most := 2000) hP (Nat.le_refl _) hA (Nat.le_refl _) (by decide)
  rw [show evalR (deepP op) [0] 9 d (2000 : Int).toNat = ((0, 4, told, log), 0) from hev] at hcall
  have HC := Aside0.mk hcall
  have HW := Aside0.mk hW3
  have HB3 := Aside0.mk hb3
  have HK := Aside0.mk (And.intro hd1 (And.intro hll (And.intro htl (And.intro hlg htg))))
  have HOP := Aside0.mk hop
  clear hcall hW3 hb3 hP hA hd hn hd1 hev ht hlog hll hlg htl htg hop
  have hcall : Calls Try.prog 12 #[.slice (some ⟨w.heap.size + 1, 0, none⟩) 1 1, .slice (some ⟨w.heap.size + 1 + 1, 0, none⟩) 1 1, .agg #[.int .i64 9, .int .i64 d], .int .i64 2000] W3 (EvalPost W3 ((0, 4, told, log), 0)) := HC.out
  rw [HW.out] at hcall
  have HCC := Aside0.mk hcall
  clear hcall HC
  go_enter Try.func8, Try.ntmps8
  have hop := HOP.out
  have HTAIL := Aside0.mk True.intro
  cases fut with
  | true =>
    replace hop : op = 13 := hop
    subst hop
    go_wp2_with fail
    refine HCC.out.mono ?_
    clear HCC
    rintro e w4 ⟨⟨At, ct, Al, cl, rfl, hrc⟩, hb4⟩
    have hb4' : Below W3.heap.size W3 w4 := by rw [HW.out]; exact hb4
    clear hb4
    obtain ⟨V, hV⟩ : ∃ V, V = resV (((0 : Int), (4 : Int), told, log), (0 : Int)).1 At ct Al cl := ⟨_, rfl⟩
    rw [← hV]
    replace hV : V = .agg #[.int .i64 0, .int .i64 4, .slice At told.length ct, .slice Al log.length cl] := hV
    rw [HK.out.2.1, HK.out.2.2.1] at hV
    subst hV
    obtain ⟨W4, hW4⟩ : ∃ W4, W4 = w4.alloc (.cells #[.int .i64 (0), .int .i64 (4), .slice At ((d + 1)) ct, .slice Al ((d + 1)) cl] 30) := ⟨_, rfl⟩
    have hb5 : Below w4.heap.size w4 W4 := by rw [hW4]; exact (Below.refl w4.heap.size w4).alloc (Nat.le_refl _) _
    have hx4 : W4.heap[w4.heap.size]? = some (.cells #[.int .i64 (0), .int .i64 (4), .slice At ((d + 1)) ct, .slice Al ((d + 1)) cl] 30 (0, 0)) := by rw [hW4]; exact alloc_blk w4 _
    have htold : (Kd.int .i64).C w4 At told.length told := hrc.told
    have hlogc : k49.C w4 Al log.length (log.map entS) := hrc.log
    obtain ⟨ad1, e1, htc⟩ := args_cells htold (by rw [HK.out.2.2.1]; omega)
    have HT := Aside0.mk (show ∀ i, i < d + 1 → W4.cell? (ad1.add i) = some (.int .i64 (i : Int)) from fun i hi => by
      have h1 := htc i (.int .i64 (i : Int)) (by rw [List.getElem?_map, HK.out.2.2.2.2 i hi]; rfl)
      exact (hb5.cell (World.block_lt_of_cell? _ _ h1)).trans h1)
    obtain ⟨ad2, hA2, _⟩ := hlogc.2.2 (by rw [HK.out.2.1]; omega)
    have HLG := Aside0.mk (show ∀ i, i < d + 1 → ∃ A0 c0, W4.cell? (ad2.add (i * 2)) = some (.slice A0 i c0) ∧ W4.cell? ⟨(ad2.add (i * 2)).block, (ad2.add (i * 2)).off + 1, none⟩ = some (.int .i64 4) from fun i hi => by
      obtain ⟨ad, A0, c0, e2, u0, u1, _, _⟩ := at_T49 hlogc (i : Int) (by omega) (by rw [HK.out.2.1]; omega)
      rw [hA2] at e2
      cases e2
      rw [Int.toNat_natCast] at u0 u1
      rw [(HK.out.2.2.2.1 i hi).1] at u0
      rw [(HK.out.2.2.2.1 i hi).2] at u1
      exact ⟨A0, c0, (hb5.cell (World.block_lt_of_cell? _ _ u0)).trans u0, (hb5.cell (World.block_lt_of_cell? _ _ u1)).trans u1⟩)
    subst e1 hA2
    have x0 := blk_cell hx4 0
    have x1 := blk_cell hx4 1
    have x2 := blk_cell hx4 2
    have x3 := blk_cell hx4 3
    have HB4 := Aside0.mk (HB3.out.trans ((hb4'.trans (hb5.mono hb4'.size)).mono HB3.out.size))
    have HW4 := Aside0.mk hW4
    clear hW4 hb5 hx4 hb4' hrc htold hlogc htc
    go_upto_region 7 with (fail)
    rw [← HW4.out]
    go_wp2_with fail
    go_loopw [10] (fun v10 wr => ∃ i : Nat, v10 = .int .i64 i ∧ i ≤ d + 1 ∧ wr = W4) (fun v10 _ => d + 1 - (intOf v10).toNat)
    case atStart => exact ⟨0, rfl, Nat.zero_le _, rfl⟩
    case round =>
      obtain ⟨i, rfl, hi, rfl⟩ := hrel
      by_cases hik : i < d + 1
      · have t0 := HT.out i hik
        obtain ⟨A0, c0, g0, g1⟩ := HLG.out i hik
        have hle := le_true2 hik
        have hlt := lt_true2 hik
        have hlt2 := lt_true3 hik
        have hw8 := i64_small2 hik HK.out.1
        have HI := Aside0.mk hik
        clear hi hik
        go_wp2_with fail
        go_roundw
        case rel => exact ⟨i + 1, by go_num, HI.out, trivial⟩
        case measure => exact up_lt2 HI.out
      · obtain rfl : i = d + 1 := Nat.le_antisymm hi (Nat.le_of_not_lt hik)
        have hle := @le_false2 d
        clear hik hi
        go_wp2_with fail
        refine (awake_any _).mono ?_
        rintro e w5 ⟨rfl, hb5⟩
        have HB5 := Aside0.mk (HB4.out.trans (hb5.mono HB4.out.size))
        clear hb5
        go_wp2_with fail
        go_ret
        exact ⟨rfl, HB5.out⟩
  | false =>
    replace hop : op = 11 := hop
    subst hop
    go_wp2_with fail
    refine HCC.out.mono ?_
    clear HCC
    rintro e w4 ⟨⟨At, ct, Al, cl, rfl, hrc⟩, hb4⟩
    have hb4' : Below W3.heap.size W3 w4 := by rw [HW.out]; exact hb4
    clear hb4
    obtain ⟨V, hV⟩ : ∃ V, V = resV (((0 : Int), (4 : Int), told, log), (0 : Int)).1 At ct Al cl := ⟨_, rfl⟩
    rw [← hV]
    replace hV : V = .agg #[.int .i64 0, .int .i64 4, .slice At told.length ct, .slice Al log.length cl] := hV
    rw [HK.out.2.1, HK.out.2.2.1] at hV
    subst hV
    obtain ⟨W4, hW4⟩ : ∃ W4, W4 = w4.alloc (.cells #[.int .i64 (0), .int .i64 (4), .slice At ((d + 1)) ct, .slice Al ((d + 1)) cl] 30) := ⟨_, rfl⟩
    have hb5 : Below w4.heap.size w4 W4 := by rw [hW4]; exact (Below.refl w4.heap.size w4).alloc (Nat.le_refl _) _
    have hx4 : W4.heap[w4.heap.size]? = some (.cells #[.int .i64 (0), .int .i64 (4), .slice At ((d + 1)) ct, .slice Al ((d + 1)) cl] 30 (0, 0)) := by rw [hW4]; exact alloc_blk w4 _
    have htold : (Kd.int .i64).C w4 At told.length told := hrc.told
    have hlogc : k49.C w4 Al log.length (log.map entS) := hrc.log
    obtain ⟨ad1, e1, htc⟩ := args_cells htold (by rw [HK.out.2.2.1]; omega)
    have HT := Aside0.mk (show ∀ i, i < d + 1 → W4.cell? (ad1.add i) = some (.int .i64 (i : Int)) from fun i hi => by
      have h1 := htc i (.int .i64 (i : Int)) (by rw [List.getElem?_map, HK.out.2.2.2.2 i hi]; rfl)
      exact (hb5.cell (World.block_lt_of_cell? _ _ h1)).trans h1)
    obtain ⟨ad2, hA2, _⟩ := hlogc.2.2 (by rw [HK.out.2.1]; omega)
    have HLG := Aside0.mk (show ∀ i, i < d + 1 → ∃ A0 c0, W4.cell? (ad2.add (i * 2)) = some (.slice A0 i c0) ∧ W4.cell? ⟨(ad2.add (i * 2)).block, (ad2.add (i * 2)).off + 1, none⟩ = some (.int .i64 4) from fun i hi => by
      obtain ⟨ad, A0, c0, e2, u0, u1, _, _⟩ := at_T49 hlogc (i : Int) (by omega) (by rw [HK.out.2.1]; omega)
      rw [hA2] at e2
      cases e2
      rw [Int.toNat_natCast] at u0 u1
      rw [(HK.out.2.2.2.1 i hi).1] at u0
      rw [(HK.out.2.2.2.1 i hi).2] at u1
      exact ⟨A0, c0, (hb5.cell (World.block_lt_of_cell? _ _ u0)).trans u0, (hb5.cell (World.block_lt_of_cell? _ _ u1)).trans u1⟩)
    subst e1 hA2
    have x0 := blk_cell hx4 0
    have x1 := blk_cell hx4 1
    have x2 := blk_cell hx4 2
    have x3 := blk_cell hx4 3
    have HB4 := Aside0.mk (HB3.out.trans ((hb4'.trans (hb5.mono hb4'.size)).mono HB3.out.size))
    have HW4 := Aside0.mk hW4
    clear hW4 hb5 hx4 hb4' hrc htold hlogc htc
    go_upto_region 7 with (fail)
    rw [← HW4.out]
    go_wp2_with fail
    go_loopw [10] (fun v10 wr => ∃ i : Nat, v10 = .int .i64 i ∧ i ≤ d + 1 ∧ wr = W4) (fun v10 _ => d + 1 - (intOf v10).toNat)
    case atStart => exact ⟨0, rfl, Nat.zero_le _, rfl⟩
    case round =>
      obtain ⟨i, rfl, hi, rfl⟩ := hrel
      by_cases hik : i < d + 1
      · have t0 := HT.out i hik
        obtain ⟨A0, c0, g0, g1⟩ := HLG.out i hik
        have hle := le_true2 hik
        have hlt := lt_true2 hik
        have hlt2 := lt_true3 hik
        have hw8 := i64_small2 hik HK.out.1
        have HI := Aside0.mk hik
        clear hi hik
        go_wp2_with fail
        go_roundw
        case rel => exact ⟨i + 1, by go_num, HI.out, trivial⟩
        case measure => exact up_lt2 HI.out
      · obtain rfl : i = d + 1 := Nat.le_antisymm hi (Nat.le_of_not_lt hik)
        have hle := @le_false2 d
        clear hik hi
        go_wp2_with fail
        refine (awake_any _).mono ?_
        rintro e w5 ⟨rfl, hb5⟩
        have HB5 := Aside0.mk (HB4.out.trans (hb5.mono HB4.out.size))
        clear hb5
        go_wp2_with fail
        go_ret
        exact ⟨rfl, HB5.out⟩
def haymowlaw06_EvalDeep.f (a0 : Int) (a1 : Bool) : Option Bool := if inR 0 256 a0 then some true else none
theorem haymowlaw06_EvalDeep.calls (a0 : Int) (a1 : Bool) (r : Bool) (w : World) (h : haymowlaw06_EvalDeep.f a0 a1 = some r) : Calls Try.prog 8 #[.int .u8 a0, .bool a1] w fun e w' => e = .returned (.bool r) ∧ Below w.heap.size w w' := by
  unfold haymowlaw06_EvalDeep.f at h
  split at h
  · rename_i hc
    cases h
    exact deep_walk a0 a1 (of_decide_eq_true hc) w
  · cases h
#print axioms haymowlaw06_EvalDeep.calls
end Go.Proofs.Ytnhipdniceoigaa.H
