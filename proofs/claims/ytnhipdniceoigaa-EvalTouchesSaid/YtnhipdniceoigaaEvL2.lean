/- EvalLoops: the walk. -/
import Derived.Test.YtnhipdniceoigaaEvP2
set_option linter.unusedVariables false
set_option linter.unusedSimpArgs false
namespace Go.Proofs.Ytnhipdniceoigaa.H
open Go.RowKit Go.Hay Go.Proofs.YtnhipdniceoigaaW.PrintWords Go.Proofs.YtnhipdniceoigaaW.PrintLast Go.Proofs.YtnhipdniceoigaaW.PrintMore
def inR (lo hi n : Int) : Bool := decide (lo ≤ n ∧ n < hi)
theorem i64_small {i : Nat} (h : i < 100) : IntKind.i64.wrap ((i : Int) + 1) = (i : Int) + 1 := IntWalk.i64_in _ (by omega)
theorem i64_sub {i k : Nat} (h : i < k) (hk : k < 100) : IntKind.i64.wrap ((k : Int) - i) = (k : Int) - i := IntWalk.i64_in _ (by omega)
theorem le_true {i k : Nat} (h : i ≤ k) : ((i : Int) ≤ (k : Int)) = True := eq_true (by omega)
theorem lt_true {i k : Nat} (h : i < k) : ((i : Int) < (k : Nat)) = True := eq_true (by omega)
theorem up_lt {k i : Nat} (h : i < k) : k - (intOf (.int .i64 ((i : Int) + 1))).toNat < k - (intOf (.int .i64 (i : Int))).toNat := by simp [intOf]; omega
set_option maxRecDepth 100000 in
set_option maxHeartbeats 8000000 in
theorem loops_walk (n m : Int) (hn : 0 ≤ n ∧ n < 256) (hm : 0 ≤ m ∧ m < 65536) (w : World) : Calls Try.prog 7 #[.int .u8 n, .int .u16 m] w fun e w' => e = .returned (.bool true) ∧ Below w.heap.size w w' := by
  obtain ⟨k, hk⟩ : ∃ k : Nat, (k : Int) = n % 100 := ⟨(n % 100).toNat, by omega⟩
  obtain ⟨b, hb⟩ : ∃ b : Int, b = m % 1000 + 1 := ⟨_, rfl⟩
  have hk1 : k < 100 := by omega
  have hb1 : 1 ≤ b ∧ b ≤ 1000 := by omega
  have hw1 : IntKind.i64.wrap n = n := IntWalk.i64_in _ (by omega)
  have hw2 : IntKind.i64.wrap m = m := IntWalk.i64_in _ (by omega)
  have hr1 : Int.tmod n 100 = (k : Int) := by rw [Int.tmod_eq_emod_of_nonneg hn.1]; exact hk.symm
  have hr2 : Int.tmod m 1000 = b - 1 := by rw [Int.tmod_eq_emod_of_nonneg hm.1]; omega
  have hw3 : IntKind.i64.wrap (k : Int) = (k : Int) := IntWalk.i64_in _ (by omega)
  have hw4 : IntKind.i64.wrap (b - 1) = b - 1 := IntWalk.i64_in _ (by omega)
  have hw5 : IntKind.i64.wrap (b - 1 + 1) = b := (IntWalk.i64_in _ (by omega)).trans (by omega)
  have hw6 : wrap64 b = b := by unfold wrap64; omega
  have HE := Aside0.mk (lop_ends k b hk1 hb1)
  have HK := Aside0.mk (And.intro hk1 hb1)
  obtain ⟨W3, hW3⟩ : ∃ W3, W3 = ((w.alloc (.cells (lopC.flatMap icells).toArray 55)).alloc (.cells #[.int .i64 1, .slice (some ⟨w.heap.size, 0, none⟩) 6 6] 58)).alloc (.cells (([(k : Int)] : List Int).map (Value.int .i64)).toArray 2) := ⟨_, rfl⟩
  obtain ⟨hb3, hP, hA⟩ := prog1_C w ⟨1, lopC⟩ [(k : Int)] (by decide) (by simp) (W := W3) hW3
  have hcall := Eval_any (A := some ⟨w.heap.size + 1, 0, none⟩) (c := 1) (Aa := some ⟨w.heap.size + 1 + 1, 0, none⟩) (ca := 1) (l := lopP) (args := [(k : Int)]) (b := b) (d := 0) (most := 2000) hP (Nat.le_refl _) hA (Nat.le_refl _) (by decide)
  have HC := Aside0.mk hcall
  have HW := Aside0.mk hW3
  have HB3 := Aside0.mk hb3
  clear hcall hW3 hb3 hP hA hk hb hk1 hb1 hn hm
  go_enter Try.func7, Try.ntmps7
  go_wp2_with fail
  have hcall := HC.out
  rw [HW.out] at hcall
  refine hcall.mono ?_
  clear hcall HC
  rintro e w4 ⟨⟨At, ct, Al, cl, rfl, hrc⟩, hb4⟩
  have hb4' : Below W3.heap.size W3 w4 := by rw [HW.out]; exact hb4
  clear hb4
  have hwa : IntKind.i64.wrap (5 * (k : Int)) = 5 * (k : Int) := IntWalk.i64_in _ (by have := HK.out.1; omega)
  have hwb : IntKind.i64.wrap (5 * (k : Int) + 2) = 5 * (k : Int) + 2 := IntWalk.i64_in _ (by have := HK.out.1; omega)
  have h2000 : ((2000 : Int)).toNat = 2000 := rfl
  rw [h2000] at hrc ⊢
  clear h2000
  rcases HE.out with ⟨hge, hev⟩ | ⟨hlt, told, hev, htl⟩
  · rw [hev] at hrc ⊢
    obtain ⟨V, hV⟩ : ∃ V, V = resV (((0 : Int), (0 : Int), down k, [(([] : List Int), 5 * (k : Int) + 2)]), (0 : Int)).1 At ct Al cl := ⟨_, rfl⟩
    rw [← hV]
    replace hV : V = .agg #[.int .i64 0, .int .i64 0, .slice At (down k).length ct, .slice Al 1 cl] := hV
    rw [down_len] at hV
    subst hV
    obtain ⟨W4, hW4⟩ : ∃ W4, W4 = w4.alloc (.cells #[.int .i64 (0), .int .i64 (0), .slice At (k) ct, .slice Al (1) cl] 30) := ⟨_, rfl⟩
    have hb5 : Below w4.heap.size w4 W4 := by rw [hW4]; exact (Below.refl w4.heap.size w4).alloc (Nat.le_refl _) _
    have hx4 : W4.heap[w4.heap.size]? = some (.cells #[.int .i64 (0), .int .i64 (0), .slice At (k) ct, .slice Al (1) cl] 30 (0, 0)) := by rw [hW4]; exact alloc_blk w4 _
    obtain ⟨ad2, Ap, cp, e2, u0, u1, hcp, hCp⟩ := at_T49 hrc.log 0 (by decide) (by show (0 : Int) < ((1 : Nat) : Int); decide)
    subst e2
    replace u1 : w4.cell? ⟨ad2.block, ad2.off + 1, none⟩ = some (.int .i64 (5 * (k : Int) + 2)) := u1
    have u1 := (hb5.cell (World.block_lt_of_cell? _ _ u1)).trans u1
    have HTOLD := Aside0.mk (show 0 < k → ∃ ad, At = some ad ∧ ∀ i, i < k → W4.cell? (ad.add i) = some (.int .i64 ((k : Int) - i)) from fun hp => by
      obtain ⟨ad, e, h⟩ := args_cells hrc.told (by show 0 < (down k).length; rw [down_len]; exact hp)
      refine ⟨ad, e, fun i hi => ?_⟩
      have h1 := h i (.int .i64 ((down k).getD i 0)) (by
        have hl : i < (down k).length := by rw [down_len]; exact hi
        rw [List.getElem?_map, List.getElem?_eq_getElem hl, List.getD_eq_getElem?_getD, List.getElem?_eq_getElem hl]; rfl)
      rw [down_get k i hi] at h1
      exact (hb5.cell (World.block_lt_of_cell? _ _ h1)).trans h1)
    have x0 := blk_cell hx4 0
    have x1 := blk_cell hx4 1
    have x2 := blk_cell hx4 2
    have x3 := blk_cell hx4 3
    have HB4 := Aside0.mk (HB3.out.trans ((hb4'.trans (hb5.mono hb4'.size)).mono HB3.out.size))
    have HW4 := Aside0.mk hW4
    have hcmp : (b < 5 * (k : Int) + 2) = False := eq_false (by omega)
    have HG := Aside0.mk hge
    clear hge hW4 hb5 hx4 hb4' hrc hev u0 hcp hCp
    go_upto_region 4 with (fail)
    rw [← HW4.out]
    go_wp2_with fail
    go_loopw [11] (fun v11 wr => ∃ i : Nat, v11 = .int .i64 i ∧ i ≤ k ∧ wr = W4) (fun v11 _ => k - (intOf v11).toNat)
    case atStart => exact ⟨0, rfl, Nat.zero_le _, rfl⟩
    case round =>
      obtain ⟨i, rfl, hi, rfl⟩ := hrel
      by_cases hik : i < k
      · obtain ⟨ad, e1, htc⟩ := HTOLD.out (Nat.lt_of_le_of_lt (Nat.zero_le _) hik)
        subst e1
        have t0 := htc i hik
        have hik2 := lt_true hik
        have hw7 : IntKind.i64.wrap ((k : Int) - i) = (k : Int) - i := i64_sub hik HK.out.1
        have hw8 : IntKind.i64.wrap ((i : Int) + 1) = (i : Int) + 1 := i64_small (Nat.lt_trans hik HK.out.1)
        have HI := Aside0.mk hik
        clear htc hi hik
        go_wp2_with fail
        go_roundw
        case rel => exact ⟨i + 1, by go_num, HI.out, trivial⟩
        case measure => exact up_lt HI.out
      · obtain rfl : i = k := Nat.le_antisymm hi (Nat.le_of_not_lt hik)
        clear hik hi
        go_wp2_with fail
        refine (awake_any _).mono ?_
        rintro e w5 ⟨rfl, hb5⟩
        have HB5 := Aside0.mk (HB4.out.trans (hb5.mono HB4.out.size))
        clear hb5
        go_wp2_with fail
        go_ret
        exact ⟨rfl, HB5.out⟩
  · rw [hev] at hrc ⊢
    obtain ⟨V, hV⟩ : ∃ V, V = resV (((0 : Int), (3 : Int), told, [(([] : List Int), b)]), (0 : Int)).1 At ct Al cl := ⟨_, rfl⟩
    rw [← hV]
    replace hV : V = .agg #[.int .i64 0, .int .i64 3, .slice At told.length ct, .slice Al 1 cl] := hV
    subst hV
    obtain ⟨W4, hW4⟩ : ∃ W4, W4 = w4.alloc (.cells #[.int .i64 (0), .int .i64 (3), .slice At (told.length) ct, .slice Al (1) cl] 30) := ⟨_, rfl⟩
    have hb5 : Below w4.heap.size w4 W4 := by rw [hW4]; exact (Below.refl w4.heap.size w4).alloc (Nat.le_refl _) _
    have hx4 : W4.heap[w4.heap.size]? = some (.cells #[.int .i64 (0), .int .i64 (3), .slice At (told.length) ct, .slice Al (1) cl] 30 (0, 0)) := by rw [hW4]; exact alloc_blk w4 _
    obtain ⟨ad2, Ap, cp, e2, u0, u1, hcp, hCp⟩ := at_T49 hrc.log 0 (by decide) (by show (0 : Int) < ((1 : Nat) : Int); decide)
    subst e2
    replace u1 : w4.cell? ⟨ad2.block, ad2.off + 1, none⟩ = some (.int .i64 b) := u1
    have u1 := (hb5.cell (World.block_lt_of_cell? _ _ u1)).trans u1
    have x0 := blk_cell hx4 0
    have x1 := blk_cell hx4 1
    have x2 := blk_cell hx4 2
    have x3 := blk_cell hx4 3
    have HB4 := Aside0.mk (HB3.out.trans ((hb4'.trans (hb5.mono hb4'.size)).mono HB3.out.size))
    have HW4 := Aside0.mk hW4
    have hcmp : (b < 5 * (k : Int) + 2) = True := eq_true hlt
    have htt := le_true htl
    clear hlt hW4 hb5 hx4 hb4' hrc hev u0 hcp hCp HE htl
    go_upto_region 4 with (fail)
    rw [← HW4.out]
    go_wp2_with fail
    refine (awake_any _).mono ?_
    rintro e w5 ⟨rfl, hb5⟩
    have HB5 := Aside0.mk (HB4.out.trans (hb5.mono HB4.out.size))
    clear hb5
    go_wp2_with fail
    go_ret
    exact ⟨rfl, HB5.out⟩
def haymowlaw06_EvalLoops.f (a0 a1 : Int) : Option Bool := if inR 0 256 a0 && inR 0 65536 a1 then some true else none
theorem haymowlaw06_EvalLoops.calls (a0 a1 : Int) (r : Bool) (w : World) (h : haymowlaw06_EvalLoops.f a0 a1 = some r) : Calls Try.prog 7 #[.int .u8 a0, .int .u16 a1] w fun e w' => e = .returned (.bool r) ∧ Below w.heap.size w w' := by
  unfold haymowlaw06_EvalLoops.f at h
  split at h
  · rename_i hc
    cases h
    rw [Bool.and_eq_true] at hc
    exact loops_walk a0 a1 (of_decide_eq_true hc.1) (of_decide_eq_true hc.2) w
  · cases h
#print axioms haymowlaw06_EvalLoops.calls
end Go.Proofs.Ytnhipdniceoigaa.H
