/- MergeNone: a node that is not there may not be, nor one with a kid that is not there, nor one of more than 30 one below the other. -/
import Derived.Test.YtiplpkjjplicjaaMAwake
set_option linter.unusedVariables false
set_option linter.unusedSimpArgs false
namespace Go.Proofs.Ytiplpkjjplicjaa.H
open Go.RowKit Go.Hay Go.Proofs.YtiplpkjjplicjaaW.PrintWords Go.Proofs.YtiplpkjjplicjaaW.PrintLast Go.Proofs.YtiplpkjjplicjaaW.PrintMore
def chainT : Nat → T
  | 0 => .node [] [] 5 0
  | i + 1 => .node [⟨true, 0⟩] [chainT i] i 0
theorem chain_right : ∀ (i : Nat) (e : Int), 0 ≤ e → rightT (chainT i) e = decide (e + i ≤ 30)
  | 0, e, he => by
    rw [chainT, rightT, metP]
    by_cases h : e > 30
    · rw [if_pos (.inl h)]; symm; exact decide_eq_false (by omega)
    · rw [if_neg (by rintro (h1 | h1); exact h h1; exact h1.1 rfl)]; simp only [List.length_nil, rightTs]; symm; exact decide_eq_true (by omega)
  | i + 1, e, he => by
    rw [chainT, rightT]
    have hm : metP 0 [⟨true, 0⟩] = some 1 := rfl
    rw [hm]
    by_cases h : e > 30
    · rw [if_pos (.inl h)]; symm; exact decide_eq_false (by omega)
    · rw [if_neg (by rintro (h1 | h1); exact h h1; exact h1.1 rfl)]
      show (if (1 : Int) = ((1 : Nat) : Int) then rightTs [chainT i] (e + 1) else false) = _
      rw [if_pos (by rfl), rightTs, rightTs, chain_right i (e + 1) (by omega), Bool.and_true]
      congr 1
      exact propext (by omega)
theorem chain_count : ∀ i : Nat, nodesT (chainT i) = (i : Int) + 1 ∧ numsT (chainT i) = 0
  | 0 => ⟨rfl, rfl⟩
  | i + 1 => by
    obtain ⟨h1, h2⟩ := chain_count i
    rw [chainT, nodesT, numsT]
    simp only [nodesTs, numsTs, h1, h2, List.length_cons, List.length_nil]
    omega
theorem chain_many (d : Nat) : manyP (chainT d) = if (d : Int) ≤ 30 then ((d : Int) + 1, 0) else (0, 0) := by
  unfold manyP
  rw [chain_right d 0 (Int.le_refl _), (chain_count d).1, (chain_count d).2]
  simp
def holeT : T := .node [⟨true, 0⟩] [.nil] 0 0
theorem hole_right : rightT holeT 0 = false := rfl
/-- One more on top: the world behind, and what is there. -/
theorem chain_next {w : World} {t : T} {a : Option Addr} {v f : Int} (h : IsT t w a) :
    IsT (.node [⟨true, 0⟩] [t] v f) (((w.alloc (.cells #[.bool true, .int .i64 0] 44)).alloc (.cells #[.pointer a] 29)).alloc (.cells #[.slice (some ⟨w.heap.size, 0, none⟩) 1 1, .slice (some ⟨w.heap.size + 1, 0, none⟩) 1 1, .int .i64 v, .int .i64 f] 42)) (some ⟨w.heap.size + 1 + 1, 0, none⟩) ∧
    Below w.heap.size w (((w.alloc (.cells #[.bool true, .int .i64 0] 44)).alloc (.cells #[.pointer a] 29)).alloc (.cells #[.slice (some ⟨w.heap.size, 0, none⟩) 1 1, .slice (some ⟨w.heap.size + 1, 0, none⟩) 1 1, .int .i64 v, .int .i64 f] 42)) := by
  have b1 := (Below.refl w.heap.size w).alloc (Nat.le_refl _) (.cells #[.bool true, .int .i64 0] 44)
  have b2 := b1.alloc b1.size (.cells #[.pointer a] 29)
  have b3 := b2.alloc b2.size (.cells #[.slice (some ⟨w.heap.size, 0, none⟩) 1 1, .slice (some ⟨w.heap.size + 1, 0, none⟩) 1 1, .int .i64 v, .int .i64 f] 42)
  have e1 : (w.alloc (.cells #[.bool true, .int .i64 0] 44)).heap.size = w.heap.size + 1 := Array.size_push _
  have e2 : ((w.alloc (.cells #[.bool true, .int .i64 0] 44)).alloc (.cells #[.pointer a] 29)).heap.size = w.heap.size + 1 + 1 := by rw [← e1]; exact Array.size_push _
  have h0 := blk_alloc (blk_alloc (alloc_blk w (.cells #[.bool true, .int .i64 0] 44)) (.cells #[.pointer a] 29)) (.cells #[.slice (some ⟨w.heap.size, 0, none⟩) 1 1, .slice (some ⟨w.heap.size + 1, 0, none⟩) 1 1, .int .i64 v, .int .i64 f] 42)
  have h1 := blk_alloc (alloc_blk (w.alloc (.cells #[.bool true, .int .i64 0] 44)) (.cells #[.pointer a] 29)) (.cells #[.slice (some ⟨w.heap.size, 0, none⟩) 1 1, .slice (some ⟨w.heap.size + 1, 0, none⟩) 1 1, .int .i64 v, .int .i64 f] 42)
  have h2 := alloc_blk ((w.alloc (.cells #[.bool true, .int .i64 0] 44)).alloc (.cells #[.pointer a] 29)) (.cells #[.slice (some ⟨w.heap.size, 0, none⟩) 1 1, .slice (some ⟨w.heap.size + 1, 0, none⟩) 1 1, .int .i64 v, .int .i64 f] 42)
  rw [e1] at h1
  rw [e2] at h2
  refine ⟨?_, b3⟩
  have p1 := reads_cells (R := k64.K (((w.alloc (.cells #[.bool true, .int .i64 0] 44)).alloc (.cells #[.pointer a] 29)).alloc (.cells #[.slice (some ⟨w.heap.size, 0, none⟩) 1 1, .slice (some ⟨w.heap.size + 1, 0, none⟩) 1 1, .int .i64 v, .int .i64 f] 42))) (size := 2) (ps := [(⟨true, 0⟩ : S64)]) h0 (Reps.c2 (k64_mk _ (⟨true, 0⟩ : S64)) (Reps.none _ _)) (by simp)
  have p3 := reads_one (R := kP.K (((w.alloc (.cells #[.bool true, .int .i64 0] 44)).alloc (.cells #[.pointer a] 29)).alloc (.cells #[.slice (some ⟨w.heap.size, 0, none⟩) 1 1, .slice (some ⟨w.heap.size + 1, 0, none⟩) 1 1, .int .i64 v, .int .i64 f] 42))) (x := a) h1 rfl
  exact IsT.one (ps := [(⟨true, 0⟩ : S64)]) h2 (by simp) p1 (Nat.le_refl _) p3 (h.keep _ b3)
theorem nil_merge : mergeP .nil = ([], 0, 0, 4) := rfl
theorem nil_first : firstP .nil = ([], false) := rfl
theorem nil_many : manyP .nil = (0, 0) := rfl
theorem nil_right : rightT .nil 0 = false := rfl
theorem nil_walk : (walkT .nil []).1.length ≤ 1000000 := by rw [walkT]; simp
set_option maxRecDepth 100000 in
set_option maxHeartbeats 8000000 in
theorem none_any (a0 : Int) (h0 : 0 ≤ a0) (h1 : a0 ≤ 255) (w : World) : Calls Try.prog 8 #[.int .u8 a0] w fun e w' => e = .returned (.bool true) ∧ Below w.heap.size w w' := by
  obtain ⟨d, hd, hd40⟩ : ∃ d : Nat, a0 % 40 = (d : Int) ∧ d < 40 := ⟨(a0 % 40).toNat, by omega, by omega⟩
  have HB := Aside0.mk ((Below.refl w.heap.size w).alloc (Nat.le_refl _) (.cells #[.slice none 0 0, .slice none 0 0, .int .i64 5, .int .i64 0] 42))
  have HT := Aside0.mk (IsT.leaf (ps := []) (alloc_blk w (.cells #[.slice none 0 0, .slice none 0 0, .int .i64 5, .int .i64 0] 42)) (Nat.le_refl _) (Kd.C_nil _ _))
  go_enter Try.func8, Try.ntmps8
  go_wp2_with fail
  generalize w.alloc (.cells #[.slice none 0 0, .slice none 0 0, .int .i64 5, .int .i64 0] 42) = w1 at HB HT ⊢
  generalize hab : (some (⟨w.heap.size, 0, none⟩ : Addr)) = ab at HT ⊢
  clear hab
  go_loopw [4, 5] (fun v4 v5 wr => ∃ (i : Nat) (a : Option Addr), v4 = .pointer a ∧ v5 = .int .i64 i ∧ i ≤ d ∧ Aside0 (IsT (chainT i) wr a ∧ Below w.heap.size w wr)) (fun _ v5 _ => d - (intOf v5).toNat)
  case atStart => exact ⟨0, ab, rfl, rfl, Nat.zero_le _, ⟨HT.out, HB.out⟩⟩
  case round =>
    clear HT HB
    obtain ⟨i, a, rfl, rfl, hi, HI⟩ := hrel
    by_cases hlt : i < d
    · obtain ⟨hn, hb⟩ := chain_next (v := (i : Int)) (f := 0) HI.out.1
      have HN := Aside0.mk (And.intro (show IsT (chainT (i + 1)) _ _ from hn) (HI.out.2.trans (hb.mono HI.out.2.size)))
      clear hn hb HI
      go_wp2_with fail
      go_roundw
      case rel => exact ⟨i + 1, _, rfl, by go_num, by omega, HN⟩
      case measure => simp [intOf]; omega
    · obtain rfl : i = d := by omega
      clear hlt hi
      simp only [hd]
      have HM := Aside0.mk (chain_many i)
      have HR := Aside0.mk (chain_right i 0 (Int.le_refl _))
      have HCN := Aside0.mk (chain_count i)
      have hw : IntKind.i64.wrap ((i : Int) + 1) = (i : Int) + 1 := (i64_w _).trans (by unfold wrap64; omega)
      have hi40 := hd40
      clear hd h0 h1
      by_cases hle : (i : Int) ≤ 30
      · have hm1 : manyP (chainT i) = ((i : Int) + 1, 0) := by rw [HM.out, if_pos hle]
        have hr1 : rightT (chainT i) 0 = true := by rw [HR.out]; exact decide_eq_true (by omega)
        have hc1 : ((i : Int) ≤ 30) = True := eq_true hle
        have hc2 : (30 < (i : Int)) = False := eq_false (by omega)
        have HF := Aside0.mk (And.intro hm1 hr1)
        clear hm1 hr1 hle HM HR
        have HX := Aside0.mk (Merge_any .nil none wr rfl nil_walk)
        go_wp2_with fail
        refine HX.out.mono ?_
        rintro e w2 ⟨v, rfl, hR, hb⟩
        rw [nil_merge] at hR ⊢
        obtain ⟨At, ct, rfl⟩ := Kd.R_slice hR
        have HI2 := Aside0.mk (And.intro (HI.out.1.keep _ hb) (HI.out.2.trans (hb.mono HI.out.2.size)))
        have HX2 := Aside0.mk (First_any .nil none w2 rfl nil_walk)
        clear hR hb HX HI
        go_wp2_with fail
        refine HX2.out.mono ?_
        rintro e w3 ⟨A3, c3, rfl, -, hb⟩
        rw [nil_first]
        have HI3 := Aside0.mk (And.intro (HI2.out.1.keep _ hb) (HI2.out.2.trans (hb.mono HI2.out.2.size)))
        have HX3 := Aside0.mk (Many_any .nil none w3 rfl (by rw [nodesT]; omega) (by rw [numsT]; omega))
        clear hb HX2 HI2
        go_wp2_with fail
        refine HX3.out.mono ?_
        rintro e w4 ⟨rfl, hb⟩
        rw [nil_many]
        have HI4 := Aside0.mk (And.intro (HI3.out.1.keep _ hb) (HI3.out.2.trans (hb.mono HI3.out.2.size)))
        have HX4 := Aside0.mk (Many_any (chainT i) a w4 HI4.out.1 (by rw [HCN.out.1]; omega) (by rw [HCN.out.2]; omega))
        clear hb HX3 HI3
        go_wp2_with fail
        refine HX4.out.mono ?_
        rintro e w5 ⟨rfl, hb⟩
        rw [HF.out.1]
        have hi5 := HI4.out.1.keep _ hb
        have hb5 := HI4.out.2.trans (hb.mono HI4.out.2.size)
        obtain ⟨hn, hbn⟩ := chain_next (w := w5) (t := .nil) (a := none) (v := 0) (f := 0) rfl
        have HI5 := Aside0.mk (And.intro (hi5.keep _ hbn) (And.intro (hb5.trans (hbn.mono hb5.size)) (show IsT holeT _ _ from hn)))
        have HX5 := Aside0.mk (Right_any .nil none (((w5.alloc (.cells #[.bool true, .int .i64 0] 44)).alloc (.cells #[.pointer none] 29)).alloc (.cells #[.slice (some ⟨w5.heap.size, 0, none⟩) 1 1, .slice (some ⟨w5.heap.size + 1, 0, none⟩) 1 1, .int .i64 0, .int .i64 0] 42)) rfl)
        clear hb HX4 HI4 hi5 hb5 hn hbn
        go_wp2_with fail
        refine HX5.out.mono ?_
        rintro e w6 ⟨rfl, hb⟩
        rw [nil_right]
        have HI6 := Aside0.mk (And.intro (HI5.out.1.keep _ hb) (And.intro (HI5.out.2.1.trans (hb.mono HI5.out.2.1.size)) (HI5.out.2.2.keep _ hb)))
        have HX6 := Aside0.mk (Right_any holeT _ w6 HI6.out.2.2)
        clear hb HX5 HI5
        go_wp2_with fail
        refine HX6.out.mono ?_
        rintro e w7 ⟨rfl, hb⟩
        rw [hole_right]
        have HI7 := Aside0.mk (And.intro (HI6.out.1.keep _ hb) (HI6.out.2.1.trans (hb.mono HI6.out.2.1.size)))
        have HX7 := Aside0.mk (Right_any (chainT i) a w7 HI7.out.1)
        clear hb HX6 HI6
        go_wp2_with fail
        refine HX7.out.mono ?_
        rintro e w8 ⟨rfl, hb⟩
        rw [HF.out.2]
        have HI8 := Aside0.mk (HI7.out.2.trans (hb.mono HI7.out.2.size))
        have HX8 := Aside0.mk (awake_any w8)
        clear hb HX7 HI7
        go_wp2_with fail
        refine HX8.out.mono ?_
        rintro e w9 ⟨rfl, hb⟩
        have HI9 := Aside0.mk (HI8.out.trans (hb.mono HI8.out.size))
        clear hb HX8 HI8
        go_wp2_with fail
        go_ret
        exact ⟨rfl, HI9.out⟩
      · have hm1 : manyP (chainT i) = (0, 0) := by rw [HM.out, if_neg hle]
        have hr1 : rightT (chainT i) 0 = false := by rw [HR.out]; exact decide_eq_false (by omega)
        have hc1 : ((i : Int) ≤ 30) = False := eq_false hle
        have hc2 : (30 < (i : Int)) = True := eq_true (by omega)
        have HF := Aside0.mk (And.intro hm1 hr1)
        clear hm1 hr1 hle HM HR
        have HX := Aside0.mk (Merge_any .nil none wr rfl nil_walk)
        go_wp2_with fail
        refine HX.out.mono ?_
        rintro e w2 ⟨v, rfl, hR, hb⟩
        rw [nil_merge] at hR ⊢
        obtain ⟨At, ct, rfl⟩ := Kd.R_slice hR
        have HI2 := Aside0.mk (And.intro (HI.out.1.keep _ hb) (HI.out.2.trans (hb.mono HI.out.2.size)))
        have HX2 := Aside0.mk (First_any .nil none w2 rfl nil_walk)
        clear hR hb HX HI
        go_wp2_with fail
        refine HX2.out.mono ?_
        rintro e w3 ⟨A3, c3, rfl, -, hb⟩
        rw [nil_first]
        have HI3 := Aside0.mk (And.intro (HI2.out.1.keep _ hb) (HI2.out.2.trans (hb.mono HI2.out.2.size)))
        have HX3 := Aside0.mk (Many_any .nil none w3 rfl (by rw [nodesT]; omega) (by rw [numsT]; omega))
        clear hb HX2 HI2
        go_wp2_with fail
        refine HX3.out.mono ?_
        rintro e w4 ⟨rfl, hb⟩
        rw [nil_many]
        have HI4 := Aside0.mk (And.intro (HI3.out.1.keep _ hb) (HI3.out.2.trans (hb.mono HI3.out.2.size)))
        have HX4 := Aside0.mk (Many_any (chainT i) a w4 HI4.out.1 (by rw [HCN.out.1]; omega) (by rw [HCN.out.2]; omega))
        clear hb HX3 HI3
        go_wp2_with fail
        refine HX4.out.mono ?_
        rintro e w5 ⟨rfl, hb⟩
        rw [HF.out.1]
        have hi5 := HI4.out.1.keep _ hb
        have hb5 := HI4.out.2.trans (hb.mono HI4.out.2.size)
        obtain ⟨hn, hbn⟩ := chain_next (w := w5) (t := .nil) (a := none) (v := 0) (f := 0) rfl
        have HI5 := Aside0.mk (And.intro (hi5.keep _ hbn) (And.intro (hb5.trans (hbn.mono hb5.size)) (show IsT holeT _ _ from hn)))
        have HX5 := Aside0.mk (Right_any .nil none (((w5.alloc (.cells #[.bool true, .int .i64 0] 44)).alloc (.cells #[.pointer none] 29)).alloc (.cells #[.slice (some ⟨w5.heap.size, 0, none⟩) 1 1, .slice (some ⟨w5.heap.size + 1, 0, none⟩) 1 1, .int .i64 0, .int .i64 0] 42)) rfl)
        clear hb HX4 HI4 hi5 hb5 hn hbn
        go_wp2_with fail
        refine HX5.out.mono ?_
        rintro e w6 ⟨rfl, hb⟩
        rw [nil_right]
        have HI6 := Aside0.mk (And.intro (HI5.out.1.keep _ hb) (And.intro (HI5.out.2.1.trans (hb.mono HI5.out.2.1.size)) (HI5.out.2.2.keep _ hb)))
        have HX6 := Aside0.mk (Right_any holeT _ w6 HI6.out.2.2)
        clear hb HX5 HI5
        go_wp2_with fail
        refine HX6.out.mono ?_
        rintro e w7 ⟨rfl, hb⟩
        rw [hole_right]
        have HI7 := Aside0.mk (And.intro (HI6.out.1.keep _ hb) (HI6.out.2.1.trans (hb.mono HI6.out.2.1.size)))
        have HX7 := Aside0.mk (Right_any (chainT i) a w7 HI7.out.1)
        clear hb HX6 HI6
        go_wp2_with fail
        refine HX7.out.mono ?_
        rintro e w8 ⟨rfl, hb⟩
        rw [HF.out.2]
        have HI8 := Aside0.mk (HI7.out.2.trans (hb.mono HI7.out.2.size))
        have HX8 := Aside0.mk (awake_any w8)
        clear hb HX7 HI7
        go_wp2_with fail
        refine HX8.out.mono ?_
        rintro e w9 ⟨rfl, hb⟩
        have HI9 := Aside0.mk (HI8.out.trans (hb.mono HI8.out.size))
        clear hb HX8 HI8
        go_wp2_with fail
        go_ret
        exact ⟨rfl, HI9.out⟩
def haymowlaw07_MergeNone.f (a0 : Int) : Option Bool := if 0 ≤ a0 ∧ a0 ≤ 255 then some true else none
theorem haymowlaw07_MergeNone.calls (a0 : Int) (r : Bool) (w : World) (h : haymowlaw07_MergeNone.f a0 = some r) : Calls Try.prog 8 #[.int .u8 a0] w fun e w' => e = .returned (.bool r) ∧ Below w.heap.size w w' := by
  unfold haymowlaw07_MergeNone.f at h
  by_cases hr : 0 ≤ a0 ∧ a0 ≤ 255
  · rw [if_pos hr] at h
    obtain rfl : true = r := Option.some.inj h
    exact none_any a0 hr.1 hr.2 w
  · rw [if_neg hr] at h; cases h
#print axioms haymowlaw07_MergeNone.calls
end Go.Proofs.Ytiplpkjjplicjaa.H
