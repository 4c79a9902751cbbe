/- MergeEmpty: a node without pieces tells nothing, and ends as it does. -/
import Derived.Test.YtiplpkjjplicjaaMAwake
set_option linter.unusedVariables false
set_option linter.unusedSimpArgs false
namespace Go.Proofs.Ytiplpkjjplicjaa.H
open Go.RowKit Go.Hay Go.Proofs.YtiplpkjjplicjaaW.PrintWords Go.Proofs.YtiplpkjjplicjaaW.PrintLast Go.Proofs.YtiplpkjjplicjaaW.PrintMore
theorem leaf_right (v f : Int) : rightT (.node [] [] v f) 0 = if f ≠ 0 ∧ v ≠ 0 then false else true := by
  rw [rightT, metP]
  by_cases h : f ≠ 0 ∧ v ≠ 0
  · rw [if_pos h, if_pos (.inr h)]
  · rw [if_neg h, if_neg (by rintro (h1 | h1) <;> first | omega | exact h h1)]; rfl
theorem leaf_walk (v f : Int) : walkT (.node [] [] v f) [] = ([], f, if f = 0 then none else some []) := by
  rw [walkT, walkPs, if_pos rfl]
theorem leaf_bad {v f : Int} (hf : f ≠ 0) (hv : v ≠ 0) : rightT (.node [] [] v f) 0 = false ∧ mergeP (.node [] [] v f) = ([], 0, 0, 4) ∧ firstP (.node [] [] v f) = ([], false) := by
  have h := leaf_right v f
  rw [if_pos ⟨hf, hv⟩] at h
  refine ⟨h, ?_, ?_⟩
  · unfold mergeP; rw [if_neg (by rw [h]; simp)]
  · unfold firstP; rw [if_neg (by rw [h]; simp)]
theorem leaf_zero (v : Int) : rightT (.node [] [] v 0) 0 = true ∧ mergeP (.node [] [] v 0) = ([], v, 0, 0) ∧ firstP (.node [] [] v 0) = ([], false) := by
  have h := leaf_right v 0
  rw [if_neg (by simp)] at h
  refine ⟨h, ?_, ?_⟩
  · unfold mergeP; rw [if_pos h, leaf_walk]; rfl
  · unfold firstP; rw [if_pos h, leaf_walk]; rfl
theorem leaf_fail {f : Int} (hf : f ≠ 0) : rightT (.node [] [] 0 f) 0 = true ∧ mergeP (.node [] [] 0 f) = ([], 0, f, 0) ∧ firstP (.node [] [] 0 f) = ([], true) := by
  have h := leaf_right 0 f
  rw [if_neg (by simp)] at h
  refine ⟨h, ?_, ?_⟩
  · unfold mergeP; rw [if_pos h, leaf_walk]; simp [hf]
  · unfold firstP; rw [if_pos h, leaf_walk]; simp [hf]
set_option maxRecDepth 100000 in
set_option maxHeartbeats 4000000 in
theorem empty_any (value fail : Int) (w : World) : Calls Try.prog 5 #[.int .i64 value, .int .i64 fail] w fun e w' => e = .returned (.bool true) ∧ Below w.heap.size w w' := by
  by_cases hf : fail = 0
  · subst hf
    have hf' : ((0 : Int) != 0) = false := rfl
    by_cases hv : value = 0
    · subst hv
      have hb := (Below.refl w.heap.size w).alloc (Nat.le_refl _) (.cells #[.slice none 0 0, .slice none 0 0, .int .i64 0, .int .i64 0] 42)
      have hT := IsT.leaf (ps := []) (alloc_blk w (.cells #[.slice none 0 0, .slice none 0 0, .int .i64 0, .int .i64 0] 42)) (Nat.le_refl _) (Kd.C_nil _ _)
      have hsm : (walkT (.node [] [] 0 0) []).1.length ≤ 1000000 := by rw [leaf_walk]; simp
      have HC := Aside0.mk (Merge_any _ _ _ hT hsm)
      have HT := Aside0.mk (And.intro hT (And.intro hb hsm))
      have HF := Aside0.mk (leaf_zero 0)
      clear hb hT hsm
      go_enter Try.func5, Try.ntmps5
      go_wp2_with fail
      refine HC.out.mono ?_
      rintro e w2 ⟨v, rfl, hR, hbm⟩
      rw [HF.out.2.1] at hR ⊢
      obtain ⟨At, ct, rfl⟩ := Kd.R_slice hR
      have hT2 := HT.out.1.keep _ hbm
      have HB2 := Aside0.mk (HT.out.2.1.trans (hbm.mono HT.out.2.1.size))
      have HC2 := Aside0.mk (First_any _ _ _ hT2 HT.out.2.2)
      have HT2 := Aside0.mk hT2
      clear hR hbm hT2 HC
      go_wp2_with fail
      refine HC2.out.mono ?_
      rintro e w3 ⟨A3, c3, rfl, -, hbm⟩
      rw [HF.out.2.2]
      have HB3 := Aside0.mk (HB2.out.trans (hbm.mono HB2.out.size))
      have HC3 := Aside0.mk (Right_any _ _ _ (HT2.out.keep _ hbm))
      clear hbm HC2 HT2 HB2
      go_wp2_with fail
      refine HC3.out.mono ?_
      rintro e w4 ⟨rfl, hbm⟩
      rw [HF.out.1]
      have HB4 := Aside0.mk (HB3.out.trans (hbm.mono HB3.out.size))
      have HC4 := Aside0.mk (awake_any w4)
      clear hbm HC3 HB3
      go_wp2_with fail
      refine HC4.out.mono ?_
      rintro e w5 ⟨rfl, hbm⟩
      have HB5 := Aside0.mk (HB4.out.trans (hbm.mono HB4.out.size))
      clear hbm HC4 HB4
      go_wp2_with fail
      go_ret
      exact ⟨rfl, HB5.out⟩
    · have hv' : (value != 0) = true := by simp [hv]
      clear hv
      have hb := (Below.refl w.heap.size w).alloc (Nat.le_refl _) (.cells #[.slice none 0 0, .slice none 0 0, .int .i64 value, .int .i64 0] 42)
      have hT := IsT.leaf (ps := []) (alloc_blk w (.cells #[.slice none 0 0, .slice none 0 0, .int .i64 value, .int .i64 0] 42)) (Nat.le_refl _) (Kd.C_nil _ _)
      have hsm : (walkT (.node [] [] value 0) []).1.length ≤ 1000000 := by rw [leaf_walk]; simp
      have HC := Aside0.mk (Merge_any _ _ _ hT hsm)
      have HT := Aside0.mk (And.intro hT (And.intro hb hsm))
      have HF := Aside0.mk (leaf_zero value)
      clear hb hT hsm
      go_enter Try.func5, Try.ntmps5
      go_wp2_with fail
      refine HC.out.mono ?_
      rintro e w2 ⟨v, rfl, hR, hbm⟩
      rw [HF.out.2.1] at hR ⊢
      obtain ⟨At, ct, rfl⟩ := Kd.R_slice hR
      have hT2 := HT.out.1.keep _ hbm
      have HB2 := Aside0.mk (HT.out.2.1.trans (hbm.mono HT.out.2.1.size))
      have HC2 := Aside0.mk (First_any _ _ _ hT2 HT.out.2.2)
      have HT2 := Aside0.mk hT2
      clear hR hbm hT2 HC
      go_wp2_with fail
      refine HC2.out.mono ?_
      rintro e w3 ⟨A3, c3, rfl, -, hbm⟩
      rw [HF.out.2.2]
      have HB3 := Aside0.mk (HB2.out.trans (hbm.mono HB2.out.size))
      have HC3 := Aside0.mk (Right_any _ _ _ (HT2.out.keep _ hbm))
      clear hbm HC2 HT2 HB2
      go_wp2_with fail
      refine HC3.out.mono ?_
      rintro e w4 ⟨rfl, hbm⟩
      rw [HF.out.1]
      have HB4 := Aside0.mk (HB3.out.trans (hbm.mono HB3.out.size))
      have HC4 := Aside0.mk (awake_any w4)
      clear hbm HC3 HB3
      go_wp2_with fail
      refine HC4.out.mono ?_
      rintro e w5 ⟨rfl, hbm⟩
      have HB5 := Aside0.mk (HB4.out.trans (hbm.mono HB4.out.size))
      clear hbm HC4 HB4
      go_wp2_with fail
      go_ret
      exact ⟨rfl, HB5.out⟩
  · have hf' : (fail != 0) = true := by simp [hf]
    by_cases hv : value = 0
    · subst hv
      have hl := leaf_fail hf
      clear hf
      have hb := (Below.refl w.heap.size w).alloc (Nat.le_refl _) (.cells #[.slice none 0 0, .slice none 0 0, .int .i64 0, .int .i64 fail] 42)
      have hT := IsT.leaf (ps := []) (alloc_blk w (.cells #[.slice none 0 0, .slice none 0 0, .int .i64 0, .int .i64 fail] 42)) (Nat.le_refl _) (Kd.C_nil _ _)
      have hsm : (walkT (.node [] [] 0 fail) []).1.length ≤ 1000000 := by rw [leaf_walk]; simp
      have HC := Aside0.mk (Merge_any _ _ _ hT hsm)
      have HT := Aside0.mk (And.intro hT (And.intro hb hsm))
      have HF := Aside0.mk (hl)
      clear hb hT hsm
      go_enter Try.func5, Try.ntmps5
      go_wp2_with fail
      refine HC.out.mono ?_
      rintro e w2 ⟨v, rfl, hR, hbm⟩
      rw [HF.out.2.1] at hR ⊢
      obtain ⟨At, ct, rfl⟩ := Kd.R_slice hR
      have hT2 := HT.out.1.keep _ hbm
      have HB2 := Aside0.mk (HT.out.2.1.trans (hbm.mono HT.out.2.1.size))
      have HC2 := Aside0.mk (First_any _ _ _ hT2 HT.out.2.2)
      have HT2 := Aside0.mk hT2
      clear hR hbm hT2 HC
      go_wp2_with fail
      refine HC2.out.mono ?_
      rintro e w3 ⟨A3, c3, rfl, -, hbm⟩
      rw [HF.out.2.2]
      have HB3 := Aside0.mk (HB2.out.trans (hbm.mono HB2.out.size))
      have HC3 := Aside0.mk (Right_any _ _ _ (HT2.out.keep _ hbm))
      clear hbm HC2 HT2 HB2
      go_wp2_with fail
      refine HC3.out.mono ?_
      rintro e w4 ⟨rfl, hbm⟩
      rw [HF.out.1]
      have HB4 := Aside0.mk (HB3.out.trans (hbm.mono HB3.out.size))
      have HC4 := Aside0.mk (awake_any w4)
      clear hbm HC3 HB3
      go_wp2_with fail
      refine HC4.out.mono ?_
      rintro e w5 ⟨rfl, hbm⟩
      have HB5 := Aside0.mk (HB4.out.trans (hbm.mono HB4.out.size))
      clear hbm HC4 HB4
      go_wp2_with fail
      go_ret
      exact ⟨rfl, HB5.out⟩
    · have hv' : (value != 0) = true := by simp [hv]
      have hl := leaf_bad hf hv
      clear hf hv
      have hb := (Below.refl w.heap.size w).alloc (Nat.le_refl _) (.cells #[.slice none 0 0, .slice none 0 0, .int .i64 value, .int .i64 fail] 42)
      have hT := IsT.leaf (ps := []) (alloc_blk w (.cells #[.slice none 0 0, .slice none 0 0, .int .i64 value, .int .i64 fail] 42)) (Nat.le_refl _) (Kd.C_nil _ _)
      have hsm : (walkT (.node [] [] value fail) []).1.length ≤ 1000000 := by rw [leaf_walk]; simp
      have HC := Aside0.mk (Merge_any _ _ _ hT hsm)
      have HT := Aside0.mk (And.intro hT (And.intro hb hsm))
      have HF := Aside0.mk (hl)
      clear hb hT hsm
      go_enter Try.func5, Try.ntmps5
      go_wp2_with fail
      refine HC.out.mono ?_
      rintro e w2 ⟨v, rfl, hR, hbm⟩
      rw [HF.out.2.1] at hR ⊢
      obtain ⟨At, ct, rfl⟩ := Kd.R_slice hR
      have hT2 := HT.out.1.keep _ hbm
      have HB2 := Aside0.mk (HT.out.2.1.trans (hbm.mono HT.out.2.1.size))
      have HC2 := Aside0.mk (First_any _ _ _ hT2 HT.out.2.2)
      have HT2 := Aside0.mk hT2
      clear hR hbm hT2 HC
      go_wp2_with fail
      refine HC2.out.mono ?_
      rintro e w3 ⟨A3, c3, rfl, -, hbm⟩
      rw [HF.out.2.2]
      have HB3 := Aside0.mk (HB2.out.trans (hbm.mono HB2.out.size))
      have HC3 := Aside0.mk (Right_any _ _ _ (HT2.out.keep _ hbm))
      clear hbm HC2 HT2 HB2
      go_wp2_with fail
      refine HC3.out.mono ?_
      rintro e w4 ⟨rfl, hbm⟩
      rw [HF.out.1]
      have HB4 := Aside0.mk (HB3.out.trans (hbm.mono HB3.out.size))
      have HC4 := Aside0.mk (awake_any w4)
      clear hbm HC3 HB3
      go_wp2_with fail
      refine HC4.out.mono ?_
      rintro e w5 ⟨rfl, hbm⟩
      have HB5 := Aside0.mk (HB4.out.trans (hbm.mono HB4.out.size))
      clear hbm HC4 HB4
      go_wp2_with fail
      go_ret
      exact ⟨rfl, HB5.out⟩
def haymowlaw07_MergeEmpty.f (a0 a1 : Int) : Option Bool := some true
theorem haymowlaw07_MergeEmpty.calls (a0 a1 : Int) (r : Bool) (w : World) (h : haymowlaw07_MergeEmpty.f a0 a1 = some r) : Calls Try.prog 5 #[.int .i64 a0, .int .i64 a1] w fun e w' => e = .returned (.bool r) ∧ Below w.heap.size w w' := by
  obtain rfl : true = r := Option.some.inj h
  exact empty_any a0 a1 w
#print axioms haymowlaw07_MergeEmpty.calls
end Go.Proofs.Ytiplpkjjplicjaa.H
