-- made by this session's gen.py over the kit's print.py; not trusted: Lean checks it
import Derived.Test.YtkbbgkhanmmhpaaCheck
import Derived.Test.YtkbbgkhanmmhpaaH0
import Derived.Test.YtkbbgkhanmmhpaaH11
namespace Go.Proofs.Ytkbbgkhanmmhpaa.H
open Go.RowKit Go.Proofs.YtkbbgkhanmmhpaaW.PrintWords Go.Proofs.YtkbbgkhanmmhpaaW.PrintLast Go.Proofs.YtkbbgkhanmmhpaaW.PrintMore
attribute [local go_sem] max2_int min2_int max_two min_two max_three min_three max_four min_four   -- for this text's walks alone
set_option linter.unusedVariables false
set_option linter.unusedSimpArgs false

/-! ### haymowlaw03_ValidCalls: function 6 -/
mutual
def haymowlaw03_ValidCalls.j0 : Nat → Int → Int → Int → Int → Option (Bool)
  | 0, _, _, _, _ => none
  | k + 1, x5, x7, x8, x9 => (valid_Check.f (([(⟨0, (([(⟨x9, 1, x8, x5, 0⟩ : S33), (⟨17, 0, 0, 0, 0⟩ : S33)] : List (S33)))⟩ : S36), (⟨x7, (([(⟨17, 0, 0, 0, 0⟩ : S33)] : List (S33)))⟩ : S36)] : List (S36)))).bind fun bt241 => (if x5 < 0 then (haymowlaw03_ValidCalls.j1 k x5 x7 x8 bt241.1 bt241.2.1 bt241.2.2 true) else (haymowlaw03_ValidCalls.j1 k x5 x7 x8 bt241.1 bt241.2.1 bt241.2.2 (decide (x5 > 1))))
def haymowlaw03_ValidCalls.j1 : Nat → Int → Int → Int → Int → Int → Int → Bool → Option (Bool)
  | 0, _, _, _, _, _, _, _ => none
  | k + 1, x5, x7, x8, x11, x12, x13, x47 => if x47 = true then (if x13 = 5 then (if x11 = 0 then (if x12 = 0 then ((haymowlaw03_awake.f).bind fun t244 => (some t244)) else (some false)) else (some false)) else (some false)) else (if x5 = 1 then (haymowlaw03_ValidCalls.j2 k x11 x12 x13 (decide ((wrap64 (x8 + x7)) > 8))) else (haymowlaw03_ValidCalls.j2 k x11 x12 x13 false))
def haymowlaw03_ValidCalls.j2 : Nat → Int → Int → Int → Bool → Option (Bool)
  | 0, _, _, _, _ => none
  | k + 1, x11, x12, x13, x67 => if x67 = true then (if x13 = 6 then (if x11 = 0 then (if x12 = 0 then ((haymowlaw03_awake.f).bind fun t245 => (some t245)) else (some false)) else (some false)) else (some false)) else (if x13 = 0 then ((haymowlaw03_awake.f).bind fun t246 => (some t246)) else (some false))
end
def haymowlaw03_ValidCalls.f (k : Nat) (a0_0 : Int) (a0_1 : Int) (a0_2 : Int) (a0_3 : Bool) : Option (Bool) := if a0_3 = true then (haymowlaw03_ValidCalls.j0 k a0_2 (Int.tmod (wrap64 (a0_0)) 5) (Int.tmod (wrap64 (a0_1)) 8) 13) else (haymowlaw03_ValidCalls.j0 k a0_2 (Int.tmod (wrap64 (a0_0)) 5) (Int.tmod (wrap64 (a0_1)) 8) 11)
theorem haymowlaw03_ValidCalls.mono_l : ∀ k, (∀ y0 y1 y2 y3, LeO (haymowlaw03_ValidCalls.j0 k y0 y1 y2 y3) (haymowlaw03_ValidCalls.j0 (k + 1) y0 y1 y2 y3)) ∧ (∀ y0 y1 y2 y3 y4 y5 y6, LeO (haymowlaw03_ValidCalls.j1 k y0 y1 y2 y3 y4 y5 y6) (haymowlaw03_ValidCalls.j1 (k + 1) y0 y1 y2 y3 y4 y5 y6)) ∧ (∀ y0 y1 y2 y3, LeO (haymowlaw03_ValidCalls.j2 k y0 y1 y2 y3) (haymowlaw03_ValidCalls.j2 (k + 1) y0 y1 y2 y3))
  | 0 => ⟨fun _ _ _ _ r h => by simp [haymowlaw03_ValidCalls.j0] at h, fun _ _ _ _ _ _ _ r h => by simp [haymowlaw03_ValidCalls.j1] at h, fun _ _ _ _ r h => by simp [haymowlaw03_ValidCalls.j2] at h⟩
  | k + 1 => by
    obtain ⟨ih0, ih1, ih2⟩ := haymowlaw03_ValidCalls.mono_l k
    refine ⟨?_, ?_, ?_⟩
    · intro y0 y1 y2 y3
      unfold haymowlaw03_ValidCalls.j0
      repeat' first
      | (with_reducible exact ih0 _ _ _ _)
      | (with_reducible exact ih1 _ _ _ _ _ _ _)
      | (with_reducible exact ih2 _ _ _ _)
      | (with_reducible exact LeO.refl _)
      | (with_reducible exact LeO.none _)
      | (with_reducible refine LeO.ite ?_ ?_)
      | (with_reducible refine LeO.bind ?_ (fun _ => ?_))
      | exact ih0 _ _ _ _
      | exact ih1 _ _ _ _ _ _ _
      | exact ih2 _ _ _ _
      | exact LeO.none _
      | refine LeO.ite ?_ ?_
      | refine LeO.bind ?_ (fun _ => ?_)
    · intro y0 y1 y2 y3 y4 y5 y6
      unfold haymowlaw03_ValidCalls.j1
      repeat' first
      | (with_reducible exact ih0 _ _ _ _)
      | (with_reducible exact ih1 _ _ _ _ _ _ _)
      | (with_reducible exact ih2 _ _ _ _)
      | (with_reducible exact LeO.refl _)
      | (with_reducible exact LeO.none _)
      | (with_reducible refine LeO.ite ?_ ?_)
      | (with_reducible refine LeO.bind ?_ (fun _ => ?_))
      | exact ih0 _ _ _ _
      | exact ih1 _ _ _ _ _ _ _
      | exact ih2 _ _ _ _
      | exact LeO.none _
      | refine LeO.ite ?_ ?_
      | refine LeO.bind ?_ (fun _ => ?_)
    · intro y0 y1 y2 y3
      unfold haymowlaw03_ValidCalls.j2
      repeat' first
      | (with_reducible exact ih0 _ _ _ _)
      | (with_reducible exact ih1 _ _ _ _ _ _ _)
      | (with_reducible exact ih2 _ _ _ _)
      | (with_reducible exact LeO.refl _)
      | (with_reducible exact LeO.none _)
      | (with_reducible refine LeO.ite ?_ ?_)
      | (with_reducible refine LeO.bind ?_ (fun _ => ?_))
      | exact ih0 _ _ _ _
      | exact ih1 _ _ _ _ _ _ _
      | exact ih2 _ _ _ _
      | exact LeO.none _
      | refine LeO.ite ?_ ?_
      | refine LeO.bind ?_ (fun _ => ?_)
theorem haymowlaw03_ValidCalls.mono : ∀ a0 a1 a2 a3 k, LeO (haymowlaw03_ValidCalls.f k a0 a1 a2 a3) (haymowlaw03_ValidCalls.f (k + 1) a0 a1 a2 a3) := by
  intro a0 a1 a2 a3 k
  obtain ⟨ih0, ih1, ih2⟩ := haymowlaw03_ValidCalls.mono_l k
  unfold haymowlaw03_ValidCalls.f
  repeat' first
      | (with_reducible exact ih0 _ _ _ _)
      | (with_reducible exact ih1 _ _ _ _ _ _ _)
      | (with_reducible exact ih2 _ _ _ _)
      | (with_reducible exact LeO.refl _)
      | (with_reducible exact LeO.none _)
      | (with_reducible refine LeO.ite ?_ ?_)
      | (with_reducible refine LeO.bind ?_ (fun _ => ?_))
      | exact ih0 _ _ _ _
      | exact ih1 _ _ _ _ _ _ _
      | exact ih2 _ _ _ _
      | exact LeO.none _
      | refine LeO.ite ?_ ?_
      | refine LeO.bind ?_ (fun _ => ?_)
set_option maxHeartbeats 8000000 in
set_option maxRecDepth 100000 in
theorem haymowlaw03_ValidCalls.calls (k : Nat) (a0_0 : Int) (a0_1 : Int) (a0_2 : Int) (a0_3 : Bool) (r : Bool) (w : World) (h : haymowlaw03_ValidCalls.f k a0_0 a0_1 a0_2 a0_3 = some r) :
    Calls Try.prog 6 #[.agg #[.int .u8 a0_0, .int .u8 a0_1, .int .i64 a0_2, .bool a0_3]] w fun e w' => e = .returned (.bool r) ∧ Below w.heap.size w w' := by
  have hu40 := Try.underlying40
  have hu33 := Try.underlying33
  have hu36 := Try.underlying36
  have HB := Aside0.mk (Below.refl w.heap.size w)
  have H : (if a0_3 = true then (haymowlaw03_ValidCalls.j0 k a0_2 (Int.tmod (wrap64 (a0_0)) 5) (Int.tmod (wrap64 (a0_1)) 8) 13) else (haymowlaw03_ValidCalls.j0 k a0_2 (Int.tmod (wrap64 (a0_0)) 5) (Int.tmod (wrap64 (a0_1)) 8) 11)) = some r := h
  clear h
  have HC2 := Aside0.mk H
  clear H
  go_enter Try.func6, Try.ntmps6
  go_upto_if 28 with (first | ((with_reducible refine gate_dst (N := 1) rfl ?_); refine box_event ?hg (N := 1) ?hd (cs := #[.int .u8 a0_0, .int .u8 a0_1, .int .i64 a0_2, .bool a0_3]) (t := 40) ?hr ?_; (case hd => rfl); (case hg => rfl); (case hr => first | (go_simp; done) | (go_simp; rfl)); intro gb231 hg w3 hbox hb; have n0_ := Aside0.mk (below_step (by repeat (first | (with_reducible first | exact HB.out | apply below_alloc | apply pw_below_drewN | apply below_drew1) | exact HB.out)) hb); have n1_ := Aside0.mk (hbox); have n2_ := Aside0.mk ((by rw [hg]; exact (below_size (by repeat (first | (with_reducible first | exact HB.out | apply below_alloc | apply pw_below_drewN | apply below_drew1) | exact HB.out))) : w.heap.size ≤ gb231)); have n3_ := Aside0.mk ((by rw [hg]; exact (below_size (by repeat (first | (with_reducible first | exact HB.out | apply below_alloc | apply pw_below_drewN | apply below_drew1) | exact HB.out))) : w.heap.size ≤ gb231)); clear HB; have HB := n0_; have BK231 := n1_; have GW231 := n2_; have GE231 := n3_; clear n0_ n1_ n2_ n3_; clear hb hbox hg; have hcz4_0 : w3.cell? ⟨gb231, 0, none⟩ = some (.int .u8 a0_0) := (blk_cell BK231.out 0).trans rfl; have hcz4_1 : w3.cell? ⟨gb231, 1, none⟩ = some (.int .u8 a0_1) := (blk_cell BK231.out 1).trans rfl; have hcz4_2 : w3.cell? ⟨gb231, 2, none⟩ = some (.int .i64 a0_2) := (blk_cell BK231.out 2).trans rfl; have hcz4_3 : w3.cell? ⟨gb231, 3, none⟩ = some (.bool a0_3) := (blk_cell BK231.out 3).trans rfl; have hfz4_0 := blk_frozen BK231.out 0; have hfz4_1 := blk_frozen BK231.out 1; have hfz4_2 := blk_frozen BK231.out 2; have hfz4_3 := blk_frozen BK231.out 3))
  repeat (go_quiet (first | ((with_reducible refine gate_dst (N := 1) rfl ?_); refine box_event ?hg (N := 1) ?hd (cs := #[.int .u8 a0_0, .int .u8 a0_1, .int .i64 a0_2, .bool a0_3]) (t := 40) ?hr ?_; (case hd => rfl); (case hg => rfl); (case hr => first | (go_simp; done) | (go_simp; rfl)); intro gb231 hg w3 hbox hb; have n0_ := Aside0.mk (below_step (by repeat (first | (with_reducible first | exact HB.out | apply below_alloc | apply pw_below_drewN | apply below_drew1) | exact HB.out)) hb); have n1_ := Aside0.mk (hbox); have n2_ := Aside0.mk ((by rw [hg]; exact (below_size (by repeat (first | (with_reducible first | exact HB.out | apply below_alloc | apply pw_below_drewN | apply below_drew1) | exact HB.out))) : w.heap.size ≤ gb231)); have n3_ := Aside0.mk ((by rw [hg]; exact (below_size (by repeat (first | (with_reducible first | exact HB.out | apply below_alloc | apply pw_below_drewN | apply below_drew1) | exact HB.out))) : w.heap.size ≤ gb231)); clear HB; have HB := n0_; have BK231 := n1_; have GW231 := n2_; have GE231 := n3_; clear n0_ n1_ n2_ n3_; clear hb hbox hg; have hcz4_0 : w3.cell? ⟨gb231, 0, none⟩ = some (.int .u8 a0_0) := (blk_cell BK231.out 0).trans rfl; have hcz4_1 : w3.cell? ⟨gb231, 1, none⟩ = some (.int .u8 a0_1) := (blk_cell BK231.out 1).trans rfl; have hcz4_2 : w3.cell? ⟨gb231, 2, none⟩ = some (.int .i64 a0_2) := (blk_cell BK231.out 2).trans rfl; have hcz4_3 : w3.cell? ⟨gb231, 3, none⟩ = some (.bool a0_3) := (blk_cell BK231.out 3).trans rfl; have hfz4_0 := blk_frozen BK231.out 0; have hfz4_1 := blk_frozen BK231.out 1; have hfz4_2 := blk_frozen BK231.out 2; have hfz4_3 := blk_frozen BK231.out 3)); go_upto_if 28 with (first | ((with_reducible refine gate_dst (N := 1) rfl ?_); refine box_event ?hg (N := 1) ?hd (cs := #[.int .u8 a0_0, .int .u8 a0_1, .int .i64 a0_2, .bool a0_3]) (t := 40) ?hr ?_; (case hd => rfl); (case hg => rfl); (case hr => first | (go_simp; done) | (go_simp; rfl)); intro gb231 hg w3 hbox hb; have n0_ := Aside0.mk (below_step (by repeat (first | (with_reducible first | exact HB.out | apply below_alloc | apply pw_below_drewN | apply below_drew1) | exact HB.out)) hb); have n1_ := Aside0.mk (hbox); have n2_ := Aside0.mk ((by rw [hg]; exact (below_size (by repeat (first | (with_reducible first | exact HB.out | apply below_alloc | apply pw_below_drewN | apply below_drew1) | exact HB.out))) : w.heap.size ≤ gb231)); have n3_ := Aside0.mk ((by rw [hg]; exact (below_size (by repeat (first | (with_reducible first | exact HB.out | apply below_alloc | apply pw_below_drewN | apply below_drew1) | exact HB.out))) : w.heap.size ≤ gb231)); clear HB; have HB := n0_; have BK231 := n1_; have GW231 := n2_; have GE231 := n3_; clear n0_ n1_ n2_ n3_; clear hb hbox hg; have hcz4_0 : w3.cell? ⟨gb231, 0, none⟩ = some (.int .u8 a0_0) := (blk_cell BK231.out 0).trans rfl; have hcz4_1 : w3.cell? ⟨gb231, 1, none⟩ = some (.int .u8 a0_1) := (blk_cell BK231.out 1).trans rfl; have hcz4_2 : w3.cell? ⟨gb231, 2, none⟩ = some (.int .i64 a0_2) := (blk_cell BK231.out 2).trans rfl; have hcz4_3 : w3.cell? ⟨gb231, 3, none⟩ = some (.bool a0_3) := (blk_cell BK231.out 3).trans rfl; have hfz4_0 := blk_frozen BK231.out 0; have hfz4_1 := blk_frozen BK231.out 1; have hfz4_2 := blk_frozen BK231.out 2; have hfz4_3 := blk_frozen BK231.out 3)))
  (try simp only [Act.put, List.setIfInBounds_toArray, List.set_cons_zero, List.set_cons_succ])
  go_cut [9] (fun v9 wc => ∃ (kq : Nat) (x9_1 : Int), v9 = .int .i64 x9_1 ∧ Aside0 (haymowlaw03_ValidCalls.j0 kq a0_2 (Int.tmod (wrap64 (a0_0)) 5) (Int.tmod (wrap64 (a0_1)) 8) x9_1 = some r) ∧ Aside0 (kq ≤ k) ∧ Aside0 (wc.heap[gb231]? = some (.cells #[.int .u8 a0_0, .int .u8 a0_1, .int .i64 a0_2, .bool a0_3] 40 (0, 0))) ∧ Aside0 (Below w.heap.size w wc))
  case first =>
    have H := HC2.out
    clear HC2
    by_cases c5 : a0_3 = true
    · subst c5
      have H1 : (haymowlaw03_ValidCalls.j0 k a0_2 (Int.tmod (wrap64 (a0_0)) 5) (Int.tmod (wrap64 (a0_1)) 8) 13) = some r := by rw [if_pos rfl] at H; exact H
      clear H
      have H := H1
      clear H1
      have H' := Aside0.mk H
      clear H
      go_wp2
      repeat (go_quiet (fail); try go_wp2)
      go_meet
      case rel => exact ⟨_, (13), (by first | rfl | (simp; done) | (simp [*]; done)), H', ⟨by first | omega | exact Nat.le_refl _⟩, ⟨by (with_reducible repeat (first | refine blk_drewN ?_ _ | refine blk_drew ?_ | refine blk_alloc ?_ _)); exact BK231.out⟩, ⟨by repeat (first | (with_reducible first | exact HB.out | apply below_alloc | apply pw_below_drewN | apply below_drew1 | refine below_set ?_ GE231.out) | exact HB.out)⟩⟩
    · replace c5 := Bool.eq_false_iff.mpr c5
      subst c5
      have H1 : (haymowlaw03_ValidCalls.j0 k a0_2 (Int.tmod (wrap64 (a0_0)) 5) (Int.tmod (wrap64 (a0_1)) 8) 11) = some r := by rw [if_neg (show ¬ (false = true) by decide)] at H; exact H
      clear H
      have H := H1
      clear H1
      have H' := Aside0.mk H
      clear H
      go_wp2
      repeat (go_quiet (fail); try go_wp2)
      go_meet
      case rel => exact ⟨_, (11), (by first | rfl | (simp; done) | (simp [*]; done)), H', ⟨by first | omega | exact Nat.le_refl _⟩, ⟨by (with_reducible repeat (first | refine blk_drewN ?_ _ | refine blk_drew ?_ | refine blk_alloc ?_ _)); exact BK231.out⟩, ⟨by repeat (first | (with_reducible first | exact HB.out | apply below_alloc | apply pw_below_drewN | apply below_drew1 | refine below_set ?_ GE231.out) | exact HB.out)⟩⟩
  case rest =>
    clear HC2
    try clear p2
    try clear c5
    try clear hcz4_0
    try clear hcz4_1
    try clear hcz4_2
    try clear hcz4_3
    try clear hfz4_0
    try clear hfz4_1
    try clear hfz4_2
    try clear hfz4_3
    obtain ⟨kq, x9_1, rfl, HA, HJ1, BK231, HB⟩ := hcut
    cases kq with
    | zero => exact absurd HA.out (by simp [haymowlaw03_ValidCalls.j0])
    | succ kj1 =>
      have H := HA.out
      clear HA
      simp only [haymowlaw03_ValidCalls.j0] at H
      obtain ⟨y232, hy232⟩ : ∃ y_ : List (S33), y_ = (([(⟨x9_1, 1, (Int.tmod (wrap64 (a0_1)) 8), a0_2, 0⟩ : S33), (⟨17, 0, 0, 0, 0⟩ : S33)] : List (S33))) := ⟨_, rfl⟩
      replace H : ((valid_Check.f (([(⟨0, y232⟩ : S36), (⟨(Int.tmod (wrap64 (a0_0)) 5), (([(⟨17, 0, 0, 0, 0⟩ : S33)] : List (S33)))⟩ : S36)] : List (S36)))).bind fun bt241 => (if a0_2 < 0 then (haymowlaw03_ValidCalls.j1 kj1 a0_2 (Int.tmod (wrap64 (a0_0)) 5) (Int.tmod (wrap64 (a0_1)) 8) bt241.1 bt241.2.1 bt241.2.2 true) else (haymowlaw03_ValidCalls.j1 kj1 a0_2 (Int.tmod (wrap64 (a0_0)) 5) (Int.tmod (wrap64 (a0_1)) 8) bt241.1 bt241.2.1 bt241.2.2 (decide (a0_2 > 1))))) = some r := by first | (rw [hy232]; with_reducible exact H) | (have H2_ := (Option.bind_some _ _).symm.trans H; rw [hy232]; with_reducible exact H2_) | (have H2_ := (Option.bind_some _ _).symm.trans H; with_reducible exact H2_) | with_reducible exact H | (rw [hy232]; exact H) | exact H
      have Ny232 := Aside0.mk hy232
      clear hy232
      obtain ⟨y235, hy235⟩ : ∃ y_ : List (S33), y_ = (([(⟨17, 0, 0, 0, 0⟩ : S33)] : List (S33))) := ⟨_, rfl⟩
      replace H : ((valid_Check.f (([(⟨0, y232⟩ : S36), (⟨(Int.tmod (wrap64 (a0_0)) 5), y235⟩ : S36)] : List (S36)))).bind fun bt241 => (if a0_2 < 0 then (haymowlaw03_ValidCalls.j1 kj1 a0_2 (Int.tmod (wrap64 (a0_0)) 5) (Int.tmod (wrap64 (a0_1)) 8) bt241.1 bt241.2.1 bt241.2.2 true) else (haymowlaw03_ValidCalls.j1 kj1 a0_2 (Int.tmod (wrap64 (a0_0)) 5) (Int.tmod (wrap64 (a0_1)) 8) bt241.1 bt241.2.1 bt241.2.2 (decide (a0_2 > 1))))) = some r := by first | (rw [hy235]; with_reducible exact H) | (have H2_ := (Option.bind_some _ _).symm.trans H; rw [hy235]; with_reducible exact H2_) | (have H2_ := (Option.bind_some _ _).symm.trans H; with_reducible exact H2_) | with_reducible exact H | (rw [hy235]; exact H) | exact H
      have Ny235 := Aside0.mk hy235
      clear hy235
      obtain ⟨y238, hy238⟩ : ∃ y_ : List (S36), y_ = (([(⟨0, y232⟩ : S36), (⟨(Int.tmod (wrap64 (a0_0)) 5), y235⟩ : S36)] : List (S36))) := ⟨_, rfl⟩
      replace H : ((valid_Check.f y238).bind fun bt241 => (if a0_2 < 0 then (haymowlaw03_ValidCalls.j1 kj1 a0_2 (Int.tmod (wrap64 (a0_0)) 5) (Int.tmod (wrap64 (a0_1)) 8) bt241.1 bt241.2.1 bt241.2.2 true) else (haymowlaw03_ValidCalls.j1 kj1 a0_2 (Int.tmod (wrap64 (a0_0)) 5) (Int.tmod (wrap64 (a0_1)) 8) bt241.1 bt241.2.1 bt241.2.2 (decide (a0_2 > 1))))) = some r := by first | (rw [hy238]; with_reducible exact H) | (have H2_ := (Option.bind_some _ _).symm.trans H; rw [hy238]; with_reducible exact H2_) | (have H2_ := (Option.bind_some _ _).symm.trans H; with_reducible exact H2_) | with_reducible exact H | (rw [hy238]; exact H) | exact H
      have Ny238 := Aside0.mk hy238
      clear hy238
      replace H := Option.bind_eq_some_iff.mp H
      obtain ⟨⟨t241, t242, t243⟩, A60, H⟩ := H
      replace H : (if a0_2 < 0 then (haymowlaw03_ValidCalls.j1 kj1 a0_2 (Int.tmod (wrap64 (a0_0)) 5) (Int.tmod (wrap64 (a0_1)) 8) t241 t242 t243 true) else (haymowlaw03_ValidCalls.j1 kj1 a0_2 (Int.tmod (wrap64 (a0_0)) 5) (Int.tmod (wrap64 (a0_1)) 8) t241 t242 t243 (decide (a0_2 > 1)))) = some r := H
      have A6 := Aside0.mk A60
      clear A60
      have HC7 := Aside0.mk H
      clear H
      go_upto_region 8 with (first | ((with_reducible refine gate_dst (N := 34) rfl ?_); refine Kd.R_lit k33 _ 33 ?hg (N := 34) ?hd (xs := ([(⟨x9_1, 1, (Int.tmod (wrap64 (a0_1)) 8), a0_2, 0⟩ : S33), (⟨17, 0, 0, 0, 0⟩ : S33)] : List (S33))) (inner := [.int .i64 x9_1, .int .i64 1, .int .i64 (Int.tmod (wrap64 (a0_1)) 8), .int .i64 a0_2, .int .i64 0, .int .i64 17, .int .i64 0, .int .i64 0, .int .i64 0, .int .i64 0]) (ok := fun _ => True) (okp := fun _ => True) ?hr ?hp (fun _ hk => hk) trivial (Below.refl _ _) (Nat.le_refl _) (by simp) ?_; (case hd => rfl); (case hg => rfl); (case hr => first | (go_simp; done) | (go_simp; rfl)); (case hp => exact (Reps.c5 (show Kd.M k33 _ _ _ (⟨x9_1, 1, (Int.tmod (wrap64 (a0_1)) 8), a0_2, 0⟩ : S33) [.int .i64 x9_1, .int .i64 1, .int .i64 (Int.tmod (wrap64 (a0_1)) 8), .int .i64 a0_2, .int .i64 0] from (k33_mkM _ _ _ (⟨x9_1, 1, (Int.tmod (wrap64 (a0_1)) 8), a0_2, 0⟩ : S33) )) (Reps.c5 (show Kd.M k33 _ _ _ (⟨17, 0, 0, 0, 0⟩ : S33) [.int .i64 17, .int .i64 0, .int .i64 0, .int .i64 0, .int .i64 0] from (k33_mkM _ _ _ (⟨17, 0, 0, 0, 0⟩ : S33) )) (Reps.none _ _)))); intro v233 w8 ho9 hb hg_ hnew_; clear hg_ hnew_; (first | rw [← Ny232.out] at ho9 | (simp only [Int.reduceToNat] at ho9; rw [← Ny232.out] at ho9)); have n0_ := Aside0.mk (Kd.R_lower ho9 (below_size (by repeat (first | (with_reducible first | exact HB.out | apply below_alloc | apply pw_below_drewN | apply below_drew1 | refine below_set ?_ GE231.out) | exact HB.out)))); have n1_ := Aside0.mk (blk_below (g := gb231) (o := .cells #[.int .u8 a0_0, .int .u8 a0_1, .int .i64 a0_2, .bool a0_3] 40 (0, 0)) (by (with_reducible repeat (first | refine blk_drewN ?_ _ | refine blk_drew ?_ | refine blk_alloc ?_ _)); exact BK231.out) hb); have n2_ := Aside0.mk (below_step (by repeat (first | (with_reducible first | exact HB.out | apply below_alloc | apply pw_below_drewN | apply below_drew1 | refine below_set ?_ GE231.out) | exact HB.out)) hb); clear BK231; clear HB; have HO234 := n0_; have BK231 := n1_; have HB := n2_; clear n0_ n1_ n2_; clear hb ho9; obtain ⟨Ao10, co10, eo10⟩ := Kd.R_slice HO234.out; subst eo10) | ((with_reducible refine gate_dst (N := 38) rfl ?_); refine Kd.R_lit k33 _ 33 ?hg (N := 38) ?hd (xs := ([(⟨17, 0, 0, 0, 0⟩ : S33)] : List (S33))) (inner := [.int .i64 17, .int .i64 0, .int .i64 0, .int .i64 0, .int .i64 0]) (ok := fun _ => True) (okp := fun _ => True) ?hr ?hp (fun _ hk => hk) trivial (Below.refl _ _) (Nat.le_refl _) (by simp) ?_; (case hd => rfl); (case hg => rfl); (case hr => first | (go_simp; done) | (go_simp; rfl)); (case hp => exact (Reps.c5 (show Kd.M k33 _ _ _ (⟨17, 0, 0, 0, 0⟩ : S33) [.int .i64 17, .int .i64 0, .int .i64 0, .int .i64 0, .int .i64 0] from (k33_mkM _ _ _ (⟨17, 0, 0, 0, 0⟩ : S33) )) (Reps.none _ _))); intro v236 w11 ho12 hb hg_ hnew_; clear hg_ hnew_; (first | rw [← Ny235.out] at ho12 | (simp only [Int.reduceToNat] at ho12; rw [← Ny235.out] at ho12)); have n0_ := Aside0.mk (Kd.R_elder' (by (with_reducible repeat (first | apply Kd.R_alloc | apply Kd.R_drewN | apply Kd.R_drew)); exact HO234.out) (Kd.R_base ho12) hb); have n1_ := Aside0.mk (Kd.R_lower (Kd.R_new' ho12 (Kd.R_lt (by (with_reducible repeat (first | apply Kd.R_alloc | apply Kd.R_drewN | apply Kd.R_drew)); exact HO234.out))) (below_size (by repeat (first | (with_reducible first | exact HB.out | apply below_alloc | apply pw_below_drewN | apply below_drew1 | refine below_set ?_ GE231.out) | exact HB.out)))); have n2_ := Aside0.mk (blk_below (g := gb231) (o := .cells #[.int .u8 a0_0, .int .u8 a0_1, .int .i64 a0_2, .bool a0_3] 40 (0, 0)) (by (with_reducible repeat (first | refine blk_drewN ?_ _ | refine blk_drew ?_ | refine blk_alloc ?_ _)); exact BK231.out) hb); have n3_ := Aside0.mk (below_step (by repeat (first | (with_reducible first | exact HB.out | apply below_alloc | apply pw_below_drewN | apply below_drew1 | refine below_set ?_ GE231.out) | exact HB.out)) hb); clear HO234; clear BK231; clear HB; have HO234 := n0_; have HO237 := n1_; have BK231 := n2_; have HB := n3_; clear n0_ n1_ n2_ n3_; clear hb ho12; obtain ⟨Ao13, co13, eo13⟩ := Kd.R_slice HO237.out; subst eo13) | ((with_reducible refine gate_dst (N := 40) rfl ?_); refine Kd.N_lit k36 _ 36 ?hg (N' := 40) ?hd (xs := ([(⟨0, y232⟩ : S36), (⟨(Int.tmod (wrap64 (a0_0)) 5), y235⟩ : S36)] : List (S36))) (inner := [.int .i64 0, .slice Ao10 y232.length co10, .int .i64 (Int.tmod (wrap64 (a0_0)) 5), .slice Ao13 y235.length co13]) (ok := (fun k_ => k_ ≠ gb231)) (okp := (fun k_ => k_ ≠ gb231)) ?hr ?hp (fun _ hk => hk) ((show ∀ k_, w11.heap.size ≤ k_ → (fun k_ => k_ ≠ gb231) k_ from fun k_ hk => Kd.freshB (g := gb231) (o := .cells #[.int .u8 a0_0, .int .u8 a0_1, .int .i64 a0_2, .bool a0_3] 40 (0, 0)) (by (with_reducible repeat (first | refine blk_drewN ?_ _ | refine blk_drew ?_ | refine blk_alloc ?_ _)); exact BK231.out) k_ hk) _ (Nat.le_refl _)) (Below.refl _ _) (Nat.le_refl _) (by simp) ?_; (case hd => rfl); (case hg => rfl); (case hr => first | (go_simp; done) | (go_simp; rfl)); (case hp => exact (Reps.c2 (show Kd.FK k36 _ _ (⟨0, y232⟩ : S36) [.int .i64 0, .slice Ao10 y232.length co10] from (k36_mkF _ _ (⟨0, y232⟩ : S36) (Kd.R_reads' (Kd.R_mono (ok' := (fun k_ => k_ ≠ gb231)) (Kd.R_types (HO234.out) BK231.out (by decide)) (fun k_ hk => hk.2))).2.1 (Kd.R_F (Kd.R_mono (ok' := (fun k_ => k_ ≠ gb231)) (Kd.R_types (HO234.out) BK231.out (by decide)) (fun k_ hk => hk.2))))) (Reps.c2 (show Kd.FK k36 _ _ (⟨(Int.tmod (wrap64 (a0_0)) 5), y235⟩ : S36) [.int .i64 (Int.tmod (wrap64 (a0_0)) 5), .slice Ao13 y235.length co13] from (k36_mkF _ _ (⟨(Int.tmod (wrap64 (a0_0)) 5), y235⟩ : S36) (Kd.R_reads' (Kd.R_mono (ok' := (fun k_ => k_ ≠ gb231)) (Kd.R_types (HO237.out) BK231.out (by decide)) (fun k_ hk => hk.2))).2.1 (Kd.R_F (Kd.R_mono (ok' := (fun k_ => k_ ≠ gb231)) (Kd.R_types (HO237.out) BK231.out (by decide)) (fun k_ hk => hk.2))))) (Reps.none _ _)))); intro v239 w14 ho15 hb hg_ hnew_; clear hg_ hnew_; (first | rw [← Ny238.out] at ho15 | (simp only [Int.reduceToNat] at ho15; rw [← Ny238.out] at ho15)); have n0_ := Aside0.mk (Kd.N_lower ho15 (below_size (by repeat (first | (with_reducible first | exact HB.out | apply below_alloc | apply pw_below_drewN | apply below_drew1 | refine below_set ?_ GE231.out) | exact HB.out)))); have n1_ := Aside0.mk (blk_below (g := gb231) (o := .cells #[.int .u8 a0_0, .int .u8 a0_1, .int .i64 a0_2, .bool a0_3] 40 (0, 0)) (by (with_reducible repeat (first | refine blk_drewN ?_ _ | refine blk_drew ?_ | refine blk_alloc ?_ _)); exact BK231.out) hb); have n2_ := Aside0.mk (below_step (by repeat (first | (with_reducible first | exact HB.out | apply below_alloc | apply pw_below_drewN | apply below_drew1 | refine below_set ?_ GE231.out) | exact HB.out)) hb); clear BK231; clear HB; clear HO234; clear HO237; have HO240 := n0_; have BK231 := n1_; have HB := n2_; clear n0_ n1_ n2_; clear hb ho15; obtain ⟨Ao16, co16, eo16⟩ := Kd.N_slice HO240.out; subst eo16) | (go_at_call 10; (with_reducible refine (valid_Check.calls _ _ y238 t241 t242 t243 _ ?side1 ?side2 A6.out).mono ?_); (case side1 => repeat (first | exact (Kd.N_reads' HO240.out).2.2 | (with_reducible refine Kd.C_alloc ?_ _) | (with_reducible refine Kd.C_drewN ?_ _) | (with_reducible refine Kd.C_drew ?_))); (case side2 => exact (Kd.N_reads' HO240.out).2.1); rintro e w17 ⟨rfl, hb⟩; have n0_ := Aside0.mk (Kd.N_below (by (with_reducible repeat (first | apply Kd.N_alloc | apply Kd.N_drewN | apply Kd.N_drew)); exact HO240.out) hb); have n1_ := Aside0.mk (blk_below (g := gb231) (o := .cells #[.int .u8 a0_0, .int .u8 a0_1, .int .i64 a0_2, .bool a0_3] 40 (0, 0)) (by (with_reducible repeat (first | refine blk_drewN ?_ _ | refine blk_drew ?_ | refine blk_alloc ?_ _)); exact BK231.out) hb); have n2_ := Aside0.mk (below_step (by repeat (first | (with_reducible first | exact HB.out | apply below_alloc | apply pw_below_drewN | apply below_drew1 | refine below_set ?_ GE231.out) | exact HB.out)) hb); clear HO240; clear BK231; clear HB; have HO240 := n0_; have BK231 := n1_; have HB := n2_; clear n0_ n1_ n2_; (try clear hb); (try clear hb2); (try clear hk); (try clear hi)))
      repeat (go_quiet (first | ((with_reducible refine gate_dst (N := 34) rfl ?_); refine Kd.R_lit k33 _ 33 ?hg (N := 34) ?hd (xs := ([(⟨x9_1, 1, (Int.tmod (wrap64 (a0_1)) 8), a0_2, 0⟩ : S33), (⟨17, 0, 0, 0, 0⟩ : S33)] : List (S33))) (inner := [.int .i64 x9_1, .int .i64 1, .int .i64 (Int.tmod (wrap64 (a0_1)) 8), .int .i64 a0_2, .int .i64 0, .int .i64 17, .int .i64 0, .int .i64 0, .int .i64 0, .int .i64 0]) (ok := fun _ => True) (okp := fun _ => True) ?hr ?hp (fun _ hk => hk) trivial (Below.refl _ _) (Nat.le_refl _) (by simp) ?_; (case hd => rfl); (case hg => rfl); (case hr => first | (go_simp; done) | (go_simp; rfl)); (case hp => exact (Reps.c5 (show Kd.M k33 _ _ _ (⟨x9_1, 1, (Int.tmod (wrap64 (a0_1)) 8), a0_2, 0⟩ : S33) [.int .i64 x9_1, .int .i64 1, .int .i64 (Int.tmod (wrap64 (a0_1)) 8), .int .i64 a0_2, .int .i64 0] from (k33_mkM _ _ _ (⟨x9_1, 1, (Int.tmod (wrap64 (a0_1)) 8), a0_2, 0⟩ : S33) )) (Reps.c5 (show Kd.M k33 _ _ _ (⟨17, 0, 0, 0, 0⟩ : S33) [.int .i64 17, .int .i64 0, .int .i64 0, .int .i64 0, .int .i64 0] from (k33_mkM _ _ _ (⟨17, 0, 0, 0, 0⟩ : S33) )) (Reps.none _ _)))); intro v233 w8 ho9 hb hg_ hnew_; clear hg_ hnew_; (first | rw [← Ny232.out] at ho9 | (simp only [Int.reduceToNat] at ho9; rw [← Ny232.out] at ho9)); have n0_ := Aside0.mk (Kd.R_lower ho9 (below_size (by repeat (first | (with_reducible first | exact HB.out | apply below_alloc | apply pw_below_drewN | apply below_drew1 | refine below_set ?_ GE231.out) | exact HB.out)))); have n1_ := Aside0.mk (blk_below (g := gb231) (o := .cells #[.int .u8 a0_0, .int .u8 a0_1, .int .i64 a0_2, .bool a0_3] 40 (0, 0)) (by (with_reducible repeat (first | refine blk_drewN ?_ _ | refine blk_drew ?_ | refine blk_alloc ?_ _)); exact BK231.out) hb); have n2_ := Aside0.mk (below_step (by repeat (first | (with_reducible first | exact HB.out | apply below_alloc | apply pw_below_drewN | apply below_drew1 | refine below_set ?_ GE231.out) | exact HB.out)) hb); clear BK231; clear HB; have HO234 := n0_; have BK231 := n1_; have HB := n2_; clear n0_ n1_ n2_; clear hb ho9; obtain ⟨Ao10, co10, eo10⟩ := Kd.R_slice HO234.out; subst eo10) | ((with_reducible refine gate_dst (N := 38) rfl ?_); refine Kd.R_lit k33 _ 33 ?hg (N := 38) ?hd (xs := ([(⟨17, 0, 0, 0, 0⟩ : S33)] : List (S33))) (inner := [.int .i64 17, .int .i64 0, .int .i64 0, .int .i64 0, .int .i64 0]) (ok := fun _ => True) (okp := fun _ => True) ?hr ?hp (fun _ hk => hk) trivial (Below.refl _ _) (Nat.le_refl _) (by simp) ?_; (case hd => rfl); (case hg => rfl); (case hr => first | (go_simp; done) | (go_simp; rfl)); (case hp => exact (Reps.c5 (show Kd.M k33 _ _ _ (⟨17, 0, 0, 0, 0⟩ : S33) [.int .i64 17, .int .i64 0, .int .i64 0, .int .i64 0, .int .i64 0] from (k33_mkM _ _ _ (⟨17, 0, 0, 0, 0⟩ : S33) )) (Reps.none _ _))); intro v236 w11 ho12 hb hg_ hnew_; clear hg_ hnew_; (first | rw [← Ny235.out] at ho12 | (simp only [Int.reduceToNat] at ho12; rw [← Ny235.out] at ho12)); have n0_ := Aside0.mk (Kd.R_elder' (by (with_reducible repeat (first | apply Kd.R_alloc | apply Kd.R_drewN | apply Kd.R_drew)); exact HO234.out) (Kd.R_base ho12) hb); have n1_ := Aside0.mk (Kd.R_lower (Kd.R_new' ho12 (Kd.R_lt (by (with_reducible repeat (first | apply Kd.R_alloc | apply Kd.R_drewN | apply Kd.R_drew)); exact HO234.out))) (below_size (by repeat (first | (with_reducible first | exact HB.out | apply below_alloc | apply pw_below_drewN | apply below_drew1 | refine below_set ?_ GE231.out) | exact HB.out)))); have n2_ := Aside0.mk (blk_below (g := gb231) (o := .cells #[.int .u8 a0_0, .int .u8 a0_1, .int .i64 a0_2, .bool a0_3] 40 (0, 0)) (by (with_reducible repeat (first | refine blk_drewN ?_ _ | refine blk_drew ?_ | refine blk_alloc ?_ _)); exact BK231.out) hb); have n3_ := Aside0.mk (below_step (by repeat (first | (with_reducible first | exact HB.out | apply below_alloc | apply pw_below_drewN | apply below_drew1 | refine below_set ?_ GE231.out) | exact HB.out)) hb); clear HO234; clear BK231; clear HB; have HO234 := n0_; have HO237 := n1_; have BK231 := n2_; have HB := n3_; clear n0_ n1_ n2_ n3_; clear hb ho12; obtain ⟨Ao13, co13, eo13⟩ := Kd.R_slice HO237.out; subst eo13) | ((with_reducible refine gate_dst (N := 40) rfl ?_); refine Kd.N_lit k36 _ 36 ?hg (N' := 40) ?hd (xs := ([(⟨0, y232⟩ : S36), (⟨(Int.tmod (wrap64 (a0_0)) 5), y235⟩ : S36)] : List (S36))) (inner := [.int .i64 0, .slice Ao10 y232.length co10, .int .i64 (Int.tmod (wrap64 (a0_0)) 5), .slice Ao13 y235.length co13]) (ok := (fun k_ => k_ ≠ gb231)) (okp := (fun k_ => k_ ≠ gb231)) ?hr ?hp (fun _ hk => hk) ((show ∀ k_, w11.heap.size ≤ k_ → (fun k_ => k_ ≠ gb231) k_ from fun k_ hk => Kd.freshB (g := gb231) (o := .cells #[.int .u8 a0_0, .int .u8 a0_1, .int .i64 a0_2, .bool a0_3] 40 (0, 0)) (by (with_reducible repeat (first | refine blk_drewN ?_ _ | refine blk_drew ?_ | refine blk_alloc ?_ _)); exact BK231.out) k_ hk) _ (Nat.le_refl _)) (Below.refl _ _) (Nat.le_refl _) (by simp) ?_; (case hd => rfl); (case hg => rfl); (case hr => first | (go_simp; done) | (go_simp; rfl)); (case hp => exact (Reps.c2 (show Kd.FK k36 _ _ (⟨0, y232⟩ : S36) [.int .i64 0, .slice Ao10 y232.length co10] from (k36_mkF _ _ (⟨0, y232⟩ : S36) (Kd.R_reads' (Kd.R_mono (ok' := (fun k_ => k_ ≠ gb231)) (Kd.R_types (HO234.out) BK231.out (by decide)) (fun k_ hk => hk.2))).2.1 (Kd.R_F (Kd.R_mono (ok' := (fun k_ => k_ ≠ gb231)) (Kd.R_types (HO234.out) BK231.out (by decide)) (fun k_ hk => hk.2))))) (Reps.c2 (show Kd.FK k36 _ _ (⟨(Int.tmod (wrap64 (a0_0)) 5), y235⟩ : S36) [.int .i64 (Int.tmod (wrap64 (a0_0)) 5), .slice Ao13 y235.length co13] from (k36_mkF _ _ (⟨(Int.tmod (wrap64 (a0_0)) 5), y235⟩ : S36) (Kd.R_reads' (Kd.R_mono (ok' := (fun k_ => k_ ≠ gb231)) (Kd.R_types (HO237.out) BK231.out (by decide)) (fun k_ hk => hk.2))).2.1 (Kd.R_F (Kd.R_mono (ok' := (fun k_ => k_ ≠ gb231)) (Kd.R_types (HO237.out) BK231.out (by decide)) (fun k_ hk => hk.2))))) (Reps.none _ _)))); intro v239 w14 ho15 hb hg_ hnew_; clear hg_ hnew_; (first | rw [← Ny238.out] at ho15 | (simp only [Int.reduceToNat] at ho15; rw [← Ny238.out] at ho15)); have n0_ := Aside0.mk (Kd.N_lower ho15 (below_size (by repeat (first | (with_reducible first | exact HB.out | apply below_alloc | apply pw_below_drewN | apply below_drew1 | refine below_set ?_ GE231.out) | exact HB.out)))); have n1_ := Aside0.mk (blk_below (g := gb231) (o := .cells #[.int .u8 a0_0, .int .u8 a0_1, .int .i64 a0_2, .bool a0_3] 40 (0, 0)) (by (with_reducible repeat (first | refine blk_drewN ?_ _ | refine blk_drew ?_ | refine blk_alloc ?_ _)); exact BK231.out) hb); have n2_ := Aside0.mk (below_step (by repeat (first | (with_reducible first | exact HB.out | apply below_alloc | apply pw_below_drewN | apply below_drew1 | refine below_set ?_ GE231.out) | exact HB.out)) hb); clear BK231; clear HB; clear HO234; clear HO237; have HO240 := n0_; have BK231 := n1_; have HB := n2_; clear n0_ n1_ n2_; clear hb ho15; obtain ⟨Ao16, co16, eo16⟩ := Kd.N_slice HO240.out; subst eo16) | (go_at_call 10; (with_reducible refine (valid_Check.calls _ _ y238 t241 t242 t243 _ ?side1 ?side2 A6.out).mono ?_); (case side1 => repeat (first | exact (Kd.N_reads' HO240.out).2.2 | (with_reducible refine Kd.C_alloc ?_ _) | (with_reducible refine Kd.C_drewN ?_ _) | (with_reducible refine Kd.C_drew ?_))); (case side2 => exact (Kd.N_reads' HO240.out).2.1); rintro e w17 ⟨rfl, hb⟩; have n0_ := Aside0.mk (Kd.N_below (by (with_reducible repeat (first | apply Kd.N_alloc | apply Kd.N_drewN | apply Kd.N_drew)); exact HO240.out) hb); have n1_ := Aside0.mk (blk_below (g := gb231) (o := .cells #[.int .u8 a0_0, .int .u8 a0_1, .int .i64 a0_2, .bool a0_3] 40 (0, 0)) (by (with_reducible repeat (first | refine blk_drewN ?_ _ | refine blk_drew ?_ | refine blk_alloc ?_ _)); exact BK231.out) hb); have n2_ := Aside0.mk (below_step (by repeat (first | (with_reducible first | exact HB.out | apply below_alloc | apply pw_below_drewN | apply below_drew1 | refine below_set ?_ GE231.out) | exact HB.out)) hb); clear HO240; clear BK231; clear HB; have HO240 := n0_; have BK231 := n1_; have HB := n2_; clear n0_ n1_ n2_; (try clear hb); (try clear hb2); (try clear hk); (try clear hi))); go_upto_region 8 with (first | ((with_reducible refine gate_dst (N := 34) rfl ?_); refine Kd.R_lit k33 _ 33 ?hg (N := 34) ?hd (xs := ([(⟨x9_1, 1, (Int.tmod (wrap64 (a0_1)) 8), a0_2, 0⟩ : S33), (⟨17, 0, 0, 0, 0⟩ : S33)] : List (S33))) (inner := [.int .i64 x9_1, .int .i64 1, .int .i64 (Int.tmod (wrap64 (a0_1)) 8), .int .i64 a0_2, .int .i64 0, .int .i64 17, .int .i64 0, .int .i64 0, .int .i64 0, .int .i64 0]) (ok := fun _ => True) (okp := fun _ => True) ?hr ?hp (fun _ hk => hk) trivial (Below.refl _ _) (Nat.le_refl _) (by simp) ?_; (case hd => rfl); (case hg => rfl); (case hr => first | (go_simp; done) | (go_simp; rfl)); (case hp => exact (Reps.c5 (show Kd.M k33 _ _ _ (⟨x9_1, 1, (Int.tmod (wrap64 (a0_1)) 8), a0_2, 0⟩ : S33) [.int .i64 x9_1, .int .i64 1, .int .i64 (Int.tmod (wrap64 (a0_1)) 8), .int .i64 a0_2, .int .i64 0] from (k33_mkM _ _ _ (⟨x9_1, 1, (Int.tmod (wrap64 (a0_1)) 8), a0_2, 0⟩ : S33) )) (Reps.c5 (show Kd.M k33 _ _ _ (⟨17, 0, 0, 0, 0⟩ : S33) [.int .i64 17, .int .i64 0, .int .i64 0, .int .i64 0, .int .i64 0] from (k33_mkM _ _ _ (⟨17, 0, 0, 0, 0⟩ : S33) )) (Reps.none _ _)))); intro v233 w8 ho9 hb hg_ hnew_; clear hg_ hnew_; (first | rw [← Ny232.out] at ho9 | (simp only [Int.reduceToNat] at ho9; rw [← Ny232.out] at ho9)); have n0_ := Aside0.mk (Kd.R_lower ho9 (below_size (by repeat (first | (with_reducible first | exact HB.out | apply below_alloc | apply pw_below_drewN | apply below_drew1 | refine below_set ?_ GE231.out) | exact HB.out)))); have n1_ := Aside0.mk (blk_below (g := gb231) (o := .cells #[.int .u8 a0_0, .int .u8 a0_1, .int .i64 a0_2, .bool a0_3] 40 (0, 0)) (by (with_reducible repeat (first | refine blk_drewN ?_ _ | refine blk_drew ?_ | refine blk_alloc ?_ _)); exact BK231.out) hb); have n2_ := Aside0.mk (below_step (by repeat (first | (with_reducible first | exact HB.out | apply below_alloc | apply pw_below_drewN | apply below_drew1 | refine below_set ?_ GE231.out) | exact HB.out)) hb); clear BK231; clear HB; have HO234 := n0_; have BK231 := n1_; have HB := n2_; clear n0_ n1_ n2_; clear hb ho9; obtain ⟨Ao10, co10, eo10⟩ := Kd.R_slice HO234.out; subst eo10) | ((with_reducible refine gate_dst (N := 38) rfl ?_); refine Kd.R_lit k33 _ 33 ?hg (N := 38) ?hd (xs := ([(⟨17, 0, 0, 0, 0⟩ : S33)] : List (S33))) (inner := [.int .i64 17, .int .i64 0, .int .i64 0, .int .i64 0, .int .i64 0]) (ok := fun _ => True) (okp := fun _ => True) ?hr ?hp (fun _ hk => hk) trivial (Below.refl _ _) (Nat.le_refl _) (by simp) ?_; (case hd => rfl); (case hg => rfl); (case hr => first | (go_simp; done) | (go_simp; rfl)); (case hp => exact (Reps.c5 (show Kd.M k33 _ _ _ (⟨17, 0, 0, 0, 0⟩ : S33) [.int .i64 17, .int .i64 0, .int .i64 0, .int .i64 0, .int .i64 0] from (k33_mkM _ _ _ (⟨17, 0, 0, 0, 0⟩ : S33) )) (Reps.none _ _))); intro v236 w11 ho12 hb hg_ hnew_; clear hg_ hnew_; (first | rw [← Ny235.out] at ho12 | (simp only [Int.reduceToNat] at ho12; rw [← Ny235.out] at ho12)); have n0_ := Aside0.mk (Kd.R_elder' (by (with_reducible repeat (first | apply Kd.R_alloc | apply Kd.R_drewN | apply Kd.R_drew)); exact HO234.out) (Kd.R_base ho12) hb); have n1_ := Aside0.mk (Kd.R_lower (Kd.R_new' ho12 (Kd.R_lt (by (with_reducible repeat (first | apply Kd.R_alloc | apply Kd.R_drewN | apply Kd.R_drew)); exact HO234.out))) (below_size (by repeat (first | (with_reducible first | exact HB.out | apply below_alloc | apply pw_below_drewN | apply below_drew1 | refine below_set ?_ GE231.out) | exact HB.out)))); have n2_ := Aside0.mk (blk_below (g := gb231) (o := .cells #[.int .u8 a0_0, .int .u8 a0_1, .int .i64 a0_2, .bool a0_3] 40 (0, 0)) (by (with_reducible repeat (first | refine blk_drewN ?_ _ | refine blk_drew ?_ | refine blk_alloc ?_ _)); exact BK231.out) hb); have n3_ := Aside0.mk (below_step (by repeat (first | (with_reducible first | exact HB.out | apply below_alloc | apply pw_below_drewN | apply below_drew1 | refine below_set ?_ GE231.out) | exact HB.out)) hb); clear HO234; clear BK231; clear HB; have HO234 := n0_; have HO237 := n1_; have BK231 := n2_; have HB := n3_; clear n0_ n1_ n2_ n3_; clear hb ho12; obtain ⟨Ao13, co13, eo13⟩ := Kd.R_slice HO237.out; subst eo13) | ((with_reducible refine gate_dst (N := 40) rfl ?_); refine Kd.N_lit k36 _ 36 ?hg (N' := 40) ?hd (xs := ([(⟨0, y232⟩ : S36), (⟨(Int.tmod (wrap64 (a0_0)) 5), y235⟩ : S36)] : List (S36))) (inner := [.int .i64 0, .slice Ao10 y232.length co10, .int .i64 (Int.tmod (wrap64 (a0_0)) 5), .slice Ao13 y235.length co13]) (ok := (fun k_ => k_ ≠ gb231)) (okp := (fun k_ => k_ ≠ gb231)) ?hr ?hp (fun _ hk => hk) ((show ∀ k_, w11.heap.size ≤ k_ → (fun k_ => k_ ≠ gb231) k_ from fun k_ hk => Kd.freshB (g := gb231) (o := .cells #[.int .u8 a0_0, .int .u8 a0_1, .int .i64 a0_2, .bool a0_3] 40 (0, 0)) (by (with_reducible repeat (first | refine blk_drewN ?_ _ | refine blk_drew ?_ | refine blk_alloc ?_ _)); exact BK231.out) k_ hk) _ (Nat.le_refl _)) (Below.refl _ _) (Nat.le_refl _) (by simp) ?_; (case hd => rfl); (case hg => rfl); (case hr => first | (go_simp; done) | (go_simp; rfl)); (case hp => exact (Reps.c2 (show Kd.FK k36 _ _ (⟨0, y232⟩ : S36) [.int .i64 0, .slice Ao10 y232.length co10] from (k36_mkF _ _ (⟨0, y232⟩ : S36) (Kd.R_reads' (Kd.R_mono (ok' := (fun k_ => k_ ≠ gb231)) (Kd.R_types (HO234.out) BK231.out (by decide)) (fun k_ hk => hk.2))).2.1 (Kd.R_F (Kd.R_mono (ok' := (fun k_ => k_ ≠ gb231)) (Kd.R_types (HO234.out) BK231.out (by decide)) (fun k_ hk => hk.2))))) (Reps.c2 (show Kd.FK k36 _ _ (⟨(Int.tmod (wrap64 (a0_0)) 5), y235⟩ : S36) [.int .i64 (Int.tmod (wrap64 (a0_0)) 5), .slice Ao13 y235.length co13] from (k36_mkF _ _ (⟨(Int.tmod (wrap64 (a0_0)) 5), y235⟩ : S36) (Kd.R_reads' (Kd.R_mono (ok' := (fun k_ => k_ ≠ gb231)) (Kd.R_types (HO237.out) BK231.out (by decide)) (fun k_ hk => hk.2))).2.1 (Kd.R_F (Kd.R_mono (ok' := (fun k_ => k_ ≠ gb231)) (Kd.R_types (HO237.out) BK231.out (by decide)) (fun k_ hk => hk.2))))) (Reps.none _ _)))); intro v239 w14 ho15 hb hg_ hnew_; clear hg_ hnew_; (first | rw [← Ny238.out] at ho15 | (simp only [Int.reduceToNat] at ho15; rw [← Ny238.out] at ho15)); have n0_ := Aside0.mk (Kd.N_lower ho15 (below_size (by repeat (first | (with_reducible first | exact HB.out | apply below_alloc | apply pw_below_drewN | apply below_drew1 | refine below_set ?_ GE231.out) | exact HB.out)))); have n1_ := Aside0.mk (blk_below (g := gb231) (o := .cells #[.int .u8 a0_0, .int .u8 a0_1, .int .i64 a0_2, .bool a0_3] 40 (0, 0)) (by (with_reducible repeat (first | refine blk_drewN ?_ _ | refine blk_drew ?_ | refine blk_alloc ?_ _)); exact BK231.out) hb); have n2_ := Aside0.mk (below_step (by repeat (first | (with_reducible first | exact HB.out | apply below_alloc | apply pw_below_drewN | apply below_drew1 | refine below_set ?_ GE231.out) | exact HB.out)) hb); clear BK231; clear HB; clear HO234; clear HO237; have HO240 := n0_; have BK231 := n1_; have HB := n2_; clear n0_ n1_ n2_; clear hb ho15; obtain ⟨Ao16, co16, eo16⟩ := Kd.N_slice HO240.out; subst eo16) | (go_at_call 10; (with_reducible refine (valid_Check.calls _ _ y238 t241 t242 t243 _ ?side1 ?side2 A6.out).mono ?_); (case side1 => repeat (first | exact (Kd.N_reads' HO240.out).2.2 | (with_reducible refine Kd.C_alloc ?_ _) | (with_reducible refine Kd.C_drewN ?_ _) | (with_reducible refine Kd.C_drew ?_))); (case side2 => exact (Kd.N_reads' HO240.out).2.1); rintro e w17 ⟨rfl, hb⟩; have n0_ := Aside0.mk (Kd.N_below (by (with_reducible repeat (first | apply Kd.N_alloc | apply Kd.N_drewN | apply Kd.N_drew)); exact HO240.out) hb); have n1_ := Aside0.mk (blk_below (g := gb231) (o := .cells #[.int .u8 a0_0, .int .u8 a0_1, .int .i64 a0_2, .bool a0_3] 40 (0, 0)) (by (with_reducible repeat (first | refine blk_drewN ?_ _ | refine blk_drew ?_ | refine blk_alloc ?_ _)); exact BK231.out) hb); have n2_ := Aside0.mk (below_step (by repeat (first | (with_reducible first | exact HB.out | apply below_alloc | apply pw_below_drewN | apply below_drew1 | refine below_set ?_ GE231.out) | exact HB.out)) hb); clear HO240; clear BK231; clear HB; have HO240 := n0_; have BK231 := n1_; have HB := n2_; clear n0_ n1_ n2_; (try clear hb); (try clear hb2); (try clear hk); (try clear hi))))
      (try simp only [Act.put, List.setIfInBounds_toArray, List.set_cons_zero, List.set_cons_succ])
      go_cut [47] (fun v47 wc => ∃ (kq : Nat) (x47_6 : Bool), v47 = .bool x47_6 ∧ Aside0 (haymowlaw03_ValidCalls.j1 kq a0_2 (Int.tmod (wrap64 (a0_0)) 5) (Int.tmod (wrap64 (a0_1)) 8) t241 t242 t243 x47_6 = some r) ∧ Aside0 (kq ≤ kj1) ∧ Aside0 (wc.heap[gb231]? = some (.cells #[.int .u8 a0_0, .int .u8 a0_1, .int .i64 a0_2, .bool a0_3] 40 (0, 0))) ∧ Aside0 (Below w.heap.size w wc))
      case first =>
        have H := HC7.out
        clear HC7
        by_cases c18 : a0_2 < 0
        · rw [if_pos c18] at H
          have c18b0 : decide (a0_2 < 0) = true := decide_eq_true c18
          clear c18
          (first | rw [c18b0] | (simp only [i64_w, i32_w]; rw [c18b0]) | skip)
          have H' := Aside0.mk H
          clear H
          go_wp2
          repeat (go_quiet (fail); try go_wp2)
          go_meet
          case rel => exact ⟨_, (true), (by first | rfl | (simp; done) | (simp [*]; done)), H', ⟨by have := HJ1.out; first | omega | exact Nat.le_refl _⟩, ⟨by (with_reducible repeat (first | refine blk_drewN ?_ _ | refine blk_drew ?_ | refine blk_alloc ?_ _)); exact BK231.out⟩, ⟨by repeat (first | (with_reducible first | exact HB.out | apply below_alloc | apply pw_below_drewN | apply below_drew1 | refine below_set ?_ GE231.out) | exact HB.out)⟩⟩
        · rw [if_neg c18] at H
          have c18b0 : decide (a0_2 < 0) = false := decide_eq_false c18
          clear c18
          (first | rw [c18b0] | (simp only [i64_w, i32_w]; rw [c18b0]) | skip)
          have H' := Aside0.mk H
          clear H
          go_wp2
          repeat (go_quiet (fail); try go_wp2)
          go_meet
          case rel => exact ⟨_, (decide (a0_2 > 1)), (by first | rfl | (simp; done) | (simp [*]; done)), H', ⟨by have := HJ1.out; first | omega | exact Nat.le_refl _⟩, ⟨by (with_reducible repeat (first | refine blk_drewN ?_ _ | refine blk_drew ?_ | refine blk_alloc ?_ _)); exact BK231.out⟩, ⟨by repeat (first | (with_reducible first | exact HB.out | apply below_alloc | apply pw_below_drewN | apply below_drew1 | refine below_set ?_ GE231.out) | exact HB.out)⟩⟩
      case rest =>
        clear HC7
        try clear c1
        try clear c2
        try clear p2
        try clear c5
        try clear c6
        try clear p6
        try clear c18
        try clear c18b0
        try clear hcz4_0
        try clear hcz4_1
        try clear hcz4_2
        try clear hcz4_3
        try clear hfz4_0
        try clear hfz4_1
        try clear hfz4_2
        try clear hfz4_3
        try clear p2
        obtain ⟨kq, x47_6, rfl, HA, HJ6, BK231, HB⟩ := hcut
        cases kq with
        | zero => exact absurd HA.out (by simp [haymowlaw03_ValidCalls.j1])
        | succ kj6 =>
          have H := HA.out
          clear HA
          simp only [haymowlaw03_ValidCalls.j1] at H
          by_cases c19 : x47_6 = true
          · subst c19
            have H1 : (if t243 = 5 then (if t241 = 0 then (if t242 = 0 then ((haymowlaw03_awake.f).bind fun t244 => (some t244)) else (some false)) else (some false)) else (some false)) = some r := by rw [if_pos rfl] at H; exact H
            clear H
            have H := H1
            clear H1
            by_cases c20 : t243 = 5
            · rw [if_pos c20] at H
              have c20b0 : (t243 == 5) = true := beq_iff_eq.mpr c20
              have c20b1 : (t243 != 5) = false := bne_eq_false_iff_eq.mpr c20
              clear c20
              by_cases c21 : t241 = 0
              · rw [if_pos c21] at H
                have c21b0 : (t241 == 0) = true := beq_iff_eq.mpr c21
                have c21b1 : (t241 != 0) = false := bne_eq_false_iff_eq.mpr c21
                clear c21
                by_cases c22 : t242 = 0
                · rw [if_pos c22] at H
                  have c22b0 : (t242 == 0) = true := beq_iff_eq.mpr c22
                  have c22b1 : (t242 != 0) = false := bne_eq_false_iff_eq.mpr c22
                  clear c22
                  replace H := Option.bind_eq_some_iff.mp H
                  obtain ⟨t244, A230, H⟩ := H
                  replace H : (some t244) = some r := H
                  have A23 := Aside0.mk A230
                  clear A230
                  obtain rfl := Option.some.inj H
                  go_wp2_with (first | (go_at_call 13; (with_reducible refine (haymowlaw03_awake.calls  t244 _ A23.out).mono ?_); rintro e w24 ⟨rfl, hb⟩; have n0_ := Aside0.mk (blk_below (g := gb231) (o := .cells #[.int .u8 a0_0, .int .u8 a0_1, .int .i64 a0_2, .bool a0_3] 40 (0, 0)) (by (with_reducible repeat (first | refine blk_drewN ?_ _ | refine blk_drew ?_ | refine blk_alloc ?_ _)); exact BK231.out) hb); have n1_ := Aside0.mk (below_step (by repeat (first | (with_reducible first | exact HB.out | apply below_alloc | apply pw_below_drewN | apply below_drew1 | refine below_set ?_ GE231.out) | exact HB.out)) hb); clear BK231; clear HB; have BK231 := n0_; have HB := n1_; clear n0_ n1_; (try clear hb); (try clear hb2); (try clear hk); (try clear hi)))
                  repeat (go_quiet (first | (go_at_call 13; (with_reducible refine (haymowlaw03_awake.calls  t244 _ A23.out).mono ?_); rintro e w24 ⟨rfl, hb⟩; have n0_ := Aside0.mk (blk_below (g := gb231) (o := .cells #[.int .u8 a0_0, .int .u8 a0_1, .int .i64 a0_2, .bool a0_3] 40 (0, 0)) (by (with_reducible repeat (first | refine blk_drewN ?_ _ | refine blk_drew ?_ | refine blk_alloc ?_ _)); exact BK231.out) hb); have n1_ := Aside0.mk (below_step (by repeat (first | (with_reducible first | exact HB.out | apply below_alloc | apply pw_below_drewN | apply below_drew1 | refine below_set ?_ GE231.out) | exact HB.out)) hb); clear BK231; clear HB; have BK231 := n0_; have HB := n1_; clear n0_ n1_; (try clear hb); (try clear hb2); (try clear hk); (try clear hi))); try go_wp2_with (first | (go_at_call 13; (with_reducible refine (haymowlaw03_awake.calls  t244 _ A23.out).mono ?_); rintro e w24 ⟨rfl, hb⟩; have n0_ := Aside0.mk (blk_below (g := gb231) (o := .cells #[.int .u8 a0_0, .int .u8 a0_1, .int .i64 a0_2, .bool a0_3] 40 (0, 0)) (by (with_reducible repeat (first | refine blk_drewN ?_ _ | refine blk_drew ?_ | refine blk_alloc ?_ _)); exact BK231.out) hb); have n1_ := Aside0.mk (below_step (by repeat (first | (with_reducible first | exact HB.out | apply below_alloc | apply pw_below_drewN | apply below_drew1 | refine below_set ?_ GE231.out) | exact HB.out)) hb); clear BK231; clear HB; have BK231 := n0_; have HB := n1_; clear n0_ n1_; (try clear hb); (try clear hb2); (try clear hk); (try clear hi))))
                  go_ret
                  exact ⟨by first | rfl | (simp [errW_none, errW_some] <;> rfl) | (simp [*, errW_none, errW_some] <;> rfl), by repeat (first | (with_reducible first | exact HB.out | apply below_alloc | apply pw_below_drewN | apply below_drew1 | refine below_set ?_ GE231.out) | exact HB.out)⟩
                · rw [if_neg c22] at H
                  have c22b0 : (t242 == 0) = false := beq_eq_false_iff_ne.mpr c22
                  have c22b1 : (t242 != 0) = true := bne_iff_ne.mpr c22
                  obtain rfl := Option.some.inj H
                  go_wp2
                  repeat (go_quiet (fail); try go_wp2)
                  go_ret
                  exact ⟨by first | rfl | (simp [errW_none, errW_some] <;> rfl) | (simp [*, errW_none, errW_some] <;> rfl), by repeat (first | (with_reducible first | exact HB.out | apply below_alloc | apply pw_below_drewN | apply below_drew1 | refine below_set ?_ GE231.out) | exact HB.out)⟩
              · rw [if_neg c21] at H
                have c21b0 : (t241 == 0) = false := beq_eq_false_iff_ne.mpr c21
                have c21b1 : (t241 != 0) = true := bne_iff_ne.mpr c21
                obtain rfl := Option.some.inj H
                go_wp2
                repeat (go_quiet (fail); try go_wp2)
                go_ret
                exact ⟨by first | rfl | (simp [errW_none, errW_some] <;> rfl) | (simp [*, errW_none, errW_some] <;> rfl), by repeat (first | (with_reducible first | exact HB.out | apply below_alloc | apply pw_below_drewN | apply below_drew1 | refine below_set ?_ GE231.out) | exact HB.out)⟩
            · rw [if_neg c20] at H
              have c20b0 : (t243 == 5) = false := beq_eq_false_iff_ne.mpr c20
              have c20b1 : (t243 != 5) = true := bne_iff_ne.mpr c20
              obtain rfl := Option.some.inj H
              go_wp2
              repeat (go_quiet (fail); try go_wp2)
              go_ret
              exact ⟨by first | rfl | (simp [errW_none, errW_some] <;> rfl) | (simp [*, errW_none, errW_some] <;> rfl), by repeat (first | (with_reducible first | exact HB.out | apply below_alloc | apply pw_below_drewN | apply below_drew1 | refine below_set ?_ GE231.out) | exact HB.out)⟩
          · replace c19 := Bool.eq_false_iff.mpr c19
            subst c19
            have H1 : (if a0_2 = 1 then (haymowlaw03_ValidCalls.j2 kj6 t241 t242 t243 (decide ((wrap64 ((Int.tmod (wrap64 (a0_1)) 8) + (Int.tmod (wrap64 (a0_0)) 5))) > 8))) else (haymowlaw03_ValidCalls.j2 kj6 t241 t242 t243 false)) = some r := by rw [if_neg (show ¬ (false = true) by decide)] at H; exact H
            clear H
            have H := H1
            clear H1
            have HC25 := Aside0.mk H
            clear H
            go_upto_region 10 with (fail)
            repeat (go_quiet (fail); go_upto_region 10 with (fail))
            go_cut [67] (fun v67 wc => ∃ (kq : Nat) (x67_24 : Bool), v67 = .bool x67_24 ∧ Aside0 (haymowlaw03_ValidCalls.j2 kq t241 t242 t243 x67_24 = some r) ∧ Aside0 (kq ≤ kj6) ∧ Aside0 (wc.heap[gb231]? = some (.cells #[.int .u8 a0_0, .int .u8 a0_1, .int .i64 a0_2, .bool a0_3] 40 (0, 0))) ∧ Aside0 (Below w.heap.size w wc))
            case first =>
              have H := HC25.out
              clear HC25
              by_cases c26 : a0_2 = 1
              · rw [if_pos c26] at H
                have c26b0 : (a0_2 == 1) = true := beq_iff_eq.mpr c26
                have c26b1 : (a0_2 != 1) = false := bne_eq_false_iff_eq.mpr c26
                clear c26
                (first | rw [c26b0] | (simp only [i64_w, i32_w]; rw [c26b0]) | skip)
                have H' := Aside0.mk H
                clear H
                go_wp2
                repeat (go_quiet (fail); try go_wp2)
                go_meet
                case rel => exact ⟨_, (decide ((wrap64 ((Int.tmod (wrap64 (a0_1)) 8) + (Int.tmod (wrap64 (a0_0)) 5))) > 8)), (by first | rfl | (simp; done) | (simp [*]; done)), H', ⟨by have := HJ1.out; have := HJ6.out; first | omega | exact Nat.le_refl _⟩, ⟨by (with_reducible repeat (first | refine blk_drewN ?_ _ | refine blk_drew ?_ | refine blk_alloc ?_ _)); exact BK231.out⟩, ⟨by repeat (first | (with_reducible first | exact HB.out | apply below_alloc | apply pw_below_drewN | apply below_drew1 | refine below_set ?_ GE231.out) | exact HB.out)⟩⟩
              · rw [if_neg c26] at H
                have c26b0 : (a0_2 == 1) = false := beq_eq_false_iff_ne.mpr c26
                have c26b1 : (a0_2 != 1) = true := bne_iff_ne.mpr c26
                (first | rw [c26b0] | (simp only [i64_w, i32_w]; rw [c26b0]) | skip)
                have H' := Aside0.mk H
                clear H
                go_wp2
                repeat (go_quiet (fail); try go_wp2)
                go_meet
                case rel => exact ⟨_, (false), (by first | rfl | (simp; done) | (simp [*]; done)), H', ⟨by have := HJ1.out; have := HJ6.out; first | omega | exact Nat.le_refl _⟩, ⟨by (with_reducible repeat (first | refine blk_drewN ?_ _ | refine blk_drew ?_ | refine blk_alloc ?_ _)); exact BK231.out⟩, ⟨by repeat (first | (with_reducible first | exact HB.out | apply below_alloc | apply pw_below_drewN | apply below_drew1 | refine below_set ?_ GE231.out) | exact HB.out)⟩⟩
            case rest =>
              clear HC25
              try clear c1
              try clear c2
              try clear p2
              try clear c5
              try clear c6
              try clear p6
              try clear c18
              try clear c18b0
              try clear c19
              try clear c20
              try clear c20b0
              try clear c20b1
              try clear c21
              try clear c21b0
              try clear c21b1
              try clear c22
              try clear c22b0
              try clear c22b1
              try clear c26
              try clear c26b0
              try clear c26b1
              try clear hcz4_0
              try clear hcz4_1
              try clear hcz4_2
              try clear hcz4_3
              try clear hfz4_0
              try clear hfz4_1
              try clear hfz4_2
              try clear hfz4_3
              try clear p2
              try clear p6
              obtain ⟨kq, x67_24, rfl, HA, HJ24, BK231, HB⟩ := hcut
              cases kq with
              | zero => exact absurd HA.out (by simp [haymowlaw03_ValidCalls.j2])
              | succ kj24 =>
                have H := HA.out
                clear HA
                simp only [haymowlaw03_ValidCalls.j2] at H
                by_cases c27 : x67_24 = true
                · subst c27
                  have H1 : (if t243 = 6 then (if t241 = 0 then (if t242 = 0 then ((haymowlaw03_awake.f).bind fun t245 => (some t245)) else (some false)) else (some false)) else (some false)) = some r := by rw [if_pos rfl] at H; exact H
                  clear H
                  have H := H1
                  clear H1
                  by_cases c28 : t243 = 6
                  · rw [if_pos c28] at H
                    have c28b0 : (t243 == 6) = true := beq_iff_eq.mpr c28
                    have c28b1 : (t243 != 6) = false := bne_eq_false_iff_eq.mpr c28
                    clear c28
                    by_cases c29 : t241 = 0
                    · rw [if_pos c29] at H
                      have c29b0 : (t241 == 0) = true := beq_iff_eq.mpr c29
                      have c29b1 : (t241 != 0) = false := bne_eq_false_iff_eq.mpr c29
                      clear c29
                      by_cases c30 : t242 = 0
                      · rw [if_pos c30] at H
                        have c30b0 : (t242 == 0) = true := beq_iff_eq.mpr c30
                        have c30b1 : (t242 != 0) = false := bne_eq_false_iff_eq.mpr c30
                        clear c30
                        replace H := Option.bind_eq_some_iff.mp H
                        obtain ⟨t245, A310, H⟩ := H
                        replace H : (some t245) = some r := H
                        have A31 := Aside0.mk A310
                        clear A310
                        obtain rfl := Option.some.inj H
                        go_wp2_with (first | (go_at_call 13; (with_reducible refine (haymowlaw03_awake.calls  t245 _ A31.out).mono ?_); rintro e w32 ⟨rfl, hb⟩; have n0_ := Aside0.mk (blk_below (g := gb231) (o := .cells #[.int .u8 a0_0, .int .u8 a0_1, .int .i64 a0_2, .bool a0_3] 40 (0, 0)) (by (with_reducible repeat (first | refine blk_drewN ?_ _ | refine blk_drew ?_ | refine blk_alloc ?_ _)); exact BK231.out) hb); have n1_ := Aside0.mk (below_step (by repeat (first | (with_reducible first | exact HB.out | apply below_alloc | apply pw_below_drewN | apply below_drew1 | refine below_set ?_ GE231.out) | exact HB.out)) hb); clear BK231; clear HB; have BK231 := n0_; have HB := n1_; clear n0_ n1_; (try clear hb); (try clear hb2); (try clear hk); (try clear hi)))
                        repeat (go_quiet (first | (go_at_call 13; (with_reducible refine (haymowlaw03_awake.calls  t245 _ A31.out).mono ?_); rintro e w32 ⟨rfl, hb⟩; have n0_ := Aside0.mk (blk_below (g := gb231) (o := .cells #[.int .u8 a0_0, .int .u8 a0_1, .int .i64 a0_2, .bool a0_3] 40 (0, 0)) (by (with_reducible repeat (first | refine blk_drewN ?_ _ | refine blk_drew ?_ | refine blk_alloc ?_ _)); exact BK231.out) hb); have n1_ := Aside0.mk (below_step (by repeat (first | (with_reducible first | exact HB.out | apply below_alloc | apply pw_below_drewN | apply below_drew1 | refine below_set ?_ GE231.out) | exact HB.out)) hb); clear BK231; clear HB; have BK231 := n0_; have HB := n1_; clear n0_ n1_; (try clear hb); (try clear hb2); (try clear hk); (try clear hi))); try go_wp2_with (first | (go_at_call 13; (with_reducible refine (haymowlaw03_awake.calls  t245 _ A31.out).mono ?_); rintro e w32 ⟨rfl, hb⟩; have n0_ := Aside0.mk (blk_below (g := gb231) (o := .cells #[.int .u8 a0_0, .int .u8 a0_1, .int .i64 a0_2, .bool a0_3] 40 (0, 0)) (by (with_reducible repeat (first | refine blk_drewN ?_ _ | refine blk_drew ?_ | refine blk_alloc ?_ _)); exact BK231.out) hb); have n1_ := Aside0.mk (below_step (by repeat (first | (with_reducible first | exact HB.out | apply below_alloc | apply pw_below_drewN | apply below_drew1 | refine below_set ?_ GE231.out) | exact HB.out)) hb); clear BK231; clear HB; have BK231 := n0_; have HB := n1_; clear n0_ n1_; (try clear hb); (try clear hb2); (try clear hk); (try clear hi))))
                        go_ret
                        exact ⟨by first | rfl | (simp [errW_none, errW_some] <;> rfl) | (simp [*, errW_none, errW_some] <;> rfl), by repeat (first | (with_reducible first | exact HB.out | apply below_alloc | apply pw_below_drewN | apply below_drew1 | refine below_set ?_ GE231.out) | exact HB.out)⟩
                      · rw [if_neg c30] at H
                        have c30b0 : (t242 == 0) = false := beq_eq_false_iff_ne.mpr c30
                        have c30b1 : (t242 != 0) = true := bne_iff_ne.mpr c30
                        obtain rfl := Option.some.inj H
                        go_wp2
                        repeat (go_quiet (fail); try go_wp2)
                        go_ret
                        exact ⟨by first | rfl | (simp [errW_none, errW_some] <;> rfl) | (simp [*, errW_none, errW_some] <;> rfl), by repeat (first | (with_reducible first | exact HB.out | apply below_alloc | apply pw_below_drewN | apply below_drew1 | refine below_set ?_ GE231.out) | exact HB.out)⟩
                    · rw [if_neg c29] at H
                      have c29b0 : (t241 == 0) = false := beq_eq_false_iff_ne.mpr c29
                      have c29b1 : (t241 != 0) = true := bne_iff_ne.mpr c29
                      obtain rfl := Option.some.inj H
                      go_wp2
                      repeat (go_quiet (fail); try go_wp2)
                      go_ret
                      exact ⟨by first | rfl | (simp [errW_none, errW_some] <;> rfl) | (simp [*, errW_none, errW_some] <;> rfl), by repeat (first | (with_reducible first | exact HB.out | apply below_alloc | apply pw_below_drewN | apply below_drew1 | refine below_set ?_ GE231.out) | exact HB.out)⟩
                  · rw [if_neg c28] at H
                    have c28b0 : (t243 == 6) = false := beq_eq_false_iff_ne.mpr c28
                    have c28b1 : (t243 != 6) = true := bne_iff_ne.mpr c28
                    obtain rfl := Option.some.inj H
                    go_wp2
                    repeat (go_quiet (fail); try go_wp2)
                    go_ret
                    exact ⟨by first | rfl | (simp [errW_none, errW_some] <;> rfl) | (simp [*, errW_none, errW_some] <;> rfl), by repeat (first | (with_reducible first | exact HB.out | apply below_alloc | apply pw_below_drewN | apply below_drew1 | refine below_set ?_ GE231.out) | exact HB.out)⟩
                · replace c27 := Bool.eq_false_iff.mpr c27
                  subst c27
                  have H1 : (if t243 = 0 then ((haymowlaw03_awake.f).bind fun t246 => (some t246)) else (some false)) = some r := by rw [if_neg (show ¬ (false = true) by decide)] at H; exact H
                  clear H
                  have H := H1
                  clear H1
                  by_cases c33 : t243 = 0
                  · rw [if_pos c33] at H
                    have c33b0 : (t243 == 0) = true := beq_iff_eq.mpr c33
                    have c33b1 : (t243 != 0) = false := bne_eq_false_iff_eq.mpr c33
                    clear c33
                    replace H := Option.bind_eq_some_iff.mp H
                    obtain ⟨t246, A340, H⟩ := H
                    replace H : (some t246) = some r := H
                    have A34 := Aside0.mk A340
                    clear A340
                    obtain rfl := Option.some.inj H
                    go_wp2_with (first | (go_at_call 13; (with_reducible refine (haymowlaw03_awake.calls  t246 _ A34.out).mono ?_); rintro e w35 ⟨rfl, hb⟩; have n0_ := Aside0.mk (blk_below (g := gb231) (o := .cells #[.int .u8 a0_0, .int .u8 a0_1, .int .i64 a0_2, .bool a0_3] 40 (0, 0)) (by (with_reducible repeat (first | refine blk_drewN ?_ _ | refine blk_drew ?_ | refine blk_alloc ?_ _)); exact BK231.out) hb); have n1_ := Aside0.mk (below_step (by repeat (first | (with_reducible first | exact HB.out | apply below_alloc | apply pw_below_drewN | apply below_drew1 | refine below_set ?_ GE231.out) | exact HB.out)) hb); clear BK231; clear HB; have BK231 := n0_; have HB := n1_; clear n0_ n1_; (try clear hb); (try clear hb2); (try clear hk); (try clear hi)))
                    repeat (go_quiet (first | (go_at_call 13; (with_reducible refine (haymowlaw03_awake.calls  t246 _ A34.out).mono ?_); rintro e w35 ⟨rfl, hb⟩; have n0_ := Aside0.mk (blk_below (g := gb231) (o := .cells #[.int .u8 a0_0, .int .u8 a0_1, .int .i64 a0_2, .bool a0_3] 40 (0, 0)) (by (with_reducible repeat (first | refine blk_drewN ?_ _ | refine blk_drew ?_ | refine blk_alloc ?_ _)); exact BK231.out) hb); have n1_ := Aside0.mk (below_step (by repeat (first | (with_reducible first | exact HB.out | apply below_alloc | apply pw_below_drewN | apply below_drew1 | refine below_set ?_ GE231.out) | exact HB.out)) hb); clear BK231; clear HB; have BK231 := n0_; have HB := n1_; clear n0_ n1_; (try clear hb); (try clear hb2); (try clear hk); (try clear hi))); try go_wp2_with (first | (go_at_call 13; (with_reducible refine (haymowlaw03_awake.calls  t246 _ A34.out).mono ?_); rintro e w35 ⟨rfl, hb⟩; have n0_ := Aside0.mk (blk_below (g := gb231) (o := .cells #[.int .u8 a0_0, .int .u8 a0_1, .int .i64 a0_2, .bool a0_3] 40 (0, 0)) (by (with_reducible repeat (first | refine blk_drewN ?_ _ | refine blk_drew ?_ | refine blk_alloc ?_ _)); exact BK231.out) hb); have n1_ := Aside0.mk (below_step (by repeat (first | (with_reducible first | exact HB.out | apply below_alloc | apply pw_below_drewN | apply below_drew1 | refine below_set ?_ GE231.out) | exact HB.out)) hb); clear BK231; clear HB; have BK231 := n0_; have HB := n1_; clear n0_ n1_; (try clear hb); (try clear hb2); (try clear hk); (try clear hi))))
                    go_ret
                    exact ⟨by first | rfl | (simp [errW_none, errW_some] <;> rfl) | (simp [*, errW_none, errW_some] <;> rfl), by repeat (first | (with_reducible first | exact HB.out | apply below_alloc | apply pw_below_drewN | apply below_drew1 | refine below_set ?_ GE231.out) | exact HB.out)⟩
                  · rw [if_neg c33] at H
                    have c33b0 : (t243 == 0) = false := beq_eq_false_iff_ne.mpr c33
                    have c33b1 : (t243 != 0) = true := bne_iff_ne.mpr c33
                    obtain rfl := Option.some.inj H
                    go_wp2
                    repeat (go_quiet (fail); try go_wp2)
                    go_ret
                    exact ⟨by first | rfl | (simp [errW_none, errW_some] <;> rfl) | (simp [*, errW_none, errW_some] <;> rfl), by repeat (first | (with_reducible first | exact HB.out | apply below_alloc | apply pw_below_drewN | apply below_drew1 | refine below_set ?_ GE231.out) | exact HB.out)⟩

end Go.Proofs.Ytkbbgkhanmmhpaa.H
