-- made by this session's gen.py over the kit's print.py; not trusted: Lean checks it
import Derived.Test.YtkbbgkhanmmhpaaCheck
import Derived.Test.YtkbbgkhanmmhpaaH0
import Derived.Test.YtkbbgkhanmmhpaaH11
namespace Go.Proofs.Ytkbbgkhanmmhpaa.H
open Go.RowKit Go.Proofs.YtkbbgkhanmmhpaaW.PrintWords Go.Proofs.YtkbbgkhanmmhpaaW.PrintLast Go.Proofs.YtkbbgkhanmmhpaaW.PrintMore
attribute [local go_sem] max2_int min2_int max_two min_two max_three min_three max_four min_four   -- for this text's walks alone
set_option linter.unusedVariables false
set_option linter.unusedSimpArgs false

/-! ### haymowlaw03_ValidJumps: function 5 -/
mutual
def haymowlaw03_ValidJumps.l0 : Nat → Int → Int → List (S33) → Int → Option (Bool)
  | 0, _, _, _, _ => none
  | k + 1, x1, x5, x6, x7 => if x7 < x5 then (if x6.length < 3518437208883 then (haymowlaw03_ValidJumps.l0 k x1 x5 (x6 ++ [(⟨9, 0, 0, 0, x7⟩ : S33)]) (wrap64 (x7 + 1))) else (none)) else (if 0 ≤ (wrap64 (x5 - 1)) then (if (wrap64 (x5 - 1)) < (x6.length : Int) then ((valid_Check.f (([(⟨0, (x6.set ((wrap64 (x5 - 1)) : Int).toNat (⟨(rd_T33 x6 (wrap64 (x5 - 1))).f0, (rd_T33 x6 (wrap64 (x5 - 1))).f1, (rd_T33 x6 (wrap64 (x5 - 1))).f2, (rd_T33 x6 (wrap64 (x5 - 1))).f3, x1⟩ : S33))⟩ : S36)] : List (S36)))).bind fun bt226 => (if x1 < 0 then (haymowlaw03_ValidJumps.j1 k x5 bt226.1 bt226.2.1 bt226.2.2 true) else (haymowlaw03_ValidJumps.j1 k x5 bt226.1 bt226.2.1 bt226.2.2 (decide (x1 ≥ x5))))) else (none)) else (none))
def haymowlaw03_ValidJumps.j1 : Nat → Int → Int → Int → Int → Bool → Option (Bool)
  | 0, _, _, _, _, _ => none
  | k + 1, x5, x8, x9, x10, x45 => if x45 = true then (if x8 = 0 then (if x9 = (wrap64 (x5 - 1)) then (if x10 = 6 then ((haymowlaw03_awake.f).bind fun t229 => (some t229)) else (some false)) else (some false)) else (some false)) else (if x8 = 0 then (if x9 = 0 then (if x10 = 0 then ((haymowlaw03_awake.f).bind fun t230 => (some t230)) else (some false)) else (some false)) else (some false))
end
def haymowlaw03_ValidJumps.f (k : Nat) (a0 : Int) (a1 : Int) : Option (Bool) := haymowlaw03_ValidJumps.l0 k a1 (wrap64 ((Int.tmod (wrap64 (a0)) 64) + 1)) ([] : List (S33)) 0
theorem haymowlaw03_ValidJumps.mono_l : ∀ k, (∀ y0 y1 y2 y3, LeO (haymowlaw03_ValidJumps.l0 k y0 y1 y2 y3) (haymowlaw03_ValidJumps.l0 (k + 1) y0 y1 y2 y3)) ∧ (∀ y0 y1 y2 y3 y4, LeO (haymowlaw03_ValidJumps.j1 k y0 y1 y2 y3 y4) (haymowlaw03_ValidJumps.j1 (k + 1) y0 y1 y2 y3 y4))
  | 0 => ⟨fun _ _ _ _ r h => by simp [haymowlaw03_ValidJumps.l0] at h, fun _ _ _ _ _ r h => by simp [haymowlaw03_ValidJumps.j1] at h⟩
  | k + 1 => by
    obtain ⟨ih0, ih1⟩ := haymowlaw03_ValidJumps.mono_l k
    refine ⟨?_, ?_⟩
    · intro y0 y1 y2 y3
      unfold haymowlaw03_ValidJumps.l0
      repeat' first
      | (with_reducible exact ih0 _ _ _ _)
      | (with_reducible exact ih1 _ _ _ _ _)
      | (with_reducible exact LeO.refl _)
      | (with_reducible exact LeO.none _)
      | (with_reducible refine LeO.ite ?_ ?_)
      | (with_reducible refine LeO.bind ?_ (fun _ => ?_))
      | exact ih0 _ _ _ _
      | exact ih1 _ _ _ _ _
      | exact LeO.none _
      | refine LeO.ite ?_ ?_
      | refine LeO.bind ?_ (fun _ => ?_)
    · intro y0 y1 y2 y3 y4
      unfold haymowlaw03_ValidJumps.j1
      repeat' first
      | (with_reducible exact ih0 _ _ _ _)
      | (with_reducible exact ih1 _ _ _ _ _)
      | (with_reducible exact LeO.refl _)
      | (with_reducible exact LeO.none _)
      | (with_reducible refine LeO.ite ?_ ?_)
      | (with_reducible refine LeO.bind ?_ (fun _ => ?_))
      | exact ih0 _ _ _ _
      | exact ih1 _ _ _ _ _
      | exact LeO.none _
      | refine LeO.ite ?_ ?_
      | refine LeO.bind ?_ (fun _ => ?_)
theorem haymowlaw03_ValidJumps.mono : ∀ a0 a1 k, LeO (haymowlaw03_ValidJumps.f k a0 a1) (haymowlaw03_ValidJumps.f (k + 1) a0 a1) := by
  intro a0 a1 k
  obtain ⟨ih0, ih1⟩ := haymowlaw03_ValidJumps.mono_l k
  unfold haymowlaw03_ValidJumps.f
  repeat' first
      | (with_reducible exact ih0 _ _ _ _)
      | (with_reducible exact ih1 _ _ _ _ _)
      | (with_reducible exact LeO.refl _)
      | (with_reducible exact LeO.none _)
      | (with_reducible refine LeO.ite ?_ ?_)
      | (with_reducible refine LeO.bind ?_ (fun _ => ?_))
      | exact ih0 _ _ _ _
      | exact ih1 _ _ _ _ _
      | exact LeO.none _
      | refine LeO.ite ?_ ?_
      | refine LeO.bind ?_ (fun _ => ?_)
set_option maxHeartbeats 8000000 in
set_option maxRecDepth 100000 in
theorem haymowlaw03_ValidJumps.calls (k : Nat) (a0 : Int) (a1 : Int) (r : Bool) (w : World) (h : haymowlaw03_ValidJumps.f k a0 a1 = some r) :
    Calls Try.prog 5 #[.int .u8 a0, .int .i64 a1] w fun e w' => e = .returned (.bool r) ∧ Below w.heap.size w w' := by
  have hu33 := Try.underlying33
  have hu36 := Try.underlying36
  have HB := Aside0.mk (Below.refl w.heap.size w)
  have H : (haymowlaw03_ValidJumps.l0 k a1 (wrap64 ((Int.tmod (wrap64 (a0)) 64) + 1)) ([] : List (S33)) 0) = some r := h
  clear h
  have H' := Aside0.mk H
  clear H
  go_enter Try.func5, Try.ntmps5
  go_wp2
  go_loopg [6, 7] k (fun kq v6 v7 w' => ∃ (x6_1 : List (S33)) (x7_1 : Int), v7 = .int .i64 x7_1 ∧ Aside0 (haymowlaw03_ValidJumps.l0 kq a1 (wrap64 ((Int.tmod (wrap64 (a0)) 64) + 1)) x6_1 x7_1 = some r) ∧ Aside0 (kq ≤ k) ∧ Aside0 (Kd.R k33 33 w' w.heap.size (fun _ => True) v6 x6_1) ∧ Aside0 (Below w.heap.size w w'))
  case atStart => exact ⟨(([] : List (S33))), (0), (by first | rfl | (simp; done) | (simp [*]; done)), H', ⟨Nat.le_refl _⟩, ⟨by first | exact Kd.R_nil _ _ _ _ _ | exact Kd.N_nil _ _ _ _ _ | exact Kd.V_nil _ _ _ _ _ | exact Kd.Q_nil _ _ _ _ _ | exact Kd.S_nil _ _ _ _ _⟩, ⟨by repeat (first | (with_reducible first | exact HB.out | apply below_alloc | apply pw_below_drewN | apply below_drew1) | exact HB.out)⟩⟩
  case round =>
    clear H'
    try clear p2
    obtain ⟨x6_1, x7_1, rfl, HA, HK1, HO_6, HB⟩ := hrel
    cases gk with
    | zero => exact absurd HA.out (by simp [haymowlaw03_ValidJumps.l0])
    | succ k1 =>
      have H := HA.out
      clear HA
      simp only [haymowlaw03_ValidJumps.l0] at H
      by_cases c3 : x7_1 < (wrap64 ((Int.tmod (wrap64 (a0)) 64) + 1))
      · rw [if_pos c3] at H
        have c3b0 : decide (x7_1 < (wrap64 ((Int.tmod (wrap64 (a0)) 64) + 1))) = true := decide_eq_true c3
        clear c3
        by_cases c4 : x6_1.length < 3518437208883
        · rw [if_pos c4] at H
          have LMc4 := Aside0.mk c4
          clear c4
          obtain ⟨y219, hy219⟩ : ∃ y_ : List (S33), y_ = (x6_1 ++ [(⟨9, 0, 0, 0, x7_1⟩ : S33)]) := ⟨_, rfl⟩
          replace H : (haymowlaw03_ValidJumps.l0 k1 a1 (wrap64 ((Int.tmod (wrap64 (a0)) 64) + 1)) y219 (wrap64 (x7_1 + 1))) = some r := by first | (rw [hy219]; with_reducible exact H) | (have H2_ := (Option.bind_some _ _).symm.trans H; rw [hy219]; with_reducible exact H2_) | (have H2_ := (Option.bind_some _ _).symm.trans H; with_reducible exact H2_) | with_reducible exact H | (rw [hy219]; exact H) | exact H
          have Ny219 := Aside0.mk hy219
          clear hy219
          have H' := Aside0.mk H
          clear H
          go_wp2_with (first | ((with_reducible refine gate_builtin (b := .append) (xs := #[.tmp 20, .tmp 23]) rfl ?_); at_builtin; refine Kd.R_append k33 (w0 := w) w.heap.size rfl (.tmp 20) (.tmp 23) 34 33 (.agg #[(.int .i64 0), (.int .i64 0), (.int .i64 0), (.int .i64 0), (.int .i64 0)]) 40 rfl Try.underlying34 info33 rfl (by decide) (by omega) u6 x6_1 (⟨9, 0, 0, 0, x7_1⟩ : S33) [.int .i64 9, .int .i64 0, .int .i64 0, .int .i64 0, .int .i64 x7_1] (fun _ => True) (fun _ => False) rfl rfl ?aP (fun _ hk => hk.elim) ?aF ?aO ?aB ?aS ?aL ?_; (case aP => exact k33_mkM _ _ _ (⟨9, 0, 0, 0, x7_1⟩ : S33)); (case aB => exact (by repeat (first | (with_reducible first | exact HB.out | apply below_alloc | apply pw_below_drewN | apply below_drew1) | exact HB.out))); (case aF => exact (fun _ _ => trivial)); (case aO => exact (by (with_reducible repeat (first | apply Kd.R_alloc | apply Kd.R_drewN | apply Kd.R_drew)); exact HO_6.out)); (case aS => exact (below_size (by repeat (first | (with_reducible first | exact HB.out | apply below_alloc | apply pw_below_drewN | apply below_drew1) | exact HB.out)))); (case aL => have := LMc4.out; omega); intro v220 w5 ho hb hg hat; rw [← Ny219.out] at ho; have n0_ := Aside0.mk (hb); have n1_ := Aside0.mk (ho); clear HB; clear HO_6; have HB := n0_; have HO221 := n1_; clear n0_ n1_; clear ho hb hg hat))
          go_roundg k1
          case measure => have := HK1.out; omega
          case rel => exact ⟨(y219), (wrap64 (x7_1 + 1)), (by first | rfl | (simp; done) | (simp [*]; done)), H', ⟨by have := HK1.out; omega⟩, ⟨by (with_reducible repeat (first | apply Kd.R_alloc | apply Kd.R_drewN | apply Kd.R_drew)); exact HO221.out⟩, ⟨by repeat (first | (with_reducible first | exact HB.out | apply below_alloc | apply pw_below_drewN | apply below_drew1) | exact HB.out)⟩⟩
        · rw [if_neg c4] at H
          exact absurd H (by simp)
      · rw [if_neg c3] at H
        have c3b0 : decide (x7_1 < (wrap64 ((Int.tmod (wrap64 (a0)) 64) + 1))) = false := decide_eq_false c3
        clear c3
        obtain ⟨ji6, hji6⟩ : ∃ j_ : Int, (wrap64 ((wrap64 ((Int.tmod (wrap64 (a0)) 64) + 1)) - 1)) = j_ := ⟨_, rfl⟩
        replace H : (if 0 ≤ (ji6) then (if (ji6) < (x6_1.length : Int) then ((valid_Check.f (([(⟨0, (x6_1.set ((ji6) : Int).toNat (⟨(rd_T33 x6_1 (ji6)).f0, (rd_T33 x6_1 (ji6)).f1, (rd_T33 x6_1 (ji6)).f2, (rd_T33 x6_1 (ji6)).f3, a1⟩ : S33))⟩ : S36)] : List (S36)))).bind fun bt226 => (if a1 < 0 then (haymowlaw03_ValidJumps.j1 k1 (wrap64 ((Int.tmod (wrap64 (a0)) 64) + 1)) bt226.1 bt226.2.1 bt226.2.2 true) else (haymowlaw03_ValidJumps.j1 k1 (wrap64 ((Int.tmod (wrap64 (a0)) 64) + 1)) bt226.1 bt226.2.1 bt226.2.2 (decide (a1 ≥ (wrap64 ((Int.tmod (wrap64 (a0)) 64) + 1))))))) else (none)) else (none)) = some r := by first | (rw [hji6] at H; exact H) | (simp only [hji6] at H ⊢; exact H)
        have hji6w : (IntKind.i64.wrap ((wrap64 ((Int.tmod (wrap64 (a0)) 64) + 1)) - 1)) = ji6 := (i64_w _).trans hji6
        by_cases c7 : 0 ≤ (ji6)
        · rw [if_pos c7] at H
          have c7b0 : decide (0 ≤ (ji6)) = true := decide_eq_true c7
          clear c7
          by_cases c8 : (ji6) < (x6_1.length : Int)
          · rw [if_pos c8] at H
            have c8b0 : decide ((ji6) < (x6_1.length : Int)) = true := decide_eq_true c8
            clear c8
            obtain ⟨y222, hy222⟩ : ∃ y_ : List (S33), y_ = (x6_1.set ((ji6) : Int).toNat (⟨(rd_T33 x6_1 (ji6)).f0, (rd_T33 x6_1 (ji6)).f1, (rd_T33 x6_1 (ji6)).f2, (rd_T33 x6_1 (ji6)).f3, a1⟩ : S33)) := ⟨_, rfl⟩
            replace H : ((valid_Check.f (([(⟨0, y222⟩ : S36)] : List (S36)))).bind fun bt226 => (if a1 < 0 then (haymowlaw03_ValidJumps.j1 k1 (wrap64 ((Int.tmod (wrap64 (a0)) 64) + 1)) bt226.1 bt226.2.1 bt226.2.2 true) else (haymowlaw03_ValidJumps.j1 k1 (wrap64 ((Int.tmod (wrap64 (a0)) 64) + 1)) bt226.1 bt226.2.1 bt226.2.2 (decide (a1 ≥ (wrap64 ((Int.tmod (wrap64 (a0)) 64) + 1))))))) = some r := by first | (rw [hy222]; with_reducible exact H) | (have H2_ := (Option.bind_some _ _).symm.trans H; rw [hy222]; with_reducible exact H2_) | (have H2_ := (Option.bind_some _ _).symm.trans H; with_reducible exact H2_) | with_reducible exact H | (rw [hy222]; exact H) | exact H
            have Ny222 := Aside0.mk hy222
            clear hy222
            obtain ⟨y223, hy223⟩ : ∃ y_ : List (S36), y_ = (([(⟨0, y222⟩ : S36)] : List (S36))) := ⟨_, rfl⟩
            replace H : ((valid_Check.f y223).bind fun bt226 => (if a1 < 0 then (haymowlaw03_ValidJumps.j1 k1 (wrap64 ((Int.tmod (wrap64 (a0)) 64) + 1)) bt226.1 bt226.2.1 bt226.2.2 true) else (haymowlaw03_ValidJumps.j1 k1 (wrap64 ((Int.tmod (wrap64 (a0)) 64) + 1)) bt226.1 bt226.2.1 bt226.2.2 (decide (a1 ≥ (wrap64 ((Int.tmod (wrap64 (a0)) 64) + 1))))))) = some r := by first | (rw [hy223]; with_reducible exact H) | (have H2_ := (Option.bind_some _ _).symm.trans H; rw [hy223]; with_reducible exact H2_) | (have H2_ := (Option.bind_some _ _).symm.trans H; with_reducible exact H2_) | with_reducible exact H | (rw [hy223]; exact H) | exact H
            have Ny223 := Aside0.mk hy223
            clear hy223
            replace H := Option.bind_eq_some_iff.mp H
            obtain ⟨⟨t226, t227, t228⟩, A100, H⟩ := H
            replace H : (if a1 < 0 then (haymowlaw03_ValidJumps.j1 k1 (wrap64 ((Int.tmod (wrap64 (a0)) 64) + 1)) t226 t227 t228 true) else (haymowlaw03_ValidJumps.j1 k1 (wrap64 ((Int.tmod (wrap64 (a0)) 64) + 1)) t226 t227 t228 (decide (a1 ≥ (wrap64 ((Int.tmod (wrap64 (a0)) 64) + 1)))))) = some r := H
            have A10 := Aside0.mk A100
            clear A100
            have HC11 := Aside0.mk H
            clear H
            have p9 : 0 ≤ ((ji6) : Int) := of_decide_eq_true (by first | (with_reducible assumption) | assumption)
            have q9 : ((ji6) : Int) < ((x6_1.length : Int) : Int) := of_decide_eq_true (by first | (with_reducible assumption) | assumption)
            obtain ⟨go9, co9, eo9, gb9, gl9, cl9, HG9⟩ := Kd.R_form HO_6.out (by omega)
            (first | cases eo9 | (injection eo9 with ea_ en_ ec_; (first | subst ea_ | (injection ea_ with ea_; subst ea_)); subst ec_; clear en_))
            have GB9 := Aside0.mk gb9
            have GG9 := Aside0.mk HG9
            clear gb9 gl9 HG9
            obtain ⟨ce9, hcl9, hM9, hcc9, hfr9⟩ := Kd.R_elem HO_6.out z33 ((ji6) : Int) p9 q9
            obtain rfl := k33_openM hM9
            have hx9_0 : wr.cell? ⟨go9, ((ji6) : Int).toNat * 5, none⟩ = some (.int .i64 ((rd_T33 x6_1 (ji6)).f0)) := hcc9 0 _ rfl
            have hx9_1 : wr.cell? ⟨go9, ((ji6) : Int).toNat * 5 + 1, none⟩ = some (.int .i64 ((rd_T33 x6_1 (ji6)).f1)) := hcc9 1 _ rfl
            have hx9_2 : wr.cell? ⟨go9, ((ji6) : Int).toNat * 5 + 2, none⟩ = some (.int .i64 ((rd_T33 x6_1 (ji6)).f2)) := hcc9 2 _ rfl
            have hx9_3 : wr.cell? ⟨go9, ((ji6) : Int).toNat * 5 + 3, none⟩ = some (.int .i64 ((rd_T33 x6_1 (ji6)).f3)) := hcc9 3 _ rfl
            have hx9_4 : wr.cell? ⟨go9, ((ji6) : Int).toNat * 5 + 4, none⟩ = some (.int .i64 ((rd_T33 x6_1 (ji6)).f4)) := hcc9 4 _ rfl
            have hf9_0 : wr.frozen? ⟨go9, ((ji6) : Int).toNat * 5, none⟩ = false := hfr9 0
            have hf9_1 : wr.frozen? ⟨go9, ((ji6) : Int).toNat * 5 + 1, none⟩ = false := hfr9 1
            have hf9_2 : wr.frozen? ⟨go9, ((ji6) : Int).toNat * 5 + 2, none⟩ = false := hfr9 2
            have hf9_3 : wr.frozen? ⟨go9, ((ji6) : Int).toNat * 5 + 3, none⟩ = false := hfr9 3
            have hf9_4 : wr.frozen? ⟨go9, ((ji6) : Int).toNat * 5 + 4, none⟩ = false := hfr9 4
            clear hcl9 hcc9 hfr9 hM9
            replace p9 := eq_true p9
            replace q9 := eq_true q9
            have HX12 := Aside0.mk (show Kd.R k33 33 wr w.heap.size (fun _ => True) (.slice (some ⟨go9, 0, none⟩) x6_1.length co9) x6_1 from (by (with_reducible repeat (first | apply Kd.R_alloc | apply Kd.R_drewN | apply Kd.R_drew)); exact HO_6.out))
            obtain ⟨ce12, hcl12, hM12, hcc12, hfr12⟩ := Kd.R_elem HX12.out z33 ((ji6) : Int) (of_decide_eq_true (by first | (with_reducible assumption) | assumption)) (by have h_ : ((ji6) : Int) < ((x6_1.length : Int) : Int) := of_decide_eq_true (by first | (with_reducible assumption) | assumption); first | exact h_ | (have e_ := (Kd.R_reads' HO_6.out).1; omega) | simpa using h_)
            obtain rfl := k33_openM hM12
            have HP12 := Kd.R_seg HX12.out ((ji6) : Int) (of_decide_eq_true (by first | (with_reducible assumption) | assumption)) (by have h_ : ((ji6) : Int) < ((x6_1.length : Int) : Int) := of_decide_eq_true (by first | (with_reducible assumption) | assumption); first | exact h_ | (have e_ := (Kd.R_reads' HO_6.out).1; omega) | simpa using h_) (seg := [.int .i64 a1]) (j := 4) hcl12 hcc12 (show 5 ≤ 5 from by decide) (x' := (⟨(rd_T33 x6_1 (ji6)).f0, (rd_T33 x6_1 (ji6)).f1, (rd_T33 x6_1 (ji6)).f2, (rd_T33 x6_1 (ji6)).f3, a1⟩ : S33)) (k33_mkM _ _ _ (⟨(rd_T33 x6_1 (ji6)).f0, (rd_T33 x6_1 (ji6)).f1, (rd_T33 x6_1 (ji6)).f2, (rd_T33 x6_1 (ji6)).f3, a1⟩ : S33) ) (fun _ hk => hk)
            have hx12_4 := hcc12 4 _ rfl
            (try simp only [show (k33).sz = 5 from rfl, Nat.mul_one, Nat.add_zero] at hx12_4)
            have hf12_4 := hfr12 4
            (try simp only [show (k33).sz = 5 from rfl, Nat.mul_one, Nat.add_zero] at hf12_4)
            clear hcl12 hcc12 hfr12 hM12
            go_upto_region 9 with (first | ((with_reducible refine gate_store (t := 3) (p := 30) rfl ?_); refine store_event (t := 3) (p := 30) (v := ?vo_w13) (w1 := (wr.setCell ⟨go9, ((ji6) : Int).toNat * 5 + 4, none⟩ (.int .i64 a1))) ?hg ?ho ?hn ?hr ?_; (case ho => rfl); (case hg => rfl); (case hn => rfl); (case hr => first | (go_simp; done) | (go_simp; rfl)); intro w13 hw; have hg : wr.grownBy w13 (some go9) := (by rw [hw]; exact HP12.2); have hp_ : Kd.R k33 33 w13 w.heap.size (fun _ => True) (.slice (some ⟨go9, 0, none⟩) x6_1.length co9) y222 := (by rw [hw, Ny222.out]; exact HP12.1); clear HP12; have n0_ := Aside0.mk (hp_); have n1_ := Aside0.mk ((by rw [hw]; exact below_set (HB.out) GB9.out : Below w.heap.size w w13)); clear HO_6; clear HB; have HO_6 := n0_; have HB := n1_; clear n0_ n1_; clear hg hw hp_) | ((with_reducible refine gate_dst (N := 34) rfl ?_); refine Kd.N_lit k36 _ 36 ?hg (N' := 34) ?hd (xs := ([(⟨0, y222⟩ : S36)] : List (S36))) (inner := [.int .i64 0, .slice (some ⟨go9, 0, none⟩) x6_1.length co9]) (ok := (fun _ => True)) (okp := (fun _ => True)) ?hr ?hp (fun _ hk => hk) ((show ∀ k_, w13.heap.size ≤ k_ → (fun _ => True) k_ from fun k_ hk => trivial) _ (Nat.le_refl _)) (Below.refl _ _) (Nat.le_refl _) (by simp) ?_; (case hd => rfl); (case hg => rfl); (case hr => first | (go_simp; done) | (go_simp; rfl)); (case hp => exact (Reps.c2 (show Kd.FK k36 _ _ (⟨0, y222⟩ : S36) [.int .i64 0, .slice (some ⟨go9, 0, none⟩) x6_1.length co9] from (by have ho_ := HO_6.out; have e_ : x6_1.length = y222.length := (by have e2_ := (Kd.R_reads' ho_).1; omega); rw [e_] at ho_ ⊢; exact k36_mkF _ _ (⟨0, y222⟩ : S36) (Kd.R_reads' (Kd.R_mono (ok' := (fun _ => True)) ho_ (fun k_ hk => trivial))).2.1 (Kd.R_F (Kd.R_mono (ok' := (fun _ => True)) ho_ (fun k_ hk => trivial))))) (Reps.none _ _))); intro v224 w14 ho15 hb hg_ hnew_; clear hg_ hnew_; (first | rw [← Ny223.out] at ho15 | (simp only [Int.reduceToNat] at ho15; rw [← Ny223.out] at ho15)); have n0_ := Aside0.mk (Kd.N_lower ho15 (below_size (by repeat (first | (with_reducible first | exact HB.out | apply below_alloc | apply pw_below_drewN | apply below_drew1) | exact HB.out)))); have n1_ := Aside0.mk (below_step (by repeat (first | (with_reducible first | exact HB.out | apply below_alloc | apply pw_below_drewN | apply below_drew1) | exact HB.out)) hb); clear HB; clear HO_6; have HO225 := n0_; have HB := n1_; clear n0_ n1_; clear hb ho15; obtain ⟨Ao16, co16, eo16⟩ := Kd.N_slice HO225.out; subst eo16) | ((with_reducible refine gate_callee (f := 10) rfl ?_); refine goesL_ (some 35) rfl rfl Try.func10 (by kernel_rfl) rfl #[.slice Ao16 y223.length co16] rfl (by (try simp only [List.map_toArray, List.map_cons, List.map_nil]); first | done | rfl | (simp only [List.length_drop, List.length_take]; rfl)) ?_; (with_reducible refine (valid_Check.calls _ _ y223 t226 t227 t228 _ ?side1 ?side2 A10.out).mono ?_); (case side1 => repeat (first | exact (Kd.N_reads' HO225.out).2.2 | (with_reducible refine Kd.C_alloc ?_ _) | (with_reducible refine Kd.C_drewN ?_ _) | (with_reducible refine Kd.C_drew ?_))); (case side2 => exact (Kd.N_reads' HO225.out).2.1); rintro e w17 ⟨rfl, hb⟩; refine ⟨_, rfl, ?_⟩; have n0_ := Aside0.mk (Kd.N_below (by (with_reducible repeat (first | apply Kd.N_alloc | apply Kd.N_drewN | apply Kd.N_drew)); exact HO225.out) hb); have n1_ := Aside0.mk (below_step (by repeat (first | (with_reducible first | exact HB.out | apply below_alloc | apply pw_below_drewN | apply below_drew1) | exact HB.out)) hb); clear HO225; clear HB; have HO225 := n0_; have HB := n1_; clear n0_ n1_; (try clear hb); (try clear hb2); (try clear hk); (try clear hi)))
            (try simp only [Act.put, List.setIfInBounds_toArray, List.set_cons_zero, List.set_cons_succ])
            go_cut [45] (fun v45 wc => ∃ (kq : Nat) (x45_10 : Bool), v45 = .bool x45_10 ∧ Aside0 (haymowlaw03_ValidJumps.j1 kq (wrap64 ((Int.tmod (wrap64 (a0)) 64) + 1)) t226 t227 t228 x45_10 = some r) ∧ Aside0 (kq ≤ k1) ∧ Aside0 (Below w.heap.size w wc))
            case first =>
              have H := HC11.out
              clear HC11
              by_cases c18 : a1 < 0
              · rw [if_pos c18] at H
                have c18b0 : decide (a1 < 0) = true := decide_eq_true c18
                clear c18
                (first | rw [c18b0] | (simp only [i64_w, i32_w]; rw [c18b0]) | skip)
                have H' := Aside0.mk H
                clear H
                go_wp2
                go_meet
                case rel => exact ⟨_, (true), (by first | rfl | (simp; done) | (simp [*]; done)), H', ⟨by have := HK1.out; first | omega | exact Nat.le_refl _⟩, ⟨by repeat (first | (with_reducible first | exact HB.out | apply below_alloc | apply pw_below_drewN | apply below_drew1) | exact HB.out)⟩⟩
              · rw [if_neg c18] at H
                have c18b0 : decide (a1 < 0) = false := decide_eq_false c18
                clear c18
                (first | rw [c18b0] | (simp only [i64_w, i32_w]; rw [c18b0]) | skip)
                have H' := Aside0.mk H
                clear H
                go_wp2
                go_meet
                case rel => exact ⟨_, (decide (a1 ≥ (wrap64 ((Int.tmod (wrap64 (a0)) 64) + 1)))), (by first | rfl | (simp; done) | (simp [*]; done)), H', ⟨by have := HK1.out; first | omega | exact Nat.le_refl _⟩, ⟨by repeat (first | (with_reducible first | exact HB.out | apply below_alloc | apply pw_below_drewN | apply below_drew1) | exact HB.out)⟩⟩
            case rest =>
              clear HC11
              try clear c1
              try clear hx1
              try clear c2
              try clear p2
              try clear c3
              try clear c3b0
              try clear c4
              try clear c5
              try clear p6
              try clear c7
              try clear c7b0
              try clear c8
              try clear c8b0
              try clear c9
              try clear p9
              try clear q9
              try clear hx9
              try clear hf9
              try clear c10
              try clear c12
              try clear hx12
              try clear hf12
              try clear c18
              try clear c18b0
              try clear hx12_4
              try clear hx9_0
              try clear hx9_1
              try clear hx9_2
              try clear hx9_3
              try clear hx9_4
              try clear p2
              try clear p9
              try clear q9
              obtain ⟨kq, x45_10, rfl, HA, HJ10, HB⟩ := hcut
              cases kq with
              | zero => exact absurd HA.out (by simp [haymowlaw03_ValidJumps.j1])
              | succ kj10 =>
                have H := HA.out
                clear HA
                simp only [haymowlaw03_ValidJumps.j1] at H
                by_cases c19 : x45_10 = true
                · subst c19
                  have H1 : (if t226 = 0 then (if t227 = (wrap64 ((wrap64 ((Int.tmod (wrap64 (a0)) 64) + 1)) - 1)) then (if t228 = 6 then ((haymowlaw03_awake.f).bind fun t229 => (some t229)) else (some false)) else (some false)) else (some false)) = some r := by rw [if_pos rfl] at H; exact H
                  clear H
                  have H := H1
                  clear H1
                  by_cases c20 : t226 = 0
                  · rw [if_pos c20] at H
                    have c20b0 : (t226 == 0) = true := beq_iff_eq.mpr c20
                    have c20b1 : (t226 != 0) = false := bne_eq_false_iff_eq.mpr c20
                    clear c20
                    by_cases c21 : t227 = (wrap64 ((wrap64 ((Int.tmod (wrap64 (a0)) 64) + 1)) - 1))
                    · rw [if_pos c21] at H
                      have c21b0 : (t227 == (wrap64 ((wrap64 ((Int.tmod (wrap64 (a0)) 64) + 1)) - 1))) = true := beq_iff_eq.mpr c21
                      have c21b1 : (t227 != (wrap64 ((wrap64 ((Int.tmod (wrap64 (a0)) 64) + 1)) - 1))) = false := bne_eq_false_iff_eq.mpr c21
                      have c21b2 : (t227 == ji6) = true := by (first | (rw [hji6]; exact c21b0) | (rw [← hji6]; exact c21b0) | (subst hji6; exact c21b0))
                      clear c21
                      by_cases c22 : t228 = 6
                      · rw [if_pos c22] at H
                        have c22b0 : (t228 == 6) = true := beq_iff_eq.mpr c22
                        have c22b1 : (t228 != 6) = false := bne_eq_false_iff_eq.mpr c22
                        clear c22
                        replace H := Option.bind_eq_some_iff.mp H
                        obtain ⟨t229, A230, H⟩ := H
                        replace H : (some t229) = some r := H
                        have A23 := Aside0.mk A230
                        clear A230
                        obtain rfl := Option.some.inj H
                        go_wp2_with (first | (go_at_call 13; (with_reducible refine (haymowlaw03_awake.calls  t229 _ A23.out).mono ?_); rintro e w24 ⟨rfl, hb⟩; have n0_ := Aside0.mk (below_step (by repeat (first | (with_reducible first | exact HB.out | apply below_alloc | apply pw_below_drewN | apply below_drew1) | exact HB.out)) hb); clear HB; have HB := n0_; clear n0_; (try clear hb); (try clear hb2); (try clear hk); (try clear hi)))
                        go_ret
                        exact ⟨by first | rfl | (simp [errW_none, errW_some] <;> rfl) | (simp only [← hji6]; first | rfl | (simp [errW_none, errW_some] <;> rfl)) | (simp [*, errW_none, errW_some] <;> rfl), by repeat (first | (with_reducible first | exact HB.out | apply below_alloc | apply pw_below_drewN | apply below_drew1) | exact HB.out)⟩
                      · rw [if_neg c22] at H
                        have c22b0 : (t228 == 6) = false := beq_eq_false_iff_ne.mpr c22
                        have c22b1 : (t228 != 6) = true := bne_iff_ne.mpr c22
                        obtain rfl := Option.some.inj H
                        go_wp2
                        go_ret
                        exact ⟨by first | rfl | (simp [errW_none, errW_some] <;> rfl) | (simp only [← hji6]; first | rfl | (simp [errW_none, errW_some] <;> rfl)) | (simp [*, errW_none, errW_some] <;> rfl), by repeat (first | (with_reducible first | exact HB.out | apply below_alloc | apply pw_below_drewN | apply below_drew1) | exact HB.out)⟩
                    · rw [if_neg c21] at H
                      have c21b0 : (t227 == (wrap64 ((wrap64 ((Int.tmod (wrap64 (a0)) 64) + 1)) - 1))) = false := beq_eq_false_iff_ne.mpr c21
                      have c21b1 : (t227 != (wrap64 ((wrap64 ((Int.tmod (wrap64 (a0)) 64) + 1)) - 1))) = true := bne_iff_ne.mpr c21
                      have c21b2 : (t227 == ji6) = false := by (first | (rw [hji6]; exact c21b0) | (rw [← hji6]; exact c21b0) | (subst hji6; exact c21b0))
                      obtain rfl := Option.some.inj H
                      go_wp2
                      go_ret
                      exact ⟨by first | rfl | (simp [errW_none, errW_some] <;> rfl) | (simp only [← hji6]; first | rfl | (simp [errW_none, errW_some] <;> rfl)) | (simp [*, errW_none, errW_some] <;> rfl), by repeat (first | (with_reducible first | exact HB.out | apply below_alloc | apply pw_below_drewN | apply below_drew1) | exact HB.out)⟩
                  · rw [if_neg c20] at H
                    have c20b0 : (t226 == 0) = false := beq_eq_false_iff_ne.mpr c20
                    have c20b1 : (t226 != 0) = true := bne_iff_ne.mpr c20
                    obtain rfl := Option.some.inj H
                    go_wp2
                    go_ret
                    exact ⟨by first | rfl | (simp [errW_none, errW_some] <;> rfl) | (simp only [← hji6]; first | rfl | (simp [errW_none, errW_some] <;> rfl)) | (simp [*, errW_none, errW_some] <;> rfl), by repeat (first | (with_reducible first | exact HB.out | apply below_alloc | apply pw_below_drewN | apply below_drew1) | exact HB.out)⟩
                · replace c19 := Bool.eq_false_iff.mpr c19
                  subst c19
                  have H1 : (if t226 = 0 then (if t227 = 0 then (if t228 = 0 then ((haymowlaw03_awake.f).bind fun t230 => (some t230)) else (some false)) else (some false)) else (some false)) = some r := by rw [if_neg (show ¬ (false = true) by decide)] at H; exact H
                  clear H
                  have H := H1
                  clear H1
                  by_cases c25 : t226 = 0
                  · rw [if_pos c25] at H
                    have c25b0 : (t226 == 0) = true := beq_iff_eq.mpr c25
                    have c25b1 : (t226 != 0) = false := bne_eq_false_iff_eq.mpr c25
                    clear c25
                    by_cases c26 : t227 = 0
                    · rw [if_pos c26] at H
                      have c26b0 : (t227 == 0) = true := beq_iff_eq.mpr c26
                      have c26b1 : (t227 != 0) = false := bne_eq_false_iff_eq.mpr c26
                      clear c26
                      by_cases c27 : t228 = 0
                      · rw [if_pos c27] at H
                        have c27b0 : (t228 == 0) = true := beq_iff_eq.mpr c27
                        have c27b1 : (t228 != 0) = false := bne_eq_false_iff_eq.mpr c27
                        clear c27
                        replace H := Option.bind_eq_some_iff.mp H
                        obtain ⟨t230, A280, H⟩ := H
                        replace H : (some t230) = some r := H
                        have A28 := Aside0.mk A280
                        clear A280
                        obtain rfl := Option.some.inj H
                        go_wp2_with (first | (go_at_call 13; (with_reducible refine (haymowlaw03_awake.calls  t230 _ A28.out).mono ?_); rintro e w29 ⟨rfl, hb⟩; have n0_ := Aside0.mk (below_step (by repeat (first | (with_reducible first | exact HB.out | apply below_alloc | apply pw_below_drewN | apply below_drew1) | exact HB.out)) hb); clear HB; have HB := n0_; clear n0_; (try clear hb); (try clear hb2); (try clear hk); (try clear hi)))
                        go_ret
                        exact ⟨by first | rfl | (simp [errW_none, errW_some] <;> rfl) | (simp only [← hji6]; first | rfl | (simp [errW_none, errW_some] <;> rfl)) | (simp [*, errW_none, errW_some] <;> rfl), by repeat (first | (with_reducible first | exact HB.out | apply below_alloc | apply pw_below_drewN | apply below_drew1) | exact HB.out)⟩
                      · rw [if_neg c27] at H
                        have c27b0 : (t228 == 0) = false := beq_eq_false_iff_ne.mpr c27
                        have c27b1 : (t228 != 0) = true := bne_iff_ne.mpr c27
                        obtain rfl := Option.some.inj H
                        go_wp2
                        go_ret
                        exact ⟨by first | rfl | (simp [errW_none, errW_some] <;> rfl) | (simp only [← hji6]; first | rfl | (simp [errW_none, errW_some] <;> rfl)) | (simp [*, errW_none, errW_some] <;> rfl), by repeat (first | (with_reducible first | exact HB.out | apply below_alloc | apply pw_below_drewN | apply below_drew1) | exact HB.out)⟩
                    · rw [if_neg c26] at H
                      have c26b0 : (t227 == 0) = false := beq_eq_false_iff_ne.mpr c26
                      have c26b1 : (t227 != 0) = true := bne_iff_ne.mpr c26
                      obtain rfl := Option.some.inj H
                      go_wp2
                      go_ret
                      exact ⟨by first | rfl | (simp [errW_none, errW_some] <;> rfl) | (simp only [← hji6]; first | rfl | (simp [errW_none, errW_some] <;> rfl)) | (simp [*, errW_none, errW_some] <;> rfl), by repeat (first | (with_reducible first | exact HB.out | apply below_alloc | apply pw_below_drewN | apply below_drew1) | exact HB.out)⟩
                  · rw [if_neg c25] at H
                    have c25b0 : (t226 == 0) = false := beq_eq_false_iff_ne.mpr c25
                    have c25b1 : (t226 != 0) = true := bne_iff_ne.mpr c25
                    obtain rfl := Option.some.inj H
                    go_wp2
                    go_ret
                    exact ⟨by first | rfl | (simp [errW_none, errW_some] <;> rfl) | (simp only [← hji6]; first | rfl | (simp [errW_none, errW_some] <;> rfl)) | (simp [*, errW_none, errW_some] <;> rfl), by repeat (first | (with_reducible first | exact HB.out | apply below_alloc | apply pw_below_drewN | apply below_drew1) | exact HB.out)⟩
          · rw [if_neg c8] at H
            exact absurd H (by simp)
        · rw [if_neg c7] at H
          exact absurd H (by simp)

/-- THE ONE PURE STATEMENT of haymowlaw03_ValidJumps: yours. -/
def haymowlaw03_ValidJumps.Pure : Prop := ∀ (a0 : Int) (a1 : Int), (Lit.int .u8 a0).wf = true → (Lit.int .i64 a1).wf = true → ∃ k, haymowlaw03_ValidJumps.f k a0 a1 = some true
theorem haymowlaw03_ValidJumps.walk (P : haymowlaw03_ValidJumps.Pure) (a0 : Int) (a1 : Int) (w : World) (w0 : (Lit.int .u8 a0).wf = true) (w1 : (Lit.int .i64 a1).wf = true) :
    Calls Try.prog 5 #[.int .u8 a0, .int .i64 a1] w fun e w' => e = .returned (.bool true) ∧ Below w.heap.size w w' := by
  obtain ⟨k, h⟩ := P a0 a1 w0 w1
  refine (haymowlaw03_ValidJumps.calls k a0 a1 true w h).mono ?_
  rintro e w' ⟨rfl, hd⟩
  exact ⟨rfl, hd⟩

end Go.Proofs.Ytkbbgkhanmmhpaa.H
