/- MergeFirst, walked: the path of the first failure leads to a node that fails. -/
import Derived.Test.YtiplpkjjplicjaaMOf
import Derived.Test.YtiplpkjjplicjaaMBuiltW
import Derived.Test.YtiplpkjjplicjaaH1
import Derived.BigQuiet
import Derived.Deep.QuietTactic
set_option linter.unusedVariables false
set_option linter.unusedSimpArgs false
namespace Go.Proofs.Ytiplpkjjplicjaa.H
open Go.RowKit Go.Hay Go.Proofs.YtiplpkjjplicjaaW.PrintWords Go.Proofs.YtiplpkjjplicjaaW.PrintLast Go.Proofs.YtiplpkjjplicjaaW.PrintMore
theorem light_loop (l : List S61) (hl : l.length ≤ 40) : ∀ (d i : Nat), l.length - i = d → i ≤ l.length → ∃ k b, haymowlaw07_light.l0 k l i = some b ∧ (b = true → ∀ x ∈ l.drop i, x.f0.length ≤ 40)
  | 0, i, hd, hi => ⟨1, true, by rw [haymowlaw07_light.l0, if_neg (by omega)], fun _ x hx => by rw [List.drop_eq_nil_of_le (by omega)] at hx; cases hx⟩
  | d + 1, i, hd, hi => by
    obtain ⟨k, b, h1, h2⟩ := light_loop l hl d (i + 1) (by omega) (by omega)
    have hlt : i < l.length := by omega
    have hg : rd_T61 l (i : Int) = l[i] := by simp [rd_T61, hlt]
    by_cases hp : ((l[i].f0.length : Nat) : Int) > 40
    · exact ⟨1, false, by rw [haymowlaw07_light.l0, if_pos (by omega), if_pos (by omega), hg, if_pos hp], fun h => by cases h⟩
    · refine ⟨k + 1, b, ?_, fun hb x hx => ?_⟩
      · rw [haymowlaw07_light.l0, if_pos (by omega), if_pos (by omega), hg, if_neg hp, show wrap64 ((i : Int) + 1) = ((i + 1 : Nat) : Int) by unfold wrap64; omega]
        exact h1
      · rw [List.drop_eq_getElem_cons hlt] at hx
        rcases List.mem_cons.1 hx with rfl | hx
        · omega
        · exact h2 hb x hx
theorem light_some (l : List S61) : ∃ k b, haymowlaw07_light.f k l = some b ∧ (b = true → 0 < l.length ∧ l.length ≤ 40 ∧ ∀ x ∈ l, x.f0.length ≤ 40) := by
  by_cases h1 : (l.length : Int) < 1
  · exact ⟨1, false, by rw [haymowlaw07_light.f, if_pos h1, haymowlaw07_light.j0, if_pos rfl], fun h => by cases h⟩
  · by_cases h2 : (l.length : Int) > 40
    · exact ⟨1, false, by rw [haymowlaw07_light.f, if_neg h1, haymowlaw07_light.j0, if_pos (decide_eq_true h2)], fun h => by cases h⟩
    · obtain ⟨k, b, h3, h4⟩ := light_loop l (by omega) _ 0 rfl (Nat.zero_le _)
      refine ⟨k + 1, b, ?_, fun hb => ⟨by omega, by omega, fun x hx => h4 hb x (by simpa using hx)⟩⟩
      rw [haymowlaw07_light.f, if_neg h1, haymowlaw07_light.j0, if_neg (by simpa using h2)]
      exact h3
theorem leads_inv {t : T} {x : Int} {r : List Int} {f : Int} (h : Leads t (x :: r) f) : ∃ ps ks v g k, ∃ hk : k < ks.length, t = .node ps ks v g ∧ x = (k : Nat) ∧ Leads ks[k] r f := by
  cases h with
  | kid ps ks v g i h r x hr => exact ⟨ps, ks, v, g, i, h, rfl, rfl, hr⟩
theorem leads_end {t : T} {f : Int} (h : Leads t [] f) : f ≠ 0 ∧ ∃ ps ks v, t = .node ps ks v f := by
  cases h with
  | here ps ks v f hf => exact ⟨hf, ps, ks, v, rfl⟩
/-- what the walk of a node that may be comes to. -/
theorem outcome (t : T) : (mergeP t = ([], 0, 0, 4) ∧ firstP t = ([], false)) ∨ (∃ told v, mergeP t = (told, v, 0, 0) ∧ firstP t = ([], false)) ∨
    ∃ told q f, mergeP t = (told, 0, f, 0) ∧ firstP t = (q, true) ∧ f ≠ 0 ∧ Leads t q f := by
  unfold mergeP firstP
  by_cases hr : rightT t 0 = true
  · rw [if_pos hr, if_pos hr]
    have hf := walkT_fits t []
    unfold Fits at hf
    cases hq : (walkT t []).2.2 with
    | none => exact .inr (.inl ⟨_, _, by rw [hf.2 hq], rfl⟩)
    | some q =>
      have hne : ¬ (walkT t []).2.1 = 0 := fun h => by rw [hf.1 h] at hq; cases hq
      obtain ⟨r, h1, h2⟩ := walk_leads t [] q hq
      exact .inr (.inr ⟨_, q, _, by rw [if_neg hne], rfl, hne, by rw [h1]; exact h2⟩)
  · rw [if_neg hr, if_neg hr]; exact .inl ⟨rfl, rfl⟩
set_option maxRecDepth 100000 in
set_option maxHeartbeats 4000000 in
theorem mfirst_any (A0 : Option Addr) (c0 : Nat) (l : List S61) (w : World) (hC : k61.C w A0 l.length l) (hc : l.length ≤ c0) (hr : ∀ x ∈ l, 0 ≤ x.f3 ∧ x.f3 ≤ 255) :
    Calls Try.prog 4 #[.slice A0 l.length c0] w fun e w' => e = .returned (.bool true) ∧ Below w.heap.size w w' := by
  obtain ⟨kl, b, hkl, hb⟩ := light_some l
  have HL := Aside0.mk (And.intro hkl (And.intro hC (And.intro hc (And.intro hr hb))))
  clear hkl hC hc hr hb
  cases b with
  | false =>
    go_enter Try.func4, Try.ntmps4
    go_wp2_with fail
    refine (haymowlaw07_light.calls kl A0 c0 l false w HL.out.2.1 HL.out.2.2.1 HL.out.1).mono ?_
    rintro e w1 ⟨rfl, hd⟩
    have HB1 := Aside0.mk (below_drawn hd)
    clear hd
    go_wp2_with fail
    go_ret
    exact ⟨rfl, HB1.out⟩
  | true =>
    obtain ⟨h0, h40, hp⟩ := HL.out.2.2.2.2 rfl
    have HG := Aside0.mk (And.intro h0 (And.intro h40 hp))
    clear h0 h40 hp
    go_enter Try.func4, Try.ntmps4
    go_wp2_with fail
    refine (haymowlaw07_light.calls kl A0 c0 l true w HL.out.2.1 HL.out.2.2.1 HL.out.1).mono ?_
    rintro e w1 ⟨rfl, hd⟩
    have HB1 := Aside0.mk (below_drawn hd)
    clear hd
    have HX := Aside0.mk (built_any A0 c0 l w1 (Kd.C_below HL.out.2.1 HB1.out) HG.out.2.1 HL.out.2.2.2.1)
    go_wp2_with fail
    refine HX.out.mono ?_
    rintro e w2 ⟨A2, c2, rfl, hc2, hC2, hb2⟩
    have HB2 := Aside0.mk (HB1.out.trans (hb2.mono HB1.out.size))
    have hC3 : k63.C w2 A2 (builtP l).length (builtP l) := by rw [builtP_length]; exact hC2
    have HX2 := Aside0.mk (of_any (builtP l) (built_good l HG.out.2.1 HG.out.2.2) (builtP l).length 0 (by omega) (by rw [builtP_length]; exact HG.out.1) A2 c2 w2 hC3)
    rw [builtP_length] at HX2
    have HT := Aside0.mk (And.intro (built_size l HG.out.2.1 HG.out.2.2 HG.out.1 l.length) (built_told l HG.out.2.1 HG.out.2.2 HG.out.1 l.length))
    generalize treeN (builtP l) l.length 0 = t at HX2 HT
    clear hc2 hC2 hb2 hC3 HX HB1
    go_wp2_with fail
    refine HX2.out.mono ?_
    rintro e w3 ⟨a, rfl, hown, hb3⟩
    have HB3 := Aside0.mk (HB2.out.trans (hb3.mono HB2.out.size))
    have HI3 := Aside0.mk hown.is
    have HF := Aside0.mk (First_any t a w3 hown.is (fun h => Nat.le_trans (HT.out.2 h) (by decide)))
    have HQ0 := Aside0.mk (outcome t)
    clear hown hb3 HX2 HB2
    go_wp2_with fail
    refine HF.out.mono ?_
    rintro e w4 ⟨A4, c4, rfl, hp4, hb4⟩
    have HB4 := Aside0.mk (HB3.out.trans (hb4.mono HB3.out.size))
    have HI4 := Aside0.mk (HI3.out.keep t hb4)
    have HP4 := Aside0.mk hp4
    have HM := Aside0.mk (Merge_any t a w4 HI4.out (fun h => Nat.le_trans (HT.out.2 h) (by decide)))
    clear hp4 hb4 HI3 HB3 HF
    rcases HQ0.out with hq | ⟨told, v0, hq⟩ | ⟨told, q, f, hq⟩
    · have HQ := Aside0.mk hq
      clear hq HQ0
      rw [HQ.out.2] at HP4 ⊢
      go_wp2_with fail
      refine HM.out.mono ?_
      rintro e w5 ⟨v, rfl, hR, hb5⟩
      rw [HQ.out.1] at hR ⊢
      obtain ⟨At, ct, rfl⟩ := Kd.R_slice hR
      have HB5 := Aside0.mk (HB4.out.trans (hb5.mono HB4.out.size))
      clear hR hb5 HM HB4
      have HA := Aside0.mk (awake_any w5)
      go_wp2_with fail
      refine HA.out.mono ?_
      rintro e w9 ⟨rfl, hbm⟩
      have HB9 := Aside0.mk (HB5.out.trans (hbm.mono HB5.out.size))
      clear hbm HA
      go_wp2_with fail
      go_ret
      exact ⟨rfl, HB9.out⟩
    · have HQ := Aside0.mk hq
      clear hq HQ0
      rw [HQ.out.2] at HP4 ⊢
      go_wp2_with fail
      refine HM.out.mono ?_
      rintro e w5 ⟨v, rfl, hR, hb5⟩
      rw [HQ.out.1] at hR ⊢
      obtain ⟨At, ct, rfl⟩ := Kd.R_slice hR
      have HB5 := Aside0.mk (HB4.out.trans (hb5.mono HB4.out.size))
      clear hR hb5 HM HB4
      have HA := Aside0.mk (awake_any w5)
      go_wp2_with fail
      refine HA.out.mono ?_
      rintro e w9 ⟨rfl, hbm⟩
      have HB9 := Aside0.mk (HB5.out.trans (hbm.mono HB5.out.size))
      clear hbm HA
      go_wp2_with fail
      go_ret
      exact ⟨rfl, HB9.out⟩
    · have HQ := Aside0.mk hq
      clear hq HQ0
      rw [HQ.out.2.1] at HP4 ⊢
      go_wp2_with fail
      refine HM.out.mono ?_
      rintro e w5 ⟨v, rfl, hR, hb5⟩
      rw [HQ.out.1] at hR ⊢
      obtain ⟨At, ct, rfl⟩ := Kd.R_slice hR
      have HB5 := Aside0.mk (HB4.out.trans (hb5.mono HB4.out.size))
      have HP5 := Aside0.mk (HP4.out.below hb5)
      have HI5 := Aside0.mk (And.intro (HI4.out.keep t hb5) (And.intro HQ.out.2.2.2 HB5.out))
      have hfne : (f != 0) = true := by simp [HQ.out.2.2.1]
      have hmax := Kd.C_max HP5.out.1
      clear hR hb5 HM HB4 HP4 HI4
      go_wp2_with fail
      go_loopw [3, 10] (fun v3 v10 wr => ∃ (i : Nat) (s : T) (sa : Option Addr), v3 = .pointer sa ∧ v10 = .int .i64 i ∧ i ≤ q.length ∧ Aside0 (IsT s wr sa ∧ Leads s (q.drop i) f ∧ Below w5.heap.size w5 wr)) (fun _ v10 _ => q.length - (intOf v10).toNat)
      case atStart => exact ⟨0, t, a, rfl, rfl, Nat.zero_le _, ⟨HI5.out.1, by simpa using HI5.out.2.1, Below.refl _ _⟩⟩
      case round =>
        obtain ⟨i, s, sa, rfl, rfl, hi, HJ⟩ := hrel
        by_cases hlt : i < q.length
        · obtain ⟨his, hls, hbs⟩ := HJ.out
          rw [List.drop_eq_getElem_cons hlt] at hls
          obtain ⟨ps, ks, v, g, k, hk, rfl, hqk, hls⟩ := leads_inv hls
          have his' := his
          simp only [IsT] at his'
          obtain ⟨b, A1, c1, A2, c2, qs, rfl, g1, g2, g3, g4, g5, g6⟩ := his'
          obtain ⟨hkq, hkt⟩ := IsTs.get g6 k hk
          obtain ⟨ad2, rfl, hx2⟩ := at_P g5 k hk hkq
          obtain ⟨ad, rfl, hx⟩ := Kd.at_int HP5.out.1 (i : Int) (by omega) (by omega)
          rw [Int.toNat_natCast, show rd q (i : Int) = (k : Int) by simp [rd, hlt, hqk]] at hx
          have hx' := (hbs.cell (World.block_lt_of_cell? w5 _ hx)).trans hx
          have d1 := blk_cell g1 1
          have HN := Aside0.mk (And.intro hkt (And.intro hls hbs))
          have hkn : ((k : Int) < 0) = False := eq_false (by omega)
          have hkl : ((ks.length : Int) ≤ (k : Int)) = False := eq_false (by omega)
          clear his hls hbs HJ hqk g1 g2 g3 g4 g5 g6 hkt hx
          go_wp2_with fail
          go_quiet (fail)
          go_wp2_with fail
          go_quiet (fail)
          have hbq : ∀ n, Below wr.heap.size wr (wr.drewN n) := fun n => pw_below_drewN (Below.refl _ _) n
          have HQN := Aside0.mk (fun n => And.intro (IsT.keep ks[k] HN.out.1 (hbq n)) (And.intro HN.out.2.1 (HN.out.2.2.trans ((hbq n).mono HN.out.2.2.size))))
          clear hbq
          go_wp2_with fail
          go_roundw
          case rel => exact ⟨i + 1, ks[k], qs[k], rfl, by go_num, hlt, ⟨HQN.out _⟩⟩
          case measure => simp [intOf]; omega
        · obtain rfl : i = q.length := by omega
          obtain ⟨his, hls, hbs⟩ := HJ.out
          rw [List.drop_length] at hls
          obtain ⟨hf, ps, ks, v, rfl⟩ := leads_end hls
          simp only [IsT] at his
          obtain ⟨b, A1, c1, A2, c2, qs, rfl, g1, _⟩ := his
          have d3 := blk_cell g1 3
          have HB6 := Aside0.mk (HI5.out.2.2.trans (hbs.mono HI5.out.2.2.size))
          clear g1 hbs hls HJ hlt hi hf
          have HA := Aside0.mk (awake_any wr)
          go_wp2_with fail
          refine HA.out.mono ?_
          rintro e w9 ⟨rfl, hbm⟩
          have HB9 := Aside0.mk (HB6.out.trans (hbm.mono HB6.out.size))
          clear hbm HA
          go_wp2_with fail
          go_ret
          exact ⟨rfl, HB9.out⟩
def haymowlaw07_MergeFirst.f (l0 : List S61) : Option Bool := if l0.all (fun x => decide (0 ≤ x.f3 ∧ x.f3 ≤ 255)) = true then some true else none
theorem haymowlaw07_MergeFirst.calls (A0 : Option Addr) (c0 : Nat) (l0 : List S61) (r : Bool) (w : World) (hr0 : k61.C w A0 l0.length l0) (hc0 : l0.length ≤ c0) (h : haymowlaw07_MergeFirst.f l0 = some r) : Calls Try.prog 4 #[.slice A0 l0.length c0] w fun e w' => e = .returned (.bool r) ∧ Below w.heap.size w w' := by
  unfold haymowlaw07_MergeFirst.f at h
  split at h
  · rename_i ha
    obtain rfl : true = r := Option.some.inj h
    exact mfirst_any A0 c0 l0 w hr0 hc0 (fun x hx => by simpa using List.all_eq_true.1 ha x hx)
  · cases h
#print axioms haymowlaw07_MergeFirst.calls
end Go.Proofs.Ytiplpkjjplicjaa.H
