/- MergeBehind, walked. -/
import Derived.Test.YtiplpkjjplicjaaMTells
import Derived.Test.YtiplpkjjplicjaaMJoins
set_option linter.unusedVariables false
set_option linter.unusedSimpArgs false
namespace Go.Proofs.Ytiplpkjjplicjaa.H
open Go.RowKit Go.Hay Go.Proofs.YtiplpkjjplicjaaW.PrintWords Go.Proofs.YtiplpkjjplicjaaW.PrintLast Go.Proofs.YtiplpkjjplicjaaW.PrintMore
theorem walkPs_more (W : List (List Int × Int × Option (List Int))) (qs : List S64) : ∀ ps : List S64, (walkPs ps W).2.1 ≠ 0 → walkPs (ps ++ qs) W = walkPs ps W
  | [], h => absurd rfl h
  | p :: ps, h => by
    rw [walkPs] at h
    rw [List.cons_append, walkPs, walkPs]
    by_cases h1 : p.f0 = true
    · rw [if_pos h1] at h ⊢
      rw [if_pos h1]
      by_cases h2 : (W.getD p.f1.toNat ([], 0, none)).2.1 = 0
      · rw [if_pos h2] at h ⊢
        rw [if_pos h2, walkPs_more W qs ps h]
      · rw [if_neg h2, if_neg h2]
    · rw [if_neg h1] at h ⊢
      rw [if_neg h1, walkPs_more W qs ps h]
theorem metP_more (ns : List Int) : ∀ (ps : List S64) (m r : Int), metP m ps = some r → metP m (ps ++ tellPs ns) = some r
  | [], m, r, h => by rw [metP] at h; rw [List.nil_append, met_tell]; exact h
  | p :: ps, m, r, h => by
    rw [metP] at h
    rw [List.cons_append, metP]
    by_cases h1 : p.f0 = true
    · rw [if_pos h1] at h ⊢
      by_cases h2 : p.f1 = m
      · rw [if_pos h2] at h ⊢; exact metP_more ns ps _ r h
      · rw [if_neg h2] at h; cases h
    · rw [if_neg h1] at h ⊢; exact metP_more ns ps m r h
theorem behind {ps : List S64} {ks : List T} {v f : Int} {told p : List Int} {g : Int} (h : rightT (.node ps ks v f) 0 = true) (hw : walkT (.node ps ks v f) [] = (told, g, some p)) (hp : p ≠ []) (hg : g ≠ 0) (ns : List Int) (v' f' : Int) (hf : f' = 0 ∨ v' = 0) :
    mergeP (.node (ps ++ tellPs ns) ks v' f') = (told, 0, g, 0) ∧ (walkT (.node (ps ++ tellPs ns) ks v' f') []).1.length = told.length := by
  obtain ⟨_, _, h3, h4⟩ := right_inv h
  have hr : rightT (.node (ps ++ tellPs ns) ks v' f') 0 = true := by
    rw [right_some (by rintro (h | h); omega; rcases hf with h1 | h1; exact h.1 h1; exact h.2 h1) (metP_more ns ps 0 _ h3), if_pos rfl]; exact h4
  have hz : (walkPs ps (walkKs ks [] 0)).2.1 ≠ 0 := by
    intro hz
    rw [walkT, if_pos hz] at hw
    by_cases h0 : f = 0
    · rw [if_pos h0] at hw; injection hw with _ hw; injection hw with _ hw; cases hw
    · rw [if_neg h0] at hw; injection hw with _ hw; injection hw with _ hw; exact hp (Option.some.inj hw).symm
  have hw2 : walkT (.node (ps ++ tellPs ns) ks v' f') [] = (told, g, some p) := by
    rw [walkT, if_neg hz] at hw
    rw [walkT, walkPs_more _ _ _ hz, if_neg hz, hw]
  unfold mergeP
  rw [if_pos hr, hw2]
  exact ⟨by simp [hg], rfl⟩
theorem NodeB.setV {B b : Nat} {ps : List S64} {ks : List T} {v f : Int} {vp vk : Value} {qs : List (Option Addr)} {w : World} (h : NodeB none B b ps ks v f vp vk qs w) (v' : Int) : NodeB none B b ps ks v' f vp vk qs (w.setCell ⟨b, 2, none⟩ (.int .i64 v')) := by
  have hset : ∀ k, k ≠ b → (w.setCell ⟨b, 2, none⟩ (.int .i64 v')).heap[k]? = w.heap[k]? := fun k hk => Below.heap_setCell w ⟨b, 2, none⟩ _ k hk
  have hz : (w.setCell ⟨b, 2, none⟩ (.int .i64 v')).heap.size = w.heap.size := by simp [World.setCell]
  exact ⟨blk_set h.node 2 _, h.hb, R_flat flat64 h.rp (fun _ _ => trivial) (fun k hk => hset k (fun e => h.hp (e ▸ hk))), R_flat flatP h.rk (fun _ _ => trivial) (fun k hk => hset k (fun e => h.hk (e ▸ hk))), h.hp, h.hk, h.sep, h.xb, h.xp, h.xk, (fun k e => by cases e),
    fun W' hW => h.kids W' (fun k q1 q2 q3 q4 q5 q6 => (hW k q1 (by rw [hz]; exact q2) q3 q4 q5 q6).trans (hset k q3))⟩
theorem NodeB.setF {B b : Nat} {ps : List S64} {ks : List T} {v f : Int} {vp vk : Value} {qs : List (Option Addr)} {w : World} (h : NodeB none B b ps ks v f vp vk qs w) (f' : Int) : NodeB none B b ps ks v f' vp vk qs (w.setCell ⟨b, 3, none⟩ (.int .i64 f')) := by
  have hset : ∀ k, k ≠ b → (w.setCell ⟨b, 3, none⟩ (.int .i64 f')).heap[k]? = w.heap[k]? := fun k hk => Below.heap_setCell w ⟨b, 3, none⟩ _ k hk
  have hz : (w.setCell ⟨b, 3, none⟩ (.int .i64 f')).heap.size = w.heap.size := by simp [World.setCell]
  exact ⟨blk_set h.node 3 _, h.hb, R_flat flat64 h.rp (fun _ _ => trivial) (fun k hk => hset k (fun e => h.hp (e ▸ hk))), R_flat flatP h.rk (fun _ _ => trivial) (fun k hk => hset k (fun e => h.hk (e ▸ hk))), h.hp, h.hk, h.sep, h.xb, h.xp, h.xk, (fun k e => by cases e),
    fun W' hW => h.kids W' (fun k q1 q2 q3 q4 q5 q6 => (hW k q1 (by rw [hz]; exact q2) q3 q4 q5 q6).trans (hset k q3))⟩
set_option maxRecDepth 100000 in
set_option maxHeartbeats 8000000 in
theorem mbehind_any (A0 : Option Addr) (c0 : Nat) (l : List S61) (A1 : Option Addr) (c1 : Nat) (more : List Int) (value fail : Int) (w : World) (hC : k61.C w A0 l.length l) (hc : l.length ≤ c0) (hCm : (Kd.int .i64).C w A1 more.length more) (hr : ∀ x ∈ l, 0 ≤ x.f3 ∧ x.f3 ≤ 255) (hfl : 0 ≤ fail ∧ fail ≤ 255) :
    Calls Try.prog 3 #[.agg #[.slice A0 l.length c0, .slice A1 more.length c1, .int .i64 value, .int .u8 fail]] w fun e w' => e = .returned (.bool true) ∧ Below w.heap.size w w' := by
  obtain ⟨kl, b, hkl, hb⟩ := light_some l
  have HL := Aside0.mk (And.intro hkl (And.intro hC (And.intro hc (And.intro hr (And.intro hb hCm)))))
  have hmax := Kd.C_max hCm
  clear hkl hC hc hr hb hCm
  cases b with
  | false =>
    have hB0 := (Below.refl w.heap.size w).alloc (Nat.le_refl _) (.cells #[.slice A0 l.length c0, .slice A1 more.length c1, .int .i64 value, .int .u8 fail] 25)
    have hbz := alloc_blk w (.cells #[.slice A0 l.length c0, .slice A1 more.length c1, .int .i64 value, .int .u8 fail] 25)
    have b0 := blk_cell hbz 0
    have b1 := blk_cell hbz 1
    have b2 := blk_cell hbz 2
    have b3 := blk_cell hbz 3
    have HB0 := Aside0.mk hB0
    clear hB0 hbz
    go_enter Try.func3, Try.ntmps3
    go_wp2_with fail
    go_quiet (fail)
    clear b0 b1 b2 b3
    obtain ⟨wb, hwb⟩ : ∃ wb, wb = (w.alloc (.cells #[.slice A0 l.length c0, .slice A1 more.length c1, .int .i64 value, .int .u8 fail] 25)).drewN nq := ⟨_, rfl⟩
    rw [← hwb]
    have HBB := Aside0.mk (show Below w.heap.size w wb by rw [hwb]; exact pw_below_drewN HB0.out _)
    clear hwb HB0
    have HLI := Aside0.mk (haymowlaw07_light.calls kl A0 c0 l false wb (Kd.C_below HL.out.2.1 HBB.out) HL.out.2.2.1 HL.out.1)
    go_wp2_with fail
    refine HLI.out.mono ?_
    rintro e w1 ⟨rfl, hd⟩
    have HB1 := Aside0.mk (HBB.out.trans ((below_drawn hd).mono HBB.out.size))
    clear hd HLI HBB
    go_wp2_with fail
    go_ret
    exact ⟨rfl, HB1.out⟩
  | true =>
    by_cases hm : 40 < more.length
    · have hm' : (40 < (more.length : Int)) = True := eq_true (by omega)
      clear hm
      have hB0 := (Below.refl w.heap.size w).alloc (Nat.le_refl _) (.cells #[.slice A0 l.length c0, .slice A1 more.length c1, .int .i64 value, .int .u8 fail] 25)
      have hbz := alloc_blk w (.cells #[.slice A0 l.length c0, .slice A1 more.length c1, .int .i64 value, .int .u8 fail] 25)
      have b0 := blk_cell hbz 0
      have b1 := blk_cell hbz 1
      have b2 := blk_cell hbz 2
      have b3 := blk_cell hbz 3
      have HB0 := Aside0.mk hB0
      clear hB0 hbz
      go_enter Try.func3, Try.ntmps3
      go_wp2_with fail
      go_quiet (fail)
      clear b0 b1 b2 b3
      obtain ⟨wb, hwb⟩ : ∃ wb, wb = (w.alloc (.cells #[.slice A0 l.length c0, .slice A1 more.length c1, .int .i64 value, .int .u8 fail] 25)).drewN nq := ⟨_, rfl⟩
      rw [← hwb]
      have HBB := Aside0.mk (show Below w.heap.size w wb by rw [hwb]; exact pw_below_drewN HB0.out _)
      clear hwb HB0
      have HLI := Aside0.mk (haymowlaw07_light.calls kl A0 c0 l true wb (Kd.C_below HL.out.2.1 HBB.out) HL.out.2.2.1 HL.out.1)
      go_wp2_with fail
      refine HLI.out.mono ?_
      rintro e w1 ⟨rfl, hd⟩
      have HB1 := Aside0.mk (HBB.out.trans ((below_drawn hd).mono HBB.out.size))
      clear hd HLI HBB
      go_wp2_with fail
      go_ret
      exact ⟨rfl, HB1.out⟩
    · have hm' : (40 < (more.length : Int)) = False := eq_false (by omega)
      have hm40 : more.length ≤ 40 := by omega
      clear hm
      obtain ⟨h0, h40, hp⟩ := HL.out.2.2.2.2.1 rfl
      have hG := built_good l h40 hp
      obtain ⟨kr, hkr⟩ := (right_plain hG l.length 0 0 (by rw [builtP_length]; omega) (by rw [builtP_length]; exact h0) (Int.le_refl _) (by omega)).rounds
      have hof := of_any2 (builtP l) hG l.length 0 (by rw [builtP_length]; omega) (by rw [builtP_length]; exact h0)
      have hold := hof.ok
      have HT := Aside0.mk (built_told l h40 hp h0 l.length)
      have HP2 := Aside0.mk (fun ps ks v f (h : treeN (builtP l) l.length 0 = .node ps ks v f) => (show ps.length ≤ 40 by
        have h1 : (.node ps ks v f : T) = .node ((builtP l).getD 0 z63).f0 (((builtP l).getD 0 z63).f1.map fun k => treeN (builtP l) (l.length - 1) k.toNat) ((builtP l).getD 0 z63).f2 ((builtP l).getD 0 z63).f3 := by
          rw [← h]
          obtain ⟨n, hn⟩ : ∃ n, l.length = n + 1 := ⟨l.length - 1, by omega⟩
          rw [hn, Nat.add_sub_cancel, treeN]
        injection h1 with h1
        rw [h1, List.getD_eq_getElem?_getD, List.getElem?_eq_getElem (by rw [builtP_length]; exact h0)]
        exact builtN_pieces l 40 hp l.length (Nat.le_refl _) _ (List.getElem_mem _)))
      have hlen := builtP_length l
      have HBU := Aside0.mk (fun w1 h => built_any A0 c0 l w1 h h40 HL.out.2.2.2.1)
      rw [← hlen] at HBU
      have HLEN := Aside0.mk hlen
      have hn0 : ((0 : Nat) : Int) = 0 := rfl
      rw [hn0] at hkr
      unfold OfOk at hold
      rw [hn0] at hold
      unfold OfN at hof
      rw [hn0] at hof
      generalize treeN (builtP l) l.length 0 = t at hkr hof hold HT HP2
      generalize builtP l = xs at hkr hof hold HBU HLEN
      have HKR := Aside0.mk hkr
      have HOF := Aside0.mk (And.intro hold hof)
      clear hkr hof hold h0 h40 hp hG hlen hn0
      have hB0 := (Below.refl w.heap.size w).alloc (Nat.le_refl _) (.cells #[.slice A0 l.length c0, .slice A1 more.length c1, .int .i64 value, .int .u8 fail] 25)
      have hbz := alloc_blk w (.cells #[.slice A0 l.length c0, .slice A1 more.length c1, .int .i64 value, .int .u8 fail] 25)
      have b0 := blk_cell hbz 0
      have b1 := blk_cell hbz 1
      have b2 := blk_cell hbz 2
      have b3 := blk_cell hbz 3
      have HB0 := Aside0.mk hB0
      clear hB0 hbz
      go_enter Try.func3, Try.ntmps3
      go_wp2_with fail
      go_quiet (fail)
      clear b0 b1 b2 b3
      obtain ⟨wb, hwb⟩ : ∃ wb, wb = (w.alloc (.cells #[.slice A0 l.length c0, .slice A1 more.length c1, .int .i64 value, .int .u8 fail] 25)).drewN nq := ⟨_, rfl⟩
      rw [← hwb]
      have HBB := Aside0.mk (show Below w.heap.size w wb by rw [hwb]; exact pw_below_drewN HB0.out _)
      clear hwb HB0
      have HLI := Aside0.mk (haymowlaw07_light.calls kl A0 c0 l true wb (Kd.C_below HL.out.2.1 HBB.out) HL.out.2.2.1 HL.out.1)
      go_wp2_with fail
      refine HLI.out.mono ?_
      rintro e w1 ⟨rfl, hd⟩
      have HB1 := Aside0.mk (HBB.out.trans ((below_drawn hd).mono HBB.out.size))
      clear hd HLI HBB
      have HX := Aside0.mk (HBU.out w1 (by rw [HLEN.out]; exact Kd.C_below HL.out.2.1 HB1.out))
      rw [HLEN.out] at HX
      go_wp2_with fail
      refine HX.out.mono ?_
      rintro e w2 ⟨A2, c2, rfl, hc2, hC2, hb2⟩
      rw [← HLEN.out] at hC2 hc2 ⊢
      have HB2 := Aside0.mk (HB1.out.trans (hb2.mono HB1.out.size))
      have HX2 := Aside0.mk (HOF.out.1 A2 c2 w2 hC2)
      have HC2 := Aside0.mk (And.intro hC2 hc2)
      clear hc2 hC2 hb2 HX HB1
      go_wp2_with fail
      refine HX2.out.mono ?_
      rintro e w3 ⟨a, rfl, hown, hb3⟩
      have HB3 := Aside0.mk (HB2.out.trans (hb3.mono HB2.out.size))
      have HI3 := Aside0.mk (And.intro hown.is (And.intro (Kd.C_below HC2.out.1 hb3) HC2.out.2))
      clear hown hb3 HX2 HB2 HC2
      have HF := Aside0.mk (First_any t a w3 HI3.out.1 (fun h => Nat.le_trans (HT.out h) (by decide)))
      go_wp2_with fail
      refine HF.out.mono ?_
      rintro e w4 ⟨Ap1, cp1, rfl, hp4, hb4⟩
      have HB4 := Aside0.mk (HB3.out.trans (hb4.mono HB3.out.size))
      have HI4 := Aside0.mk (And.intro (HI3.out.1.keep t hb4) (And.intro (Kd.C_below HI3.out.2.1 hb4) HI3.out.2.2))
      clear hp4 hb4 HF HB3 HI3
      have HR := Aside0.mk (haymowref07_Right.calls kr A2 c2 xs 0 0 (rightT t 0) w4 HI4.out.2.1 HI4.out.2.2 HKR.out)
      cases hrt : rightT t 0 with
      | false =>
        have hfp := (told_bad hrt).2.1
        rw [hrt] at HR
        rw [hfp]
        clear hrt hfp
        go_wp2_with fail
        refine HR.out.mono ?_
        rintro e w5 ⟨rfl, hb5⟩
        have HB5 := Aside0.mk (HB4.out.trans (hb5.mono HB4.out.size))
        clear hb5 HR HB4
        have HA := Aside0.mk (awake_any w5)
        go_wp2_with fail
        refine HA.out.mono ?_
        rintro e wz ⟨rfl, hbm⟩
        have HBz := Aside0.mk (HB5.out.trans (hbm.mono HB5.out.size))
        clear hbm HA
        go_wp2_with fail
        go_ret
        exact ⟨rfl, HBz.out⟩
      | true =>
        have HR0 := Aside0.mk hrt
        rw [hrt] at HR
        rcases told_good hrt with ⟨told, hw, hmm, hf⟩ | ⟨told, f, p, hw, hne, hmm, hf⟩
        · rw [hf]
          clear hrt hw hmm hf
          go_wp2_with fail
          refine HR.out.mono ?_
          rintro e w5 ⟨rfl, hb5⟩
          have HB5 := Aside0.mk (HB4.out.trans (hb5.mono HB4.out.size))
          clear hb5 HR HB4
          have HA := Aside0.mk (awake_any w5)
          go_wp2_with fail
          refine HA.out.mono ?_
          rintro e wz ⟨rfl, hbm⟩
          have HBz := Aside0.mk (HB5.out.trans (hbm.mono HB5.out.size))
          clear hbm HA
          go_wp2_with fail
          go_ret
          exact ⟨rfl, HBz.out⟩
        · rw [hf]
          by_cases hpn : p = []
          · subst hpn
            clear hrt hw hmm hf hne
            go_wp2_with fail
            refine HR.out.mono ?_
            rintro e w5 ⟨rfl, hb5⟩
            have HB5 := Aside0.mk (HB4.out.trans (hb5.mono HB4.out.size))
            clear hb5 HR HB4
            have HA := Aside0.mk (awake_any w5)
            go_wp2_with fail
            refine HA.out.mono ?_
            rintro e wz ⟨rfl, hbm⟩
            have HBz := Aside0.mk (HB5.out.trans (hbm.mono HB5.out.size))
            clear hbm HA
            go_wp2_with fail
            go_ret
            exact ⟨rfl, HBz.out⟩
          · have hpl : ((p.length : Int) == 0) = false := by simpa using hpn
            have HQ := Aside0.mk (And.intro hw (And.intro hmm (And.intro hne hpn)))
            obtain ⟨kn, hkn⟩ := numbers_same told (by have := HT.out hrt; rw [hw] at this; simp only at this; omega)
            have HKN := Aside0.mk hkn
            have HTL := Aside0.mk (show told.length ≤ 1600 by have := HT.out hrt; rwa [hw] at this)
            clear hrt hw hmm hf hne hkn hpn
            go_wp2_with fail
            refine HR.out.mono ?_
            rintro e w5 ⟨rfl, hb5⟩
            have HB5 := Aside0.mk (HB4.out.trans (hb5.mono HB4.out.size))
            have HI5 := Aside0.mk (And.intro (HI4.out.1.keep t hb5) (Kd.C_below HI4.out.2.1 hb5))
            clear hb5 HR HB4 HI4
            have HM := Aside0.mk (Merge_any t a w5 HI5.out.1 (fun h => Nat.le_trans (HT.out h) (by decide)))
            rw [HQ.out.2.1] at HM
            go_wp2_with fail
            refine HM.out.mono ?_
            rintro e w6 ⟨v6, rfl, hR, hb6⟩
            obtain ⟨At, ct, rfl⟩ := Kd.R_slice hR
            have hq := Kd.R_reads' hR
            have HB6 := Aside0.mk (HB5.out.trans (hb6.mono HB5.out.size))
            have HT6 := Aside0.mk (And.intro hq.2.2 hq.2.1)
            have HO := Aside0.mk (HOF.out.2 A2 c2 w6 (Kd.C_below HI5.out.2 hb6))
            clear hR hq hb6 HM HB5 HI5
            go_wp2_with fail
            refine HO.out.mono ?_
            rintro e w7 ⟨ps, ks, v, f0, vp, vk, qs, ht, rfl, hnb, hql, hb7⟩
            have HN7 := Aside0.mk (show OI w6 ps ks v f0 vp vk qs w7 from ⟨hnb, hb7⟩)
            have HTN := Aside0.mk (And.intro ht (And.intro hql (HP2.out ps ks v f0 ht)))
            clear ht hnb hql hb7 HO
            go_wp2_with fail
            go_loopw [16] (fun v16 wr => ∃ (i : Nat) (vp1 : Value), v16 = .int .i64 i ∧ i ≤ more.length ∧ Aside0 (OI w6 (ps ++ tellPs (more.take i)) ks v f0 vp1 vk qs wr)) (fun v16 _ => more.length - (intOf v16).toNat)
            case atStart => exact ⟨0, vp, rfl, Nat.zero_le _, ⟨by simpa [tellPs] using HN7.out⟩⟩
            case round =>
              clear HN7
              obtain ⟨i, vp1, rfl, hi, HN⟩ := hrel
              by_cases hlt : i < more.length
              · as_aux_lemma =>
                  obtain ⟨ad1, rfl, e0⟩ := Kd.at_int HL.out.2.2.2.2.2 (i : Int) (by omega) (by omega)
                  rw [Int.toNat_natCast, show rd more (i : Int) = more[i] by simp [rd, hlt]] at e0
                  obtain ⟨x, hx⟩ : ∃ x, x = more[i] := ⟨_, rfl⟩
                  rw [← hx] at e0
                  have HE := Aside0.mk (And.intro e0 (show ∃ h : i < more.length, x = more[i] from ⟨hlt, hx⟩))
                  have hbw := HB6.out.trans (HN.out.below.mono HB6.out.size)
                  have HBW := Aside0.mk hbw
                  clear e0 hx hbw
                  obtain ⟨Aq, cq, rfl⟩ := Kd.R_slice HN.out.nb.rp
                  obtain ⟨L, hL⟩ : ∃ L, L = (ps ++ tellPs (more.take i)).length := ⟨_, rfl⟩
                  rw [← hL] at HN
                  have HL2 := Aside0.mk hL
                  clear hL
                  go_wp2_with fail
                  have hs : wr.drew.heap[w6.heap.size]? = some (.cells #[.slice Aq L cq, vk, .int .i64 v, .int .i64 f0] 42 (0, 0)) ∧ Below w.heap.size w wr.drew := ⟨HN.out.nb.node, HBW.out.drew⟩
                  refine wp_region_seq2 (fun w' => w'.heap[w6.heap.size]? = some (.cells #[.slice Aq L cq, vk, .int .i64 v, .int .i64 f0] 42 (0, 0)) ∧ Below w.heap.size w w') [14] [.take 0, .take 1, .take 2, .take 3, .take 4, .take 5, .take 6, .take 7, .take 8, .take 9, .op 10, .op 11, .op 12, .op 13, .fin 14] (by kernel_rfl) (by kernel_rfl) rfl (by kernel_rfl) (panic_via (P := Try.prog) (fn := Try.f3) (R := fun e w' => e = .returned (.bool true) ∧ Below w.heap.size w w') (fun _ _ _ => rfl)) ?_
                  repeat (
                    (first
                      | (refine runSeq2_take (v := ?_) (by rfl) (by rfl) (fun w' hS => ?_) hs ?_
                         rotate_left
                         · (have d0 := blk_cell hS.1 0; have q0 := (hS.2.cell (World.block_lt_of_cell? w _ HE.out.1)).trans HE.out.1; go_simp; exact rfl))
                      | refine runSeq2_skip (by rfl) (by rfl) hs ?_)
                    (try simp only [Act.put, List.setIfInBounds_toArray, List.set_cons_zero, List.set_cons_succ]))
                  refine runSeq2_op (by rfl) (by rfl) (fun K hK => ?_)
                  go_simp
                  have hk1 := HN.out.nb.keep ((Below.refl wr.heap.size wr).drew.alloc (Nat.le_refl _) (.cells #[.bool false, .int .i64 x] 44))
                  have hb1 := hs.2.alloc hs.2.size (.cells #[.bool false, .int .i64 x] 44)
                  refine hK _ _ ⟨hk1.node, hb1⟩ ?_
                  clear hK K
                  refine runSeq2_op (by rfl) (by rfl) (fun K hK => ?_)
                  refine wp_append_rows k64 (Rr := k64.M (wr.drew.alloc (.cells #[.bool false, .int .i64 x] 44)) w6.heap.size (fun _ => False)) w6.heap.size rfl (.tmp 78) (.tmp 84) 39 44 (.agg #[(.bool false), (.int .i64 0)]) 16 rfl Try.underlying39 info44 rfl (by decide) (by decide) (.slice Aq L cq) (ps ++ tellPs (more.take i)) [⟨false, x⟩] _ _ _ (fun _ => True) (fun _ => False) rfl rfl hk1.rp (reads_one (alloc_blk _ _) (k64_mkM _ _ _ (⟨false, x⟩ : S64))) (fun _ _ h => h) (fun _ h => h.elim) (fun _ _ => trivial) (Nat.le_trans HN.out.below.size (by simp)) (by have := HTN.out.2.2; simp [tellPs]; omega) ?_
                  intro v1 w1 hR hbw hg hat
                  have hn1 := (hg.block _ (blk_lt hk1.node) (fun e => hk1.hp e.symm)).trans hk1.node
                  have hb2 := hb1.trans (hbw.mono HB6.out.size)
                  have hnb := hk1.pushP hR hg hat
                  have hbk := (HN.out.below.drew.alloc (Nat.le_trans HN.out.below.size (by simp)) (.cells #[.bool false, .int .i64 x] 44)).trans hbw
                  obtain ⟨A3, c3, rfl⟩ := Kd.R_slice hR
                  clear hR hbw hg hat hk1 hb1
                  rw [show (ps ++ tellPs (more.take i) ++ [(⟨false, x⟩ : S64)]).length = L + 1 by rw [List.length_append, HL2.out]; rfl] at hnb ⊢
                  have hnb := Aside0.mk hnb
                  have hbk := Aside0.mk hbk
                  have d0 := blk_cell hn1 0
                  have z0 := blk_frozen hn1 0
                  refine hK _ _ ⟨hn1, hb2⟩ ?_
                  clear hK K
                  refine runSeq2_op (by rfl) (by rfl) (fun K hK => ?_)
                  go_simp
                  refine hK _ _ ⟨hn1, hb2⟩ ?_
                  clear hK K
                  refine runSeq2_op (by rfl) (by rfl) (fun K hK => ?_)
                  go_simp
                  refine hK _ _ ⟨hn1, hb2⟩ ?_
                  clear hK K
                  refine runSeq2_fin (by rfl) (by rfl) (fun K hK => ?_)
                  go_simp
                  refine hK _ _ ?_
                  refine runSeq2_nil ?_
                  clear hK K
                  have hwj : wrap64 ((i : Int) + 1) = (i : Int) + 1 := by unfold wrap64; omega
                  go_wp2_with fail
                  obtain ⟨_, hx⟩ := HE.out.2
                  have hsn : ps ++ tellPs (more.take (i + 1)) = ps ++ tellPs (more.take i) ++ [⟨false, x⟩] := by
                    rw [List.append_assoc, List.take_succ_eq_append_getElem hlt, ← hx]; simp [tellPs]
                  exact ⟨⟨i + 1, .slice A3 (L + 1) c3, by simp [hwj], hlt, Aside0.mk ⟨by rw [hsn]; exact hnb.out, hbk.out.setCell (Nat.le_refl _) _⟩⟩, by first | exact meas_lt hlt | (rw [hwj]; exact meas_lt hlt)⟩
              · obtain rfl : i = more.length := by omega
                rw [List.take_length] at HN
                have n2 := blk_cell HN.out.nb.node 2
                have n3 := blk_cell HN.out.nb.node 3
                have z2 := blk_frozen HN.out.nb.node 2
                have z3 := blk_frozen HN.out.nb.node 3
                by_cases hf0 : fail = 0
                · subst hf0
                  go_upto_region 18 with fail
                  clear n2 n3 z2 z3
                  obtain ⟨wx, hwx⟩ : ∃ wx, wx = ((wr.setCell ⟨w6.heap.size, 2, none⟩ (.int .i64 value)).setCell ⟨w6.heap.size, 3, none⟩ (.int .i64 0)) := ⟨_, rfl⟩
                  rw [← hwx]
                  have hnx : NodeB none w6.heap.size w6.heap.size (ps ++ tellPs more) ks (value) (0) vp1 vk qs wx := by rw [hwx]; exact ((HN.out.nb.setV value).setF 0)
                  have hbx : Below w6.heap.size w6 wx := by rw [hwx]; exact ((HN.out.below.setCell (p := ⟨w6.heap.size, 2, none⟩) (Nat.le_refl _) (.int .i64 value)).setCell (p := ⟨w6.heap.size, 3, none⟩) (Nat.le_refl _) (.int .i64 0))
                  have hrt := HR0.out
                  rw [HTN.out.1] at hrt
                  have hwq := HQ.out.1
                  rw [HTN.out.1] at hwq
                  have hbe := behind hrt hwq HQ.out.2.2.2 HQ.out.2.2.1 more (value) (0) (.inl rfl)
                  have HM2 := Aside0.mk (Merge_any _ _ wx (hnx.own HTN.out.2.1).is (fun _ => by rw [hbe.2]; have := HTL.out; omega))
                  rw [hbe.1] at HM2
                  have HBX := Aside0.mk (And.intro (HB6.out.trans (hbx.mono HB6.out.size)) (And.intro (Kd.C_below HT6.out.1 hbx) HT6.out.2))
                  clear hnx hbx hrt hwq hbe hwx HN
                  go_wp2_with fail
                  refine HM2.out.mono ?_
                  rintro e wy ⟨v9, rfl, hR, hb9⟩
                  obtain ⟨A9, c9, rfl⟩ := Kd.R_slice hR
                  have hq := Kd.R_reads' hR
                  have HT9 := Aside0.mk (And.intro hq.2.2 hq.2.1)
                  have HBY := Aside0.mk (And.intro (HBX.out.1.trans (hb9.mono HBX.out.1.size)) (And.intro (Kd.C_below HBX.out.2.1 hb9) HBX.out.2.2))
                  clear hR hq hb9 HM2 HBX
                  have HNU := Aside0.mk (haymowlaw07_numbers.calls kn A9 c9 told At ct told true wy HT9.out.1 HT9.out.2 HBY.out.2.1 HBY.out.2.2 HKN.out)
                  go_wp2_with fail
                  refine HNU.out.mono ?_
                  rintro e wv ⟨rfl, hd⟩
                  have HBV := Aside0.mk (HBY.out.1.trans ((below_drawn hd).mono HBY.out.1.size))
                  clear hd HNU HBY
                  have HA := Aside0.mk (awake_any wv)
                  go_wp2_with fail
                  refine HA.out.mono ?_
                  rintro e wz ⟨rfl, hbm⟩
                  have HBz := Aside0.mk (HBV.out.trans (hbm.mono HBV.out.size))
                  clear hbm HA
                  go_wp2_with fail
                  go_ret
                  exact ⟨rfl, HBz.out⟩
                · have hf1 : (fail != 0) = true := by simp [hf0]
                  clear hf0
                  go_upto_region 18 with fail
                  clear n2 n3 z2 z3
                  obtain ⟨wx, hwx⟩ : ∃ wx, wx = (((wr.setCell ⟨w6.heap.size, 2, none⟩ (.int .i64 value)).setCell ⟨w6.heap.size, 3, none⟩ (.int .i64 fail)).setCell ⟨w6.heap.size, 2, none⟩ (.int .i64 0)) := ⟨_, rfl⟩
                  rw [← hwx]
                  have hnx : NodeB none w6.heap.size w6.heap.size (ps ++ tellPs more) ks (0) (fail) vp1 vk qs wx := by rw [hwx]; exact (((HN.out.nb.setV value).setF fail).setV 0)
                  have hbx : Below w6.heap.size w6 wx := by rw [hwx]; exact (((HN.out.below.setCell (p := ⟨w6.heap.size, 2, none⟩) (Nat.le_refl _) (.int .i64 value)).setCell (p := ⟨w6.heap.size, 3, none⟩) (Nat.le_refl _) (.int .i64 fail)).setCell (p := ⟨w6.heap.size, 2, none⟩) (Nat.le_refl _) (.int .i64 0))
                  have hrt := HR0.out
                  rw [HTN.out.1] at hrt
                  have hwq := HQ.out.1
                  rw [HTN.out.1] at hwq
                  have hbe := behind hrt hwq HQ.out.2.2.2 HQ.out.2.2.1 more (0) (fail) (.inr rfl)
                  have HM2 := Aside0.mk (Merge_any _ _ wx (hnx.own HTN.out.2.1).is (fun _ => by rw [hbe.2]; have := HTL.out; omega))
                  rw [hbe.1] at HM2
                  have HBX := Aside0.mk (And.intro (HB6.out.trans (hbx.mono HB6.out.size)) (And.intro (Kd.C_below HT6.out.1 hbx) HT6.out.2))
                  clear hnx hbx hrt hwq hbe hwx HN
                  go_wp2_with fail
                  refine HM2.out.mono ?_
                  rintro e wy ⟨v9, rfl, hR, hb9⟩
                  obtain ⟨A9, c9, rfl⟩ := Kd.R_slice hR
                  have hq := Kd.R_reads' hR
                  have HT9 := Aside0.mk (And.intro hq.2.2 hq.2.1)
                  have HBY := Aside0.mk (And.intro (HBX.out.1.trans (hb9.mono HBX.out.1.size)) (And.intro (Kd.C_below HBX.out.2.1 hb9) HBX.out.2.2))
                  clear hR hq hb9 HM2 HBX
                  have HNU := Aside0.mk (haymowlaw07_numbers.calls kn A9 c9 told At ct told true wy HT9.out.1 HT9.out.2 HBY.out.2.1 HBY.out.2.2 HKN.out)
                  go_wp2_with fail
                  refine HNU.out.mono ?_
                  rintro e wv ⟨rfl, hd⟩
                  have HBV := Aside0.mk (HBY.out.1.trans ((below_drawn hd).mono HBY.out.1.size))
                  clear hd HNU HBY
                  have HA := Aside0.mk (awake_any wv)
                  go_wp2_with fail
                  refine HA.out.mono ?_
                  rintro e wz ⟨rfl, hbm⟩
                  have HBz := Aside0.mk (HBV.out.trans (hbm.mono HBV.out.size))
                  clear hbm HA
                  go_wp2_with fail
                  go_ret
                  exact ⟨rfl, HBz.out⟩
structure S25 where
  f0 : List S61
  f1 : List Int
  f2 : Int
  f3 : Int
def k25 : Kd S25 := Kd.iso (Kd.pair (Kd.slice 61 k61) (Kd.pair (Kd.slice 2 (Kd.int .i64)) (Kd.pair (Kd.int .i64) (Kd.int .u8)))) (fun x : S25 => (x.f0, x.f1, x.f2, x.f3))
theorem k25_open {w : World} {x : S25} {cs : List Value} (h : k25.K w x cs) : ∃ A0 c0 A1 c1, cs = [.slice A0 x.f0.length c0, .slice A1 x.f1.length c1, .int .i64 x.f2, .int .u8 x.f3] ∧ x.f0.length ≤ c0 ∧ k61.C w A0 x.f0.length x.f0 ∧ x.f1.length ≤ c1 ∧ (Kd.int .i64).C w A1 x.f1.length x.f1 := by
  obtain ⟨_, _, rfl, ⟨A0, c0, rfl, h1, h2⟩, ⟨_, _, rfl, ⟨A1, c1, rfl, h3, h4⟩, ⟨_, _, rfl, rfl, rfl⟩⟩⟩ := h
  exact ⟨A0, c0, A1, c1, rfl, h1, h2, h3, h4⟩
def haymowlaw07_MergeBehind.f (l0 : List S61) (l1 : List Int) (a2 a3 : Int) : Option Bool := if l0.all (fun x => decide (0 ≤ x.f3 ∧ x.f3 ≤ 255)) = true ∧ 0 ≤ a3 ∧ a3 ≤ 255 then some true else none
theorem haymowlaw07_MergeBehind.calls (A0 : Option Addr) (c0 : Nat) (l0 : List S61) (A1 : Option Addr) (c1 : Nat) (l1 : List Int) (a2 a3 : Int) (r : Bool) (w : World) (hr0 : k61.C w A0 l0.length l0) (hc0 : l0.length ≤ c0) (hr1 : (Kd.int .i64).C w A1 l1.length l1) (hc1 : l1.length ≤ c1) (h : haymowlaw07_MergeBehind.f l0 l1 a2 a3 = some r) :
    Calls Try.prog 3 #[.agg #[.slice A0 l0.length c0, .slice A1 l1.length c1, .int .i64 a2, .int .u8 a3]] w fun e w' => e = .returned (.bool r) ∧ Below w.heap.size w w' := by
  unfold haymowlaw07_MergeBehind.f at h
  split at h
  · rename_i ha
    obtain rfl : true = r := Option.some.inj h
    exact mbehind_any A0 c0 l0 A1 c1 l1 a2 a3 w hr0 hc0 hr1 (fun x hx => by simpa using List.all_eq_true.1 ha.1 x hx) ha.2
  · cases h
#print axioms haymowlaw07_MergeBehind.calls
end Go.Proofs.Ytiplpkjjplicjaa.H
