/- MergeTells, walked. -/
import Derived.Test.YtiplpkjjplicjaaMFirst
import Derived.Test.YtiplpkjjplicjaaMRef
import Derived.Test.YtiplpkjjplicjaaMPlain2
set_option linter.unusedVariables false
set_option linter.unusedSimpArgs false
namespace Go.Proofs.Ytiplpkjjplicjaa.H
open Go.RowKit Go.Hay Go.Proofs.YtiplpkjjplicjaaW.PrintWords Go.Proofs.YtiplpkjjplicjaaW.PrintLast Go.Proofs.YtiplpkjjplicjaaW.PrintMore
theorem told_bad {t : T} (h : rightT t 0 = false) : mergeP t = ([], 0, 0, 4) ∧ firstP t = ([], false) ∧ manyP t = (0, 0) := by
  unfold mergeP firstP manyP
  rw [h]; exact ⟨rfl, rfl, rfl⟩
theorem told_good {t : T} (h : rightT t 0 = true) : (∃ told, walkT t [] = (told, 0, none) ∧ mergeP t = (told, valT t, 0, 0) ∧ firstP t = ([], false)) ∨ (∃ told f p, walkT t [] = (told, f, some p) ∧ f ≠ 0 ∧ mergeP t = (told, 0, f, 0) ∧ firstP t = (p, true)) := by
  unfold mergeP firstP
  rw [if_pos h, if_pos h]
  have hf := walkT_fits t []
  unfold Fits at hf
  generalize walkT t [] = R at hf ⊢
  obtain ⟨told, f, q⟩ := R
  cases q with
  | none =>
    have : f = 0 := hf.2 rfl
    subst this
    exact .inl ⟨told, rfl, rfl, rfl⟩
  | some p =>
    have hne : f ≠ 0 := fun e => by have := hf.1 e; cases this
    exact .inr ⟨told, f, p, rfl, hne, by simp [hne], rfl⟩
theorem nums_addr {k : IntKind} {e base : Nat} {w : World} {ok : Nat → Prop} {A : Option Addr} {n c : Nat} {xs : List Int} (h : (Kd.int k).R e w base ok (.slice A n c) xs) : ∀ ad, A = some ad → ad.block < w.heap.size := by
  intro ad e
  obtain ⟨_, inner, ⟨_, h2⟩, _⟩ := h
  rcases h2 with ⟨h2, _⟩ | ⟨g, cap, cur, h3, _, h5, _⟩
  · injection h2 with h2; rw [h2] at e; cases e
  · injection h3 with h4; rw [h4] at e; cases e; exact blk_lt h5
/-- what is kept till the end. -/
structure TW (w : World) (bx : Nat) (At At2 Ap1 Ap2 : Option Addr) (ct ct2 cp1 cp2 : Nat) (told p : List Int) (val f : Int) (is : Bool) (w' : World) : Prop where
  below : Below w.heap.size w w'
  box : w'.heap[bx]? = some (.cells #[.slice At2 told.length ct2, .int .i64 val, .int .i64 f, .slice Ap2 p.length cp2, .bool is] 54 (0, 0))
  t1 : PathC w' At ct told
  t2 : PathC w' At2 ct2 told
  p1 : PathC w' Ap1 cp1 p
  p2 : PathC w' Ap2 cp2 p
  lt : ∀ ad, (At = some ad ∨ At2 = some ad ∨ Ap1 = some ad ∨ Ap2 = some ad) → ad.block < bx
theorem TW.keep {w : World} {bx : Nat} {At At2 Ap1 Ap2 : Option Addr} {ct ct2 cp1 cp2 : Nat} {told p : List Int} {val f : Int} {is : Bool} {w' w'' : World} (h : TW w bx At At2 Ap1 Ap2 ct ct2 cp1 cp2 told p val f is w') (k : Below w'.heap.size w' w'') : TW w bx At At2 Ap1 Ap2 ct ct2 cp1 cp2 told p val f is w'' :=
  ⟨h.below.trans (k.mono h.below.size), (k.block _ (blk_lt h.box)).trans h.box, h.t1.below k, h.t2.below k, h.p1.below k, h.p2.below k, h.lt⟩
theorem TW.zero {w : World} {bx : Nat} {At At2 Ap1 Ap2 : Option Addr} {ct ct2 cp1 cp2 : Nat} {told p : List Int} {val f : Int} {is : Bool} {w' : World} (h : TW w bx At At2 Ap1 Ap2 ct ct2 cp1 cp2 told p val f is w') (hb : w.heap.size ≤ bx) : TW w bx At At2 Ap1 Ap2 ct ct2 cp1 cp2 told p 0 f is (w'.setCell ⟨bx, 1, none⟩ (.int .i64 0)) := by
  have hk : ∀ ad : Addr, ad.block < bx → (w'.setCell ⟨bx, 1, none⟩ (.int .i64 0)).heap[ad.block]? = w'.heap[ad.block]? := fun ad hl => Below.heap_setCell w' ⟨bx, 1, none⟩ _ ad.block (by simp; omega)
  exact ⟨h.below.setCell hb _, blk_set h.box 1 _, ⟨C_at (fun x => x) h.t1.1 (fun ad e => hk ad (h.lt ad (.inl e))), h.t1.2⟩, ⟨C_at (fun x => x) h.t2.1 (fun ad e => hk ad (h.lt ad (.inr (.inl e)))), h.t2.2⟩, ⟨C_at (fun x => x) h.p1.1 (fun ad e => hk ad (h.lt ad (.inr (.inr (.inl e))))), h.p1.2⟩, ⟨C_at (fun x => x) h.p2.1 (fun ad e => hk ad (h.lt ad (.inr (.inr (.inr e))))), h.p2.2⟩, h.lt⟩
set_option maxRecDepth 100000 in
set_option maxHeartbeats 8000000 in
theorem mtells_any (A0 : Option Addr) (c0 : Nat) (l : List S61) (w : World) (hC : k61.C w A0 l.length l) (hc : l.length ≤ c0) (hr : ∀ x ∈ l, 0 ≤ x.f3 ∧ x.f3 ≤ 255) :
    Calls Try.prog 7 #[.slice A0 l.length c0] w fun e w' => e = .returned (.bool true) ∧ Below w.heap.size w w' := by
  obtain ⟨kl, b, hkl, hb⟩ := light_some l
  have HL := Aside0.mk (And.intro hkl (And.intro hC (And.intro hc (And.intro hr hb))))
  clear hkl hC hc hr hb
  cases b with
  | false =>
    go_enter Try.func7, Try.ntmps7
    go_wp2_with fail
    refine (haymowlaw07_light.calls kl A0 c0 l false w HL.out.2.1 HL.out.2.2.1 HL.out.1).mono ?_
    rintro e w1 ⟨rfl, hd⟩
    have HB1 := Aside0.mk (below_drawn hd)
    clear hd
    go_wp2_with fail
    go_ret
    exact ⟨rfl, HB1.out⟩
  | true =>
    obtain ⟨h0, h40, hp⟩ := HL.out.2.2.2.2 rfl
    have hG := built_good l h40 hp
    obtain ⟨kr, hkr⟩ := (right_plain hG l.length 0 0 (by rw [builtP_length]; omega) (by rw [builtP_length]; exact h0) (Int.le_refl _) (by omega)).rounds
    have hsz := built_size l h40 hp h0 l.length
    have hmany : rightT (treeN (builtP l) l.length 0) 0 = true → ∃ km, haymowref07_Many.f km (builtP l) ((0 : Nat) : Int) = some (nodesT (treeN (builtP l) l.length 0), numsT (treeN (builtP l) l.length 0)) := fun h =>
      (many_plain hG l.length 0 0 (by rw [builtP_length]; omega) (by rw [builtP_length]; exact h0) h (by omega) (by omega)).rounds
    have href := ref_any (builtP l) hG l.length 0 (by rw [builtP_length]; omega) (by rw [builtP_length]; exact h0)
    have hof := of_any (builtP l) hG l.length 0 (by rw [builtP_length]; omega) (by rw [builtP_length]; exact h0)
    have HG := Aside0.mk (And.intro h0 (And.intro h40 hp))
    have HT := Aside0.mk (And.intro hsz (built_told l h40 hp h0 l.length))
    have hlen := builtP_length l
    have HBU := Aside0.mk (fun w1 h => built_any A0 c0 l w1 h h40 HL.out.2.2.2.1)
    rw [← hlen] at HBU
    have HLEN := Aside0.mk hlen
    have hn0 : ((0 : Nat) : Int) = 0 := rfl
    rw [hn0] at hkr hmany
    unfold OfOk at hof
    rw [hn0] at hof
    unfold RefOk at href
    rw [hn0] at href
    generalize treeN (builtP l) l.length 0 = t at hkr hmany href hof HT
    generalize builtP l = xs at hkr hmany href hof HBU HLEN
    have HKR := Aside0.mk hkr
    have HMANY := Aside0.mk hmany
    have HREF := Aside0.mk href
    have HOF := Aside0.mk hof
    clear hkr hmany href hof hsz h0 h40 hp hG hlen hn0
    go_enter Try.func7, Try.ntmps7
    go_wp2_with fail
    refine (haymowlaw07_light.calls kl A0 c0 l true w HL.out.2.1 HL.out.2.2.1 HL.out.1).mono ?_
    rintro e w1 ⟨rfl, hd⟩
    have HB1 := Aside0.mk (below_drawn hd)
    clear hd
    have HX := Aside0.mk (HBU.out w1 (by rw [HLEN.out]; exact Kd.C_below HL.out.2.1 HB1.out))
    rw [HLEN.out] at HX
    go_wp2_with fail
    refine HX.out.mono ?_
    rintro e w2 ⟨A2, c2, rfl, hc2, hC2, hb2⟩
    rw [← HLEN.out] at hC2 hc2 ⊢
    have HB2 := Aside0.mk (HB1.out.trans (hb2.mono HB1.out.size))
    have HX2 := Aside0.mk (HOF.out A2 c2 w2 hC2)
    have HC2 := Aside0.mk hC2
    have HG2 := Aside0.mk (And.intro hc2 HLEN.out)
    clear hc2 hC2 hb2 HX HB1
    go_wp2_with fail
    refine HX2.out.mono ?_
    rintro e w3 ⟨a, rfl, hown, hb3⟩
    have HB3 := Aside0.mk (HB2.out.trans (hb3.mono HB2.out.size))
    have HI3 := Aside0.mk (And.intro hown.is (Kd.C_below HC2.out hb3))
    clear hown hb3 HX2 HB2 HC2
    have HM := Aside0.mk (Merge_any t a w3 HI3.out.1 (fun h => Nat.le_trans (HT.out.2 h) (by decide)))
    go_wp2_with fail
    refine HM.out.mono ?_
    rintro e w4 ⟨v4, rfl, hR, hb4⟩
    cases hrt : rightT t 0 with
    | false =>
      have HR0 := Aside0.mk hrt
      have HQ := Aside0.mk (And.intro trivial (told_bad hrt))
      rw [hrt] at HKR
      clear hrt
      rw [HQ.out.2.1] at hR ⊢
      obtain ⟨At, ct, rfl⟩ := Kd.R_slice hR
      have hq := Kd.R_reads' hR
      have HB4 := Aside0.mk (HB3.out.trans (hb4.mono HB3.out.size))
      have HK4 := Aside0.mk (And.intro HI3.out.1 hb4)
      have HI4 := Aside0.mk (And.intro (HI3.out.1.keep t hb4) (Kd.C_below HI3.out.2 hb4))
      have HT4 := Aside0.mk (And.intro hq.2.2 hq.2.1)
      have HLA := Aside0.mk (And.intro (nums_addr hR) HB3.out.size)
      have HF := Aside0.mk (First_any t a w4 HI4.out.1 (fun h => Nat.le_trans (HT.out.2 h) (by decide)))
      clear hR hq hb4 HM HB3 HI3
      go_wp2_with fail
      refine HF.out.mono ?_
      rintro e w5 ⟨Ap1, cp1, rfl, hp5, hb5⟩
      rw [HQ.out.2.2.1] at hp5 ⊢
      have HB5 := Aside0.mk (HB4.out.trans (hb5.mono HB4.out.size))
      have HK5 := Aside0.mk (And.intro HK4.out.1 (HK4.out.2.trans (hb5.mono HK4.out.2.size)))
      have HI5 := Aside0.mk (And.intro (HI4.out.1.keep t hb5) (Kd.C_below HI4.out.2 hb5))
      have HT5 := Aside0.mk (And.intro (Kd.C_below HT4.out.1 hb5) HT4.out.2)
      have HP5 := Aside0.mk (And.intro hp5.1 hp5.len)
      have HLB := Aside0.mk (And.intro hp5.2.2 hb5.size)
      have HN := Aside0.mk (Many_any t a w5 HI5.out.1 (by have := HT.out.1.1; omega) (by have := HT.out.1.2; omega))
      clear hp5 hb5 HF HB4 HI4 HT4
      go_wp2_with fail
      refine HN.out.mono ?_
      rintro e w6 ⟨rfl, hb6⟩
      rw [HQ.out.2.2.2]
      have HB6 := Aside0.mk (HB5.out.trans (hb6.mono HB5.out.size))
      have HK6 := Aside0.mk (And.intro HK5.out.1 (HK5.out.2.trans (hb6.mono HK5.out.2.size)))
      have HI6 := Aside0.mk (And.intro (HI5.out.1.keep t hb6) (Kd.C_below HI5.out.2 hb6))
      have HT6 := Aside0.mk (And.intro (Kd.C_below HT5.out.1 hb6) HT5.out.2)
      have HP6 := Aside0.mk (And.intro (Kd.C_below HP5.out.1 hb6) HP5.out.2)
      have HS6 := Aside0.mk hb6.size
      clear hb6 HN HB5 HI5 HT5 HP5
      have HR := Aside0.mk (haymowref07_Right.calls kr A2 c2 xs 0 0 false w6 HI6.out.2 HG2.out.1 HKR.out)
      go_wp2_with fail
      refine HR.out.mono ?_
      rintro e w7 ⟨rfl, hb7⟩
      have HB7 := Aside0.mk (HB6.out.trans (hb7.mono HB6.out.size))
      have HK7 := Aside0.mk (And.intro HK6.out.1 (HK6.out.2.trans (hb7.mono HK6.out.2.size)))
      clear HK4 HK5 HK6
      have HI7 := Aside0.mk (And.intro (HI6.out.1.keep t hb7) (Kd.C_below HI6.out.2 hb7))
      have HT7 := Aside0.mk (And.intro (Kd.C_below HT6.out.1 hb7) HT6.out.2)
      have HP7 := Aside0.mk (And.intro (Kd.C_below HP6.out.1 hb7) HP6.out.2)
      have HS7 := Aside0.mk hb7.size
      clear hb7 HR HB6 HI6 HT6 HP6
      have HX := Aside0.mk (Right_any t a w7 HI7.out.1)
      go_wp2_with fail
      refine HX.out.mono ?_
      rintro e w8 ⟨rfl, hb⟩
      rw [HR0.out]
      have HB8 := Aside0.mk (HB7.out.trans (hb.mono HB7.out.size))
      clear hb HX HB7
      have HA := Aside0.mk (awake_any w8)
      go_wp2_with fail
      refine HA.out.mono ?_
      rintro e wz ⟨rfl, hbm⟩
      have HBz := Aside0.mk (HB8.out.trans (hbm.mono HB8.out.size))
      clear hbm HA
      go_wp2_with fail
      go_ret
      exact ⟨rfl, HBz.out⟩
    | true =>
      have HR0 := Aside0.mk hrt
      rw [hrt] at HKR
      obtain ⟨km, hkm⟩ := HMANY.out hrt
      have HKM := Aside0.mk hkm
      have hmp : manyP t = (nodesT t, numsT t) := by unfold manyP; rw [if_pos hrt]
      rcases told_good hrt with ⟨told, hw, hm, hf⟩ | ⟨told, f, p, hw, hne, hm, hf⟩
      · have HQ := Aside0.mk (And.intro hw (And.intro hm (And.intro hf hmp)))
        obtain ⟨kn, hkn⟩ := numbers_same told (by have := HT.out.2 hrt; rw [hw] at this; simp only at this; omega)
        have HKN := Aside0.mk hkn
        obtain ⟨kc, hkc⟩ := compare_same ([] : List Int) (by simp)
        have HKC := Aside0.mk hkc
        clear hrt hkm hmp hw hm hf hkn hkc
        rw [HQ.out.2.1] at hR ⊢
        obtain ⟨At, ct, rfl⟩ := Kd.R_slice hR
        have hq := Kd.R_reads' hR
        have HB4 := Aside0.mk (HB3.out.trans (hb4.mono HB3.out.size))
        have HK4 := Aside0.mk (And.intro HI3.out.1 hb4)
        have HI4 := Aside0.mk (And.intro (HI3.out.1.keep t hb4) (Kd.C_below HI3.out.2 hb4))
        have HT4 := Aside0.mk (And.intro hq.2.2 hq.2.1)
        have HLA := Aside0.mk (And.intro (nums_addr hR) HB3.out.size)
        have HF := Aside0.mk (First_any t a w4 HI4.out.1 (fun h => Nat.le_trans (HT.out.2 h) (by decide)))
        clear hR hq hb4 HM HB3 HI3
        go_wp2_with fail
        refine HF.out.mono ?_
        rintro e w5 ⟨Ap1, cp1, rfl, hp5, hb5⟩
        rw [HQ.out.2.2.1] at hp5 ⊢
        have HB5 := Aside0.mk (HB4.out.trans (hb5.mono HB4.out.size))
        have HK5 := Aside0.mk (And.intro HK4.out.1 (HK4.out.2.trans (hb5.mono HK4.out.2.size)))
        have HI5 := Aside0.mk (And.intro (HI4.out.1.keep t hb5) (Kd.C_below HI4.out.2 hb5))
        have HT5 := Aside0.mk (And.intro (Kd.C_below HT4.out.1 hb5) HT4.out.2)
        have HP5 := Aside0.mk (And.intro hp5.1 hp5.len)
        have HLB := Aside0.mk (And.intro hp5.2.2 hb5.size)
        have HN := Aside0.mk (Many_any t a w5 HI5.out.1 (by have := HT.out.1.1; omega) (by have := HT.out.1.2; omega))
        clear hp5 hb5 HF HB4 HI4 HT4
        go_wp2_with fail
        refine HN.out.mono ?_
        rintro e w6 ⟨rfl, hb6⟩
        rw [HQ.out.2.2.2]
        have HB6 := Aside0.mk (HB5.out.trans (hb6.mono HB5.out.size))
        have HK6 := Aside0.mk (And.intro HK5.out.1 (HK5.out.2.trans (hb6.mono HK5.out.2.size)))
        have HI6 := Aside0.mk (And.intro (HI5.out.1.keep t hb6) (Kd.C_below HI5.out.2 hb6))
        have HT6 := Aside0.mk (And.intro (Kd.C_below HT5.out.1 hb6) HT5.out.2)
        have HP6 := Aside0.mk (And.intro (Kd.C_below HP5.out.1 hb6) HP5.out.2)
        have HS6 := Aside0.mk hb6.size
        clear hb6 HN HB5 HI5 HT5 HP5
        have HR := Aside0.mk (haymowref07_Right.calls kr A2 c2 xs 0 0 true w6 HI6.out.2 HG2.out.1 HKR.out)
        go_wp2_with fail
        refine HR.out.mono ?_
        rintro e w7 ⟨rfl, hb7⟩
        have HB7 := Aside0.mk (HB6.out.trans (hb7.mono HB6.out.size))
        have HK7 := Aside0.mk (And.intro HK6.out.1 (HK6.out.2.trans (hb7.mono HK6.out.2.size)))
        clear HK4 HK5 HK6
        have HI7 := Aside0.mk (And.intro (HI6.out.1.keep t hb7) (Kd.C_below HI6.out.2 hb7))
        have HT7 := Aside0.mk (And.intro (Kd.C_below HT6.out.1 hb7) HT6.out.2)
        have HP7 := Aside0.mk (And.intro (Kd.C_below HP6.out.1 hb7) HP6.out.2)
        have HS7 := Aside0.mk hb7.size
        clear hb7 HR HB6 HI6 HT6 HP6
        have HM2 := Aside0.mk (HREF.out A2 c2 none 0 [] 0 w7 HI7.out.2 ⟨Kd.C_nil _ _, Nat.le_refl _⟩ (fun ad e => by cases e) HR0.out (Int.le_refl _) (Nat.le_refl _) (Nat.le_trans (HT.out.2 HR0.out) (by decide)))
        rw [HQ.out.1] at HM2
        go_wp2_with fail
        refine HM2.out.mono ?_
        rintro e w8 ⟨v8, rfl, hb8, At2, ct2, val, Ap2, cp2, hT8⟩
        have hv8 := hT8.ans
        subst hv8
        have hq8 := Kd.R_reads' hT8.told
        have HV := Aside0.mk hT8.val
        have hb8' := hb8.alloc hb8.size (.cells #[.slice At2 told.length ct2, .int .i64 val, .int .i64 0, .slice Ap2 (([] : List Int)).length cp2, .bool false] 54)
        have hba := (Below.refl w8.heap.size w8).alloc (Nat.le_refl _) (.cells #[.slice At2 told.length ct2, .int .i64 val, .int .i64 0, .slice Ap2 (([] : List Int)).length cp2, .bool false] 54)
        have HW8 := Aside0.mk (show TW w w8.heap.size At At2 Ap1 Ap2 ct ct2 cp1 cp2 told ([] : List Int) val 0 false _ from ⟨HB7.out.trans (hb8'.mono HB7.out.size), alloc_blk w8 _, ⟨Kd.C_below HT7.out.1 hb8', HT7.out.2⟩, ⟨Kd.C_below hq8.2.2 hba, hq8.2.1⟩, ⟨Kd.C_below HP7.out.1 hb8', HP7.out.2⟩, hT8.first.below hba, fun ad e => by
            have q1 := HS6.out; have q2 := HS7.out; have q3 := hb8.size; have q4 := HLB.out.2
            rcases e with e | e | e | e
            · have := HLA.out.1 ad e; omega
            · exact nums_addr hT8.told ad e
            · have := HLB.out.1 ad e; omega
            · exact (hT8.own ad e).2⟩)
        have HI8 := Aside0.mk (And.intro (HI7.out.1.keep t hb8') (Kd.C_below HI7.out.2 hb8'))
        have HK8 := Aside0.mk (And.intro HK7.out.1 (And.intro (HK7.out.2.trans (hb8'.mono HK7.out.2.size)) (Nat.le_trans HK7.out.2.size hb8.size)))
        clear HK7
        have HWB := Aside0.mk (Nat.le_trans HB7.out.size hb8.size)
        clear hT8 hq8 hb8 hb8' hba HM2 HB7 HT7 HP7 HI7
        have hv := HV.out rfl
        subst hv
        have HN2 := Aside0.mk (haymowref07_Many.calls km A2 c2 xs 0 (nodesT t) (numsT t) _ HI8.out.2 HG2.out.1 HKM.out)
        go_wp2_with fail
        refine HN2.out.mono ?_
        rintro e w9 ⟨rfl, hd⟩
        have HW9 := Aside0.mk (HW8.out.keep (below_drawn hd))
        have HI9 := Aside0.mk (HI8.out.1.keep t (below_drawn hd))
        clear hd HN2 HW8 HI8
        have b2 := blk_cell HW9.out.box 2
        have HX := Aside0.mk (Right_any t a w9 HI9.out)
        go_wp2_with fail
        refine HX.out.mono ?_
        rintro e wr1 ⟨rfl, hb⟩
        rw [HR0.out]
        have HW1 := Aside0.mk (HW9.out.keep hb)
        clear hb HX
        have c0' := blk_cell HW1.out.box 0
        have HN := Aside0.mk (haymowlaw07_numbers.calls kn At ct told At2 ct2 told true wr1 HW1.out.t1.1 HW1.out.t1.2 HW1.out.t2.1 HW1.out.t2.2 HKN.out)
        go_wp2_with fail
        refine HN.out.mono ?_
        rintro e wr2 ⟨rfl, hd⟩
        have HW2 := Aside0.mk (HW1.out.keep (below_drawn hd))
        clear hd HN c0'
        have c1' := blk_cell HW2.out.box 1
        have c2' := blk_cell HW2.out.box 2
        have c3' := blk_cell HW2.out.box 3
        have c4' := blk_cell HW2.out.box 4
        have HC := Aside0.mk (haymowref05_Compare.calls kc Ap1 cp1 (([] : List Int)) Ap2 cp2 (([] : List Int)) 0 wr2 HW2.out.p1.1 HW2.out.p1.2 HW2.out.p2.1 HW2.out.p2.2 HKC.out)
        go_wp2_with fail
        refine HC.out.mono ?_
        rintro e wr3 ⟨rfl, hd⟩
        have HW3 := Aside0.mk (HW2.out.below.trans ((below_drawn hd).mono HW2.out.below.size))
        clear hd HC c1' c2' c3' c4'
        have HA := Aside0.mk (awake_any wr3)
        go_wp2_with fail
        refine HA.out.mono ?_
        rintro e wz ⟨rfl, hbm⟩
        have HBz := Aside0.mk (HW3.out.trans (hbm.mono HW3.out.size))
        clear hbm HA
        go_wp2_with fail
        go_ret
        exact ⟨rfl, HBz.out⟩
      · have HQ := Aside0.mk (And.intro hw (And.intro hm (And.intro hf hmp)))
        obtain ⟨kn, hkn⟩ := numbers_same told (by have := HT.out.2 hrt; rw [hw] at this; simp only at this; omega)
        have HKN := Aside0.mk hkn
        have hne' : (f != 0) = true := by simp [hne]
        clear hne hrt hkm hmp hw hm hf hkn
        rw [HQ.out.2.1] at hR ⊢
        obtain ⟨At, ct, rfl⟩ := Kd.R_slice hR
        have hq := Kd.R_reads' hR
        have HB4 := Aside0.mk (HB3.out.trans (hb4.mono HB3.out.size))
        have HK4 := Aside0.mk (And.intro HI3.out.1 hb4)
        have HI4 := Aside0.mk (And.intro (HI3.out.1.keep t hb4) (Kd.C_below HI3.out.2 hb4))
        have HT4 := Aside0.mk (And.intro hq.2.2 hq.2.1)
        have HLA := Aside0.mk (And.intro (nums_addr hR) HB3.out.size)
        have HF := Aside0.mk (First_any t a w4 HI4.out.1 (fun h => Nat.le_trans (HT.out.2 h) (by decide)))
        clear hR hq hb4 HM HB3 HI3
        go_wp2_with fail
        refine HF.out.mono ?_
        rintro e w5 ⟨Ap1, cp1, rfl, hp5, hb5⟩
        rw [HQ.out.2.2.1] at hp5 ⊢
        have HB5 := Aside0.mk (HB4.out.trans (hb5.mono HB4.out.size))
        have HK5 := Aside0.mk (And.intro HK4.out.1 (HK4.out.2.trans (hb5.mono HK4.out.2.size)))
        have HI5 := Aside0.mk (And.intro (HI4.out.1.keep t hb5) (Kd.C_below HI4.out.2 hb5))
        have HT5 := Aside0.mk (And.intro (Kd.C_below HT4.out.1 hb5) HT4.out.2)
        have HP5 := Aside0.mk (And.intro hp5.1 hp5.len)
        have HLB := Aside0.mk (And.intro hp5.2.2 hb5.size)
        have HN := Aside0.mk (Many_any t a w5 HI5.out.1 (by have := HT.out.1.1; omega) (by have := HT.out.1.2; omega))
        clear hp5 hb5 HF HB4 HI4 HT4
        go_wp2_with fail
        refine HN.out.mono ?_
        rintro e w6 ⟨rfl, hb6⟩
        rw [HQ.out.2.2.2]
        have HB6 := Aside0.mk (HB5.out.trans (hb6.mono HB5.out.size))
        have HK6 := Aside0.mk (And.intro HK5.out.1 (HK5.out.2.trans (hb6.mono HK5.out.2.size)))
        have HI6 := Aside0.mk (And.intro (HI5.out.1.keep t hb6) (Kd.C_below HI5.out.2 hb6))
        have HT6 := Aside0.mk (And.intro (Kd.C_below HT5.out.1 hb6) HT5.out.2)
        have HP6 := Aside0.mk (And.intro (Kd.C_below HP5.out.1 hb6) HP5.out.2)
        have HS6 := Aside0.mk hb6.size
        clear hb6 HN HB5 HI5 HT5 HP5
        have HR := Aside0.mk (haymowref07_Right.calls kr A2 c2 xs 0 0 true w6 HI6.out.2 HG2.out.1 HKR.out)
        go_wp2_with fail
        refine HR.out.mono ?_
        rintro e w7 ⟨rfl, hb7⟩
        have HB7 := Aside0.mk (HB6.out.trans (hb7.mono HB6.out.size))
        have HK7 := Aside0.mk (And.intro HK6.out.1 (HK6.out.2.trans (hb7.mono HK6.out.2.size)))
        clear HK4 HK5 HK6
        have HI7 := Aside0.mk (And.intro (HI6.out.1.keep t hb7) (Kd.C_below HI6.out.2 hb7))
        have HT7 := Aside0.mk (And.intro (Kd.C_below HT6.out.1 hb7) HT6.out.2)
        have HP7 := Aside0.mk (And.intro (Kd.C_below HP6.out.1 hb7) HP6.out.2)
        have HS7 := Aside0.mk hb7.size
        clear hb7 HR HB6 HI6 HT6 HP6
        have HM2 := Aside0.mk (HREF.out A2 c2 none 0 [] 0 w7 HI7.out.2 ⟨Kd.C_nil _ _, Nat.le_refl _⟩ (fun ad e => by cases e) HR0.out (Int.le_refl _) (Nat.le_refl _) (Nat.le_trans (HT.out.2 HR0.out) (by decide)))
        rw [HQ.out.1] at HM2
        go_wp2_with fail
        refine HM2.out.mono ?_
        rintro e w8 ⟨v8, rfl, hb8, At2, ct2, val, Ap2, cp2, hT8⟩
        have hv8 := hT8.ans
        subst hv8
        have hq8 := Kd.R_reads' hT8.told
        have HV := Aside0.mk hT8.val
        have hb8' := hb8.alloc hb8.size (.cells #[.slice At2 told.length ct2, .int .i64 val, .int .i64 f, .slice Ap2 (p).length cp2, .bool true] 54)
        have hba := (Below.refl w8.heap.size w8).alloc (Nat.le_refl _) (.cells #[.slice At2 told.length ct2, .int .i64 val, .int .i64 f, .slice Ap2 (p).length cp2, .bool true] 54)
        have HW8 := Aside0.mk (show TW w w8.heap.size At At2 Ap1 Ap2 ct ct2 cp1 cp2 told p val f true _ from ⟨HB7.out.trans (hb8'.mono HB7.out.size), alloc_blk w8 _, ⟨Kd.C_below HT7.out.1 hb8', HT7.out.2⟩, ⟨Kd.C_below hq8.2.2 hba, hq8.2.1⟩, ⟨Kd.C_below HP7.out.1 hb8', HP7.out.2⟩, hT8.first.below hba, fun ad e => by
            have q1 := HS6.out; have q2 := HS7.out; have q3 := hb8.size; have q4 := HLB.out.2
            rcases e with e | e | e | e
            · have := HLA.out.1 ad e; omega
            · exact nums_addr hT8.told ad e
            · have := HLB.out.1 ad e; omega
            · exact (hT8.own ad e).2⟩)
        have HI8 := Aside0.mk (And.intro (HI7.out.1.keep t hb8') (Kd.C_below HI7.out.2 hb8'))
        have HK8 := Aside0.mk (And.intro HK7.out.1 (And.intro (HK7.out.2.trans (hb8'.mono HK7.out.2.size)) (Nat.le_trans HK7.out.2.size hb8.size)))
        clear HK7
        have HWB := Aside0.mk (Nat.le_trans HB7.out.size hb8.size)
        clear hT8 hq8 hb8 hb8' hba HM2 HB7 HT7 HP7 HI7
        obtain ⟨kc, hkc⟩ := compare_same p (Kd.C_max HW8.out.p1.1)
        have HKC := Aside0.mk hkc
        clear hkc
        have HN2 := Aside0.mk (haymowref07_Many.calls km A2 c2 xs 0 (nodesT t) (numsT t) _ HI8.out.2 HG2.out.1 HKM.out)
        go_wp2_with fail
        refine HN2.out.mono ?_
        rintro e w9 ⟨rfl, hd⟩
        have HW9 := Aside0.mk (HW8.out.keep (below_drawn hd))
        have hk9 := HK8.out.2.1.trans ((below_drawn hd).mono HK8.out.2.1.size)
        have HIX := Aside0.mk (HK8.out.1.keep t (hk9.setCell (p := ⟨w8.heap.size, 1, none⟩) HK8.out.2.2 (.int .i64 0)))
        clear hd HN2 HW8 HI8 hk9
        have b2 := blk_cell HW9.out.box 2
        have z1 := blk_frozen HW9.out.box 1
        have b1 := blk_cell HW9.out.box 1
        go_upto_region 14 with fail
        clear b2 z1 b1
        have HWX := Aside0.mk (HW9.out.zero HWB.out)
        clear HW9
        have HX := Aside0.mk (Right_any t a (w9.setCell ⟨w8.heap.size, 1, none⟩ (.int .i64 0)) HIX.out)
        go_wp2_with fail
        refine HX.out.mono ?_
        rintro e wr1 ⟨rfl, hb⟩
        rw [HR0.out]
        have HW1 := Aside0.mk (HWX.out.keep hb)
        clear hb HX
        have c0' := blk_cell HW1.out.box 0
        have HN := Aside0.mk (haymowlaw07_numbers.calls kn At ct told At2 ct2 told true wr1 HW1.out.t1.1 HW1.out.t1.2 HW1.out.t2.1 HW1.out.t2.2 HKN.out)
        go_wp2_with fail
        refine HN.out.mono ?_
        rintro e wr2 ⟨rfl, hd⟩
        have HW2 := Aside0.mk (HW1.out.keep (below_drawn hd))
        clear hd HN c0'
        have c1' := blk_cell HW2.out.box 1
        have c2' := blk_cell HW2.out.box 2
        have c3' := blk_cell HW2.out.box 3
        have c4' := blk_cell HW2.out.box 4
        have HC := Aside0.mk (haymowref05_Compare.calls kc Ap1 cp1 (p) Ap2 cp2 (p) 0 wr2 HW2.out.p1.1 HW2.out.p1.2 HW2.out.p2.1 HW2.out.p2.2 HKC.out)
        go_wp2_with fail
        refine HC.out.mono ?_
        rintro e wr3 ⟨rfl, hd⟩
        have HW3 := Aside0.mk (HW2.out.below.trans ((below_drawn hd).mono HW2.out.below.size))
        clear hd HC c1' c2' c3' c4'
        have HA := Aside0.mk (awake_any wr3)
        go_wp2_with fail
        refine HA.out.mono ?_
        rintro e wz ⟨rfl, hbm⟩
        have HBz := Aside0.mk (HW3.out.trans (hbm.mono HW3.out.size))
        clear hbm HA
        go_wp2_with fail
        go_ret
        exact ⟨rfl, HBz.out⟩
def haymowlaw07_MergeTells.f (l0 : List S61) : Option Bool := if l0.all (fun x => decide (0 ≤ x.f3 ∧ x.f3 ≤ 255)) = true then some true else none
theorem haymowlaw07_MergeTells.calls (A0 : Option Addr) (c0 : Nat) (l0 : List S61) (r : Bool) (w : World) (hr0 : k61.C w A0 l0.length l0) (hc0 : l0.length ≤ c0) (h : haymowlaw07_MergeTells.f l0 = some r) : Calls Try.prog 7 #[.slice A0 l0.length c0] w fun e w' => e = .returned (.bool r) ∧ Below w.heap.size w w' := by
  unfold haymowlaw07_MergeTells.f at h
  split at h
  · rename_i ha
    obtain rfl : true = r := Option.some.inj h
    exact mtells_any A0 c0 l0 w hr0 hc0 (fun x hx => by simpa using List.all_eq_true.1 ha x hx)
  · cases h
#print axioms haymowlaw07_MergeTells.calls
end Go.Proofs.Ytiplpkjjplicjaa.H
