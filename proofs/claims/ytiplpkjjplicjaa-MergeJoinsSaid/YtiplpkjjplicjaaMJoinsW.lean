/- MergeJoins, walked. -/
import Derived.Test.YtiplpkjjplicjaaMJoins
set_option linter.unusedVariables false
set_option linter.unusedSimpArgs false
namespace Go.Proofs.Ytiplpkjjplicjaa.H
open Go.RowKit Go.Hay Go.Proofs.YtiplpkjjplicjaaW.PrintWords Go.Proofs.YtiplpkjjplicjaaW.PrintLast Go.Proofs.YtiplpkjjplicjaaW.PrintMore
structure JM (w : World) (value : Int) (ps : List S64) (ks : List T) (wv vp vk : Value) (qs : List (Option Addr)) (ws : List Int) (w' : World) : Prop where
  nb : NodeB wv.ownBlock w.heap.size w.heap.size ps ks value 0 vp vk qs w'
  want : (Kd.int .i64).R 2 w' w.heap.size (fun _ => True) wv ws
  below : Below w.heap.size w w'
section
variable {w : World} {value : Int} {ps : List S64} {ks : List T} {wv vp vk : Value} {qs : List (Option Addr)} {ws : List Int} {W w1 : World}
theorem JM.keep (h : JM w value ps ks wv vp vk qs ws W) (k : Below W.heap.size W w1) : JM w value ps ks wv vp vk qs ws w1 :=
  ⟨h.nb.keep k, R_flat (flatI _) h.want (fun _ _ => trivial) (fun i hi => k.block i (R_own h.want i hi).2), h.below.trans (k.mono h.below.size)⟩
theorem JM.pushP (h : JM w value ps ks wv vp vk qs ws W) {p : S64} {v1 : Value} (hR : k64.R 44 w1 w.heap.size (fun _ => True) v1 (ps ++ [p])) (hb : Below w.heap.size W w1) (hg : W.grownBy w1 vp.ownBlock) (hat : v1.ownBlock = vp.ownBlock ∨ ∃ k, v1.ownBlock = some k ∧ W.heap.size ≤ k) :
    JM w value (ps ++ [p]) ks wv v1 vk qs ws (w1.setCell ⟨w.heap.size, 0, none⟩ v1) :=
  ⟨h.nb.pushP hR hg hat, R_flat (flatI _) h.want (fun _ _ => trivial) (fun k hk => (Below.heap_setCell w1 ⟨_, 0, none⟩ v1 k (fun e => h.nb.xb (hk.trans (congrArg some e)))).trans (hg.block k (R_own h.want k hk).2 (fun e => h.nb.xp k e.symm hk))), (h.below.trans hb).setCell (Nat.le_refl _) _⟩
theorem JM.pushK (h : JM w value ps ks wv vp vk qs ws W) {t : T} {q : Option Addr} {v1 : Value} (hR : kP.R 29 w1 w.heap.size (fun _ => True) v1 (qs ++ [q])) (hb : Below w.heap.size W w1) (hg : W.grownBy w1 vk.ownBlock) (hat : v1.ownBlock = vk.ownBlock ∨ ∃ k, v1.ownBlock = some k ∧ W.heap.size ≤ k)
    {wo wr : World} (hwo : JM w value ps ks wv vp vk qs ws wo) (hsz : wr.heap.size ≤ W.heap.size) (hal : ∀ k, k < wr.heap.size → W.heap[k]? = wr.heap[k]?) (ht : Own wo.heap.size wr t q) :
    JM w value ps (ks ++ [t]) wv vp v1 (qs ++ [q]) ws (w1.setCell ⟨w.heap.size, 1, none⟩ v1) :=
  ⟨h.nb.pushK hR hg hat (fun W' hW => ht W' (fun k h1 h2 => (hW k (Nat.le_trans hwo.below.size h1) (by omega) (fun e => by have := blk_lt hwo.nb.node; omega) (fun e => by have := (R_own hwo.nb.rp k e).2; omega) (fun e => by have := (R_own hwo.nb.rk k e).2; omega) (fun e => by have := (R_own hwo.want k e).2; omega)).trans (hal k h2))),
    R_flat (flatI _) h.want (fun _ _ => trivial) (fun k hk => (Below.heap_setCell w1 ⟨_, 1, none⟩ v1 k (fun e => h.nb.xb (hk.trans (congrArg some e)))).trans (hg.block k (R_own h.want k hk).2 (fun e => h.nb.xk k e.symm hk))), (h.below.trans hb).setCell (Nat.le_refl _) _⟩
theorem JM.pushW (h : JM w value ps ks wv vp vk qs ws W) {ns : List Int} {v1 : Value} (hR : (Kd.int .i64).R 2 w1 w.heap.size (fun _ => True) v1 (ws ++ ns)) (hb : Below w.heap.size W w1) (hg : W.grownBy w1 wv.ownBlock) (hat : v1.ownBlock = wv.ownBlock ∨ ∃ k, v1.ownBlock = some k ∧ W.heap.size ≤ k) :
    JM w value ps ks v1 vp vk qs (ws ++ ns) w1 :=
  ⟨h.nb.pushX hg (hat.imp id (fun ⟨k, h1, h2⟩ => ⟨k, h1, h2, (R_own hR k h1).2⟩)), hR, h.below.trans hb⟩
end
structure JI (w : World) (l : List (List Int)) (value : Int) (i : Nat) (wv vp vk : Value) (qs : List (Option Addr)) (w' : World) : Prop where
  jm : JM w value (kidPs 0 i) ((l.take i).map kidT) wv vp vk qs (l.take i).flatten w'
  ql : qs.length = i
  few : ∀ a ∈ l.take i, a.length ≤ 30
theorem JI.next {w : World} {l : List (List Int)} {value : Int} {i : Nat} {wv vp vk : Value} {qs : List (Option Addr)} {w' : World} (hlt : i < l.length) {q : Option Addr} (hq : qs.length = i) (hf : ∀ a ∈ l.take i, a.length ≤ 30) (ha : l[i].length ≤ 30)
    (h : JM w value (kidPs 0 i ++ [⟨true, (i : Int)⟩]) ((l.take i).map kidT ++ [kidT l[i]]) wv vp vk (qs ++ [q]) ((l.take i).flatten ++ l[i]) w') : JI w l value (i + 1) wv vp vk (qs ++ [q]) w' := by
  have e : l.take (i + 1) = l.take i ++ [l[i]] := List.take_succ_eq_append_getElem hlt
  refine ⟨?_, by simp [hq], ?_⟩
  · rw [e, kidPs_snoc, List.map_append, List.flatten_append]
    simpa using h
  · rw [e]
    intro a h1
    rcases List.mem_append.1 h1 with h1 | h1
    · exact hf a h1
    · rw [List.mem_singleton.1 h1]; exact ha
theorem tell_snoc {a : List Int} {j : Nat} (h : j < a.length) : tellPs (a.take (j + 1)) = tellPs (a.take j) ++ [⟨false, a[j]⟩] := by
  unfold tellPs; rw [List.take_succ_eq_append_getElem h, List.map_append]; rfl
structure KI (w' : World) (a : List Int) (j : Nat) (vp : Value) (wi : World) : Prop where
  nb : NodeB none w'.heap.size w'.heap.size (tellPs (a.take j)) [] 0 0 vp (.slice none 0 0) [] wi
  below : Below w'.heap.size w' wi
set_option maxRecDepth 100000 in
set_option maxHeartbeats 8000000 in
theorem joins_any (A0 : Option Addr) (c0 : Nat) (l : List (List Int)) (value : Int) (w : World) (hC : (Kd.slice 2 (Kd.int .i64)).C w A0 l.length l) : Calls Try.prog 6 #[.slice A0 l.length c0, .int .i64 value] w fun e w' => e = .returned (.bool true) ∧ Below w.heap.size w w' := by
  have HC := Aside0.mk hC
  have HB0 := Aside0.mk (Below.refl w.heap.size w)
  clear hC
  by_cases hl : 30 < l.length
  · have hl' : (30 < (l.length : Int)) = True := eq_true (by omega)
    clear hl
    go_enter Try.func6, Try.ntmps6
    go_wp2_with fail
    go_ret
    exact ⟨rfl, HB0.out⟩
  · have hl' : (30 < (l.length : Int)) = False := eq_false (by omega)
    have hl30 : l.length ≤ 30 := by omega
    clear hl
    have HJ := Aside0.mk (show JI w l value 0 (.slice none 0 0) (.slice none 0 0) (.slice none 0 0) [] (w.alloc (.cells #[.slice none 0 0, .slice none 0 0, .int .i64 value, .int .i64 0] 42)) from
      ⟨⟨NodeB.start (w := w) w.heap.size value 0 (Nat.le_refl _), by simpa using Kd.R_nil _ _ _ _ _, HB0.out.alloc (Nat.le_refl _) _⟩, rfl, by simp⟩)
    go_enter Try.func6, Try.ntmps6
    go_wp2_with fail
    go_loopw [6, 7] (fun v6 v7 wr => ∃ (i : Nat) (wv vp vk : Value) (qs : List (Option Addr)), v6 = wv ∧ v7 = .int .i64 i ∧ i ≤ l.length ∧ Aside0 (JI w l value i wv vp vk qs wr)) (fun _ v7 _ => l.length - (intOf v7).toNat)
    case atStart => exact ⟨0, _, _, _, _, rfl, rfl, Nat.zero_le _, HJ⟩
    case round =>
      clear HJ
      obtain ⟨i, wv, vp, vk, qs, rfl, rfl, hi, HJ⟩ := hrel
      by_cases hlt : i < l.length
      · obtain ⟨ad, A1, c1, rfl, hx, hc1, hC1⟩ := at_LL HC.out i hlt hlt
        have hx1 := (HJ.out.jm.below.cell (World.block_lt_of_cell? w _ hx)).trans hx
        have HX := Aside0.mk (And.intro hx (And.intro hc1 hC1))
        clear hx hc1 hC1
        generalize hla : l[i] = a at hx1 HX
        have HLA := Aside0.mk (show ∃ h : i < l.length, l[i] = a from ⟨hlt, hla⟩)
        clear hla
        by_cases ha : 30 < a.length
        · have ha' : (30 < (a.length : Int)) = True := eq_true (by omega)
          clear ha
          go_wp2_with fail
          go_ret
          exact ⟨rfl, HJ.out.jm.below⟩
        · have ha' : (30 < (a.length : Int)) = False := eq_false (by omega)
          have ha30 : a.length ≤ 30 := by omega
          clear ha
          have HK := Aside0.mk (show KI wr a 0 (.slice none 0 0) (wr.alloc (.cells #[.slice none 0 0, .slice none 0 0, .int .i64 0, .int .i64 0] 42)) from
            ⟨NodeB.start (w := wr) wr.heap.size 0 0 (Nat.le_refl _), (Below.refl _ _).alloc (Nat.le_refl _) _⟩)
          go_wp2_with fail
          clear hx1
          obtain ⟨wo, rfl⟩ : ∃ wo, wo = wr := ⟨_, rfl⟩
          go_loopw [9] (fun v9 wi => ∃ (j : Nat) (vq : Value), v9 = .int .i64 j ∧ j ≤ a.length ∧ Aside0 (KI wo a j vq wi)) (fun v9 _ => a.length - (intOf v9).toNat)
          case atStart => exact ⟨0, _, rfl, Nat.zero_le _, HK⟩
          case round =>
            clear HK
            obtain ⟨j, vq, rfl, hj, HK⟩ := hrel
            have hbw := HJ.out.jm.below.trans (HK.out.below.mono HJ.out.jm.below.size)
            have hxi := (hbw.cell (World.block_lt_of_cell? w _ HX.out.1)).trans HX.out.1
            have HBW := Aside0.mk hbw
            clear hbw
            by_cases hlj : j < a.length
            · obtain ⟨ad1, rfl, hy⟩ := Kd.at_int HX.out.2.2 (j : Int) (by omega) (by omega)
              rw [Int.toNat_natCast, show rd a (j : Int) = a[j] by simp [rd, hlj]] at hy
              obtain ⟨Aq, cq, rfl⟩ := Kd.R_slice HK.out.nb.rp
              obtain ⟨L, hL⟩ : ∃ L, L = (tellPs (a.take j)).length := ⟨_, rfl⟩
              rw [← hL] at HK
              have HL := Aside0.mk hL
              have hxi' := HX.out.1
              have HY := Aside0.mk (And.intro hxi' hy)
              clear hL hy hxi'
              go_wp2_with fail
              clear hxi
              have hs : wr.drew.heap[wo.heap.size]? = some (.cells #[.slice Aq L cq, .slice none 0 0, .int .i64 0, .int .i64 0] 42 (0, 0)) ∧ Below w.heap.size w wr.drew := ⟨HK.out.nb.node, HBW.out.drew⟩
              refine wp_region_seq2 (fun w' => w'.heap[wo.heap.size]? = some (.cells #[.slice Aq L cq, .slice none 0 0, .int .i64 0, .int .i64 0] 42 (0, 0)) ∧ Below w.heap.size w w') [17] [.take 0, .take 1, .take 2, .take 3, .take 4, .take 5, .take 6, .take 7, .take 8, .take 9, .take 10, .take 11, .take 12, .op 13, .op 14, .op 15, .op 16, .fin 17] (by kernel_rfl) (by kernel_rfl) rfl (by kernel_rfl) (panic_via (P := Try.prog) (fn := Try.f6) (R := fun e w' => e = .returned (.bool true) ∧ Below w.heap.size w w') (fun _ _ _ => rfl)) ?_
              repeat (
                (first
                  | (refine runSeq2_take (v := ?_) (by rfl) (by rfl) (fun w' hS => ?_) hs ?_
                     rotate_left
                     · (have d0 := blk_cell hS.1 0; have q0 := (hS.2.cell (World.block_lt_of_cell? w _ HY.out.1)).trans HY.out.1; have q1 := (hS.2.cell (World.block_lt_of_cell? w _ HY.out.2)).trans HY.out.2; go_simp; exact rfl))
                  | refine runSeq2_skip (by rfl) (by rfl) hs ?_)
                (try simp only [Act.put, List.setIfInBounds_toArray, List.set_cons_zero, List.set_cons_succ]))
              refine runSeq2_op (by rfl) (by rfl) (fun K hK => ?_)
              go_simp
              have hk1 := HK.out.nb.keep ((Below.refl wr.heap.size wr).drew.alloc (Nat.le_refl _) (.cells #[.bool false, .int .i64 a[j]] 44))
              have hb1 := hs.2.alloc hs.2.size (.cells #[.bool false, .int .i64 a[j]] 44)
              refine hK _ _ ⟨hk1.node, hb1⟩ ?_
              clear hK K
              refine runSeq2_op (by rfl) (by rfl) (fun K hK => ?_)
              refine wp_append_rows k64 (Rr := k64.M (wr.drew.alloc (.cells #[.bool false, .int .i64 a[j]] 44)) wo.heap.size (fun _ => False)) wo.heap.size rfl (.tmp 49) (.tmp 58) 39 44 (.agg #[(.bool false), (.int .i64 0)]) 16 rfl Try.underlying39 info44 rfl (by decide) (by decide) (.slice Aq L cq) (tellPs (a.take j)) [⟨false, a[j]⟩] _ _ _ (fun _ => True) (fun _ => False) rfl rfl hk1.rp (reads_one (alloc_blk _ _) (k64_mkM _ _ _ (⟨false, a[j]⟩ : S64))) (fun _ _ h => h) (fun _ h => h.elim) (fun _ _ => trivial) (Nat.le_trans HK.out.below.size (by simp)) (by simp [tellPs]; omega) ?_
              intro v1 w1 hR hbw hg hat
              have hn1 := (hg.block _ (blk_lt hk1.node) (fun e => hk1.hp e.symm)).trans hk1.node
              have hb2 := hb1.trans (hbw.mono HJ.out.jm.below.size)
              have hnb := hk1.pushP hR hg hat
              have hbk := (HK.out.below.drew.alloc (Nat.le_trans HK.out.below.size (by simp)) (.cells #[.bool false, .int .i64 a[j]] 44)).trans hbw
              obtain ⟨A2, c2, rfl⟩ := Kd.R_slice hR
              clear hR hbw hg hat hk1 hb1
              rw [show (tellPs (List.take j a) ++ [(⟨false, a[j]⟩ : S64)]).length = (tellPs (List.take j a)).length + 1 from List.length_append ..] at hnb
              have hnb := Aside0.mk hnb
              have hbk := Aside0.mk hbk
              have d0 := blk_cell hn1 0
              have z0 := blk_frozen hn1 0
              refine hK _ _ ⟨hn1, hb2⟩ ?_
              clear hK K
              refine runSeq2_op (by rfl) (by rfl) (fun K hK => ?_)
              go_simp
              refine hK _ _ ⟨hn1, hb2⟩ ?_
              clear hK K
              refine runSeq2_op (by rfl) (by rfl) (fun K hK => ?_)
              go_simp
              refine hK _ _ ⟨hn1, hb2⟩ ?_
              clear hK K
              refine runSeq2_fin (by rfl) (by rfl) (fun K hK => ?_)
              go_simp
              refine hK _ _ ?_
              refine runSeq2_nil ?_
              go_wp2_with fail
              exact ⟨⟨j + 1, .slice A2 _ c2, by simp, hlj, Aside0.mk ⟨by rw [tell_snoc hlj]; exact hnb.out, hbk.out.setCell (Nat.le_refl _) _⟩⟩, by simp [intOf]; omega⟩
            · obtain rfl : j = a.length := by omega
              have HO := Aside0.mk (show Own wo.heap.size wr (kidT a) (some ⟨wo.heap.size, 0, none⟩) by have h1 := HK.out.nb.own rfl; rw [List.take_length] at h1; exact h1)
              have HM := Aside0.mk (HJ.out.jm.keep HK.out.below)
              have HA := Aside0.mk (And.intro (And.intro HX.out.1 HX.out.2.1) (And.intro HX.out.2.2 (HBW.out)))
              go_upto_region 15 with fail
              clear hxi
              obtain ⟨Ak, ck, rfl⟩ := Kd.R_slice HM.out.nb.rk
              have hm1 := HM.out.nb.node
              have d1 := blk_cell hm1 1
              clear hm1
              go_upto_region 16 with (first | ((with_reducible refine gate_builtin (b := .append) (xs := #[.tmp 66, .tmp 68]) rfl ?_); refine Kd.R_append kP (w0 := wr) w.heap.size rfl (.tmp 66) (.tmp 68) 40 29 (.pointer none) 8 rfl Try.underlying40 info29 rfl (by decide) (by omega) (.slice Ak qs.length ck) qs (some ⟨wo.heap.size, 0, none⟩) [.pointer (some ⟨wo.heap.size, 0, none⟩)] (fun _ => True) (fun _ => False) rfl (by first | (go_simp; done) | (go_simp; rfl)) ?aP (fun _ hk => hk.elim) ?aF ?aO ?aB ?aS ?aL ?_; (case aP => exact rfl); (case aF => exact (fun _ _ => trivial)); (case aO => exact HM.out.nb.rk); (case aB => exact Below.refl _ _); (case aS => exact HM.out.below.size); (case aL => have := HJ.out.ql; omega); intro v9 w9 hR9 hb9 hg9 hat9; have HM2 := Aside0.mk (HM.out.pushK hR9 hb9 hg9 hat9 HJ.out.jm (Nat.le_refl _) (fun _ _ => rfl) HO.out); have hn9 := (hg9.block _ (blk_lt HM.out.nb.node) (fun e => HM.out.nb.hk e.symm)).trans HM.out.nb.node; have d9 := blk_cell hn9 1; have z9 := blk_frozen hn9 1; obtain ⟨A9, c9, rfl⟩ := Kd.R_slice hR9; rw [show (qs ++ [some (⟨wo.heap.size, 0, none⟩ : Addr)]).length = qs.length + 1 from List.length_append ..] at HM2; clear hR9 hb9 hg9 hat9 hn9 d1))
              generalize hwm : w9.setCell ⟨w.heap.size, 1, none⟩ (.slice A9 (qs.length + 1) c9) = wm at HM2 ⊢
              clear hwm d9 z9 HM HO HK
              obtain ⟨Ap, cp, rfl⟩ := Kd.R_slice HM2.out.nb.rp
              have hm1 := HM2.out.nb.node
              have d0 := blk_cell hm1 0
              clear hm1
              go_upto_region 17 with (first | ((with_reducible refine gate_builtin (b := .append) (xs := #[.tmp 76, .tmp 79]) rfl ?_); refine Kd.R_append k64 (w0 := wm) w.heap.size rfl (.tmp 76) (.tmp 79) 39 44 (.agg #[(.bool false), (.int .i64 0)]) 16 rfl Try.underlying39 info44 rfl (by decide) (by omega) (.slice Ap (kidPs 0 i).length cp) (kidPs 0 i) ⟨true, (i : Int)⟩ [.bool true, .int .i64 i] (fun _ => True) (fun _ => False) rfl (by first | (go_simp; done) | (go_simp; rfl)) ?aP (fun _ hk => hk.elim) ?aF ?aO ?aB ?aS ?aL ?_; (case aP => exact k64_mkM _ _ _ (⟨true, (i : Int)⟩ : S64)); (case aF => exact (fun _ _ => trivial)); (case aO => exact HM2.out.nb.rp); (case aB => exact Below.refl _ _); (case aS => exact HM2.out.below.size); (case aL => simp [kidPs]; omega); intro v9 w9 hR9 hb9 hg9 hat9; have HM3 := Aside0.mk (HM2.out.pushP hR9 hb9 hg9 hat9); have hn9 := (hg9.block _ (blk_lt HM2.out.nb.node) (fun e => HM2.out.nb.hp e.symm)).trans HM2.out.nb.node; have d9 := blk_cell hn9 0; have z9 := blk_frozen hn9 0; obtain ⟨A9, c9, rfl⟩ := Kd.R_slice hR9; rw [show (kidPs 0 i ++ [(⟨true, (i : Int)⟩ : S64)]).length = (kidPs 0 i).length + 1 from List.length_append ..] at HM3; clear hR9 hb9 hg9 hat9 hn9 d0))
              generalize hwn : World.setCell _ _ _ = wn at HM3 ⊢
              clear hwn d9 z9 HM2
              have d5 := (HM3.out.below.cell (World.block_lt_of_cell? w _ HX.out.1)).trans HX.out.1
              go_wp2_with (first | ((with_reducible refine gate_builtin (b := .append) (xs := #[.tmp 83, .tmp 87]) rfl ?_); refine Kd.R_append_rows (Kd.int .i64) (w0 := wn) w.heap.size rfl (.tmp 83) (.tmp 87) 23 2 (.int .i64 0) 8 rfl Try.underlying23 info2 rfl (by decide) (by omega) u6 (l.take i).flatten a A1 a.length c1 (fun _ => True) (fun _ => False) rfl rfl ?aO ?aR (fun x cs h => h) (fun _ h => h.elim) (fun _ _ => trivial) (Below.refl _ _) ?aS ?aL ?_; (case aO => exact HM3.out.want); (case aR => exact (Kd.C_below HX.out.2.2 HM3.out.below)); (case aS => exact HM3.out.below.size); (case aL => have h1 := flat_len (l.take i) HJ.out.few; rw [List.length_take] at h1; omega); intro v9 w9 hR9 hb9 hg9 hat9; have HM4 := Aside0.mk (HM3.out.pushW hR9 hb9 hg9 hat9); clear hR9 hb9 hg9 hat9))
              obtain ⟨_, rfl⟩ := HLA.out
              exact ⟨⟨i + 1, _, _, _, _, rfl, by simp, hlt, Aside0.mk (JI.next hlt HJ.out.ql HJ.out.few ha30 HM4.out)⟩, by simp [intOf]; omega⟩
      · obtain rfl : i = l.length := by omega
        have hT : IsT (joinT l value) wr (some ⟨w.heap.size, 0, none⟩) := by
          have h1 := (HJ.out.jm.nb.own (by rw [HJ.out.ql]; simp)).is
          rw [List.take_length] at h1; exact h1
        have hfl : l.flatten.length ≤ 900 := by
          have h1 := flat_len l (by have := HJ.out.few; rwa [List.take_length] at this)
          omega
        have hwl : (walkT (joinT l value) []).1.length ≤ 1000000 := by rw [join_walk]; show l.flatten.length ≤ _; omega
        obtain ⟨Aw, cw, rfl⟩ := Kd.R_slice HJ.out.jm.want
        have hwant := HJ.out.jm.want
        rw [List.take_length] at hwant
        have hq := Kd.R_reads' hwant
        have HC := Aside0.mk (Merge_any _ _ _ hT hwl)
        have HW := Aside0.mk (And.intro hq.1 (And.intro hq.2.1 hq.2.2))
        obtain ⟨kn, hkn⟩ := numbers_same l.flatten (by omega)
        have HKN := Aside0.mk hkn
        have HB := Aside0.mk HJ.out.jm.below
        have hjm := join_merge l value
        have hmn := join_many l value
        have hcn := join_count l value
        have hlF : l.flatten.length ≤ 900 := hfl
        rw [List.take_length]
        generalize hF : l.flatten = F at HC HW HKN hjm hmn hcn hlF ⊢
        have HT := Aside0.mk (And.intro hT (And.intro hmn (And.intro hcn hlF)))
        have HF := Aside0.mk hF
        clear hT hwl hwant hq hkn HJ hfl hmn hcn hlF hF
        go_wp2_with fail
        refine HC.out.mono ?_
        rintro e w2 ⟨v, rfl, hR, hbm⟩
        rw [hjm] at hR ⊢
        clear hjm
        obtain ⟨At, ct, rfl⟩ := Kd.R_slice hR
        have hq := Kd.R_reads' hR
        have HR := Aside0.mk (And.intro hq.2.1 hq.2.2)
        have HB2 := Aside0.mk (HB.out.trans (hbm.mono HB.out.size))
        have HC2 := Aside0.mk (Many_any _ _ _ (HT.out.1.keep _ hbm) (by rw [HT.out.2.2.1.1]; omega) (by rw [HT.out.2.2.1.2]; have := HT.out.2.2.2; omega))
        have HW2 := Aside0.mk (And.intro HW.out.2.1 (Kd.C_below HW.out.2.2 hbm))
        clear hq hR hbm HC HW HB
        go_wp2_with fail
        refine HC2.out.mono ?_
        rintro e w3 ⟨rfl, hbm⟩
        rw [HT.out.2.1]
        have HB3 := Aside0.mk (HB2.out.trans (hbm.mono HB2.out.size))
        have HW3 := Aside0.mk (And.intro HW2.out.1 (Kd.C_below HW2.out.2 hbm))
        have HR3 := Aside0.mk (And.intro HR.out.1 (Kd.C_below HR.out.2 hbm))
        clear hbm HC2 HB2 HW2 HR
        go_wp2_with fail
        refine (haymowlaw07_numbers.calls kn At ct F Aw cw F true w3 HR3.out.2 HR3.out.1 HW3.out.2 HW3.out.1 HKN.out).mono ?_
        rintro e w4 ⟨rfl, hd⟩
        have HB4 := Aside0.mk (HB3.out.trans ((below_drawn hd).mono HB3.out.size))
        have HA := Aside0.mk (awake_any w4)
        have hcomm : ((1 : Int) + (l.length : Int)) = (l.length : Int) + 1 := Int.add_comm _ _
        clear hd HB3 HW3 HR3
        go_wp2_with fail
        refine HA.out.mono ?_
        rintro e w5 ⟨rfl, hbm⟩
        have HB5 := Aside0.mk (HB4.out.trans (hbm.mono HB4.out.size))
        clear hbm HA HB4
        go_wp2_with fail
        go_ret
        exact ⟨rfl, HB5.out⟩
def haymowlaw07_MergeJoins.f (l0 : List (List Int)) (a1 : Int) : Option Bool := some true
theorem haymowlaw07_MergeJoins.calls (A0 : Option Addr) (c0 : Nat) (l0 : List (List Int)) (a1 : Int) (r : Bool) (w : World) (hr0 : (Kd.slice 2 (Kd.int .i64)).C w A0 l0.length l0) (hc0 : l0.length ≤ c0) (h : haymowlaw07_MergeJoins.f l0 a1 = some r) : Calls Try.prog 6 #[.slice A0 l0.length c0, .int .i64 a1] w fun e w' => e = .returned (.bool r) ∧ Below w.heap.size w w' := by
  obtain rfl : true = r := Option.some.inj h
  exact joins_any A0 c0 l0 a1 w hr0
#print axioms haymowlaw07_MergeJoins.calls
end Go.Proofs.Ytiplpkjjplicjaa.H
