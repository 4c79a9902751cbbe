/- of: the node at a place, and all below it. -/
import Derived.Test.YtiplpkjjplicjaaMPlain
set_option linter.unusedVariables false
set_option linter.unusedSimpArgs false
namespace Go.Proofs.Ytiplpkjjplicjaa.H
open Go.RowKit Go.Hay Go.Proofs.YtiplpkjjplicjaaW.PrintWords Go.Proofs.YtiplpkjjplicjaaW.PrintLast Go.Proofs.YtiplpkjjplicjaaW.PrintMore
theorem meas_lt {j n : Nat} (h : j < n) : n - ((j : Int) + 1).toNat < n - (j : Int).toNat := by omega
structure Good (l : List S63) : Prop where
  few : l.length ≤ 1000
  ps : ∀ y ∈ l, y.f0.length ≤ 1000
  ks : ∀ y ∈ l, y.f1.length ≤ 1000
  up : ∀ i (h : i < l.length), ∀ k ∈ l[i].f1, (i : Int) < k ∧ k < (l.length : Int)
theorem NodeB.pushOwn {B b : Nat} {ps : List S64} {ks : List T} {v f : Int} {vp vk : Value} {qs : List (Option Addr)} {w1 w2 w3 wd : World} (h : NodeB none B b ps ks v f vp vk qs w3) (h0 : NodeB none B b ps ks v f vp vk qs wd) (hsz : w2.heap.size ≤ w3.heap.size) (he : ∀ k, k < w2.heap.size → w3.heap[k]? = w2.heap[k]?)
    {t : T} {q : Option Addr} (ht : Own wd.heap.size w2 t q) {v1 : Value} (hR : kP.R 29 w1 B (fun _ => True) v1 (qs ++ [q])) (hg : w3.grownBy w1 vk.ownBlock) (hat : v1.ownBlock = vk.ownBlock ∨ ∃ k, v1.ownBlock = some k ∧ w3.heap.size ≤ k) :
    NodeB none B b ps (ks ++ [t]) v f vp v1 (qs ++ [q]) (w1.setCell ⟨b, 1, none⟩ v1) :=
  h.pushK hR hg hat (fun W' hW => ht W' (fun k h1 h2 => (hW k (by have := h0.hb; have := blk_lt h0.node; omega) (by omega) (fun e => by have := blk_lt h0.node; omega) (fun e => by have := (R_own h0.rp k e).2; omega) (fun e => by have := (R_own h0.rk k e).2; omega) (fun e => by cases e)).trans (he k h2)))
structure OI (w : World) (ps : List S64) (ks : List T) (v f : Int) (vp vk : Value) (qs : List (Option Addr)) (w' : World) : Prop where
  nb : NodeB none w.heap.size w.heap.size ps ks v f vp vk qs w'
  below : Below w.heap.size w w'
def OfOk (l : List S63) (n i : Nat) : Prop := ∀ (A0 : Option Addr) (c0 : Nat) (w : World), k63.C w A0 l.length l → Calls Try.prog 11 #[.slice A0 l.length c0, .int .i64 i] w fun e w' => ∃ q, e = .returned (.pointer q) ∧ Own w.heap.size w' (treeN l n i) q ∧ Below w.heap.size w w'
/-- the node itself, to be written on. -/
def OfN (l : List S63) (n i : Nat) : Prop := ∀ (A0 : Option Addr) (c0 : Nat) (w : World), k63.C w A0 l.length l → Calls Try.prog 11 #[.slice A0 l.length c0, .int .i64 i] w fun e w' =>
  ∃ ps ks v f vp vk qs, treeN l n i = .node ps ks v f ∧ e = .returned (.pointer (some ⟨w.heap.size, 0, none⟩)) ∧ NodeB none w.heap.size w.heap.size ps ks v f vp vk qs w' ∧ qs.length = ks.length ∧ Below w.heap.size w w'
theorem OfN.ok {l : List S63} {n i : Nat} (h : OfN l n i) : OfOk l n i := by
  intro A0 c0 w hC
  refine (h A0 c0 w hC).mono ?_
  rintro e w' ⟨ps, ks, v, f, vp, vk, qs, ht, rfl, nb, hq, hb⟩
  exact ⟨_, rfl, ht ▸ nb.own hq, hb⟩
set_option maxRecDepth 100000 in
set_option maxHeartbeats 8000000 in
theorem of_step (l : List S63) (hG : Good l) (n i : Nat) (hi : i < l.length) (ih : ∀ j, i < j → j < l.length → OfOk l n j) : OfN l (n + 1) i := by
  intro A0 c0 w hC
  obtain ⟨ad, Ap, cp, Ak, ck, rfl, q0, q1, q2, q3, hcp, hCp, hck, hCk⟩ := at_T63 hC (i : Int) (by omega) (by omega)
  have hyd : rd_T63 l (i : Int) = l.getD i z63 := by unfold rd_T63; rw [Int.toNat_natCast]
  have htree : treeN l (n + 1) i = .node (rd_T63 l (i : Int)).f0 ((rd_T63 l (i : Int)).f1.map fun k => treeN l n k.toNat) (rd_T63 l (i : Int)).f2 (rd_T63 l (i : Int)).f3 := by rw [hyd]; rfl
  have hmem : rd_T63 l (i : Int) ∈ l := by rw [hyd, List.getD_eq_getElem?_getD, List.getElem?_eq_getElem hi]; exact List.getElem_mem hi
  have hup : ∀ k ∈ (rd_T63 l (i : Int)).f1, (i : Int) < k ∧ k < (l.length : Int) := by
    have : rd_T63 l (i : Int) = l[i] := by rw [hyd, List.getD_eq_getElem?_getD, List.getElem?_eq_getElem hi]; rfl
    rw [this]; exact hG.up i hi
  have hp1 := hG.ps _ hmem
  have hk1 := hG.ks _ hmem
  rw [Int.toNat_natCast] at q0 q1 q2 q3
  rw [htree]
  generalize rd_T63 l (i : Int) = y at q0 q1 q2 q3 hcp hCp hck hCk hup hp1 hk1 ⊢
  clear htree hyd hmem
  have HX := Aside0.mk (And.intro q0 (And.intro q1 (And.intro q2 q3)))
  have HY := Aside0.mk (And.intro hCp (And.intro hCk (And.intro hcp hck)))
  have HG := Aside0.mk (And.intro hup (And.intro hp1 (And.intro hk1 hG.few)))
  have HC := Aside0.mk hC
  have HI := Aside0.mk ih
  clear q0 q1 q2 q3 hCp hCk hcp hck hup hp1 hk1 hC ih
  go_enter Try.func11, Try.ntmps11
  go_wp2_with fail
  have hs : Below w.heap.size w w.drew := (Below.refl _ _).drew
  refine wp_region_seq2 (fun w' => Below w.heap.size w w') [11, 12] [.take 0, .take 1, .take 2, .take 3, .take 4, .take 5, .take 6, .take 7, .take 8, .take 9, .take 10, .fin 11, .fin 12] (by kernel_rfl) (by kernel_rfl) rfl (by as_aux_lemma => kernel_rfl) (panic_via (P := Try.prog) (fn := Try.f11) (R := fun e w' => ∃ ps ks v f vp vk qs, T.node y.f0 (y.f1.map fun k => treeN l n k.toNat) y.f2 y.f3 = .node ps ks v f ∧ e = .returned (.pointer (some ⟨w.heap.size, 0, none⟩)) ∧ NodeB none w.heap.size w.heap.size ps ks v f vp vk qs w' ∧ qs.length = ks.length ∧ Below w.heap.size w w') (fun _ _ _ => rfl)) ?_
  repeat (
    (first
      | (refine runSeq2_take (v := ?_) (by rfl) (by rfl) (fun w' hS => ?_) hs ?_
         rotate_left
         · (have q2 := (hS.cell (World.block_lt_of_cell? w _ HX.out.2.2.1)).trans HX.out.2.2.1; have q3 := (hS.cell (World.block_lt_of_cell? w _ HX.out.2.2.2)).trans HX.out.2.2.2; go_simp; exact rfl))
      | refine runSeq2_skip (by rfl) (by rfl) hs ?_)
    (try simp only [Act.put, List.setIfInBounds_toArray, List.set_cons_zero, List.set_cons_succ]))
  have HN := Aside0.mk (show OI w [] [] y.f2 y.f3 (.slice none 0 0) (.slice none 0 0) [] ((w.alloc (.cells #[.slice none 0 0, .slice none 0 0, .int .i64 y.f2, .int .i64 y.f3] 42)).drew) from ⟨NodeB.start (w := w.drew) w.heap.size _ _ (Nat.le_refl _), hs.alloc hs.size _⟩)
  refine runSeq2_fin (by rfl) (by rfl) (fun K hK => ?_)
  go_simp
  refine hK _ _ ?_
  clear hK K
  refine runSeq2_fin (by rfl) (by rfl) (fun K hK => ?_)
  go_simp
  refine hK _ _ ?_
  refine runSeq2_nil ?_
  clear hK K hs
  generalize (w.alloc (.cells #[.slice none 0 0, .slice none 0 0, .int .i64 y.f2, .int .i64 y.f3] 42)).drew = wa at HN ⊢
  go_wp2_with fail
  go_loopw [6] (fun v6 wr => ∃ (j : Nat) (vp : Value), v6 = .int .i64 j ∧ j ≤ y.f0.length ∧ Aside0 (OI w (y.f0.take j) [] y.f2 y.f3 vp (.slice none 0 0) [] wr)) (fun v6 _ => y.f0.length - (intOf v6).toNat)
  case atStart => exact ⟨0, _, rfl, Nat.zero_le _, HN⟩
  case round =>
    clear HN
    obtain ⟨j, vp, rfl, hj, HN⟩ := hrel
    have q0 := (HN.out.below.cell (World.block_lt_of_cell? w _ HX.out.1)).trans HX.out.1
    by_cases hlt : j < y.f0.length
    · as_aux_lemma =>
        obtain ⟨ad1, rfl, e0, e1⟩ := at_T64 HY.out.1 (j : Int) (by omega) (by omega)
        rw [Int.toNat_natCast, show rd_T64 y.f0 (j : Int) = y.f0[j] by simp [rd_T64, hlt]] at e0 e1
        obtain ⟨x, hx⟩ : ∃ x, x = y.f0[j] := ⟨_, rfl⟩
        rw [← hx] at e0 e1
        have HE := Aside0.mk (And.intro e0 (And.intro e1 (show ∃ h : j < y.f0.length, x = y.f0[j] from ⟨hlt, hx⟩)))
        clear e0 e1 hx
        obtain ⟨Aq, cq, rfl⟩ := Kd.R_slice HN.out.nb.rp
        obtain ⟨L, hL⟩ : ∃ L, L = (y.f0.take j).length := ⟨_, rfl⟩
        rw [← hL] at HN
        have HL := Aside0.mk hL
        clear hL
        go_wp2_with fail
        clear q0
        have hs : wr.drew.heap[w.heap.size]? = some (.cells #[.slice Aq L cq, .slice none 0 0, .int .i64 y.f2, .int .i64 y.f3] 42 (0, 0)) ∧ Below w.heap.size w wr.drew := ⟨HN.out.nb.node, HN.out.below.drew⟩
        refine wp_region_seq2 (fun w' => w'.heap[w.heap.size]? = some (.cells #[.slice Aq L cq, .slice none 0 0, .int .i64 y.f2, .int .i64 y.f3] 42 (0, 0)) ∧ Below w.heap.size w w') [28] [.take 0, .take 1, .take 2, .take 3, .take 4, .take 5, .take 6, .take 7, .take 8, .take 9, .take 10, .take 11, .take 12, .take 13, .take 14, .take 15, .take 16, .take 17, .take 18, .take 19, .take 20, .take 21, .take 22, .take 23, .op 24, .op 25, .op 26, .op 27, .fin 28] (by kernel_rfl) (by kernel_rfl) rfl (by as_aux_lemma => kernel_rfl) (panic_via (P := Try.prog) (fn := Try.f11) (R := fun e w' => ∃ ps ks v f vp vk qs, T.node y.f0 (y.f1.map fun k => treeN l n k.toNat) y.f2 y.f3 = .node ps ks v f ∧ e = .returned (.pointer (some ⟨w.heap.size, 0, none⟩)) ∧ NodeB none w.heap.size w.heap.size ps ks v f vp vk qs w' ∧ qs.length = ks.length ∧ Below w.heap.size w w') (fun _ _ _ => rfl)) ?_
        repeat (
          (first
            | (refine runSeq2_take (v := ?_) (by rfl) (by rfl) (fun w' hS => ?_) hs ?_
               rotate_left
               · (have d0 := blk_cell hS.1 0; have q0 := (hS.2.cell (World.block_lt_of_cell? w _ HX.out.1)).trans HX.out.1; have q1 := (hS.2.cell (World.block_lt_of_cell? w _ HE.out.1)).trans HE.out.1; have q2 := (hS.2.cell (World.block_lt_of_cell? w _ HE.out.2.1)).trans HE.out.2.1; go_simp; exact rfl))
            | refine runSeq2_skip (by rfl) (by rfl) hs ?_)
          (try simp only [Act.put, List.setIfInBounds_toArray, List.set_cons_zero, List.set_cons_succ]))
        refine runSeq2_op (by rfl) (by rfl) (fun K hK => ?_)
        go_simp
        have hk1 := HN.out.nb.keep ((Below.refl wr.heap.size wr).drew.alloc (Nat.le_refl _) (.cells #[.bool x.f0, .int .i64 x.f1] 44))
        have hb1 := hs.2.alloc hs.2.size (.cells #[.bool x.f0, .int .i64 x.f1] 44)
        refine hK _ _ ⟨hk1.node, hb1⟩ ?_
        clear hK K
        refine runSeq2_op (by rfl) (by rfl) (fun K hK => ?_)
        refine wp_append_rows k64 (Rr := k64.M (wr.drew.alloc (.cells #[.bool x.f0, .int .i64 x.f1] 44)) w.heap.size (fun _ => False)) w.heap.size rfl (.tmp 34) (.tmp 54) 39 44 (.agg #[(.bool false), (.int .i64 0)]) 16 rfl Try.underlying39 info44 rfl (by decide) (by decide) (.slice Aq L cq) (y.f0.take j) [x] _ _ _ (fun _ => True) (fun _ => False) rfl rfl hk1.rp (reads_one (alloc_blk _ _) (k64_mkM _ _ _ x)) (fun _ _ h => h) (fun _ h => h.elim) (fun _ _ => trivial) hb1.size (by rw [← HL.out]; have := HL.out; rw [List.length_take] at this; have := HG.out.2.1; omega) ?_
        intro v1 w1 hR hbw hg hat
        have hn1 := (hg.block _ (blk_lt hk1.node) (fun e => hk1.hp e.symm)).trans hk1.node
        have hb2 := hb1.trans hbw
        have hnb := hk1.pushP hR hg hat
        obtain ⟨A2, c2, rfl⟩ := Kd.R_slice hR
        clear hR hbw hg hat hk1 hb1
        rw [show (y.f0.take j ++ [x]).length = j + 1 by rw [List.length_append, List.length_take, Nat.min_eq_left (by omega)]; rfl] at hnb
        have hnb := Aside0.mk hnb
        have hB2 := Aside0.mk hb2
        have d0 := blk_cell hn1 0
        have z0 := blk_frozen hn1 0
        refine hK _ _ ⟨hn1, hb2⟩ ?_
        clear hK K
        refine runSeq2_op (by rfl) (by rfl) (fun K hK => ?_)
        go_simp
        refine hK _ _ ⟨hn1, hb2⟩ ?_
        clear hK K
        refine runSeq2_op (by rfl) (by rfl) (fun K hK => ?_)
        go_simp
        refine hK _ _ ⟨hn1, hb2⟩ ?_
        clear hK K
        refine runSeq2_fin (by rfl) (by rfl) (fun K hK => ?_)
        go_simp
        refine hK _ _ ?_
        refine runSeq2_nil ?_
        clear hK K
        have hwj : wrap64 ((j : Int) + 1) = (j : Int) + 1 := by have := HG.out.2.1; unfold wrap64; omega
        go_wp2_with fail
        obtain ⟨_, hx⟩ := HE.out.2.2
        have hsn : y.f0.take (j + 1) = y.f0.take j ++ [x] := by rw [List.take_succ_eq_append_getElem hlt, hx]
        exact ⟨⟨j + 1, _, by simp [hwj], hlt, Aside0.mk ⟨by rw [hsn]; exact hnb.out, hB2.out.setCell (Nat.le_refl _) _⟩⟩, by rw [hwj]; exact meas_lt hlt⟩
    · obtain rfl : j = y.f0.length := by omega
      rw [List.take_length] at HN
      go_upto_region 6 with fail
      clear q0
      generalize wr = wb at HN ⊢
      go_wp2_with fail
      go_loopw [7] (fun v7 wr => ∃ (j : Nat) (vk : Value) (qs : List (Option Addr)), v7 = .int .i64 j ∧ j ≤ y.f1.length ∧ Aside0 (OI w y.f0 ((y.f1.take j).map fun k => treeN l n k.toNat) y.f2 y.f3 vp vk qs wr ∧ qs.length = j)) (fun v7 _ => y.f1.length - (intOf v7).toNat)
      case atStart => exact ⟨0, _, _, rfl, Nat.zero_le _, Aside0.mk ⟨HN.out, rfl⟩⟩
      case round =>
        clear HN
        obtain ⟨j, vk, qs, rfl, hj, HN⟩ := hrel
        have q1 := (HN.out.1.below.cell (World.block_lt_of_cell? w _ HX.out.2.1)).trans HX.out.2.1
        by_cases hlt : j < y.f1.length
        · as_aux_lemma =>
            obtain ⟨ad1, rfl, e0⟩ := Kd.at_int HY.out.2.1 (j : Int) (by omega) (by omega)
            rw [Int.toNat_natCast, show rd y.f1 (j : Int) = y.f1[j] by simp [rd, hlt]] at e0
            obtain ⟨x, hx⟩ : ∃ x, x = y.f1[j] := ⟨_, rfl⟩
            rw [← hx] at e0
            have hup := HG.out.1 x (hx ▸ List.getElem_mem hlt)
            obtain ⟨m, rfl⟩ := Int.eq_ofNat_of_zero_le (show 0 ≤ x by omega)
            have HE := Aside0.mk (And.intro e0 (And.intro hup (show ∃ h : j < y.f1.length, (m : Int) = y.f1[j] from ⟨hlt, hx⟩)))
            clear e0 hx hup
            obtain ⟨Aq, cq, rfl⟩ := Kd.R_slice HN.out.1.nb.rk
            obtain ⟨Ap2, cp2, rfl⟩ := Kd.R_slice HN.out.1.nb.rp
            have hql := HN.out.2
            rw [hql] at HN
            have HQ := Aside0.mk hql
            clear hql
            go_wp2_with fail
            clear q1
            have hs : wr.drew.heap[w.heap.size]? = some (.cells #[.slice Ap2 y.f0.length cp2, .slice Aq j cq, .int .i64 y.f2, .int .i64 y.f3] 42 (0, 0)) ∧ Below w.heap.size w wr.drew := ⟨HN.out.1.nb.node, HN.out.1.below.drew⟩
            refine wp_region_seq2 (fun w' => w'.heap[w.heap.size]? = some (.cells #[.slice Ap2 y.f0.length cp2, .slice Aq j cq, .int .i64 y.f2, .int .i64 y.f3] 42 (0, 0)) ∧ Below w.heap.size w w') [19] [.take 0, .take 1, .take 2, .take 3, .take 4, .take 5, .take 6, .take 7, .take 8, .take 9, .take 10, .take 11, .take 12, .take 13, .op 14, .op 15, .op 16, .op 17, .op 18, .fin 19] (by kernel_rfl) (by kernel_rfl) rfl (by as_aux_lemma => kernel_rfl) (panic_via (P := Try.prog) (fn := Try.f11) (R := fun e w' => ∃ ps ks v f vp vk qs, T.node y.f0 (y.f1.map fun k => treeN l n k.toNat) y.f2 y.f3 = .node ps ks v f ∧ e = .returned (.pointer (some ⟨w.heap.size, 0, none⟩)) ∧ NodeB none w.heap.size w.heap.size ps ks v f vp vk qs w' ∧ qs.length = ks.length ∧ Below w.heap.size w w') (fun _ _ _ => rfl)) ?_
            repeat (
              (first
                | (refine runSeq2_take (v := ?_) (by rfl) (by rfl) (fun w' hS => ?_) hs ?_
                   rotate_left
                   · (have d1 := blk_cell hS.1 1; have q0 := (hS.2.cell (World.block_lt_of_cell? w _ HX.out.2.1)).trans HX.out.2.1; have q2 := (hS.2.cell (World.block_lt_of_cell? w _ HE.out.1)).trans HE.out.1; go_simp; exact rfl))
                | refine runSeq2_skip (by rfl) (by rfl) hs ?_)
              (try simp only [Act.put, List.setIfInBounds_toArray, List.set_cons_zero, List.set_cons_succ]))
            refine runSeq2_op (by rfl) (by rfl) (fun K hK => ?_)
            go_simp
            refine (HI.out m (by have := HE.out.2.1.1; omega) (by have := HE.out.2.1.2; omega) (some ad) c0 _ (Kd.C_below HC.out (hs.2))).mono ?_
            rintro e w2 ⟨q, rfl, hown, hb2⟩
            have hk0 := HN.out.1.nb.keep (Below.refl wr.heap.size wr).drew
            have hk2 := hk0.keep hb2
            have hb3 := hs.2.trans (hb2.mono hs.2.size)
            refine hK _ _ ⟨hk2.node, hb3⟩ ?_
            clear hK K
            refine runSeq2_op (by rfl) (by rfl) (fun K hK => ?_)
            go_simp
            have hk3 := hk2.keep ((Below.refl w2.heap.size w2).alloc (Nat.le_refl _) (.cells #[.pointer q] 29))
            have hb4 := hb3.alloc hb3.size (.cells #[.pointer q] 29)
            refine hK _ _ ⟨hk3.node, hb4⟩ ?_
            clear hK K
            refine runSeq2_op (by rfl) (by rfl) (fun K hK => ?_)
            refine wp_append_rows kP (Rr := kP.M (w2.alloc (.cells #[.pointer q] 29)) w.heap.size (fun _ => False)) w.heap.size rfl (.tmp 72) (.tmp 83) 40 29 (.pointer none) 8 rfl Try.underlying40 info29 rfl (by decide) (by decide) (.slice Aq j cq) qs [q] _ _ _ (fun _ => True) (fun _ => False) rfl rfl hk3.rk (reads_one (R := kP.M (w2.alloc (.cells #[.pointer q] 29)) w.heap.size (fun _ => False)) (x := q) (alloc_blk _ _) rfl) (fun _ _ h => h) (fun _ h => h.elim) (fun _ _ => trivial) hb4.size (by rw [HQ.out]; have := HG.out.2.2.1; omega) ?_
            intro v1 w1 hR hbw hg hat
            have hn1 := (hg.block _ (blk_lt hk3.node) (fun e => hk3.hk e.symm)).trans hk3.node
            have hb5 := hb4.trans hbw
            have hnb := NodeB.pushOwn hk3 hk0 (by simp) (fun k hk => ((Below.refl w2.heap.size w2).alloc (Nat.le_refl _) (.cells #[.pointer q] 29)).block k hk) hown hR hg hat
            obtain ⟨A2, c2, rfl⟩ := Kd.R_slice hR
            clear hR hbw hg hat hk3 hk2 hk0 hb4 hb3 hown hb2
            rw [show (qs ++ [q]).length = j + 1 by rw [List.length_append, HQ.out]; rfl] at hnb
            have hnb := Aside0.mk hnb
            have hB5 := Aside0.mk hb5
            have d1 := blk_cell hn1 1
            have z1 := blk_frozen hn1 1
            rw [show (qs ++ [q]).length = j + 1 by rw [List.length_append, HQ.out]; rfl]
            refine hK _ _ ⟨hn1, hb5⟩ ?_
            clear hK K
            refine runSeq2_op (by rfl) (by rfl) (fun K hK => ?_)
            go_simp
            refine hK _ _ ⟨hn1, hb5⟩ ?_
            clear hK K
            refine runSeq2_op (by rfl) (by rfl) (fun K hK => ?_)
            go_simp
            refine hK _ _ ⟨hn1, hb5⟩ ?_
            clear hK K
            refine runSeq2_fin (by rfl) (by rfl) (fun K hK => ?_)
            go_simp
            refine hK _ _ ?_
            refine runSeq2_nil ?_
            clear hK K
            have hwj : wrap64 ((j : Int) + 1) = (j : Int) + 1 := by have := HG.out.2.2.1; unfold wrap64; omega
            go_wp2_with fail
            obtain ⟨_, hx⟩ := HE.out.2.2
            have hsn : (y.f1.take (j + 1)).map (fun k => treeN l n k.toNat) = (y.f1.take j).map (fun k => treeN l n k.toNat) ++ [treeN l n m] := by
              rw [List.take_succ_eq_append_getElem hlt, List.map_append, ← hx]; rfl
            exact ⟨⟨j + 1, _, qs ++ [q], by simp [hwj], hlt, Aside0.mk ⟨⟨by rw [hsn]; exact hnb.out, hB5.out.setCell (Nat.le_refl _) _⟩, by rw [List.length_append, HQ.out]; rfl⟩⟩, by rw [hwj]; exact meas_lt hlt⟩
        · obtain rfl : j = y.f1.length := by omega
          go_wp2_with fail
          go_ret
          have hnb := HN.out.1.nb
          have hql := HN.out.2
          rw [List.take_length] at hnb
          exact ⟨_, _, _, _, _, _, _, rfl, rfl, hnb, by rw [hql, List.length_map], HN.out.1.below⟩
theorem of_any2 (l : List S63) (hG : Good l) : ∀ (n i : Nat), l.length - i ≤ n → i < l.length → OfN l n i
  | 0, i, h, hi => by omega
  | n + 1, i, h, hi => of_step l hG n i hi (fun j h1 h2 => (of_any2 l hG n j (by omega) h2).ok)
theorem of_any (l : List S63) (hG : Good l) (n i : Nat) (h : l.length - i ≤ n) (hi : i < l.length) : OfOk l n i := (of_any2 l hG n i h hi).ok
theorem built_good (l : List S61) (hl : l.length ≤ 40) (hp : ∀ x ∈ l, x.f0.length ≤ 40) : Good (builtP l) where
  few := by rw [builtP_length]; omega
  ps := fun y hy => by have := builtN_pieces l 40 hp l.length (Nat.le_refl _) y hy; omega
  ks := fun y hy => by have := builtN_kids l l.length y hy; omega
  up := fun i h k hk => (built_forest l).up i h k hk
#print axioms of_any
end Go.Proofs.Ytiplpkjjplicjaa.H
