/- greedy.Fits answers whether a plan fits. -/
import Derived.Test.YtenmicgohmamaaaPlan
import Derived.Maps.OwnOps
import Derived.Maps.OwnSet
import Derived.Maps.Views
set_option linter.unusedVariables false
set_option linter.unusedSimpArgs false
namespace Go.Proofs.Ytenmicgohmamaaa.H
open Go.RowKit Go.Hay Go.Maps Go.Proofs.YtenmicgohmamaaaW.PrintWords Go.Proofs.YtenmicgohmamaaaW.PrintLast Go.Proofs.YtenmicgohmamaaaW.PrintMore

def lateB (when : List Int) (n : Nat) (p : Int) : Bool := decide (rd when n ≤ rd when p)
set_option maxRecDepth 100000 in
theorem late_any (when : List Int) (n : Nat) (p : Int) (b5 b8 : Nat) (A : Option Addr) (c : Nat) (w : World) (h5 : w.heap[b5]? = some (.cells #[.slice A when.length c] 24 (0, 0))) (hC : (Kd.int .i64).C w A when.length when)
    (h8 : w.heap[b8]? = some (.cells #[.int .i64 (n : Int)] 3 (0, 0))) (hn : n < when.length) (hp0 : 0 ≤ p) (hp1 : p < when.length) :
    Calls Try.prog 25 #[.int .i64 p, .pointer (some ⟨b5, 0, none⟩), .pointer (some ⟨b8, 0, none⟩)] w fun e w' => e = .returned (.bool (lateB when n p)) ∧ Drawn0 w w' := by
  obtain ⟨ad, rfl, hx⟩ := Kd.at_int hC p hp0 hp1
  obtain ⟨ad2, he, hy⟩ := Kd.at_int hC (n : Int) (by omega) (by omega)
  cases he
  rw [Int.toNat_natCast] at hy
  have c5 := blk_cell h5 0
  have c8 := blk_cell h8 0
  have f5 := blk_frozen h5 0
  have f8 := blk_frozen h8 0
  have g0 : (0 ≤ p) = True := eq_true hp0
  have g1 : (p < (when.length : Int)) = True := eq_true hp1
  have g2 : ((n : Int) < (when.length : Int)) = True := eq_true (by omega)
  clear hC h5 h8 hp0 hp1 hn
  go_enter Try.func25, Try.ntmps25
  go_wp2_with fail
  refine wp_region_seq (fun w' => Drawn0 w w') [] [.take 0, .take 1, .take 2, .take 3, .take 4, .take 5, .take 6, .take 7, .take 8, .take 9] (by kernel_rfl) (by kernel_rfl) rfl (by kernel_rfl) (panic_thn rfl) ?_
  have hs : Drawn0 w w.drew := (Drawn0.refl w).step 1
  repeat (
    (first
      | (refine runSeq_take (v := ?_) (by rfl) (by rfl) (fun w' hS => ?_) hs ?_
         rotate_left
         · (obtain ⟨n, rfl⟩ := hS; go_simp; exact rfl))
      | refine runSeq_skip (by rfl) (by rfl) hs ?_)
    (try simp only [Act.put, List.setIfInBounds_toArray, List.set_cons_zero, List.set_cons_succ]))
  refine runSeq_nil ?_
  have HS := Aside0.mk hs
  clear hs
  go_wp2_with fail
  go_ret
  exact ⟨rfl, HS.out⟩
def fitsF (l : List (List Int)) (a : Int) (when : List Int) : Nat → Nat → Bool
  | 0, _ => true
  | d + 1, n => if rd when n < 0 ∨ (l.getD n []).any (lateB when n) = true then false else if ((when.take (n + 1)).count (rd when n) : Int) > a then false else fitsF l a when d (n + 1)
def fitsP (l : List (List Int)) (a : Int) (when : List Int) : Bool := mayB l a && decide (when.length = l.length) && fitsF l a when l.length 0
def wfs (when : List Int) : Bool := when.all fun x => (Lit.int .i64 x).wf
def greedy_Fits.f (l : List (List Int)) (a : Int) (when : List Int) : Option Bool := if lightB l && wfs when then some (fitsP l a when) else none
/-- What lies in memory. -/
structure FW (w : World) (A0 : Option Addr) (c0 len : Nat) (A2 : Option Addr) (c2 : Nat) (when : List Int) (b5 bm : Nat) (k : Nat) (wr : World) : Prop where
  arg : wr.heap[w.heap.size]? = some (.cells #[.slice A0 len c0] 29 (0, 0))
  box : wr.heap[b5]? = some (.cells #[.slice A2 when.length c2] 24 (0, 0))
  below : Below w.heap.size w wr
  map : ∃ D : DataW Unit, wr.ownsMap Try.prog 3 (plainElem Try.prog 3) bm k D ∧ ∀ x : Int, D.atKey (.int .i64 x) (.lit (.int .i64 0)) = .lit (.int .i64 ((when.take k).count x))
  ne : w.heap.size ≤ bm ∧ b5 ≠ bm ∧ bm ≠ w.heap.size
theorem FW.alloc {w : World} {A0 : Option Addr} {c0 len : Nat} {A2 : Option Addr} {c2 : Nat} {when : List Int} {b5 bm k : Nat} {wr : World} (h : FW w A0 c0 len A2 c2 when b5 bm k wr) (o : Obj) : FW w A0 c0 len A2 c2 when b5 bm k (wr.alloc o) := by
  obtain ⟨D, hm, hD⟩ := h.map
  exact ⟨(Below.heap_alloc _ _ _ (blk_lt h.arg)).trans h.arg, (Below.heap_alloc _ _ _ (blk_lt h.box)).trans h.box, h.below.alloc h.below.size _, ⟨D, hm.alloc o, hD⟩, h.ne⟩
theorem FW.drawn {w : World} {A0 : Option Addr} {c0 len : Nat} {A2 : Option Addr} {c2 : Nat} {when : List Int} {b5 bm k : Nat} {wr w1 : World} (h : FW w A0 c0 len A2 c2 when b5 bm k wr) (hd : Drawn0 wr w1) : FW w A0 c0 len A2 c2 when b5 bm k w1 := by
  obtain ⟨D, hm, hD⟩ := h.map
  have hb := hd.below
  obtain ⟨n, rfl⟩ := hd
  exact ⟨h.arg, h.box, h.below.trans (hb.mono h.below.size), ⟨D, hm, hD⟩, h.ne⟩
theorem count_take {when : List Int} {n : Nat} (h : n < when.length) (x : Int) : (when.take (n + 1)).count x = (when.take n).count x + (if when[n] = x then 1 else 0) := by
  rw [List.take_succ_eq_append_getElem h, List.count_append]
  congr 1
  rw [List.count_singleton]
  by_cases e : when[n] = x <;> simp [e]
theorem FW.put {w : World} {A0 : Option Addr} {c0 len : Nat} {A2 : Option Addr} {c2 : Nat} {when : List Int} {b5 bm k : Nat} {wr w1 : World} (h : FW w A0 c0 len A2 c2 when b5 bm k wr) (hk : k < when.length) {D : DataW Unit} (hD : ∀ x : Int, D.atKey (.int .i64 x) (.lit (.int .i64 0)) = .lit (.int .i64 ((when.take k).count x)))
    (hi : IsMap D) {c : Int} (hc : c = ((when.take (k + 1)).count (rd when k) : Nat)) (hm : w1.ownsMap Try.prog 3 (plainElem Try.prog 3) bm (k + 1) (D.put (.int .i64 (rd when k)) (.lit (.int .i64 c)))) (hg : wr.grownBy w1 (some bm)) : FW w A0 c0 len A2 c2 when b5 bm (k + 1) w1 := by
  refine ⟨blk_grown h.arg hg (by have := h.ne; simp; omega), blk_grown h.box hg (by have := h.ne; simp; omega), h.below.grown hg h.below.size (fun j hj => by cases hj; exact h.ne.1), ⟨_, hm, fun x => ?_⟩, h.ne⟩
  rw [rd_get hk] at *
  by_cases e : when[k] = x
  · subst e
    rw [atKey_put_same hi (by simp [WideAt.IsKeyLit]), hc]
  · rw [atKey_put_other (by simp; exact fun h => e h.symm), hD, count_take hk, if_neg e, Nat.add_zero]
theorem law3 : Keyed Try.prog 3 := int_keyed Try.underlying3
theorem zero3 (w : World) : (zeroValue 3).run Try.prog w = .ok (.int .i64 0) w := by kernel_rfl
theorem cnt_up {D : DataW Unit} {when : List Int} {n : Nat} (hn : n < when.length) (hn5 : n < 9223372036854775807) (hD : ∀ x : Int, D.atKey (.int .i64 x) (.lit (.int .i64 0)) = .lit (.int .i64 ((when.take n).count x))) {c : Int}
    (hat : D.atKey (.int .i64 (rd when (n : Int))) (.lit (.int .i64 0)) = .lit (.int .i64 c)) : wrap64 (c + 1) = (((when.take (n + 1)).count (rd when (n : Int)) : Nat) : Int) := by
  rw [hD] at hat
  injection hat with h1
  injection h1 with _ h2
  have h3 : (when.take n).count (rd when (n : Int)) ≤ (when.take n).length := List.count_le_length
  rw [List.length_take] at h3
  rw [count_take hn, if_pos (rd_get hn).symm, ← h2, wrap_id (by omega) (by omega)]
  omega
theorem cnt_put {D : DataW Unit} (hi : IsMap D) {x y c c2 : Int} (hc : c = y) (hat : (D.put (.int .i64 x) (.lit (.int .i64 c))).atKey (.int .i64 x) (.lit (.int .i64 0)) = .lit (.int .i64 c2)) : c2 = y := by
  rw [atKey_put_same hi (by simp [WideAt.IsKeyLit])] at hat
  injection hat with h1
  injection h1 with _ h2
  rw [← h2, hc]
def fPost (l : List (List Int)) (a : Int) (when : List Int) (w : World) (e : Ending) (w' : World) : Prop := e = .returned (.bool (fitsP l a when)) ∧ Below w.heap.size w w'
set_option maxRecDepth 100000 in
set_option maxHeartbeats 4000000 in
theorem fits_walk (A0 : Option Addr) (c0 : Nat) (l : List (List Int)) (a : Int) (A2 : Option Addr) (c2 : Nat) (when : List Int) (w : World) (hr0 : Kd.C (Kd.slice 3 (Kd.int .i64)) w A0 l.length l) (hc0 : l.length ≤ c0)
    (hr2 : (Kd.int .i64).C w A2 when.length when) (hl : light l) (hwf : wfs when = true) :
    Calls Try.prog 17 #[.agg #[.slice A0 l.length c0], .int .i64 a, .slice A2 when.length c2] w (fPost l a when w) := by
  have hu29 := Try.underlying29
  have hmm := @run_makeMap Try.prog
  obtain ⟨kk, hmay⟩ := Ev.rounds (may_f l a hl)
  have HR := Aside0.mk hr0
  have HC := Aside0.mk hc0
  have HR2 := Aside0.mk hr2
  have HL := Aside0.mk hl
  have HWF := Aside0.mk hwf
  clear hr0 hc0 hl hr2 hwf
  have hbx := alloc_blk w (.cells #[.slice A0 l.length c0] 29)
  have hbl := (Below.refl w.heap.size w).alloc (Nat.le_refl _) (.cells #[.slice A0 l.length c0] 29)
  have hbx5 := alloc_blk (w.alloc (.cells #[.slice A0 l.length c0] 29)) (.cells #[.slice A2 when.length c2] 24)
  have hbx2 : ((w.alloc (.cells #[.slice A0 l.length c0] 29)).alloc (.cells #[.slice A2 when.length c2] 24)).heap[w.heap.size]? = some (.cells #[.slice A0 l.length c0] 29 (0, 0)) := (Below.heap_alloc _ _ _ (blk_lt hbx)).trans hbx
  have hbl2 := hbl.alloc (by simp) (.cells #[.slice A2 when.length c2] 24)
  have hbx5 : ((w.alloc (.cells #[.slice A0 l.length c0] 29)).alloc (.cells #[.slice A2 when.length c2] 24)).heap[w.heap.size + 1]? = some (.cells #[.slice A2 when.length c2] 24 (0, 0)) := by simpa using hbx5
  have B := Aside0.mk (And.intro hbx2 (And.intro hbx5 hbl2))
  have HM := Aside0.mk hmay
  clear hbx hbl hbx2 hbx5 hbl2 hmay
  go_enter Try.func17, Try.ntmps17
  go_wp2_with fail
  generalize (w.alloc (.cells #[.slice A0 l.length c0] 29)).alloc (.cells #[.slice A2 when.length c2] 24) = w1 at B ⊢
  refine (greedy_may.calls kk A0 c0 l a _ w1 (Kd.C_below HR.out B.out.2.2) HC.out HM.out).mono ?_
  rintro e w2 ⟨rfl, hb⟩
  have hbx2 := (hb.block _ (blk_lt B.out.1)).trans B.out.1
  have hbx5 := (hb.block _ (blk_lt B.out.2.1)).trans B.out.2.1
  have hbl2 := B.out.2.2.trans (hb.mono B.out.2.2.size)
  have D := Aside0.mk (And.intro hbx2 (And.intro hbx5 hbl2))
  clear B hb hbx2 hbx5 hbl2
  cases hm : mayB l a with
  | false =>
    have HF : Aside0 (fitsP l a when = false) := ⟨by simp [fitsP, hm]⟩
    clear hm
    go_wp2_with fail
    go_ret
    exact ⟨by rw [HF.out]; rfl, D.out.2.2⟩
  | true =>
    have HMM := Aside0.mk hm
    have cB := blk_cell D.out.1 0
    have fB := blk_frozen D.out.1 0
    have c5 := blk_cell D.out.2.1 0
    have f5 := blk_frozen D.out.2.1 0
    clear hm
    by_cases hlen : when.length = l.length
    · have HLE := Aside0.mk hlen
      have hle : ((when.length : Int) != (l.length : Int)) = false := by simp [hlen]
      clear hlen
      have hF : FW w A0 c0 l.length A2 c2 when (w.heap.size + 1) w2.heap.size 0 (w2.alloc (.map #[] 0)) := by
        have h1 := blk_lt D.out.1
        have h2 := blk_lt D.out.2.1
        refine ⟨(Below.heap_alloc _ _ _ h1).trans D.out.1, (Below.heap_alloc _ _ _ h2).trans D.out.2.1, D.out.2.2.alloc D.out.2.2.size _, ⟨.map [], World.ownsMap_made _ _ _ _, fun x => by simp [DataW.atKey]⟩, by omega, by omega, by omega⟩
      have F := Aside0.mk hF
      have cB2 := blk_cell F.out.arg 0
      have fB2 := blk_frozen F.out.arg 0
      clear hF D
      go_wp2_with fail
      clear cB fB c5 f5 cB2 fB2
      generalize w2.alloc (.map #[] 0) = w3 at F ⊢
      generalize w2.heap.size = bm at F ⊢
      have hrow0 : fitsP l a when = fitsF l a when (l.length - 0) 0 := by simp [fitsP, HMM.out, HLE.out]
      have G := Aside0.mk hrow0
      clear hrow0 hle
      go_loopw [26] (fun v26 wr => ∃ n : Nat, v26 = .int .i64 n ∧ n ≤ l.length ∧ Aside0 (FW w A0 c0 l.length A2 c2 when (w.heap.size + 1) bm n wr) ∧ Aside0 (fitsP l a when = fitsF l a when (l.length - n) n)) (fun v26 _ => l.length - (intOf v26).toNat)
      case atStart => exact ⟨0, rfl, Nat.zero_le _, F, G⟩
      case round =>
        clear F G
        obtain ⟨n, rfl, hn, F, G⟩ := hrel
        by_cases hlt : n < l.length
        · have hnw : n < when.length := by rw [HLE.out]; exact hlt
          obtain ⟨ad, Ar, cr, rfl, hrow, hcr, hCr⟩ := at_L1 HR.out (n : Int) (by omega) (by omega)
          obtain ⟨ad2, rfl, hx⟩ := Kd.at_int HR2.out (n : Int) (by omega) (by omega)
          rw [Int.toNat_natCast] at hrow hx
          rw [rdL_get hlt] at hrow hcr hCr
          have hFA := F.out.alloc (.cells #[.int .i64 (n : Int)] 3)
          have hrow2 := (F.out.below.cell (World.block_lt_of_cell? w _ hrow)).trans hrow
          have hx2 := (hFA.below.cell (World.block_lt_of_cell? w _ hx)).trans hx
          have h8 := alloc_blk wr (.cells #[.int .i64 (n : Int)] 3)
          have cB := blk_cell F.out.arg 0
          have fB := blk_frozen F.out.arg 0
          have c5 := blk_cell hFA.box 0
          have f5 := blk_frozen hFA.box 0
          have HX := Aside0.mk (And.intro hrow hx)
          have HCr := Aside0.mk (And.intro hCr hcr)
          have FA := Aside0.mk (And.intro hFA (And.intro h8 hnw))
          have g2 : ((n : Int) < (when.length : Int)) = True := eq_true (by omega)
          obtain ⟨d, hd⟩ : ∃ d, l.length - n = d + 1 := ⟨l.length - n - 1, by omega⟩
          have hd2 : l.length - (n + 1) = d := by omega
          have hstep := G.out
          rw [hd] at hstep
          simp only [fitsF] at hstep
          have hg : l.getD n [] = l[n] := by simp [hlt]
          rw [hg] at hstep
          by_cases hneg : rd when (n : Int) < 0
          · rw [if_pos (.inl hneg)] at hstep
            have HF := Aside0.mk hstep
            clear hrow hx hcr hCr hFA h8 hnw hd hd2 hstep hg
            go_wp2_with fail
            go_ret
            exact ⟨by rw [HF.out]; rfl, FA.out.1.below⟩
          · clear hrow hx hcr hCr hFA h8 hnw
            have HS := Aside0.mk (And.intro hstep (And.intro hd2 hneg))
            clear hstep hd hd2 hg hneg
            have hneg := HS.out.2.2
            go_wp2_with fail
            refine (contains25_any _ _ (lateB when n) l[n] Ar cr _ (Kd.C_below HCr.out.1 FA.out.1.below) (HL.out.2 _ (List.getElem_mem hlt)) (fun x hx w' hdr => ?_)).mono ?_
            · have hx2 := dag_of (may_parts HMM.out).1 n hlt x hx
              have hF6 := FA.out.1.drawn hdr
              have h86 := (hdr.below.block _ (blk_lt FA.out.2.1)).trans FA.out.2.1
              have := HLE.out
              exact late_any when n x _ _ _ c2 w' hF6.box (Kd.C_below HR2.out hF6.below) h86 FA.out.2.2 hx2.1 (by omega)
            rintro e w6 ⟨rfl, hdr⟩
            have hF6 := FA.out.1.drawn hdr
            have h86 := (hdr.below.block _ (blk_lt FA.out.2.1)).trans FA.out.2.1
            have hx6 := (hF6.below.cell (World.block_lt_of_cell? w _ HX.out.2)).trans HX.out.2
            have F6 := Aside0.mk (And.intro hF6 (And.intro h86 FA.out.2.2))
            clear cB fB c5 f5 hx2 hrow2
            cases hany : l[n].any (lateB when n) with
            | true =>
              have hst := HS.out.1
              rw [if_pos (.inr hany)] at hst
              have HF := Aside0.mk hst
              clear hst hany hdr hF6 h86 hx6
              go_wp2_with fail
              go_ret
              exact ⟨by rw [HF.out]; rfl, F6.out.1.below⟩
            | false =>
              have hst := HS.out.1
              rw [if_neg (by simp [hneg, hany])] at hst
              have HST := Aside0.mk hst
              have hbl6 := blk_lt h86
              have hbm8 : wr.heap.size ≠ bm := by obtain ⟨D, hm, _⟩ := F.out.map; have := hm.lt; omega
              have c56 := blk_cell hF6.box 0
              have f56 := blk_frozen hF6.box 0
              have c86 := blk_cell h86 0
              have f86 := blk_frozen h86 0
              have hkey : keyOf Try.prog 3 (.int .i64 (rd when (n : Int))) = some (.int .i64 (rd when (n : Int))) := keyOf_int_mk Try.underlying3 (by
                rw [rd_get FA.out.2.2]
                exact List.all_eq_true.1 HWF.out _ (List.getElem_mem _))
              have HK := Aside0.mk hkey
              obtain ⟨D, hown0, hD⟩ := F6.out.1.map
              have HOWN := Aside0.mk hown0
              have HD0 := Aside0.mk hD
              have hn5 : n < 9223372036854775807 := by have := HL.out.1; omega
              obtain ⟨cnt, hcnt⟩ : ∃ cnt : Nat, cnt = (when.take (n + 1)).count (rd when (n : Int)) := ⟨_, rfl⟩
              rw [← hcnt] at hst
              have HCN := Aside0.mk hcnt
              clear hany hdr hF6 h86 hkey hD hown0 hcnt
              by_cases hgt : (cnt : Int) > a
              · rw [if_pos hgt] at hst
                have HF := Aside0.mk hst
                clear hst
                go_wp2_with (first
                  | (at_lookup; refine wpList_lookup_own_int _ rfl _ _ 45 rfl 3 3 .i64 law3 Try.underlying45 Try.underlying3 (zero3 _) bm n _ rfl HOWN.out _ _ rfl HK.out ?_; intro c hat hwc; have HAT := Aside0.mk hat; clear hat hwc)
                  | (at_mapUpdate; refine wpList_mapUpdate_own _ rfl _ _ _ 45 rfl 3 3 law3 Try.underlying45 _ bm n _ rfl HOWN.out (by unfold maxLen; omega) _ _ _ rfl rfl HK.out _ [] (plainElem_int Try.underlying3 (wrap64_wf _)) ?_; intro w7 hown1 hgrow1; have hcc := cnt_up F6.out.2.2 hn5 HD0.out HAT.out; have hF7 := F6.out.1.put F6.out.2.2 HD0.out HOWN.out.isMap hcc hown1 hgrow1; have h87 := blk_grown F6.out.2.1 hgrow1 (by simp; omega); have hx7 := (hF7.below.cell (World.block_lt_of_cell? w _ HX.out.2)).trans HX.out.2; have c57 := blk_cell hF7.box 0; have f57 := blk_frozen hF7.box 0; have c87 := blk_cell h87 0; have f87 := blk_frozen h87 0; have F7 := Aside0.mk hF7; have HOWN7 := Aside0.mk hown1; have HCC := Aside0.mk hcc; clear hown1 hgrow1 hF7 h87 hcc)
                  | (at_lookup; refine wpList_lookup_own_int _ rfl _ _ 45 rfl 3 3 .i64 law3 Try.underlying45 Try.underlying3 (zero3 _) bm (n + 1) _ rfl HOWN7.out _ _ rfl HK.out ?_; intro c2 hat hwc; have hc2 := cnt_put HOWN.out.isMap HCC.out hat; rw [← HCN.out] at hc2; subst hc2; clear hat hwc)
                  | go_in)
                go_ret
                exact ⟨by rw [HF.out]; rfl, F7.out.below⟩
              · rw [if_neg hgt, ← HS.out.2.1] at hst
                have HF := Aside0.mk hst
                clear hst
                go_wp2_with (first
                  | (at_lookup; refine wpList_lookup_own_int _ rfl _ _ 45 rfl 3 3 .i64 law3 Try.underlying45 Try.underlying3 (zero3 _) bm n _ rfl HOWN.out _ _ rfl HK.out ?_; intro c hat hwc; have HAT := Aside0.mk hat; clear hat hwc)
                  | (at_mapUpdate; refine wpList_mapUpdate_own _ rfl _ _ _ 45 rfl 3 3 law3 Try.underlying45 _ bm n _ rfl HOWN.out (by unfold maxLen; omega) _ _ _ rfl rfl HK.out _ [] (plainElem_int Try.underlying3 (wrap64_wf _)) ?_; intro w7 hown1 hgrow1; have hcc := cnt_up F6.out.2.2 hn5 HD0.out HAT.out; have hF7 := F6.out.1.put F6.out.2.2 HD0.out HOWN.out.isMap hcc hown1 hgrow1; have h87 := blk_grown F6.out.2.1 hgrow1 (by simp; omega); have hx7 := (hF7.below.cell (World.block_lt_of_cell? w _ HX.out.2)).trans HX.out.2; have c57 := blk_cell hF7.box 0; have f57 := blk_frozen hF7.box 0; have c87 := blk_cell h87 0; have f87 := blk_frozen h87 0; have F7 := Aside0.mk hF7; have HOWN7 := Aside0.mk hown1; have HCC := Aside0.mk hcc; clear hown1 hgrow1 hF7 h87 hcc)
                  | (at_lookup; refine wpList_lookup_own_int _ rfl _ _ 45 rfl 3 3 .i64 law3 Try.underlying45 Try.underlying3 (zero3 _) bm (n + 1) _ rfl HOWN7.out _ _ rfl HK.out ?_; intro c2 hat hwc; have hc2 := cnt_put HOWN.out.isMap HCC.out hat; rw [← HCN.out] at hc2; subst hc2; clear hat hwc)
                  | go_in)
                go_roundw
                case rel => exact ⟨n + 1, by go_num, by omega, F7, HF⟩
                case measure => simp [intOf]; omega
        · obtain rfl : n = l.length := by omega
          have HF : Aside0 (fitsP l a when = true) := ⟨by rw [G.out, Nat.sub_self]; rfl⟩
          go_wp2_with fail
          go_ret
          exact ⟨by rw [HF.out]; rfl, F.out.below⟩
    · have HF : Aside0 (fitsP l a when = false) := ⟨by simp [fitsP, hlen]⟩
      have hle : ((when.length : Int) != (l.length : Int)) = true := by simp; omega
      clear hlen
      go_wp2_with fail
      go_ret
      exact ⟨by rw [HF.out]; rfl, D.out.2.2⟩
theorem greedy_Fits.calls (A0_0 : Option Addr) (c0_0 : Nat) (l0_0 : List (List Int)) (a1 : Int) (A2 : Option Addr) (c2 : Nat) (l2 : List Int) (r : Bool) (w : World) (hr0_0 : Kd.C (Kd.slice 3 (Kd.int .i64)) w A0_0 l0_0.length l0_0) (hc0_0 : l0_0.length ≤ c0_0)
    (hr2 : Kd.C (Kd.int .i64) w A2 l2.length l2) (hc2 : l2.length ≤ c2) (h : greedy_Fits.f l0_0 a1 l2 = some r) :
    Calls Try.prog 17 #[.agg #[.slice A0_0 l0_0.length c0_0], .int .i64 a1, .slice A2 l2.length c2] w fun e w' => e = .returned (.bool r) ∧ Below w.heap.size w w' := by
  unfold greedy_Fits.f at h
  by_cases hl : (lightB l0_0 && wfs l2) = true
  · rw [if_pos hl] at h
    rw [Bool.and_eq_true] at hl
    refine (fits_walk A0_0 c0_0 l0_0 a1 A2 c2 l2 w hr0_0 hc0_0 hr2 (lightB_iff.1 hl.1) hl.2).mono ?_
    rintro e w' ⟨rfl, hb⟩
    rw [Option.some.inj h]
    exact ⟨rfl, hb⟩
  · rw [if_neg hl] at h; cases h
#print axioms greedy_Fits.calls
end Go.Proofs.Ytenmicgohmamaaa.H
