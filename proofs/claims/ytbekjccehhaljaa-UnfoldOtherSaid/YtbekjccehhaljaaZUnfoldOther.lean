/- A task that begins one that fails goes on till it needs it: for every input. No condition. -/
import Derived.Test.YtbekjccehhaljaaZUnfoldOther4
import Derived.OpenShut
import Derived.Deep.Slices
import Derived.ChangeArms
import Derived.WideShapes
import Derived.Test.YtbekjccehhaljaaRows
import Derived.WalkKit
import Derived.ProofKit
import Derived.ShutString
import Derived.ChangeOld
import Derived.Below
import Derived.SizedLaws
set_option linter.unusedVariables false
set_option linter.unusedSimpArgs false
namespace Go.Proofs.Ytbekjccehhaljaa.H
open Go.RowKit Go.Hay Go.Proofs.YtbekjccehhaljaaW.PrintWords Go.Proofs.YtbekjccehhaljaaW.PrintLast Go.Proofs.YtbekjccehhaljaaW.PrintMore
set_option maxRecDepth 100000 in
set_option maxHeartbeats 4000000 in
theorem mindex_any (q : Option Addr) (p : Nat → Bool) (qs : List (Option Addr)) (A : Option Addr) (c : Nat) (w : World) (hC : kP.C w A qs.length qs)
    (hp : ∀ i (h : i < qs.length) w', Below w.heap.size w w' → Calls Try.prog 52 #[.pointer qs[i], .pointer q] w' fun e w'' => e = .returned (.bool (p i)) ∧ Below w'.heap.size w' w'') :
    Calls Try.prog 72 #[.slice A qs.length c, .func (.func 52) #[] #[.pointer q]] w fun e w' => (∃ r : Int, e = .returned (.int .i64 r) ∧ decide (0 ≤ r) = (List.range qs.length).any p) ∧ Below w.heap.size w w' := by
  have hmax := Kd.C_max hC
  have HC := Aside0.mk hC
  have HP := Aside0.mk hp
  have HW := Aside0.mk (Below.refl w.heap.size w)
  clear hC hp
  go_enter Try.func72, Try.ntmps72
  go_wp2_with fail
  go_loopw [8] (fun v8 wr => ∃ (i : Nat), v8 = .int .i64 i ∧ i ≤ qs.length ∧ Aside0 ((List.range i).any p = false) ∧ Aside0 (Below w.heap.size w wr)) (fun v8 _ => qs.length - (intOf v8).toNat)
  case atStart => exact ⟨0, rfl, Nat.zero_le _, ⟨rfl⟩, HW⟩
  case round =>
    obtain ⟨i, rfl, hi, HN, HD⟩ := hrel
    by_cases hlt : i < qs.length
    · obtain ⟨ad, rfl, hx⟩ := at_P HC.out i hlt hlt
      have hx2 := (HD.out.cell (World.block_lt_of_cell? w _ hx)).trans hx
      clear hx
      go_wp2_with fail
      refine (HP.out i hlt wr HD.out).mono ?_
      rintro e w2 ⟨rfl, hd⟩
      have HD2 := Aside0.mk (HD.out.trans (hd.mono HD.out.size))
      clear hd hx2 HD
      cases hb : p i with
      | true =>
        have hf : (List.range qs.length).any p = true := List.any_eq_true.2 ⟨i, List.mem_range.2 hlt, hb⟩
        have HF := Aside0.mk hf
        clear hf HN hb
        go_wp2_with fail
        go_ret
        exact ⟨⟨i, rfl, by rw [HF.out]; simp⟩, HD2.out⟩
      | false =>
        have HN2 : Aside0 ((List.range (i + 1)).any p = false) := ⟨by rw [List.range_succ, List.any_append, HN.out]; simp [hb]⟩
        clear HN hb
        go_wp2_with fail
        go_roundw
        case rel => exact ⟨i + 1, by go_num, by omega, HN2, HD2⟩
        case measure => simp [intOf]; omega
    · obtain rfl : i = qs.length := by omega
      clear hlt
      go_wp2_with fail
      go_ret
      exact ⟨⟨-1, rfl, by rw [HN.out]; rfl⟩, HD.out⟩
set_option maxRecDepth 100000 in
theorem mcontains_any (q : Option Addr) (p : Nat → Bool) (qs : List (Option Addr)) (A : Option Addr) (c n : Nat) (w : World) (hn : qs.length = n) (hC : kP.C w A n qs)
    (hp : ∀ i (h : i < qs.length) w', Below w.heap.size w w' → Calls Try.prog 52 #[.pointer qs[i], .pointer q] w' fun e w'' => e = .returned (.bool (p i)) ∧ Below w'.heap.size w' w'') :
    Calls Try.prog 51 #[.slice A n c, .func (.func 52) #[] #[.pointer q]] w fun e w' => e = .returned (.bool ((List.range n).any p)) ∧ Below w.heap.size w w' := by
  subst hn
  have HX := Aside0.mk (mindex_any q p qs A c w hC hp)
  clear hC hp
  go_enter Try.func51, Try.ntmps51
  go_wp2_with fail
  refine HX.out.mono ?_
  rintro e w' ⟨⟨r, rfl, hr⟩, hb⟩
  have HR := Aside0.mk hr
  have HB := Aside0.mk hb
  clear hr hb
  go_wp2_with fail
  go_ret
  exact ⟨by rw [← HR.out]; rfl, HB.out⟩
def RightOk (t : Tr) : Prop := ∀ (a : Option Addr) (d : Int) (w : World), IsT t w a → 0 ≤ d → d ≤ 31 → Calls Try.prog 36 #[.pointer a, .int .i64 d] w fun e w' => e = .returned (.bool (rightT t d)) ∧ Below w.heap.size w w'
set_option maxRecDepth 100000 in
theorem right_nil : RightOk .nil := by
  intro a d w h h0 h1
  simp only [IsT] at h
  subst h
  have HB := Aside0.mk ((Below.refl w.heap.size w).alloc (Nat.le_refl _) (.cells #[.int .i64 d] 3))
  have HR := Aside0.mk (show rightT .nil d = false from rfl)
  go_enter Try.func36, Try.ntmps36
  go_wp2_with fail
  go_ret
  exact ⟨by rw [HR.out]; rfl, HB.out⟩
set_option maxRecDepth 100000 in
theorem mkid_any (t : Tr) (ht : RightOk t) (b : Nat) (a : Option Addr) (d : Int) (w : World) (h : IsT t w a) (h0 : 0 ≤ d) (h1 : d ≤ 30) (hb : w.heap[b]? = some (.cells #[.int .i64 d] 3 (0, 0))) :
    Calls Try.prog 52 #[.pointer a, .pointer (some ⟨b, 0, none⟩)] w fun e w' => e = .returned (.bool (!rightT t (d + 1))) ∧ Below w.heap.size w w' := by
  have c := blk_cell hb 0
  have HX := Aside0.mk (ht a (d + 1) w h (by omega) (by omega))
  have hw : IntKind.i64.wrap (d + 1) = d + 1 := (i64_w _).trans (by unfold wrap64; omega)
  clear ht h hb
  go_enter Try.func52, Try.ntmps52
  go_wp2_with fail
  refine HX.out.mono ?_
  rintro e w' ⟨rfl, hb⟩
  have HB := Aside0.mk hb
  clear hb
  go_wp2_with fail
  go_ret
  exact ⟨rfl, HB.out⟩
theorem rightTs_any : ∀ (ks : List Tr) (d : Int), (List.range ks.length).any (fun i => !rightT (ks.getD i .nil) d) = !rightTs ks d
  | [], d => rfl
  | k :: r, d => by
    rw [rightTs, Bool.not_and, ← rightTs_any r d, List.length_cons, List.range_succ_eq_map, List.any_cons, List.any_map]
    rfl
theorem right_early {ps : List Pc} {ks : List Tr} {v f d : Int} (h : d > 30 ∨ (f ≠ 0 ∧ v ≠ 0)) : rightT (.node ps ks v f) d = false := by
  rw [rightT, if_pos h]
theorem right_none {ps : List Pc} {ks : List Tr} {v f d : Int} (h : metP 0 ps = none) : rightT (.node ps ks v f) d = false := by
  rw [rightT, h]; split <;> rfl
theorem right_some {ps : List Pc} {ks : List Tr} {v f d m : Int} (h : ¬ (d > 30 ∨ (f ≠ 0 ∧ v ≠ 0))) (hm : metP 0 ps = some m) : rightT (.node ps ks v f) d = if m = (ks.length : Int) then rightTs ks (d + 1) else false := by
  rw [rightT, if_neg h, hm]
theorem metP_step {m : Int} {ps : List Pc} {i : Nat} (hi : i < ps.length) {k : Int} (h : metP 0 ps = metP m (ps.drop i)) {q : Pc} (hq : ps[i] = q) (hk : (q.f0 = false ∧ k = m) ∨ (q.f0 = true ∧ q.f1 = m ∧ k = m + 1)) : metP 0 ps = metP k (ps.drop (i + 1)) := by
  rw [h, List.drop_eq_getElem_cons hi, hq, metP]
  rcases hk with ⟨h1, rfl⟩ | ⟨h1, h2, rfl⟩
  · rw [if_neg (by rw [h1]; simp)]
  · rw [if_pos h1, if_pos h2]
theorem metP_stop {m : Int} {ps : List Pc} {i : Nat} (hi : i < ps.length) (h : metP 0 ps = metP m (ps.drop i)) {q : Pc} (hq : ps[i] = q) (h1 : q.f0 = true) (h2 : q.f1 ≠ m) : metP 0 ps = none := by
  rw [h, List.drop_eq_getElem_cons hi, hq, metP, if_pos h1, if_neg h2]
structure RW (w : World) (d : Int) (b : Nat) (cs : Array Value) (w' : World) : Prop where
  below : Below w.heap.size w w'
  box : w'.heap[w.heap.size]? = some (.cells #[.int .i64 d] 3 (0, 0))
  node : w'.heap[b]? = some (.cells cs 70 (0, 0))
theorem RW.keep {w : World} {d : Int} {b : Nat} {cs : Array Value} {w' w'' : World} (h : RW w d b cs w') (k : Below w'.heap.size w' w'') : RW w d b cs w'' :=
  ⟨h.below.trans (k.mono h.below.size), (k.block _ (blk_lt h.box)).trans h.box, (k.block _ (blk_lt h.node)).trans h.node⟩
set_option maxRecDepth 100000 in
set_option maxHeartbeats 4000000 in
theorem right_node (ps : List Pc) (ks : List Tr) (v f : Int) (hk : ∀ k ∈ ks, RightOk k) : RightOk (.node ps ks v f) := by
  intro a d w h h0 h1
  have h' := h
  simp only [IsT] at h'
  obtain ⟨b, A1, c1, A2, c2, qs, rfl, g1, g2, g3, g4, g5, g6⟩ := h'
  have hB := (Below.refl w.heap.size w).alloc (Nat.le_refl _) (.cells #[.int .i64 d] 3)
  have hbx := alloc_blk w (.cells #[.int .i64 d] 3)
  have gw := (hB.block _ (blk_lt g1)).trans g1
  have HX := Aside0.mk (And.intro hB (And.intro hbx gw))
  have c0 := blk_cell gw 0
  have c1' := blk_cell gw 1
  have c2' := blk_cell gw 2
  have c3 := blk_cell gw 3
  have b0 := blk_cell hbx 0
  have G := Aside0.mk (And.intro g3 (And.intro g5 g6))
  have HK := Aside0.mk hk
  clear h g1 g2 g3 g4 g5 g6 gw hB hbx hk
  by_cases hd : d > 30
  · have HR := Aside0.mk (right_early (ps := ps) (ks := ks) (v := v) (f := f) (.inl hd))
    have hd' : (30 < d) = True := eq_true hd
    clear hd
    go_enter Try.func36, Try.ntmps36
    go_wp2_with fail
    go_ret
    exact ⟨by rw [HR.out]; rfl, HX.out.1⟩
  · have hd' : (30 < d) = False := eq_false hd
    by_cases hf : f = 0
    · have hf' : (f != 0) = false := by rw [hf]; rfl
      have HE := Aside0.mk (show ¬ (d > 30 ∨ (f ≠ 0 ∧ v ≠ 0)) from fun h => h.elim hd (fun h => h.1 hf))
      clear hf hd
      have hmax := Kd.C_max G.out.1
      have HRW := Aside0.mk (RW.mk HX.out.1 HX.out.2.1 HX.out.2.2)
      go_enter Try.func36, Try.ntmps36
      go_wp2_with fail
      clear HX
      go_loopw [5, 33] (fun v5 v33 wr => ∃ (i : Nat) (m : Int), v5 = .int .i64 m ∧ v33 = .int .i64 i ∧ i ≤ ps.length ∧ Aside0 (0 ≤ m ∧ m ≤ i) ∧ Aside0 (metP 0 ps = metP m (ps.drop i)) ∧ Aside0 (RW w d b #[.slice A1 ps.length c1, .slice A2 ks.length c2, .int .i64 v, .int .i64 f] wr)) (fun _ v33 _ => ps.length - (intOf v33).toNat)
      case atStart => exact ⟨0, 0, rfl, rfl, Nat.zero_le _, ⟨by omega⟩, ⟨rfl⟩, HRW⟩
      case round =>
        clear HRW
        obtain ⟨i, m, rfl, rfl, hi, HM, HP, HRW⟩ := hrel
        by_cases hlt : i < ps.length
        · obtain ⟨ad, rfl, hx0, hx1⟩ := at_Pc G.out.1 i (by omega) (by omega)
          replace hx0 := (HRW.out.below.cell (World.block_lt_of_cell? w _ hx0)).trans hx0
          replace hx1 := (HRW.out.below.cell (World.block_lt_of_cell? w _ hx1)).trans hx1
          simp only [Int.toNat_natCast] at hx0 hx1
          have hfi : rd_Pc ps (i : Int) = ps[i] := by simp [rd_Pc, hlt]
          rw [hfi] at hx0 hx1
          clear hfi
          generalize hfj : ps[i] = pi at hx0 hx1
          obtain ⟨p0, p1⟩ := pi
          have HK2 := Aside0.mk (HRW.out.keep ((Below.refl _ _).alloc (Nat.le_refl _) (.cells #[.bool p0, .int .i64 p1] 86)))
          have hm1 := HM.out.1
          have hm2 := HM.out.2
          cases p0 with
          | false =>
            have HP2 := Aside0.mk (metP_step hlt HP.out hfj (.inl ⟨rfl, rfl⟩))
            clear hfj
            go_wp2_with fail
            go_roundw
            case rel => exact ⟨i + 1, m, rfl, by go_num, by omega, ⟨by omega⟩, HP2, HK2⟩
            case measure => simp [intOf]; omega
          | true =>
            by_cases hpm : p1 = m
            · have HP2 := Aside0.mk (metP_step hlt HP.out hfj (.inr ⟨rfl, hpm, rfl⟩))
              have hpm' : (p1 != m) = false := by rw [hpm]; simp
              clear hfj hpm
              go_wp2_with fail
              go_roundw
              case rel => exact ⟨i + 1, m + 1, by go_num, by go_num, by omega, ⟨by omega⟩, HP2, HK2⟩
              case measure => simp [intOf]; omega
            · have HR := Aside0.mk (right_none (ks := ks) (v := v) (f := f) (d := d) (metP_stop hlt HP.out hfj rfl hpm))
              have hpm' : (p1 != m) = true := by simp [hpm]
              clear hfj hpm
              go_wp2_with fail
              go_ret
              exact ⟨by rw [HR.out]; rfl, HK2.out.below⟩
        · obtain rfl : i = ps.length := by omega
          clear hlt hi
          have hp : metP 0 ps = some m := by have := HP.out; rw [List.drop_length] at this; exact this
          have HS := Aside0.mk (right_some (ks := ks) HE.out hp)
          clear HP hp c0 c1' c2' c3 b0
          have c0 := blk_cell HRW.out.node 0
          have c1' := blk_cell HRW.out.node 1
          have c2' := blk_cell HRW.out.node 2
          have c3 := blk_cell HRW.out.node 3
          have hmf : ∀ (fn : Fn) (first cap : Array Value) (w : World), (Instr.makeFunc fn first cap).run Try.prog w = .ok (.func fn first cap) w := fun _ _ _ _ => rfl
          by_cases hm : m = (ks.length : Int)
          · have HR := Aside0.mk (HS.out.trans (if_pos hm))
            have hm' : (m == (ks.length : Int)) = true := by rw [hm]; simp
            clear hm
            go_wp2_with fail
            clear c0 c1' c2' c3
            refine (mcontains_any (some ⟨w.heap.size, 0, none⟩) (fun i => !rightT (ks.getD i .nil) (d + 1)) qs A2 c2 ks.length wr (IsTs.length G.out.2.2) (Kd.C_below G.out.2.1 HRW.out.below) (fun j hj w' hw' => ?_)).mono ?_
            · have hjk : j < ks.length := by rw [← IsTs.length G.out.2.2]; exact hj
              obtain ⟨hj2, hg⟩ := IsTs.get G.out.2.2 j hjk
              have hk := HRW.out.keep hw'
              have e : ks.getD j .nil = ks[j] := by simp [hjk]
              rw [e]
              exact mkid_any ks[j] (HK.out _ (List.getElem_mem hjk)) w.heap.size qs[j] d w' (IsT.keep _ hg hk.below) h0 (Int.not_lt.1 (fun h => HE.out (.inl h))) hk.box
            · rintro e w' ⟨rfl, hb⟩
              have HB2 := Aside0.mk (HRW.out.keep hb).below
              clear hb HRW
              go_wp2_with fail
              go_ret
              have ht := rightTs_any ks (d + 1)
              simp only [List.getD_eq_getElem?_getD] at ht
              refine ⟨?_, HB2.out⟩
              rw [HR.out]
              show Ending.returned (Value.bool (!(List.range ks.length).any fun i => !rightT (ks[i]?.getD Tr.nil) (d + 1))) = _
              rw [ht, Bool.not_not]
          · have HR := Aside0.mk (HS.out.trans (if_neg hm))
            have hm' : (m == (ks.length : Int)) = false := by simp [hm]
            clear hm
            go_wp2_with fail
            go_ret
            exact ⟨by rw [HR.out]; rfl, HRW.out.below⟩
    · have hf' : (f != 0) = true := by simp [hf]
      by_cases hv : v = 0
      · have hv' : (v != 0) = false := by rw [hv]; rfl
        have HE := Aside0.mk (show ¬ (d > 30 ∨ (f ≠ 0 ∧ v ≠ 0)) from fun h => h.elim hd (fun h => h.2 hv))
        clear hv hf hd
        have hmax := Kd.C_max G.out.1
        have HRW := Aside0.mk (RW.mk HX.out.1 HX.out.2.1 HX.out.2.2)
        go_enter Try.func36, Try.ntmps36
        go_wp2_with fail
        clear HX
        go_loopw [5, 33] (fun v5 v33 wr => ∃ (i : Nat) (m : Int), v5 = .int .i64 m ∧ v33 = .int .i64 i ∧ i ≤ ps.length ∧ Aside0 (0 ≤ m ∧ m ≤ i) ∧ Aside0 (metP 0 ps = metP m (ps.drop i)) ∧ Aside0 (RW w d b #[.slice A1 ps.length c1, .slice A2 ks.length c2, .int .i64 v, .int .i64 f] wr)) (fun _ v33 _ => ps.length - (intOf v33).toNat)
        case atStart => exact ⟨0, 0, rfl, rfl, Nat.zero_le _, ⟨by omega⟩, ⟨rfl⟩, HRW⟩
        case round =>
          clear HRW
          obtain ⟨i, m, rfl, rfl, hi, HM, HP, HRW⟩ := hrel
          by_cases hlt : i < ps.length
          · obtain ⟨ad, rfl, hx0, hx1⟩ := at_Pc G.out.1 i (by omega) (by omega)
            replace hx0 := (HRW.out.below.cell (World.block_lt_of_cell? w _ hx0)).trans hx0
            replace hx1 := (HRW.out.below.cell (World.block_lt_of_cell? w _ hx1)).trans hx1
            simp only [Int.toNat_natCast] at hx0 hx1
            have hfi : rd_Pc ps (i : Int) = ps[i] := by simp [rd_Pc, hlt]
            rw [hfi] at hx0 hx1
            clear hfi
            generalize hfj : ps[i] = pi at hx0 hx1
            obtain ⟨p0, p1⟩ := pi
            have HK2 := Aside0.mk (HRW.out.keep ((Below.refl _ _).alloc (Nat.le_refl _) (.cells #[.bool p0, .int .i64 p1] 86)))
            have hm1 := HM.out.1
            have hm2 := HM.out.2
            cases p0 with
            | false =>
              have HP2 := Aside0.mk (metP_step hlt HP.out hfj (.inl ⟨rfl, rfl⟩))
              clear hfj
              go_wp2_with fail
              go_roundw
              case rel => exact ⟨i + 1, m, rfl, by go_num, by omega, ⟨by omega⟩, HP2, HK2⟩
              case measure => simp [intOf]; omega
            | true =>
              by_cases hpm : p1 = m
              · have HP2 := Aside0.mk (metP_step hlt HP.out hfj (.inr ⟨rfl, hpm, rfl⟩))
                have hpm' : (p1 != m) = false := by rw [hpm]; simp
                clear hfj hpm
                go_wp2_with fail
                go_roundw
                case rel => exact ⟨i + 1, m + 1, by go_num, by go_num, by omega, ⟨by omega⟩, HP2, HK2⟩
                case measure => simp [intOf]; omega
              · have HR := Aside0.mk (right_none (ks := ks) (v := v) (f := f) (d := d) (metP_stop hlt HP.out hfj rfl hpm))
                have hpm' : (p1 != m) = true := by simp [hpm]
                clear hfj hpm
                go_wp2_with fail
                go_ret
                exact ⟨by rw [HR.out]; rfl, HK2.out.below⟩
          · obtain rfl : i = ps.length := by omega
            clear hlt hi
            have hp : metP 0 ps = some m := by have := HP.out; rw [List.drop_length] at this; exact this
            have HS := Aside0.mk (right_some (ks := ks) HE.out hp)
            clear HP hp c0 c1' c2' c3 b0
            have c0 := blk_cell HRW.out.node 0
            have c1' := blk_cell HRW.out.node 1
            have c2' := blk_cell HRW.out.node 2
            have c3 := blk_cell HRW.out.node 3
            have hmf : ∀ (fn : Fn) (first cap : Array Value) (w : World), (Instr.makeFunc fn first cap).run Try.prog w = .ok (.func fn first cap) w := fun _ _ _ _ => rfl
            by_cases hm : m = (ks.length : Int)
            · have HR := Aside0.mk (HS.out.trans (if_pos hm))
              have hm' : (m == (ks.length : Int)) = true := by rw [hm]; simp
              clear hm
              go_wp2_with fail
              clear c0 c1' c2' c3
              refine (mcontains_any (some ⟨w.heap.size, 0, none⟩) (fun i => !rightT (ks.getD i .nil) (d + 1)) qs A2 c2 ks.length wr (IsTs.length G.out.2.2) (Kd.C_below G.out.2.1 HRW.out.below) (fun j hj w' hw' => ?_)).mono ?_
              · have hjk : j < ks.length := by rw [← IsTs.length G.out.2.2]; exact hj
                obtain ⟨hj2, hg⟩ := IsTs.get G.out.2.2 j hjk
                have hk := HRW.out.keep hw'
                have e : ks.getD j .nil = ks[j] := by simp [hjk]
                rw [e]
                exact mkid_any ks[j] (HK.out _ (List.getElem_mem hjk)) w.heap.size qs[j] d w' (IsT.keep _ hg hk.below) h0 (Int.not_lt.1 (fun h => HE.out (.inl h))) hk.box
              · rintro e w' ⟨rfl, hb⟩
                have HB2 := Aside0.mk (HRW.out.keep hb).below
                clear hb HRW
                go_wp2_with fail
                go_ret
                have ht := rightTs_any ks (d + 1)
                simp only [List.getD_eq_getElem?_getD] at ht
                refine ⟨?_, HB2.out⟩
                rw [HR.out]
                show Ending.returned (Value.bool (!(List.range ks.length).any fun i => !rightT (ks[i]?.getD Tr.nil) (d + 1))) = _
                rw [ht, Bool.not_not]
            · have HR := Aside0.mk (HS.out.trans (if_neg hm))
              have hm' : (m == (ks.length : Int)) = false := by simp [hm]
              clear hm
              go_wp2_with fail
              go_ret
              exact ⟨by rw [HR.out]; rfl, HRW.out.below⟩
      · have hv' : (v != 0) = true := by simp [hv]
        have HR := Aside0.mk (right_early (ps := ps) (ks := ks) (d := d) (.inr ⟨hf, hv⟩))
        clear hv hf hd
        go_enter Try.func36, Try.ntmps36
        go_wp2_with fail
        go_ret
        exact ⟨by rw [HR.out]; rfl, HX.out.1⟩
mutual
theorem right_any : ∀ t : Tr, RightOk t
  | .nil => right_nil
  | .node ps ks v f => right_node ps ks v f (rights_any ks)
theorem rights_any : ∀ l : List Tr, ∀ k ∈ l, RightOk k
  | [], k, h => by cases h
  | x :: r, k, h => by
    rcases List.mem_cons.1 h with h | h
    · exact h ▸ right_any x
    · exact rights_any r k h
end
set_option maxRecDepth 100000 in
theorem Right_any (t : Tr) (a : Option Addr) (w : World) (h : IsT t w a) : Calls Try.prog 20 #[.pointer a] w fun e w' => e = .returned (.bool (rightT t 0)) ∧ Below w.heap.size w w' := by
  have HX := Aside0.mk (right_any t a 0 w h (by omega) (by omega))
  clear h
  go_enter Try.func20, Try.ntmps20
  go_wp2_with fail
  refine HX.out.mono ?_
  rintro e w' ⟨rfl, hb⟩
  have HB := Aside0.mk hb
  clear hb
  go_wp2_with fail
  go_ret
  exact ⟨rfl, HB.out⟩
end Go.Proofs.Ytbekjccehhaljaa.H

set_option linter.unusedVariables false
set_option linter.unusedSimpArgs false
namespace Go.Proofs.Ytbekjccehhaljaa.H
open Go.RowKit Go.Hay Go.Proofs.YtbekjccehhaljaaW.PrintWords Go.Proofs.YtbekjccehhaljaaW.PrintLast Go.Proofs.YtbekjccehhaljaaW.PrintMore
/-! ### what Merge's closures keep: the row in the result's cell -/
def IMerge (B : Nat) : Inv := fun told q S w => B < w.heap.size ∧ ∃ v, w.heap[B]? = some (.cells #[v] 23 (0, 0)) ∧ (Kd.int .i64).R 2 w (B + 1) (fun _ => True) v told ∧ S = fun k => k = B ∨ v.ownBlock = some k
theorem own_lt {w : World} {base e : Nat} {v : Value} {xs : List Int} {ok : Nat → Prop} (h : (Kd.int .i64).R e w base ok v xs) : ∀ k, v.ownBlock = some k → base ≤ k ∧ k < w.heap.size := by
  obtain ⟨_, inner, ⟨_, ho⟩, _⟩ := h
  intro k hk
  rcases ho with ⟨h1, h2⟩ | ⟨g, cap, cur, h1, h5, h6, _⟩
  · subst h1; cases hk
  · subst h1; cases hk; exact ⟨h5, blk_lt h6⟩
set_option maxRecDepth 100000 in
set_option maxHeartbeats 4000000 in
theorem tell25 (B : Nat) (told : List Int) (S : Nat → Prop) (w : World) (x : Int) (h : IMerge B told none S w) (hl : told.length ≤ 1000000) :
    Calls Try.prog 33 (#[.int .i64 x] ++ #[.pointer (some ⟨B, 0, none⟩)]) w fun e w' => e = .returned (.tuple #[]) ∧ ∃ S', IMerge B (told ++ [x]) none S' w' ∧ Keep S w w' ∧ ∀ k, S' k → S k ∨ w.heap.size ≤ k := by
  obtain ⟨hB, v, h1, h2, rfl⟩ := h
  show Calls Try.prog 33 #[.int .i64 x, .pointer (some ⟨B, 0, none⟩)] w _
  obtain ⟨A, cc, rfl⟩ := Kd.R_slice h2
  obtain ⟨L, hL⟩ : ∃ L, L = told.length := ⟨_, rfl⟩
  rw [← hL] at h1 h2 ⊢
  have c := blk_cell h1 0
  have H := Aside0.mk (And.intro hB (And.intro h1 h2))
  have HL := Aside0.mk hL
  have hq := blk_alloc h1 (.cells #[.int .i64 x] 2)
  have cq := blk_cell hq 0
  clear h1 h2 hB hq hL
  go_enter Try.func33, Try.ntmps33
  go_wp2_with (first | ((with_reducible refine gate_builtin (b := .append) (xs := #[.tmp 3, .tmp 5]) rfl ?_); refine Kd.R_append_rows (Kd.int .i64) (w0 := w) (B + 1) rfl (.tmp 3) (.tmp 5) 23 2 (.int .i64 0) 8 rfl Try.underlying23 infoC2 rfl (by decide) (by omega) _ told [x] _ _ _ (fun _ => True) (fun _ => False) rfl rfl ?aO ?aR (fun _ _ h => h) (fun _ h => h.elim) ?aF ?aB ?aS ?aL ?_))
  case aO => exact Kd.R_alloc H.out.2.2 _
  case aR => exact reads_nums [x] (alloc_blk _ _) (by simp)
  case aF => exact fun _ _ => trivial
  case aB => exact (Below.refl _ _).alloc (by have := H.out.1; omega) _
  case aS => have := H.out.1; simp; omega
  case aL => omega
  intro v1 w1 hR hb1 hg1 hat1
  obtain ⟨A1, cc1, hv1⟩ := Kd.R_slice hR
  obtain ⟨L1, hL1⟩ : ∃ n, n = (told ++ [x]).length := ⟨_, rfl⟩
  rw [← hL1] at hv1
  subst hv1
  have HL1 := Aside0.mk hL1
  clear hL1
  have hBw := H.out.1
  have h3 := (hb1.block B (by omega)).trans H.out.2.1
  have c := blk_cell h3 0
  have f := blk_frozen h3 0
  have hg : Keep (fun k => k = B ∨ (Value.slice A L cc).ownBlock = some k) w w1 := by
    have h1 : Keep (fun k => k = B ∨ (Value.slice A L cc).ownBlock = some k) w (w.alloc (.cells #[.int .i64 x] 2)) := (Keep.refl _ _).alloc _
    exact h1.then (Keep.grown hg1) (fun i _ hi => .inr hi.symm)
  have GS := Aside0.mk (And.intro hR (And.intro h3 (And.intro hg hat1)))
  have hsz := hb1.size
  clear hR hb1 hg1 hat1 h3 hg cq
  go_wp2_with fail
  go_end0
  obtain ⟨hR, h3, hg, hat⟩ := GS.out
  refine ⟨rfl, fun k => k = B ∨ (Value.slice A1 L1 cc1).ownBlock = some k, ⟨by simpa [World.setCell] using Nat.lt_of_lt_of_le hBw hsz, _, blk_set h3 0 _, ?_, rfl⟩, hg.set (p := ⟨B, 0, none⟩) (.inr (.inl rfl)) _, ?_⟩
  · refine Kd.R_keep hR (Keep.set (S := fun k => k = B) (p := ⟨B, 0, none⟩) (Keep.refl _ _) (.inr rfl) _) (fun k _ hb _ e => by omega)
  · intro k hk
    rcases hk with rfl | hk
    · exact .inl (.inl rfl)
    · rcases hat with h | ⟨b, h, hb⟩
      · exact .inl (.inr (by rw [← h]; exact hk))
      · rw [h] at hk; cases hk; exact .inr (by omega)
theorem tellerM (B : Nat) : Teller 33 34 #[.pointer (some ⟨B, 0, none⟩)] #[] B (IMerge B) where
  size := by
    rintro told S w ⟨hB, v, h1, h2, rfl⟩
    refine ⟨Nat.le_of_lt hB, fun k hk => ?_⟩
    rcases hk with rfl | hk
    · exact ⟨Nat.le_refl _, hB⟩
    · have := own_lt h2 k hk; exact ⟨by omega, this.2⟩
  keep := by
    rintro told q S w w' ⟨hB, v, h1, h2, rfl⟩ hb
    exact ⟨Nat.lt_of_lt_of_le hB hb.size, v, (hb.block _ (blk_lt h1)).trans h1, Kd.R_keep h2 (Keep.of_below hb (fun _ => False)) (fun _ _ _ _ h => h), rfl⟩
  tell := fun x h hl => tell25 B _ _ _ x h hl
  fails := by
    intro told S w A c path h hp hS
    show Calls Try.prog 34 #[.slice A path.length c] w _
    have H := Aside0.mk h
    clear h hp hS
    go_enter Try.func34, Try.ntmps34
    go_wp2_with fail
    go_end0
    exact ⟨rfl, S, H.out, Keep.refl _ _⟩
end Go.Proofs.Ytbekjccehhaljaa.H

set_option linter.unusedVariables false
set_option linter.unusedSimpArgs false
namespace Go.Proofs.Ytbekjccehhaljaa.H
open Go.RowKit Go.Hay Go.Proofs.YtbekjccehhaljaaW.PrintWords Go.Proofs.YtbekjccehhaljaaW.PrintLast Go.Proofs.YtbekjccehhaljaaW.PrintMore
def valT : Tr → Int
  | .nil => 0
  | .node _ _ v _ => v
def mergeP (t : Tr) : List Int × Int × Int × Int := if rightT t 0 = true then ((walkT t []).1, if (walkT t []).2.1 = 0 then valT t else 0, (walkT t []).2.1, 0) else ([], 0, 0, 4)
theorem path_nil (w : World) : PathIs w none 0 [] := ⟨Kd.C_nil _ _, .inl ⟨rfl, rfl, rfl⟩, fun ad e => by cases e⟩
set_option maxRecDepth 100000 in
set_option maxHeartbeats 4000000 in
theorem Merge_any (t : Tr) (a : Option Addr) (w : World) (h : IsT t w a) (hl : rightT t 0 = true → (walkT t []).1.length ≤ 1000000) :
    Calls Try.prog 18 #[.pointer a] w fun e w' => ∃ v, e = .returned (.tuple #[v, .int .i64 (mergeP t).2.1, .int .i64 (mergeP t).2.2.1, .int .i64 (mergeP t).2.2.2]) ∧ (Kd.int .i64).R 2 w' w.heap.size (fun _ => True) v (mergeP t).1 ∧ Below w.heap.size w w' := by
  have hB := (Below.refl w.heap.size w).alloc (Nat.le_refl _) (.cells #[.slice none 0 0] 23)
  have hx := alloc_blk w (.cells #[.slice none 0 0] 23)
  have hmf : ∀ (fn : Fn) (first cap : Array Value) (w : World), (Instr.makeFunc fn first cap).run Try.prog w = .ok (.func fn first cap) w := fun _ _ _ _ => rfl
  have HR := Aside0.mk (Right_any t a _ (h.keep t hB))
  have H := Aside0.mk (And.intro h (And.intro hB hx))
  have HL := Aside0.mk hl
  clear h hB hx hl
  go_enter Try.func18, Try.ntmps18
  go_wp2_with fail
  refine HR.out.mono ?_
  rintro e w1 ⟨rfl, hb⟩
  have hB1 := H.out.2.1.trans (hb.mono H.out.2.1.size)
  have hx1 := (hb.block _ (blk_lt H.out.2.2)).trans H.out.2.2
  have ht := H.out.1
  clear H HR hb
  cases hr : rightT t 0 with
  | false =>
    have c := blk_cell hx1 0
    have f := blk_frozen hx1 0
    have H := Aside0.mk (And.intro hB1 (And.intro hx1 (show mergeP t = ([], 0, 0, 4) by unfold mergeP; rw [if_neg (by rw [hr]; simp)])))
    clear hB1 hx1 ht hr
    go_wp2_with fail
    have e := blk_set H.out.2.1 0 (.slice none 0 0)
    have q := blk_cell e 0
    refine bodyPost_ret (v := .tuple #[.slice none 0 0, .int .i64 0, .int .i64 0, .int .i64 4]) (by simp [results, Try.results18, go_sem, q]) rfl ⟨_, by rw [H.out.2.2], by rw [H.out.2.2]; exact Kd.R_nil _ _ _ _ _, Below.setCell (p := ⟨w.heap.size, 0, none⟩) H.out.1 (Nat.le_refl _) _⟩
  | true =>
    cases t with
    | nil => cases hr
    | node ps ks v f =>
    have h' := ht
    simp only [IsT] at h'
    obtain ⟨b, A1, c1, A2, c2, qs, rfl, g1, -⟩ := h'
    have HG := Aside0.mk g1
    have hM : mergeP (.node ps ks v f) = ((walkT (.node ps ks v f) []).1, if (walkT (.node ps ks v f) []).2.1 = 0 then v else 0, (walkT (.node ps ks v f) []).2.1, 0) := by unfold mergeP; rw [if_pos hr]; rfl
    have hI : IMerge w.heap.size [] none (fun k => k = w.heap.size ∨ (Value.slice none 0 0).ownBlock = some k) w1 := ⟨blk_lt hx1, _, hx1, Kd.R_nil _ _ _ _ _, rfl⟩
    have hcall := walk33_any w.heap.size w (IMerge w.heap.size) (tellerM _) (.node ps ks v f) _ none 0 [] [] _ w1 0 ht hB1 (path_nil _) (fun ad e => by cases e) hI hr (by omega) (by simp) (by simpa using HL.out hr)
    have hS : ∀ k, (k = w.heap.size ∨ (Value.slice none 0 0).ownBlock = some k) → w.heap.size ≤ k := fun k hk => hk.elim (fun e => by omega) (fun e => by cases e)
    obtain ⟨r, hrr⟩ : ∃ r, r = walkT (.node ps ks v f) [] := ⟨_, rfl⟩
    rw [← hrr] at hcall hM
    have HCALL := Aside0.mk hcall
    have H := Aside0.mk (And.intro hB1 (And.intro hM hS))
    clear hB1 hx1 ht hr g1 hM hI hcall hS hrr HL
    go_wp2_with fail
    refine HCALL.out.mono ?_
    rintro e w2 ⟨rfl, S', hI, hk, -⟩
    have hB2 := H.out.1.trans (hk.below H.out.1.size (fun k hkk hs => by have := H.out.2.2 k hs; omega))
    obtain ⟨-, vt, k1, k2, -⟩ := hI
    have gw := (hB2.block _ (blk_lt HG.out)).trans HG.out
    obtain ⟨At, ct, hv⟩ := Kd.R_slice k2
    obtain ⟨L, hL⟩ : ∃ n, n = ([] ++ r.1).length := ⟨_, rfl⟩
    rw [← hL] at hv
    subst hv
    have c := blk_cell k1 0
    have fz := blk_frozen k1 0
    have n2 := blk_cell gw 2
    have HM := H.out.2.1
    clear hL H HCALL hk
    have HE := Aside0.mk (And.intro hB2 (And.intro k1 (And.intro k2 HM)))
    have e := blk_set k1 0 (.slice At L ct)
    have q := blk_cell e 0
    have HQ := Aside0.mk q
    clear hB2 k1 k2 HM gw e q
    by_cases hz : r.2.1 = 0
    · have hz' : (r.2.1 == 0) = true := by rw [hz]; rfl
      have HZ := Aside0.mk hz
      clear hz
      go_wp2_with fail
      obtain ⟨hB2, k1, k2, hM⟩ := HE.out
      have q := HQ.out
      refine bodyPost_ret (v := .tuple #[.slice At L ct, .int .i64 v, .int .i64 r.2.1, .int .i64 0]) (by simp [results, Try.results18, go_sem, q]) rfl ⟨.slice At L ct, by rw [hM]; simp [HZ.out], ?_, Below.setCell (p := ⟨w.heap.size, 0, none⟩) hB2 (Nat.le_refl _) _⟩
      rw [hM]
      rw [List.nil_append] at k2
      exact Kd.R_lower (Kd.R_keep k2 (Keep.set (S := fun k => k = w.heap.size) (p := ⟨w.heap.size, 0, none⟩) (Keep.refl _ _) (.inr rfl) _) (fun k _ hb _ e => by omega)) (by omega)
    · have hz' : (r.2.1 == 0) = false := by simp [hz]
      have HZ := Aside0.mk hz
      clear hz
      go_wp2_with fail
      obtain ⟨hB2, k1, k2, hM⟩ := HE.out
      have q := HQ.out
      refine bodyPost_ret (v := .tuple #[.slice At L ct, .int .i64 0, .int .i64 r.2.1, .int .i64 0]) (by simp [results, Try.results18, go_sem, q]) rfl ⟨.slice At L ct, by rw [hM]; simp [HZ.out], ?_, Below.setCell (p := ⟨w.heap.size, 0, none⟩) hB2 (Nat.le_refl _) _⟩
      rw [hM]
      rw [List.nil_append] at k2
      exact Kd.R_lower (Kd.R_keep k2 (Keep.set (S := fun k => k = w.heap.size) (p := ⟨w.heap.size, 0, none⟩) (Keep.refl _ _) (.inr rfl) _) (fun k _ hb _ e => by omega)) (by omega)

end Go.Proofs.Ytbekjccehhaljaa.H

set_option linter.unusedVariables false
set_option linter.unusedSimpArgs false
namespace Go.Proofs.Ytbekjccehhaljaa.H
open Go.RowKit Go.Hay Go.Proofs.YtbekjccehhaljaaW.PrintWords Go.Proofs.YtbekjccehhaljaaW.PrintLast Go.Proofs.YtbekjccehhaljaaW.PrintMore
theorem flatMap_piece {β : Type} {s : Nat} (f : β → List Value) : ∀ (ps : List β) (hf : ∀ p ∈ ps, (f p).length = s) (j : Nat) (h : j < ps.length), ((ps.flatMap f).drop (j * s)).take s = f ps[j]
  | p :: ps, hf, 0, _ => by
    rw [Nat.zero_mul, List.drop_zero, List.flatMap_cons]
    have := hf p (List.mem_cons_self ..)
    rw [← this, List.take_left]
    rfl
  | p :: ps, hf, j + 1, h => by
    have h1 := hf p (List.mem_cons_self ..)
    rw [List.flatMap_cons, show (j + 1) * s = (f p).length + j * s by rw [h1, Nat.succ_mul, Nat.add_comm], List.drop_length_add_append]
    exact flatMap_piece f ps (fun q hq => hf q (List.mem_cons_of_mem _ hq)) j (by simpa using h)
theorem reads_flat {α β : Type} {R : α → List Value → Prop} {s : Nat} {W : World} {b : Nat} {t : TypeId} {fr : Nat × Nat} (g : β → α) (f : β → List Value) (ps : List β) (hf : ∀ p ∈ ps, (f p).length = s) (hR : ∀ p ∈ ps, R (g p) (f p)) (h : W.heap[b]? = some (.cells (ps.flatMap f).toArray t fr)) (hm : ps.length ≤ 9223372036854775807) : ReadsRow R s W (some ⟨b, 0, none⟩) ps.length (ps.map g) := by
  have e : ps.length = (ps.map g).length := (List.length_map ..).symm
  rw [e]
  refine reads_cells h ⟨?_, fun j p hj => ?_⟩ (by rw [← e]; exact hm)
  · have e2 : (ps.flatMap f).length = ps.length * s := by
      clear h hm hR e
      induction ps with
      | nil => simp
      | cons p ps ih => rw [List.flatMap_cons, List.length_append, hf p (List.mem_cons_self ..), ih (fun q hq => hf q (List.mem_cons_of_mem _ hq)), List.length_cons, Nat.succ_mul, Nat.add_comm]
    rw [← e]
    exact e2
  · have hlt : j < ps.length := by have := (List.getElem?_eq_some_iff.1 hj).1; simpa using this
    rw [List.getElem?_map, List.getElem?_eq_getElem hlt] at hj
    have hj : g ps[j] = p := Option.some.inj hj
    show R p (((ps.flatMap f).toArray.toList.drop (j * s)).take s)
    rw [← hj]
    have := flatMap_piece f ps hf j hlt
    rw [show (ps.flatMap f).toArray.toList = ps.flatMap f from rfl, this]
    exact hR _ (List.getElem_mem _)
def icells (x : S61) : List Value := [.int .i64 x.f0, .int .i64 x.f1, .int .i64 x.f2, .int .i64 x.f3, .int .i64 x.f4]
theorem code_C {w : World} {b : Nat} {t : TypeId} {fr : Nat × Nat} (code : List S61) (h : w.heap[b]? = some (.cells (code.flatMap icells).toArray t fr)) (hm : code.length ≤ 9223372036854775807) : k61.C w (some ⟨b, 0, none⟩) code.length code := by
  have := reads_flat (R := k61.K w) (s := 5) id icells code (fun _ _ => rfl) (fun x _ => k61_mk w x) h hm
  rwa [List.map_id] at this
def fcells (p : S64 × Option Addr × Nat) : List Value := [.int .i64 p.1.f0, .slice p.2.1 p.1.f1.length p.2.2]
theorem prog_C {w : World} {b : Nat} {t : TypeId} {fr : Nat × Nat} (ps : List (S64 × Option Addr × Nat)) (h : w.heap[b]? = some (.cells (ps.flatMap fcells).toArray t fr)) (hm : ps.length ≤ 9223372036854775807) (hc : ∀ p ∈ ps, k61.C w p.2.1 p.1.f1.length p.1.f1 ∧ p.1.f1.length ≤ p.2.2) : k64.C w (some ⟨b, 0, none⟩) ps.length (ps.map fun p => p.1) :=
  reads_flat (R := k64.K w) (s := 2) (fun p : S64 × Option Addr × Nat => p.1) fcells ps (fun _ _ => rfl) (fun p hp => k64_mk w p.1 (hc p hp).2 (hc p hp).1) h hm
end Go.Proofs.Ytbekjccehhaljaa.H

set_option linter.unusedVariables false
set_option linter.unusedSimpArgs false
namespace Go.Proofs.Ytbekjccehhaljaa.H
open Go.RowKit Go.Hay Go.Proofs.YtbekjccehhaljaaW.PrintWords Go.Proofs.YtbekjccehhaljaaW.PrintLast Go.Proofs.YtbekjccehhaljaaW.PrintMore
theorem infoI : (Try.prog.info? 61).map (fun i => (i.zero, i.size, i.bytes)) = some (some (.agg #[.int .i64 0, .int .i64 0, .int .i64 0, .int .i64 0, .int .i64 0]), 5, 40) := by kernel_rfl
/-- a row of instructions, newly written. -/
theorem code_R (W : World) (xs : List S61) (hl : xs.length ≤ 1000) : k61.R 61 (W.alloc (.cells (xs.flatMap icells).toArray 61)) W.heap.size (fun _ => True) (.slice (some ⟨W.heap.size, 0, none⟩) xs.length xs.length) xs := by
  have hlen : (xs.flatMap icells).length = xs.length * 5 := by
    clear hl
    induction xs with
    | nil => rfl
    | cons x xs ih => rw [List.flatMap_cons, List.length_append, ih, List.length_cons, Nat.succ_mul, Nat.add_comm]; rfl
  refine ⟨fun _ _ => trivial, xs.flatMap icells, ?_, ⟨hlen, fun j p hj => ?_⟩⟩
  · have h2 := World.ownsRow_lit (base := W.heap.size) (e := 61) (size := k61.sz) W (xs.flatMap icells).toArray xs.length (Nat.le_refl _) (by unfold maxLen; omega) (show (xs.flatMap icells).toArray.size = xs.length * 5 from hlen)
    simpa using h2
  · have hlt : j < xs.length := (List.getElem?_eq_some_iff.1 hj).1
    rw [List.getElem?_eq_getElem hlt] at hj
    have hj : xs[j] = p := Option.some.inj hj
    subst hj
    have := flatMap_piece (s := 5) icells xs (fun _ _ => rfl) j hlt
    show k61.M _ _ _ _ (((xs.flatMap icells).drop (j * 5)).take 5)
    rw [this]
    exact k61_mkM _ _ _ _
end Go.Proofs.Ytbekjccehhaljaa.H

set_option linter.unusedVariables false
set_option linter.unusedSimpArgs false
namespace Go.Proofs.Ytbekjccehhaljaa.H
open Go.RowKit Go.Hay Go.Proofs.YtbekjccehhaljaaW.PrintWords Go.Proofs.YtbekjccehhaljaaW.PrintLast Go.Proofs.YtbekjccehhaljaaW.PrintMore
/-- a program of two functions, the first one's code given. -/
theorem prog2F (w : World) (f1 f2 : S64) (A9 : Option Addr) (c9 : Nat) (h1 : k61.C w A9 f1.f1.length f1.f1) (hc9 : f1.f1.length ≤ c9) (hf2 : f2.f1.length ≤ 1000) {W : World}
    (hW : W = (w.alloc (.cells (f2.f1.flatMap icells).toArray 61)).alloc (.cells (([(f1, A9, c9), (f2, some ⟨w.heap.size, 0, none⟩, f2.f1.length)] : List (S64 × Option Addr × Nat)).flatMap fcells).toArray 64)) :
    Below w.heap.size w W ∧ k64.C W (some ⟨w.heap.size + 1, 0, none⟩) 2 [f1, f2] := by
  obtain ⟨Wa, hWa⟩ : ∃ Wa, Wa = w.alloc (.cells (f2.f1.flatMap icells).toArray 61) := ⟨_, rfl⟩
  rw [← hWa] at hW
  have e1 : Wa.heap.size = w.heap.size + 1 := by rw [hWa]; exact Array.size_push _
  have ba : Below w.heap.size w Wa := by rw [hWa]; exact (Below.refl _ _).alloc (Nat.le_refl _) _
  have bd : Below w.heap.size w W := by rw [hW]; exact ba.alloc ba.size _
  have g2 : W.heap[w.heap.size]? = some (.cells (f2.f1.flatMap icells).toArray 61 (0, 0)) := by
    rw [hW]; refine blk_alloc ?_ _; rw [hWa]; exact alloc_blk w _
  have g4 : W.heap[w.heap.size + 1]? = some (.cells (([(f1, A9, c9), (f2, some ⟨w.heap.size, 0, none⟩, f2.f1.length)] : List (S64 × Option Addr × Nat)).flatMap fcells).toArray 64 (0, 0)) := by
    rw [hW, ← e1]; exact alloc_blk Wa _
  refine ⟨bd, prog_C _ g4 (by simp) (fun p hp => ?_)⟩
  simp only [List.mem_cons, List.not_mem_nil, or_false] at hp
  rcases hp with rfl | rfl
  · exact ⟨Kd.C_below h1 bd, hc9⟩
  · exact ⟨code_C _ g2 (by show f2.f1.length ≤ _; omega), Nat.le_refl _⟩
/-- both newly written. -/
theorem prog2N (w : World) (f1 f2 : S64) (hf1 : f1.f1.length ≤ 1000) (hf2 : f2.f1.length ≤ 1000) {W : World}
    (hW : W = ((w.alloc (.cells (f1.f1.flatMap icells).toArray 61)).alloc (.cells (f2.f1.flatMap icells).toArray 61)).alloc (.cells (([(f1, some ⟨w.heap.size, 0, none⟩, f1.f1.length), (f2, some ⟨w.heap.size + 1, 0, none⟩, f2.f1.length)] : List (S64 × Option Addr × Nat)).flatMap fcells).toArray 64)) :
    Below w.heap.size w W ∧ k64.C W (some ⟨w.heap.size + 1 + 1, 0, none⟩) 2 [f1, f2] ∧ W.heap.size = w.heap.size + 1 + 1 + 1 := by
  obtain ⟨Wa, hWa⟩ : ∃ Wa, Wa = w.alloc (.cells (f1.f1.flatMap icells).toArray 61) := ⟨_, rfl⟩
  rw [← hWa] at hW
  have e1 : Wa.heap.size = w.heap.size + 1 := by rw [hWa]; exact Array.size_push _
  have ba : Below w.heap.size w Wa := by rw [hWa]; exact (Below.refl _ _).alloc (Nat.le_refl _) _
  have g1 : Wa.heap[w.heap.size]? = some (.cells (f1.f1.flatMap icells).toArray 61 (0, 0)) := by rw [hWa]; exact alloc_blk w _
  have e3 : W.heap.size = Wa.heap.size + 1 + 1 := by rw [hW]; exact (Array.size_push _).trans (congrArg (· + 1) (Array.size_push _))
  rw [← e1] at hW
  obtain ⟨hb, hC⟩ := prog2F Wa f1 f2 (some ⟨w.heap.size, 0, none⟩) f1.f1.length (code_C _ g1 (by omega)) (Nat.le_refl _) hf2 hW
  exact ⟨ba.trans (hb.mono ba.size), by rw [← e1]; exact hC, by rw [e3, e1]⟩
/-- a row of instructions is appended, and may be appended to again. -/
theorem wpList_codesR {ops : Array Oper} {rest : List Oper} {o : Oper} {a : Act} {Q : Exit → Act → World → Prop} (hgd : o.guard = none) (s x : Operand)
    (ho : o.op = .call { callee := .builtin .append, args := #[s, x], argTypes := #[62, 62] }) {w W : World} {b0 : Nat} {v : Value} (xs ys : List S61) (hb : Below w.heap.size w W) (hw : w.heap.size ≤ b0) (hR : k61.R 61 W b0 (fun _ => True) v xs) (hbW : b0 ≤ W.heap.size) (hl : xs.length + ys.length ≤ 1000)
    (hs : a.eval s = v) (bk : Nat) (hbk : W.heap.size = bk) (hx : a.eval x = .slice (some ⟨bk, 0, none⟩) ys.length ys.length)
    (h : ∀ A9 c9 w9, Below w.heap.size w w9 → k61.R 61 w9 b0 (fun _ => True) (.slice A9 (xs ++ ys).length c9) (xs ++ ys) → b0 ≤ w9.heap.size → wpList Try.prog ops Q rest (a.put o.dst (.slice A9 (xs ++ ys).length c9)) w9) :
    wpList Try.prog ops Q (o :: rest) a (W.alloc (.cells (ys.flatMap icells).toArray 61)) := by
  subst hbk
  have hba : Below W.heap.size W (W.alloc (.cells (ys.flatMap icells).toArray 61)) := (Below.refl _ _).alloc (Nat.le_refl _) _
  have hR2 : k61.R 61 (W.alloc (.cells (ys.flatMap icells).toArray 61)) b0 (fun _ => True) v xs := Kd.R_alloc hR _
  have hy := reads_flat (W := W.alloc (.cells (ys.flatMap icells).toArray 61)) (b := W.heap.size) (t := 61) (fr := (0, 0)) (R := k61.M (W.alloc (.cells (ys.flatMap icells).toArray 61)) b0 (fun _ => False)) (s := 5) id icells ys (fun _ _ => rfl) (fun x _ => k61_mkM _ _ _ x) (alloc_blk W _) (by omega)
  rw [List.map_id] at hy
  refine wpList_plain hgd (fun K hK => ?_)
  refine wp_append_rows k61 (Rr := k61.M (W.alloc (.cells (ys.flatMap icells).toArray 61)) b0 (fun _ => False)) b0 hgd s x 62 61 (.agg #[.int .i64 0, .int .i64 0, .int .i64 0, .int .i64 0, .int .i64 0]) 40 ho Try.underlying62 infoI rfl (by decide) (by decide) v xs ys _ _ _ (fun _ => True) (fun _ => False) hs hx hR2 hy (fun _ _ h => h) (fun _ h => h.elim) (fun _ _ => trivial) (Nat.le_trans hbW hba.size) (by omega) ?_
  intro v9 w9 hR9 hbw hgr hat
  obtain ⟨A9, c9, rfl⟩ := Kd.R_slice hR9
  exact hK _ _ (h A9 c9 w9 ((hb.trans (hba.mono hb.size)).trans (hbw.mono hw)) hR9 (Nat.le_trans (Nat.le_trans hbW hba.size) hbw.size))
def inR (lo hi n : Int) : Bool := decide (lo ≤ n ∧ n < hi)
theorem i64_small {i : Nat} (h : i < 100) : IntKind.i64.wrap ((i : Int) + 1) = (i : Int) + 1 := IntWalk.i64_in _ (by omega)
theorem lt_true {i k : Nat} (h : i < k) : ((i : Int) < (k : Nat)) = True := eq_true (by omega)
theorem up_lt {k i : Nat} (h : i < k) : k - (intOf (.int .i64 ((i : Int) + 1))).toNat < k - (intOf (.int .i64 (i : Int))).toNat := by simp [intOf]; omega
end Go.Proofs.Ytbekjccehhaljaa.H

set_option linter.unusedVariables false
set_option linter.unusedSimpArgs false
namespace Go.Proofs.Ytbekjccehhaljaa.H
open Go.RowKit Go.Hay Go.Proofs.YtbekjccehhaljaaW.PrintWords Go.Proofs.YtbekjccehhaljaaW.PrintLast Go.Proofs.YtbekjccehhaljaaW.PrintMore
set_option maxRecDepth 100000 in
theorem pnode_eq (a : Addr) (w : World) : (binOp .eql 28 (.pointer (some a)) (.pointer none)).run Try.prog w = .ok (.bool false) w := rfl
def exU : List S64 := [⟨0, [⟨11, 0, 0, 1, 0⟩, ⟨15, 0, 0, 0, 0⟩, ⟨17, 0, 0, 0, 0⟩]⟩, ⟨0, [⟨6, 0, 0, 0, 0⟩, ⟨17, 0, 0, 0, 0⟩]⟩]
def exUT : Tr := .node [⟨true, 0⟩, ⟨false, 0⟩] [.node [] [] 0 1] 0 5
def exUG : Gu := ⟨95, [([0], 1), ([], 3)], 2, 0, 1, 4⟩
theorem calls_eq {P : Program} {f : FuncId} {args : Array Value} {w w1 : World} {Q : Ending → World → Prop} (h : Calls P f args w1 Q) (e : w = w1) : Calls P f args w Q := e ▸ h
theorem exU_ends : unfoldR exU [] 9 1 99 = .ok exUT exUG := by kernel_rfl
theorem exU_merge : mergeP exUT = ([], 0, 1, 0) := by kernel_rfl
set_option maxRecDepth 100000 in
set_option maxHeartbeats 8000000 in
theorem awake_any (w : World) : Calls Try.prog 13 #[] w fun e w' => e = .returned (.bool true) ∧ Below w.heap.size w w' := by
  have hpe := pnode_eq
  obtain ⟨W, hW⟩ : ∃ W, W = ((w.alloc (.cells (([⟨11, 0, 0, 1, 0⟩, ⟨15, 0, 0, 0, 0⟩, ⟨17, 0, 0, 0, 0⟩] : List S61).flatMap icells).toArray 61)).alloc (.cells (([⟨6, 0, 0, 0, 0⟩, ⟨17, 0, 0, 0, 0⟩] : List S61).flatMap icells).toArray 61)).alloc (.cells (([(⟨0, [⟨11, 0, 0, 1, 0⟩, ⟨15, 0, 0, 0, 0⟩, ⟨17, 0, 0, 0, 0⟩]⟩, some ⟨w.heap.size, 0, none⟩, 3), (⟨0, [⟨6, 0, 0, 0, 0⟩, ⟨17, 0, 0, 0, 0⟩]⟩, some ⟨w.heap.size + 1, 0, none⟩, 2)] : List (S64 × Option Addr × Nat)).flatMap fcells).toArray 64) := ⟨_, rfl⟩
  obtain ⟨hb1, hP, hsz⟩ := prog2N w ⟨0, [⟨11, 0, 0, 1, 0⟩, ⟨15, 0, 0, 0, 0⟩, ⟨17, 0, 0, 0, 0⟩]⟩ ⟨0, [⟨6, 0, 0, 0, 0⟩, ⟨17, 0, 0, 0, 0⟩]⟩ (by decide) (by decide) hW
  have hcall := Unfold_any (A := some ⟨w.heap.size + 1 + 1, 0, none⟩) (c := 2) (Aa := none) (ca := 0) (l := exU) (args := []) (b := 9) (d := 1) (most := 99) hP (Nat.le_refl _) (Kd.C_nil _ _) (Nat.le_refl _) (by decide)
  rw [show unfoldR exU [] 9 1 (99 : Int).toNat = .ok exUT exUG from exU_ends] at hcall
  have HC := Aside0.mk hcall
  have HW := Aside0.mk (And.intro hW hb1)
  clear hW hb1 hP hsz hcall
  go_enter Try.func13, Try.ntmps13
  go_wp2_with fail
  refine (calls_eq HC.out (by rw [HW.out.1]; rfl)).mono ?_
  rintro e w3 ⟨hb3, a, Al, L, c, rfl, hT, hL, -, -, -⟩
  have hT' := hT
  simp only [exUT, IsT] at hT'
  obtain ⟨b, A1, c1, A2, c2, qs, rfl, hn, -⟩ := hT'
  obtain ⟨ln, hln⟩ : ∃ ln, ln = L.length := ⟨_, rfl⟩
  unfold treeV
  rw [← hln]
  dsimp only [exUG]
  obtain ⟨W4, hW4⟩ : ∃ W4, W4 = w3.alloc (.cells #[.pointer (some ⟨b, 0, none⟩), .slice Al ln c, .int .i64 2, .int .i64 0, .int .i64 1, .int .i64 4] 33) := ⟨_, rfl⟩
  have hb4 : Below w3.heap.size w3 W4 := by rw [hW4]; exact (Below.refl w3.heap.size w3).alloc (Nat.le_refl _) _
  have hx4 : W4.heap[w3.heap.size]? = some (.cells #[.pointer (some ⟨b, 0, none⟩), .slice Al ln c, .int .i64 2, .int .i64 0, .int .i64 1, .int .i64 4] 33 (0, 0)) := by rw [hW4]; exact alloc_blk w3 _
  have HB := Aside0.mk ((HW.out.2.trans (hb3.mono HW.out.2.size)).trans (hb4.mono (HW.out.2.trans (hb3.mono HW.out.2.size)).size))
  have hn4 := (hb4.block _ (blk_lt hn)).trans hn
  have HT4 := Aside0.mk (hT.keep _ hb4)
  have HX := Aside0.mk (And.intro hx4 hn4)
  have HW4 := Aside0.mk hW4
  have x0 := blk_cell hx4 0
  clear hb3 hT hn hln hW4 hx4 hn4 hb4 HC
  go_upto_region 2 with (fail)
  rw [← HW4.out]
  go_wp2_with fail
  refine (Merge_any exUT _ W4 HT4.out (fun _ => by decide)).mono ?_
  rintro e w5 ⟨v, rfl, hR, hb5⟩
  rw [exU_merge] at hR ⊢
  obtain ⟨At, ct, rfl⟩ := Kd.R_slice hR
  have hx5 := (hb5.block _ (blk_lt HX.out.1)).trans HX.out.1
  have hn5 := (hb5.block _ (blk_lt HX.out.2)).trans HX.out.2
  have x0 := blk_cell hx5 0
  have x2 := blk_cell hx5 2
  have n3 := blk_cell hn5 3
  have HB5 := Aside0.mk (HB.out.trans (hb5.mono HB.out.size))
  clear hR hb5 hx5 hn5
  go_wp2_with fail
  go_ret
  exact ⟨rfl, HB5.out⟩
end Go.Proofs.Ytbekjccehhaljaa.H

set_option linter.unusedVariables false
set_option linter.unusedSimpArgs false
namespace Go.Proofs.Ytbekjccehhaljaa.H
open Go.RowKit Go.Hay Go.Proofs.YtbekjccehhaljaaW.PrintWords Go.Proofs.YtbekjccehhaljaaW.PrintLast Go.Proofs.YtbekjccehhaljaaW.PrintMore
def othPre (k : Nat) : List S61 := ⟨13, 1, 0, 1, 0⟩ :: List.replicate k ⟨15, 0, 0, 0, 0⟩
def othTab : List S61 := [⟨12, 0, 0, 0, 0⟩, ⟨14, 2, 1, 0, 0⟩, ⟨17, 0, 0, 0, 0⟩]
def othI (r : Nat) : S61 := if r = 0 then ⟨12, 0, 0, 0, 0⟩ else if r = 1 then ⟨14, 2, 1, 0, 0⟩ else ⟨17, 0, 0, 0, 0⟩
def othP (k r : Nat) : List S64 := [⟨0, othPre k ++ [othI r, ⟨15, 0, 0, 0, 0⟩, ⟨17, 0, 0, 0, 0⟩]⟩, ⟨0, [⟨16, 0, 0, 0, 77⟩]⟩]
def othT (k : Nat) : Tr := .node (⟨true, 0⟩ :: List.replicate k ⟨false, 0⟩) [.node [] [] 0 77] 0 5
def othG (k : Nat) : Gu := ⟨197 - k, [([0], 1), ([], (k : Int) + 2)], 2, 1, (k + 3) / 4, k + 3⟩
theorem oth_ends {k r : Nat} (hk : k < 20) (hr : r < 3) : unfoldR (othP k r) [] 60 1 200 = .ok (othT k) (othG k) := by
  have hr3 : r = 0 ∨ r = 1 ∨ r = 2 := by omega
  have : k = 0 ∨ k = 1 ∨ k = 2 ∨ k = 3 ∨ k = 4 ∨ k = 5 ∨ k = 6 ∨ k = 7 ∨ k = 8 ∨ k = 9 ∨ k = 10 ∨ k = 11 ∨ k = 12 ∨ k = 13 ∨ k = 14 ∨ k = 15 ∨ k = 16 ∨ k = 17 ∨ k = 18 ∨ k = 19 := by omega
  rcases hr3 with rfl | rfl | rfl <;> rcases this with rfl | rfl | rfl | rfl | rfl | rfl | rfl | rfl | rfl | rfl | rfl | rfl | rfl | rfl | rfl | rfl | rfl | rfl | rfl | rfl <;> (show _ = _; kernel_rfl)
theorem oth_merge {k : Nat} (hk : k < 20) : mergeP (othT k) = ([], 0, 77, 0) := by
  have : k = 0 ∨ k = 1 ∨ k = 2 ∨ k = 3 ∨ k = 4 ∨ k = 5 ∨ k = 6 ∨ k = 7 ∨ k = 8 ∨ k = 9 ∨ k = 10 ∨ k = 11 ∨ k = 12 ∨ k = 13 ∨ k = 14 ∨ k = 15 ∨ k = 16 ∨ k = 17 ∨ k = 18 ∨ k = 19 := by omega
  rcases this with rfl | rfl | rfl | rfl | rfl | rfl | rfl | rfl | rfl | rfl | rfl | rfl | rfl | rfl | rfl | rfl | rfl | rfl | rfl | rfl <;> (show _ = _; kernel_rfl)
theorem oth_told {k : Nat} : (walkT (othT k) []).1 = [] := by
  unfold othT
  rw [walkT]
  have e : walkPs (⟨true, 0⟩ :: List.replicate k ⟨false, 0⟩) (walkKs [.node [] [] 0 77] [] 0) = ([], 77, some [0]) := by
    rw [walkPs, if_pos rfl]
    rfl
  rw [e]
  rfl
theorem two_sorted {α : Type} {R : α → α → Prop} {a b : α} {L : List α} (hp : L.Perm [a, b]) (hs : L.Pairwise R) (hn : ¬ R a b) : L = [b, a] := by
  have hl := hp.length_eq
  match L, hl with
  | [x, y], _ =>
    have hxy : R x y := by simpa using hs
    have hx : x = a ∨ x = b := by simpa using hp.subset (List.mem_cons_self ..)
    rcases hx with rfl | rfl
    · have h2 := (List.Perm.cons_inv hp)
      have : [y] = [b] := List.singleton_perm_singleton.1 h2 ▸ rfl
      cases this
      exact absurd hxy hn
    · have h3 : [x, y].Perm [x, a] := hp.trans (List.Perm.swap _ _ _)
      have : [y] = [a] := List.singleton_perm_singleton.1 (List.Perm.cons_inv h3) ▸ rfl
      cases this
      rfl
theorem oth_log {k : Nat} {L : List (List Int × Int)} (hp : L.Perm (othG k).log) (hs : L.Pairwise (fun x y => ltP y.1 x.1 = false)) : L = [([], (k : Int) + 2), ([0], 1)] :=
  two_sorted hp hs (show ¬ ltP [] [0] = false by decide)
end Go.Proofs.Ytbekjccehhaljaa.H

set_option linter.unusedVariables false
set_option linter.unusedSimpArgs false
namespace Go.Proofs.Ytbekjccehhaljaa.H
open Go.RowKit Go.Hay Go.Proofs.YtbekjccehhaljaaW.PrintWords Go.Proofs.YtbekjccehhaljaaW.PrintLast Go.Proofs.YtbekjccehhaljaaW.PrintMore
/-- the code under construction. -/
structure CodeW (w : World) (b0 : Nat) (xs : List S61) (A : Option Addr) (c : Nat) (wr : World) : Prop where
  below : Below w.heap.size w wr
  row : k61.R 61 wr b0 (fun _ => True) (.slice A xs.length c) xs
  lo : w.heap.size ≤ b0
  hi : b0 ≤ wr.heap.size
theorem othPre_next (i : Nat) : othPre (i + 1) = othPre i ++ [⟨15, 0, 0, 0, 0⟩] := by unfold othPre; rw [List.replicate_succ']; rfl
theorem othPre_len (i : Nat) : (othPre i).length = i + 1 := by unfold othPre; simp
theorem i64_two {k : Nat} (h : k < 20) : IntKind.i64.wrap ((k : Int) + 2) = (k : Int) + 2 := IntWalk.i64_in _ (by omega)
set_option maxRecDepth 100000 in
set_option maxHeartbeats 8000000 in
theorem other_walk (n m : Int) (hn : 0 ≤ n ∧ n < 256) (hm : 0 ≤ m ∧ m < 256) (w : World) : Calls Try.prog 4 #[.int .u8 n, .int .u8 m] w fun e w' => e = .returned (.bool true) ∧ Below w.heap.size w w' := by
  obtain ⟨k, hk⟩ : ∃ k : Nat, (k : Int) = n % 20 := ⟨(n % 20).toNat, by omega⟩
  obtain ⟨r, hr⟩ : ∃ r : Nat, (r : Int) = m % 3 := ⟨(m % 3).toNat, by omega⟩
  have hk1 : k < 20 := by omega
  have hr1 : r < 3 := by omega
  have hw1 : IntKind.i64.wrap n = n := IntWalk.i64_in _ (by omega)
  have hw2 : IntKind.i64.wrap m = m := IntWalk.i64_in _ (by omega)
  have hn1 : Int.tmod n 20 = (k : Int) := by rw [Int.tmod_eq_emod_of_nonneg hn.1]; exact hk.symm
  have hm1 : Int.tmod m 3 = (r : Int) := by rw [Int.tmod_eq_emod_of_nonneg hm.1]; exact hr.symm
  have hw3 : IntKind.i64.wrap (k : Int) = (k : Int) := IntWalk.i64_in _ (by omega)
  have hw4 : IntKind.i64.wrap (r : Int) = (r : Int) := IntWalk.i64_in _ (by omega)
  have HK := Aside0.mk (And.intro hk1 hr1)
  have HEV := Aside0.mk (And.intro (oth_ends hk1 hr1) (oth_merge hk1))
  clear hk hr hk1 hn hm
  have H1 := Aside0.mk (show CodeW w w.heap.size (othPre 0) (some ⟨w.heap.size, 0, none⟩) 1 (w.alloc (.cells ((othPre 0).flatMap icells).toArray 61)) from ⟨(Below.refl w.heap.size w).alloc (Nat.le_refl _) _, code_R w (othPre 0) (by decide), Nat.le_refl _, ((Below.refl w.heap.size w).alloc (Nat.le_refl _) _).size⟩)
  go_enter Try.func4, Try.ntmps4
  go_wp2_with fail
  go_loopw [6, 7] (fun v6 v7 wr => ∃ (i : Nat) (A : Option Addr) (c : Nat), v6 = .slice A (othPre i).length c ∧ v7 = .int .i64 i ∧ i ≤ k ∧ Aside0 (CodeW w w.heap.size (othPre i) A c wr)) (fun _ v7 _ => k - (intOf v7).toNat)
  case atStart => exact ⟨0, _, _, rfl, rfl, Nat.zero_le _, H1⟩
  case round =>
    clear H1
    obtain ⟨i, A, c, rfl, rfl, hi, HS⟩ := hrel
    by_cases hik : i < k
    · have hlt := lt_true hik
      have hw8 : IntKind.i64.wrap ((i : Int) + 1) = (i : Int) + 1 := i64_small (Nat.lt_trans hik (Nat.lt_trans HK.out.1 (by decide)))
      have HI := Aside0.mk hik
      have HLE := Aside0.mk (show (othPre i).length + 1 ≤ 1000 by rw [othPre_len]; have := HK.out.1; omega)
      clear hik hi hr1
      go_wp2_with (first | (at_builtin; refine wpList_codesR (by rfl) (.tmp 25) (.tmp 27) (by rfl) (othPre i) [⟨15, 0, 0, 0, 0⟩] HS.out.below HS.out.lo HS.out.row HS.out.hi HLE.out (by rfl) wr.heap.size rfl (by rfl) ?_; intro A9 c9 w9 hb9 hR9 hh9; have H9 := Aside0.mk (And.intro hb9 (And.intro hR9 hh9)); clear hb9 hR9 hh9) | fail)
      have HN := Aside0.mk (show CodeW w w.heap.size (othPre (i + 1)) A9 c9 w9 from ⟨H9.out.1, by rw [othPre_next]; exact H9.out.2.1, Nat.le_refl _, H9.out.2.2⟩)
      refine ⟨⟨i + 1, A9, c9, ?_, by go_num, HI.out, HN⟩, up_lt HI.out⟩
      rw [othPre_next, List.length_append]; rfl
    · obtain rfl : i = k := Nat.le_antisymm hi (Nat.le_of_not_lt hik)
      have HLE3 := Aside0.mk (show (othPre i).length + 3 ≤ 1000 by rw [othPre_len]; have := HK.out.1; omega)
      clear hik hi
      have hr3 : r = 0 ∨ r = 1 ∨ r = 2 := by omega
      rcases hr3 with rfl | rfl | rfl
      · have hT : (wr.alloc (.cells (othTab.flatMap icells).toArray 61)).heap[wr.heap.size]? = some (.cells (othTab.flatMap icells).toArray 61 (0, 0)) := alloc_blk wr _
        have HS2 := Aside0.mk (show CodeW w w.heap.size (othPre i) A c (wr.alloc (.cells (othTab.flatMap icells).toArray 61)) from ⟨HS.out.below.alloc HS.out.below.size _, Kd.R_alloc HS.out.row _, Nat.le_refl _, Nat.le_trans HS.out.hi ((Below.refl wr.heap.size wr).alloc (Nat.le_refl _) (.cells (othTab.flatMap icells).toArray 61)).size⟩)
        have hs2 : (wr.alloc (.cells (othTab.flatMap icells).toArray 61)).heap.size = wr.heap.size + 1 := Array.size_push _
        have HS3 := Aside0.mk hs2
        have y0 := blk_cell hT 0
        have y1 := blk_cell hT 1
        have y2 := blk_cell hT 2
        have y3 := blk_cell hT 3
        have y4 := blk_cell hT 4
        clear hT hs2
        go_wp2_with (first | (at_builtin; refine wpList_codesR (by rfl) (.tmp 29) (.tmp 41) (by rfl) (othPre i) [othI 0, ⟨15, 0, 0, 0, 0⟩, ⟨17, 0, 0, 0, 0⟩] HS2.out.below HS2.out.lo HS2.out.row HS2.out.hi HLE3.out (by rfl) (wr.heap.size + 1) HS3.out (by rfl) ?_; intro A9 c9 w9 hb9 hR9 hh9; have H9 := Aside0.mk (And.intro hb9 (And.intro hR9 hh9)); clear hb9 hR9 hh9) | fail)
        have e5 : (othPre i ++ ([othI 0, ⟨15, 0, 0, 0, 0⟩, ⟨17, 0, 0, 0, 0⟩] : List S61)).length = (othPre i).length + 3 := by rw [List.length_append]; rfl
        have hq9 := Kd.R_reads' H9.out.2.1
        obtain ⟨W5, hW5⟩ : ∃ W5, W5 = (w9.alloc (.cells (([⟨16, 0, 0, 0, 77⟩] : List S61).flatMap icells).toArray 61)).alloc (.cells #[.int .i64 0, .slice A9 ((othPre i).length + 3) c9, .int .i64 0, .slice (some ⟨w9.heap.size, 0, none⟩) 1 1] 64) := ⟨_, rfl⟩
        obtain ⟨hb5, hP⟩ := prog2F w9 ⟨0, othPre i ++ [othI 0, ⟨15, 0, 0, 0, 0⟩, ⟨17, 0, 0, 0, 0⟩]⟩ ⟨0, [⟨16, 0, 0, 0, 77⟩]⟩ A9 c9 hq9.2.2 hq9.2.1 (by decide) (W := W5) (hW5.trans (by rw [← e5]; rfl))
        have hcall := Unfold_any (A := some ⟨w9.heap.size + 1, 0, none⟩) (c := 2) (Aa := none) (ca := 0) (l := othP i 0) (args := []) (b := 60) (d := 1) (most := 200) hP (Nat.le_refl _) (Kd.C_nil _ _) (Nat.le_refl _) (by decide)
        rw [show unfoldR (othP i 0) [] 60 1 (200 : Int).toNat = .ok (othT i) (othG i) from HEV.out.1] at hcall
        have HB5 := Aside0.mk (H9.out.1.trans (hb5.mono H9.out.1.size))
        have HW5 := Aside0.mk hW5
        have HCC := Aside0.mk hcall
        clear hcall hW5 hb5 hP hq9 e5 y0 y1 y2 y3 y4
        refine (calls_eq HCC.out (by rw [HW5.out]; rfl)).mono ?_
        clear HCC
        rintro e w3 ⟨hb3, a, Al, L, cl, rfl, hT, hpm, hsrt, hLA, -⟩
        have hLL := oth_log hpm hsrt
        subst hLL
        obtain ⟨g, Ap, cp, rfl, -, u1, -, -, -⟩ := hLA 0 (show 0 < 2 by decide)
        replace u1 : w3.cell? ⟨g, 1, none⟩ = some (.int .i64 ((i : Int) + 2)) := u1
        have hT' := hT
        simp only [othT, IsT] at hT'
        obtain ⟨nb, A1, c1, A2, c2, qs, rfl, hn, -⟩ := hT'
        have hpl : (⟨true, 0⟩ :: List.replicate i (⟨false, 0⟩ : Pc)).length = i + 1 := by simp
        rw [hpl] at hn
        unfold treeV
        obtain ⟨ch, hch⟩ : ∃ ch : Int, ch = (((othG i).chunks : Nat) : Int) := ⟨_, rfl⟩
        obtain ⟨st, hst⟩ : ∃ st : Int, st = (((othG i).steps : Nat) : Int) := ⟨_, rfl⟩
        rw [← hch, ← hst]
        rw [show (((othG i).frames : Nat) : Int) = 2 from rfl, show (((othG i).cells : Nat) : Int) = 1 from rfl]
        dsimp only [List.length_cons, List.length_nil]
        obtain ⟨W6, hW6⟩ : ∃ W6, W6 = w3.alloc (.cells #[.pointer (some ⟨nb, 0, none⟩), .slice (some ⟨g, 0, none⟩) 2 cl, .int .i64 2, .int .i64 1, .int .i64 ch, .int .i64 st] 33) := ⟨_, rfl⟩
        have hb6 : Below w3.heap.size w3 W6 := by rw [hW6]; exact (Below.refl w3.heap.size w3).alloc (Nat.le_refl _) _
        have hx6 : W6.heap[w3.heap.size]? = some (.cells #[.pointer (some ⟨nb, 0, none⟩), .slice (some ⟨g, 0, none⟩) 2 cl, .int .i64 2, .int .i64 1, .int .i64 ch, .int .i64 st] 33 (0, 0)) := by rw [hW6]; exact alloc_blk w3 _
        have HB := Aside0.mk ((HB5.out.trans (hb3.mono HB5.out.size)).trans (hb6.mono (HB5.out.trans (hb3.mono HB5.out.size)).size))
        have hn6 := (hb6.block _ (blk_lt hn)).trans hn
        have u1 := (hb6.cell (World.block_lt_of_cell? _ _ u1)).trans u1
        have HT6 := Aside0.mk (hT.keep _ hb6)
        have HX := Aside0.mk (And.intro hx6 (And.intro hn6 u1))
        have HW6 := Aside0.mk hW6
        have x0 := blk_cell hx6 0
        have x1 := blk_cell hx6 1
        clear hb3 hT hn hch hst hW6 hx6 hn6 hb6 hpm hsrt hLA u1 hpl
        go_upto_region 9 with (fail)
        rw [← HW6.out]
        go_wp2_with fail
        refine (Merge_any (othT i) _ W6 HT6.out (fun _ => by rw [oth_told]; decide)).mono ?_
        rintro e w5 ⟨v, rfl, hR, hb5⟩
        rw [HEV.out.2] at hR ⊢
        obtain ⟨At, ct, rfl⟩ := Kd.R_slice hR
        have hx5 := (hb5.block _ (blk_lt HX.out.1)).trans HX.out.1
        have hn5 := (hb5.block _ (blk_lt HX.out.2.1)).trans HX.out.2.1
        have u1 := (hb5.cell (World.block_lt_of_cell? _ _ HX.out.2.2)).trans HX.out.2.2
        have x0 := blk_cell hx5 0
        have x1 := blk_cell hx5 1
        have x3 := blk_cell hx5 3
        have n0 := blk_cell hn5 0
        have n3 := blk_cell hn5 3
        have HB7 := Aside0.mk (HB.out.trans (hb5.mono HB.out.size))
        have hw7 := i64_small (Nat.lt_trans HK.out.1 (show 20 < 100 by decide))
        have hw9 := i64_two HK.out.1
        clear hR hb5 hx5 hn5
        go_wp2_with fail
        refine (awake_any _).mono ?_
        rintro e w7 ⟨rfl, hb7⟩
        have HB8 := Aside0.mk (HB7.out.trans (hb7.mono HB7.out.size))
        clear hb7
        go_wp2_with fail
        go_ret
        exact ⟨rfl, HB8.out⟩
      · have hT : (wr.alloc (.cells (othTab.flatMap icells).toArray 61)).heap[wr.heap.size]? = some (.cells (othTab.flatMap icells).toArray 61 (0, 0)) := alloc_blk wr _
        have HS2 := Aside0.mk (show CodeW w w.heap.size (othPre i) A c (wr.alloc (.cells (othTab.flatMap icells).toArray 61)) from ⟨HS.out.below.alloc HS.out.below.size _, Kd.R_alloc HS.out.row _, Nat.le_refl _, Nat.le_trans HS.out.hi ((Below.refl wr.heap.size wr).alloc (Nat.le_refl _) (.cells (othTab.flatMap icells).toArray 61)).size⟩)
        have hs2 : (wr.alloc (.cells (othTab.flatMap icells).toArray 61)).heap.size = wr.heap.size + 1 := Array.size_push _
        have HS3 := Aside0.mk hs2
        have y0 := blk_cell hT 5
        have y1 := blk_cell hT 6
        have y2 := blk_cell hT 7
        have y3 := blk_cell hT 8
        have y4 := blk_cell hT 9
        clear hT hs2
        go_wp2_with (first | (at_builtin; refine wpList_codesR (by rfl) (.tmp 29) (.tmp 41) (by rfl) (othPre i) [othI 1, ⟨15, 0, 0, 0, 0⟩, ⟨17, 0, 0, 0, 0⟩] HS2.out.below HS2.out.lo HS2.out.row HS2.out.hi HLE3.out (by rfl) (wr.heap.size + 1) HS3.out (by rfl) ?_; intro A9 c9 w9 hb9 hR9 hh9; have H9 := Aside0.mk (And.intro hb9 (And.intro hR9 hh9)); clear hb9 hR9 hh9) | fail)
        have e5 : (othPre i ++ ([othI 1, ⟨15, 0, 0, 0, 0⟩, ⟨17, 0, 0, 0, 0⟩] : List S61)).length = (othPre i).length + 3 := by rw [List.length_append]; rfl
        have hq9 := Kd.R_reads' H9.out.2.1
        obtain ⟨W5, hW5⟩ : ∃ W5, W5 = (w9.alloc (.cells (([⟨16, 0, 0, 0, 77⟩] : List S61).flatMap icells).toArray 61)).alloc (.cells #[.int .i64 0, .slice A9 ((othPre i).length + 3) c9, .int .i64 0, .slice (some ⟨w9.heap.size, 0, none⟩) 1 1] 64) := ⟨_, rfl⟩
        obtain ⟨hb5, hP⟩ := prog2F w9 ⟨0, othPre i ++ [othI 1, ⟨15, 0, 0, 0, 0⟩, ⟨17, 0, 0, 0, 0⟩]⟩ ⟨0, [⟨16, 0, 0, 0, 77⟩]⟩ A9 c9 hq9.2.2 hq9.2.1 (by decide) (W := W5) (hW5.trans (by rw [← e5]; rfl))
        have hcall := Unfold_any (A := some ⟨w9.heap.size + 1, 0, none⟩) (c := 2) (Aa := none) (ca := 0) (l := othP i 1) (args := []) (b := 60) (d := 1) (most := 200) hP (Nat.le_refl _) (Kd.C_nil _ _) (Nat.le_refl _) (by decide)
        rw [show unfoldR (othP i 1) [] 60 1 (200 : Int).toNat = .ok (othT i) (othG i) from HEV.out.1] at hcall
        have HB5 := Aside0.mk (H9.out.1.trans (hb5.mono H9.out.1.size))
        have HW5 := Aside0.mk hW5
        have HCC := Aside0.mk hcall
        clear hcall hW5 hb5 hP hq9 e5 y0 y1 y2 y3 y4
        refine (calls_eq HCC.out (by rw [HW5.out]; rfl)).mono ?_
        clear HCC
        rintro e w3 ⟨hb3, a, Al, L, cl, rfl, hT, hpm, hsrt, hLA, -⟩
        have hLL := oth_log hpm hsrt
        subst hLL
        obtain ⟨g, Ap, cp, rfl, -, u1, -, -, -⟩ := hLA 0 (show 0 < 2 by decide)
        replace u1 : w3.cell? ⟨g, 1, none⟩ = some (.int .i64 ((i : Int) + 2)) := u1
        have hT' := hT
        simp only [othT, IsT] at hT'
        obtain ⟨nb, A1, c1, A2, c2, qs, rfl, hn, -⟩ := hT'
        have hpl : (⟨true, 0⟩ :: List.replicate i (⟨false, 0⟩ : Pc)).length = i + 1 := by simp
        rw [hpl] at hn
        unfold treeV
        obtain ⟨ch, hch⟩ : ∃ ch : Int, ch = (((othG i).chunks : Nat) : Int) := ⟨_, rfl⟩
        obtain ⟨st, hst⟩ : ∃ st : Int, st = (((othG i).steps : Nat) : Int) := ⟨_, rfl⟩
        rw [← hch, ← hst]
        rw [show (((othG i).frames : Nat) : Int) = 2 from rfl, show (((othG i).cells : Nat) : Int) = 1 from rfl]
        dsimp only [List.length_cons, List.length_nil]
        obtain ⟨W6, hW6⟩ : ∃ W6, W6 = w3.alloc (.cells #[.pointer (some ⟨nb, 0, none⟩), .slice (some ⟨g, 0, none⟩) 2 cl, .int .i64 2, .int .i64 1, .int .i64 ch, .int .i64 st] 33) := ⟨_, rfl⟩
        have hb6 : Below w3.heap.size w3 W6 := by rw [hW6]; exact (Below.refl w3.heap.size w3).alloc (Nat.le_refl _) _
        have hx6 : W6.heap[w3.heap.size]? = some (.cells #[.pointer (some ⟨nb, 0, none⟩), .slice (some ⟨g, 0, none⟩) 2 cl, .int .i64 2, .int .i64 1, .int .i64 ch, .int .i64 st] 33 (0, 0)) := by rw [hW6]; exact alloc_blk w3 _
        have HB := Aside0.mk ((HB5.out.trans (hb3.mono HB5.out.size)).trans (hb6.mono (HB5.out.trans (hb3.mono HB5.out.size)).size))
        have hn6 := (hb6.block _ (blk_lt hn)).trans hn
        have u1 := (hb6.cell (World.block_lt_of_cell? _ _ u1)).trans u1
        have HT6 := Aside0.mk (hT.keep _ hb6)
        have HX := Aside0.mk (And.intro hx6 (And.intro hn6 u1))
        have HW6 := Aside0.mk hW6
        have x0 := blk_cell hx6 0
        have x1 := blk_cell hx6 1
        clear hb3 hT hn hch hst hW6 hx6 hn6 hb6 hpm hsrt hLA u1 hpl
        go_upto_region 9 with (fail)
        rw [← HW6.out]
        go_wp2_with fail
        refine (Merge_any (othT i) _ W6 HT6.out (fun _ => by rw [oth_told]; decide)).mono ?_
        rintro e w5 ⟨v, rfl, hR, hb5⟩
        rw [HEV.out.2] at hR ⊢
        obtain ⟨At, ct, rfl⟩ := Kd.R_slice hR
        have hx5 := (hb5.block _ (blk_lt HX.out.1)).trans HX.out.1
        have hn5 := (hb5.block _ (blk_lt HX.out.2.1)).trans HX.out.2.1
        have u1 := (hb5.cell (World.block_lt_of_cell? _ _ HX.out.2.2)).trans HX.out.2.2
        have x0 := blk_cell hx5 0
        have x1 := blk_cell hx5 1
        have x3 := blk_cell hx5 3
        have n0 := blk_cell hn5 0
        have n3 := blk_cell hn5 3
        have HB7 := Aside0.mk (HB.out.trans (hb5.mono HB.out.size))
        have hw7 := i64_small (Nat.lt_trans HK.out.1 (show 20 < 100 by decide))
        have hw9 := i64_two HK.out.1
        clear hR hb5 hx5 hn5
        go_wp2_with fail
        refine (awake_any _).mono ?_
        rintro e w7 ⟨rfl, hb7⟩
        have HB8 := Aside0.mk (HB7.out.trans (hb7.mono HB7.out.size))
        clear hb7
        go_wp2_with fail
        go_ret
        exact ⟨rfl, HB8.out⟩
      · have hT : (wr.alloc (.cells (othTab.flatMap icells).toArray 61)).heap[wr.heap.size]? = some (.cells (othTab.flatMap icells).toArray 61 (0, 0)) := alloc_blk wr _
        have HS2 := Aside0.mk (show CodeW w w.heap.size (othPre i) A c (wr.alloc (.cells (othTab.flatMap icells).toArray 61)) from ⟨HS.out.below.alloc HS.out.below.size _, Kd.R_alloc HS.out.row _, Nat.le_refl _, Nat.le_trans HS.out.hi ((Below.refl wr.heap.size wr).alloc (Nat.le_refl _) (.cells (othTab.flatMap icells).toArray 61)).size⟩)
        have hs2 : (wr.alloc (.cells (othTab.flatMap icells).toArray 61)).heap.size = wr.heap.size + 1 := Array.size_push _
        have HS3 := Aside0.mk hs2
        have y0 := blk_cell hT 10
        have y1 := blk_cell hT 11
        have y2 := blk_cell hT 12
        have y3 := blk_cell hT 13
        have y4 := blk_cell hT 14
        clear hT hs2
        go_wp2_with (first | (at_builtin; refine wpList_codesR (by rfl) (.tmp 29) (.tmp 41) (by rfl) (othPre i) [othI 2, ⟨15, 0, 0, 0, 0⟩, ⟨17, 0, 0, 0, 0⟩] HS2.out.below HS2.out.lo HS2.out.row HS2.out.hi HLE3.out (by rfl) (wr.heap.size + 1) HS3.out (by rfl) ?_; intro A9 c9 w9 hb9 hR9 hh9; have H9 := Aside0.mk (And.intro hb9 (And.intro hR9 hh9)); clear hb9 hR9 hh9) | fail)
        have e5 : (othPre i ++ ([othI 2, ⟨15, 0, 0, 0, 0⟩, ⟨17, 0, 0, 0, 0⟩] : List S61)).length = (othPre i).length + 3 := by rw [List.length_append]; rfl
        have hq9 := Kd.R_reads' H9.out.2.1
        obtain ⟨W5, hW5⟩ : ∃ W5, W5 = (w9.alloc (.cells (([⟨16, 0, 0, 0, 77⟩] : List S61).flatMap icells).toArray 61)).alloc (.cells #[.int .i64 0, .slice A9 ((othPre i).length + 3) c9, .int .i64 0, .slice (some ⟨w9.heap.size, 0, none⟩) 1 1] 64) := ⟨_, rfl⟩
        obtain ⟨hb5, hP⟩ := prog2F w9 ⟨0, othPre i ++ [othI 2, ⟨15, 0, 0, 0, 0⟩, ⟨17, 0, 0, 0, 0⟩]⟩ ⟨0, [⟨16, 0, 0, 0, 77⟩]⟩ A9 c9 hq9.2.2 hq9.2.1 (by decide) (W := W5) (hW5.trans (by rw [← e5]; rfl))
        have hcall := Unfold_any (A := some ⟨w9.heap.size + 1, 0, none⟩) (c := 2) (Aa := none) (ca := 0) (l := othP i 2) (args := []) (b := 60) (d := 1) (most := 200) hP (Nat.le_refl _) (Kd.C_nil _ _) (Nat.le_refl _) (by decide)
        rw [show unfoldR (othP i 2) [] 60 1 (200 : Int).toNat = .ok (othT i) (othG i) from HEV.out.1] at hcall
        have HB5 := Aside0.mk (H9.out.1.trans (hb5.mono H9.out.1.size))
        have HW5 := Aside0.mk hW5
        have HCC := Aside0.mk hcall
        clear hcall hW5 hb5 hP hq9 e5 y0 y1 y2 y3 y4
        refine (calls_eq HCC.out (by rw [HW5.out]; rfl)).mono ?_
        clear HCC
        rintro e w3 ⟨hb3, a, Al, L, cl, rfl, hT, hpm, hsrt, hLA, -⟩
        have hLL := oth_log hpm hsrt
        subst hLL
        obtain ⟨g, Ap, cp, rfl, -, u1, -, -, -⟩ := hLA 0 (show 0 < 2 by decide)
        replace u1 : w3.cell? ⟨g, 1, none⟩ = some (.int .i64 ((i : Int) + 2)) := u1
        have hT' := hT
        simp only [othT, IsT] at hT'
        obtain ⟨nb, A1, c1, A2, c2, qs, rfl, hn, -⟩ := hT'
        have hpl : (⟨true, 0⟩ :: List.replicate i (⟨false, 0⟩ : Pc)).length = i + 1 := by simp
        rw [hpl] at hn
        unfold treeV
        obtain ⟨ch, hch⟩ : ∃ ch : Int, ch = (((othG i).chunks : Nat) : Int) := ⟨_, rfl⟩
        obtain ⟨st, hst⟩ : ∃ st : Int, st = (((othG i).steps : Nat) : Int) := ⟨_, rfl⟩
        rw [← hch, ← hst]
        rw [show (((othG i).frames : Nat) : Int) = 2 from rfl, show (((othG i).cells : Nat) : Int) = 1 from rfl]
        dsimp only [List.length_cons, List.length_nil]
        obtain ⟨W6, hW6⟩ : ∃ W6, W6 = w3.alloc (.cells #[.pointer (some ⟨nb, 0, none⟩), .slice (some ⟨g, 0, none⟩) 2 cl, .int .i64 2, .int .i64 1, .int .i64 ch, .int .i64 st] 33) := ⟨_, rfl⟩
        have hb6 : Below w3.heap.size w3 W6 := by rw [hW6]; exact (Below.refl w3.heap.size w3).alloc (Nat.le_refl _) _
        have hx6 : W6.heap[w3.heap.size]? = some (.cells #[.pointer (some ⟨nb, 0, none⟩), .slice (some ⟨g, 0, none⟩) 2 cl, .int .i64 2, .int .i64 1, .int .i64 ch, .int .i64 st] 33 (0, 0)) := by rw [hW6]; exact alloc_blk w3 _
        have HB := Aside0.mk ((HB5.out.trans (hb3.mono HB5.out.size)).trans (hb6.mono (HB5.out.trans (hb3.mono HB5.out.size)).size))
        have hn6 := (hb6.block _ (blk_lt hn)).trans hn
        have u1 := (hb6.cell (World.block_lt_of_cell? _ _ u1)).trans u1
        have HT6 := Aside0.mk (hT.keep _ hb6)
        have HX := Aside0.mk (And.intro hx6 (And.intro hn6 u1))
        have HW6 := Aside0.mk hW6
        have x0 := blk_cell hx6 0
        have x1 := blk_cell hx6 1
        clear hb3 hT hn hch hst hW6 hx6 hn6 hb6 hpm hsrt hLA u1 hpl
        go_upto_region 9 with (fail)
        rw [← HW6.out]
        go_wp2_with fail
        refine (Merge_any (othT i) _ W6 HT6.out (fun _ => by rw [oth_told]; decide)).mono ?_
        rintro e w5 ⟨v, rfl, hR, hb5⟩
        rw [HEV.out.2] at hR ⊢
        obtain ⟨At, ct, rfl⟩ := Kd.R_slice hR
        have hx5 := (hb5.block _ (blk_lt HX.out.1)).trans HX.out.1
        have hn5 := (hb5.block _ (blk_lt HX.out.2.1)).trans HX.out.2.1
        have u1 := (hb5.cell (World.block_lt_of_cell? _ _ HX.out.2.2)).trans HX.out.2.2
        have x0 := blk_cell hx5 0
        have x1 := blk_cell hx5 1
        have x3 := blk_cell hx5 3
        have n0 := blk_cell hn5 0
        have n3 := blk_cell hn5 3
        have HB7 := Aside0.mk (HB.out.trans (hb5.mono HB.out.size))
        have hw7 := i64_small (Nat.lt_trans HK.out.1 (show 20 < 100 by decide))
        have hw9 := i64_two HK.out.1
        clear hR hb5 hx5 hn5
        go_wp2_with fail
        refine (awake_any _).mono ?_
        rintro e w7 ⟨rfl, hb7⟩
        have HB8 := Aside0.mk (HB7.out.trans (hb7.mono HB7.out.size))
        clear hb7
        go_wp2_with fail
        go_ret
        exact ⟨rfl, HB8.out⟩
def haymowlaw08_UnfoldOther.f (a0 a1 : Int) : Option Bool := if inR 0 256 a0 && inR 0 256 a1 then some true else none
theorem haymowlaw08_UnfoldOther.calls (a0 a1 : Int) (r : Bool) (w : World) (h : haymowlaw08_UnfoldOther.f a0 a1 = some r) : Calls Try.prog 4 #[.int .u8 a0, .int .u8 a1] w fun e w' => e = .returned (.bool r) ∧ Below w.heap.size w w' := by
  unfold haymowlaw08_UnfoldOther.f at h
  split at h
  · rename_i hc
    cases h
    rw [Bool.and_eq_true] at hc
    exact other_walk a0 a1 (of_decide_eq_true hc.1) (of_decide_eq_true hc.2) w
  · cases h
end Go.Proofs.Ytbekjccehhaljaa.H

set_option linter.unusedVariables false
set_option linter.unusedSimpArgs false
namespace Go.Hay
open Go.RowKit Go.Proofs.YtbekjccehhaljaaW.PrintWords Go.Proofs.YtbekjccehhaljaaW.PrintLast Go.Proofs.YtbekjccehhaljaaW.PrintMore

end Go.Hay

-- made by this session's gen.py: the row of the law haymow/haymowlaw08.UnfoldOther; not trusted: Lean checks it
namespace Go.Proofs.Ytbekjccehhaljaa.unfoldOther
open Go.ChangeShapes Go.WideShapes Go.ChangeAt Go.RowKit Go.Hay Go.Proofs.Ytbekjccehhaljaa.H Go.Proofs.YtbekjccehhaljaaW.PrintWords Go.Proofs.YtbekjccehhaljaaW.PrintLast Go.Proofs.YtbekjccehhaljaaW.PrintMore
open Go.ChangeMaps (open_string shut_string)
set_option linter.unusedVariables false
set_option linter.unusedSimpArgs false
theorem own : ownKnob Try.prog.godebug = none := by kernel_rfl
def Pure : Prop := ∀ (a0 : Int) (a1 : Int), (Lit.int .u8 a0).wf = true → (Lit.int .u8 a1).wf = true → haymowlaw08_UnfoldOther.f a0 a1 = some true
set_option maxRecDepth 100000 in
theorem lifted (PU : Pure) (os : Os) (started : os.Started) (H : Type) (enc : TypeId × Value → H) :
    ReturnsInHanded {} Try.checked os 4 .any (Rows.unfoldOtherSpec.pre6 enc Try.prog Try.f4 Rows.unfoldOtherRow.domain false) (Rows.unfoldOtherSpec.post enc Try.prog Try.f4 false true false false) := by
  refine returnsInHanded_of_change_sized (C := Try.checked) own started (by kernel_rfl) Try.func4
    (ChangeSpec.witness6 (enc := enc) (C := Try.checked) false ⟨#[], #[.int .u8 0, .int .u8 0], []⟩ 8 (by kernel_rfl) (by kernel_rfl) (by kernel_rfl) (by kernel_rfl)) ?_
  intro W base args ds gs before hval0 hW hcnd hsz0 _
  have hval : ∀ (j : Nat) t v, Try.f4.params[j]? = some t → args[j]? = some v → Value.okWide Try.prog W .any base t v := hval0
  have hW' := hW
  obtain ⟨p, q, hA0, hV, rfl, hfz, hnd⟩ := hW
  have hA : DataW.TrodAll enc Try.prog W 0 (fun _ => true) true Try.f4.params.toList args.toList ds p := hA0
  rw [Try.params4] at hA hval
  obtain ⟨v0, vs0, d0, ds0, p0, q0, hargs, rfl, rfl, h0, r0⟩ := trodAll_cons hA
  obtain ⟨v1, vs1, d1, ds1, p1, q1, rfl, rfl, rfl, h1, r1⟩ := trodAll_cons r0
  obtain ⟨rfl, rfl, rfl⟩ := trodAll_nil r1
  obtain rfl : args = #[v0, v1] := by cases args; simp_all
  obtain ⟨rfl, rfl⟩ := trodVars_none hV
  obtain ⟨a0, rfl, rfl, rfl, w0⟩ := open_int Try.underlying5 (hval 0 5 v0 rfl rfl) h0
  obtain ⟨a1, rfl, rfl, rfl, w1⟩ := open_int Try.underlying5 (hval 1 5 v1 rfl rfl) h1
  clear hA0 hval0 hsz0
  have hpure := PU a0 a1 w0 w1
  refine (haymowlaw08_UnfoldOther.calls a0 a1 true W hpure).mono fun e W' hpost => ?_
  obtain ⟨he, bel⟩ := hpost
  subst he
  exact ⟨_, rfl, _, _, _, [], _, [], hW', trodAll_mk1 (shut_bool Try.underlying4 _), (trodAll_cons_mk (shut_int Try.underlying5 w0) (trodAll_cons_mk (shut_int Try.underlying5 w1) trodAll_mk0)), rfl, bel.frame _, fun h => by cases h⟩
theorem over (PU : Pure) : Rows.unfoldOtherRow.holds Try.pinned (OpenSpec.ofChange Rows.unfoldOtherSpec) :=
  OpenClaim.holds_of_wide 4 Try.f4 rfl rfl rfl rfl rfl rfl rfl ⟨rfl, rfl, rfl, rfl, rfl⟩ rfl rfl rfl rfl rfl (by kernel_rfl) Try.func4 (by kernel_rfl)
    (of_decide_eq_true (by kernel_rfl)) (by unfold Func.isWrapper; first | (rw [if_pos (by decide +kernel)]; kernel_rfl) | (rw [if_neg (by decide +kernel)]; exact ⟨rfl, rfl⟩))
    (fun os started H enc _ => lifted PU os started H enc)
theorem said (PU : Pure) : Rows.UnfoldOtherSaid := over PU
end Go.Proofs.Ytbekjccehhaljaa.unfoldOther

namespace Go.Proofs.Ytbekjccehhaljaa
open Go.RowKit
theorem u8_range {n : Int} (h : (Lit.int .u8 n).wf = true) : 0 ≤ n ∧ n < 256 := by
  have e1 : IntKind.u8.min = 0 := by decide
  have e2 : IntKind.u8.max = 255 := by decide
  have h' : IntKind.u8.min ≤ n ∧ n ≤ IntKind.u8.max := by simpa [Lit.wf, go_sem] using h
  rw [e1, e2] at h'
  omega
theorem unfoldOther_holds : Rows.UnfoldOtherSaid := unfoldOther.said (fun n m h1 h2 => by
  unfold H.haymowlaw08_UnfoldOther.f H.inR
  rw [if_pos (by simp only [Bool.and_eq_true, decide_eq_true_eq]; exact ⟨u8_range h1, u8_range h2⟩)])
#print axioms unfoldOther_holds
end Go.Proofs.Ytbekjccehhaljaa

