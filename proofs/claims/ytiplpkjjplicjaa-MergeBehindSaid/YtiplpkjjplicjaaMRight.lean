/- merge.right answers whether a node may be. -/
import Derived.Test.YtiplpkjjplicjaaTree
set_option linter.unusedVariables false
set_option linter.unusedSimpArgs false
namespace Go.Proofs.Ytiplpkjjplicjaa.H
open Go.RowKit Go.Hay Go.Proofs.YtiplpkjjplicjaaW.PrintWords Go.Proofs.YtiplpkjjplicjaaW.PrintLast Go.Proofs.YtiplpkjjplicjaaW.PrintMore
set_option maxRecDepth 100000 in
set_option maxHeartbeats 4000000 in
theorem mindex_any (q : Option Addr) (p : Nat → Bool) (qs : List (Option Addr)) (A : Option Addr) (c : Nat) (w : World) (hC : kP.C w A qs.length qs)
    (hp : ∀ i (h : i < qs.length) w', Below w.heap.size w w' → Calls Try.prog 31 #[.pointer qs[i], .pointer q] w' fun e w'' => e = .returned (.bool (p i)) ∧ Below w'.heap.size w' w'') :
    Calls Try.prog 32 #[.slice A qs.length c, .func (.func 31) #[] #[.pointer q]] w fun e w' => (∃ r : Int, e = .returned (.int .i64 r) ∧ decide (0 ≤ r) = (List.range qs.length).any p) ∧ Below w.heap.size w w' := by
  have hmax := Kd.C_max hC
  have HC := Aside0.mk hC
  have HP := Aside0.mk hp
  have HW := Aside0.mk (Below.refl w.heap.size w)
  clear hC hp
  go_enter Try.func32, Try.ntmps32
  go_wp2_with fail
  go_loopw [8] (fun v8 wr => ∃ (i : Nat), v8 = .int .i64 i ∧ i ≤ qs.length ∧ Aside0 ((List.range i).any p = false) ∧ Aside0 (Below w.heap.size w wr)) (fun v8 _ => qs.length - (intOf v8).toNat)
  case atStart => exact ⟨0, rfl, Nat.zero_le _, ⟨rfl⟩, HW⟩
  case round =>
    obtain ⟨i, rfl, hi, HN, HD⟩ := hrel
    by_cases hlt : i < qs.length
    · obtain ⟨ad, rfl, hx⟩ := at_P HC.out i hlt hlt
      have hx2 := (HD.out.cell (World.block_lt_of_cell? w _ hx)).trans hx
      clear hx
      go_wp2_with fail
      refine (HP.out i hlt wr HD.out).mono ?_
      rintro e w2 ⟨rfl, hd⟩
      have HD2 := Aside0.mk (HD.out.trans (hd.mono HD.out.size))
      clear hd hx2 HD
      cases hb : p i with
      | true =>
        have hf : (List.range qs.length).any p = true := List.any_eq_true.2 ⟨i, List.mem_range.2 hlt, hb⟩
        have HF := Aside0.mk hf
        clear hf HN hb
        go_wp2_with fail
        go_ret
        exact ⟨⟨i, rfl, by rw [HF.out]; simp⟩, HD2.out⟩
      | false =>
        have HN2 : Aside0 ((List.range (i + 1)).any p = false) := ⟨by rw [List.range_succ, List.any_append, HN.out]; simp [hb]⟩
        clear HN hb
        go_wp2_with fail
        go_roundw
        case rel => exact ⟨i + 1, by go_num, by omega, HN2, HD2⟩
        case measure => simp [intOf]; omega
    · obtain rfl : i = qs.length := by omega
      clear hlt
      go_wp2_with fail
      go_ret
      exact ⟨⟨-1, rfl, by rw [HN.out]; rfl⟩, HD.out⟩
set_option maxRecDepth 100000 in
theorem mcontains_any (q : Option Addr) (p : Nat → Bool) (qs : List (Option Addr)) (A : Option Addr) (c n : Nat) (w : World) (hn : qs.length = n) (hC : kP.C w A n qs)
    (hp : ∀ i (h : i < qs.length) w', Below w.heap.size w w' → Calls Try.prog 31 #[.pointer qs[i], .pointer q] w' fun e w'' => e = .returned (.bool (p i)) ∧ Below w'.heap.size w' w'') :
    Calls Try.prog 30 #[.slice A n c, .func (.func 31) #[] #[.pointer q]] w fun e w' => e = .returned (.bool ((List.range n).any p)) ∧ Below w.heap.size w w' := by
  subst hn
  have HX := Aside0.mk (mindex_any q p qs A c w hC hp)
  clear hC hp
  go_enter Try.func30, Try.ntmps30
  go_wp2_with fail
  refine HX.out.mono ?_
  rintro e w' ⟨⟨r, rfl, hr⟩, hb⟩
  have HR := Aside0.mk hr
  have HB := Aside0.mk hb
  clear hr hb
  go_wp2_with fail
  go_ret
  exact ⟨by rw [← HR.out]; rfl, HB.out⟩
def RightOk (t : T) : Prop := ∀ (a : Option Addr) (d : Int) (w : World), IsT t w a → 0 ≤ d → d ≤ 31 → Calls Try.prog 27 #[.pointer a, .int .i64 d] w fun e w' => e = .returned (.bool (rightT t d)) ∧ Below w.heap.size w w'
set_option maxRecDepth 100000 in
theorem right_nil : RightOk .nil := by
  intro a d w h h0 h1
  simp only [IsT] at h
  subst h
  have HB := Aside0.mk ((Below.refl w.heap.size w).alloc (Nat.le_refl _) (.cells #[.int .i64 d] 3))
  have HR := Aside0.mk (show rightT .nil d = false from rfl)
  go_enter Try.func27, Try.ntmps27
  go_wp2_with fail
  go_ret
  exact ⟨by rw [HR.out]; rfl, HB.out⟩
set_option maxRecDepth 100000 in
theorem kid_any (t : T) (ht : RightOk t) (b : Nat) (a : Option Addr) (d : Int) (w : World) (h : IsT t w a) (h0 : 0 ≤ d) (h1 : d ≤ 30) (hb : w.heap[b]? = some (.cells #[.int .i64 d] 3 (0, 0))) :
    Calls Try.prog 31 #[.pointer a, .pointer (some ⟨b, 0, none⟩)] w fun e w' => e = .returned (.bool (!rightT t (d + 1))) ∧ Below w.heap.size w w' := by
  have c := blk_cell hb 0
  have HX := Aside0.mk (ht a (d + 1) w h (by omega) (by omega))
  have hw : IntKind.i64.wrap (d + 1) = d + 1 := (i64_w _).trans (by unfold wrap64; omega)
  clear ht h hb
  go_enter Try.func31, Try.ntmps31
  go_wp2_with fail
  refine HX.out.mono ?_
  rintro e w' ⟨rfl, hb⟩
  have HB := Aside0.mk hb
  clear hb
  go_wp2_with fail
  go_ret
  exact ⟨rfl, HB.out⟩
theorem rightTs_any : ∀ (ks : List T) (d : Int), (List.range ks.length).any (fun i => !rightT (ks.getD i .nil) d) = !rightTs ks d
  | [], d => rfl
  | k :: r, d => by
    rw [rightTs, Bool.not_and, ← rightTs_any r d, List.length_cons, List.range_succ_eq_map, List.any_cons, List.any_map]
    rfl
theorem right_early {ps : List S64} {ks : List T} {v f d : Int} (h : d > 30 ∨ (f ≠ 0 ∧ v ≠ 0)) : rightT (.node ps ks v f) d = false := by
  rw [rightT, if_pos h]
theorem right_none {ps : List S64} {ks : List T} {v f d : Int} (h : metP 0 ps = none) : rightT (.node ps ks v f) d = false := by
  rw [rightT, h]; split <;> rfl
theorem right_some {ps : List S64} {ks : List T} {v f d m : Int} (h : ¬ (d > 30 ∨ (f ≠ 0 ∧ v ≠ 0))) (hm : metP 0 ps = some m) : rightT (.node ps ks v f) d = if m = (ks.length : Int) then rightTs ks (d + 1) else false := by
  rw [rightT, if_neg h, hm]
theorem metP_step {m : Int} {ps : List S64} {i : Nat} (hi : i < ps.length) {k : Int} (h : metP 0 ps = metP m (ps.drop i)) {q : S64} (hq : ps[i] = q) (hk : (q.f0 = false ∧ k = m) ∨ (q.f0 = true ∧ q.f1 = m ∧ k = m + 1)) : metP 0 ps = metP k (ps.drop (i + 1)) := by
  rw [h, List.drop_eq_getElem_cons hi, hq, metP]
  rcases hk with ⟨h1, rfl⟩ | ⟨h1, h2, rfl⟩
  · rw [if_neg (by rw [h1]; simp)]
  · rw [if_pos h1, if_pos h2]
theorem metP_stop {m : Int} {ps : List S64} {i : Nat} (hi : i < ps.length) (h : metP 0 ps = metP m (ps.drop i)) {q : S64} (hq : ps[i] = q) (h1 : q.f0 = true) (h2 : q.f1 ≠ m) : metP 0 ps = none := by
  rw [h, List.drop_eq_getElem_cons hi, hq, metP, if_pos h1, if_neg h2]
structure RW (w : World) (d : Int) (b : Nat) (cs : Array Value) (w' : World) : Prop where
  below : Below w.heap.size w w'
  box : w'.heap[w.heap.size]? = some (.cells #[.int .i64 d] 3 (0, 0))
  node : w'.heap[b]? = some (.cells cs 42 (0, 0))
theorem RW.keep {w : World} {d : Int} {b : Nat} {cs : Array Value} {w' w'' : World} (h : RW w d b cs w') (k : Below w'.heap.size w' w'') : RW w d b cs w'' :=
  ⟨h.below.trans (k.mono h.below.size), (k.block _ (blk_lt h.box)).trans h.box, (k.block _ (blk_lt h.node)).trans h.node⟩
set_option maxRecDepth 100000 in
set_option maxHeartbeats 4000000 in
theorem right_node (ps : List S64) (ks : List T) (v f : Int) (hk : ∀ k ∈ ks, RightOk k) : RightOk (.node ps ks v f) := by
  intro a d w h h0 h1
  have h' := h
  simp only [IsT] at h'
  obtain ⟨b, A1, c1, A2, c2, qs, rfl, g1, g2, g3, g4, g5, g6⟩ := h'
  have hB := (Below.refl w.heap.size w).alloc (Nat.le_refl _) (.cells #[.int .i64 d] 3)
  have hbx := alloc_blk w (.cells #[.int .i64 d] 3)
  have gw := (hB.block _ (blk_lt g1)).trans g1
  have HX := Aside0.mk (And.intro hB (And.intro hbx gw))
  have c0 := blk_cell gw 0
  have c1' := blk_cell gw 1
  have c2' := blk_cell gw 2
  have c3 := blk_cell gw 3
  have b0 := blk_cell hbx 0
  have G := Aside0.mk (And.intro g3 (And.intro g5 g6))
  have HK := Aside0.mk hk
  clear h g1 g2 g3 g4 g5 g6 gw hB hbx hk
  by_cases hd : d > 30
  · have HR := Aside0.mk (right_early (ps := ps) (ks := ks) (v := v) (f := f) (.inl hd))
    have hd' : (30 < d) = True := eq_true hd
    clear hd
    go_enter Try.func27, Try.ntmps27
    go_wp2_with fail
    go_ret
    exact ⟨by rw [HR.out]; rfl, HX.out.1⟩
  · have hd' : (30 < d) = False := eq_false hd
    by_cases hf : f = 0
    · have hf' : (f != 0) = false := by rw [hf]; rfl
      have HE := Aside0.mk (show ¬ (d > 30 ∨ (f ≠ 0 ∧ v ≠ 0)) from fun h => h.elim hd (fun h => h.1 hf))
      clear hf hd
      have hmax := Kd.C_max G.out.1
      have HRW := Aside0.mk (RW.mk HX.out.1 HX.out.2.1 HX.out.2.2)
      go_enter Try.func27, Try.ntmps27
      go_wp2_with fail
      clear HX
      go_loopw [5, 33] (fun v5 v33 wr => ∃ (i : Nat) (m : Int), v5 = .int .i64 m ∧ v33 = .int .i64 i ∧ i ≤ ps.length ∧ Aside0 (0 ≤ m ∧ m ≤ i) ∧ Aside0 (metP 0 ps = metP m (ps.drop i)) ∧ Aside0 (RW w d b #[.slice A1 ps.length c1, .slice A2 ks.length c2, .int .i64 v, .int .i64 f] wr)) (fun _ v33 _ => ps.length - (intOf v33).toNat)
      case atStart => exact ⟨0, 0, rfl, rfl, Nat.zero_le _, ⟨by omega⟩, ⟨rfl⟩, HRW⟩
      case round =>
        clear HRW
        obtain ⟨i, m, rfl, rfl, hi, HM, HP, HRW⟩ := hrel
        by_cases hlt : i < ps.length
        · obtain ⟨ad, rfl, hx0, hx1⟩ := at_T64 G.out.1 i (by omega) (by omega)
          replace hx0 := (HRW.out.below.cell (World.block_lt_of_cell? w _ hx0)).trans hx0
          replace hx1 := (HRW.out.below.cell (World.block_lt_of_cell? w _ hx1)).trans hx1
          simp only [Int.toNat_natCast] at hx0 hx1
          have hfi : rd_T64 ps (i : Int) = ps[i] := by simp [rd_T64, hlt]
          rw [hfi] at hx0 hx1
          clear hfi
          generalize hfj : ps[i] = pi at hx0 hx1
          obtain ⟨p0, p1⟩ := pi
          have HK2 := Aside0.mk (HRW.out.keep ((Below.refl _ _).alloc (Nat.le_refl _) (.cells #[.bool p0, .int .i64 p1] 44)))
          have hm1 := HM.out.1
          have hm2 := HM.out.2
          cases p0 with
          | false =>
            have HP2 := Aside0.mk (metP_step hlt HP.out hfj (.inl ⟨rfl, rfl⟩))
            clear hfj
            go_wp2_with fail
            go_roundw
            case rel => exact ⟨i + 1, m, rfl, by go_num, by omega, ⟨by omega⟩, HP2, HK2⟩
            case measure => simp [intOf]; omega
          | true =>
            by_cases hpm : p1 = m
            · have HP2 := Aside0.mk (metP_step hlt HP.out hfj (.inr ⟨rfl, hpm, rfl⟩))
              have hpm' : (p1 != m) = false := by rw [hpm]; simp
              clear hfj hpm
              go_wp2_with fail
              go_roundw
              case rel => exact ⟨i + 1, m + 1, by go_num, by go_num, by omega, ⟨by omega⟩, HP2, HK2⟩
              case measure => simp [intOf]; omega
            · have HR := Aside0.mk (right_none (ks := ks) (v := v) (f := f) (d := d) (metP_stop hlt HP.out hfj rfl hpm))
              have hpm' : (p1 != m) = true := by simp [hpm]
              clear hfj hpm
              go_wp2_with fail
              go_ret
              exact ⟨by rw [HR.out]; rfl, HK2.out.below⟩
        · obtain rfl : i = ps.length := by omega
          clear hlt hi
          have hp : metP 0 ps = some m := by have := HP.out; rw [List.drop_length] at this; exact this
          have HS := Aside0.mk (right_some (ks := ks) HE.out hp)
          clear HP hp c0 c1' c2' c3 b0
          have c0 := blk_cell HRW.out.node 0
          have c1' := blk_cell HRW.out.node 1
          have c2' := blk_cell HRW.out.node 2
          have c3 := blk_cell HRW.out.node 3
          have hmf : ∀ (fn : Fn) (first cap : Array Value) (w : World), (Instr.makeFunc fn first cap).run Try.prog w = .ok (.func fn first cap) w := fun _ _ _ _ => rfl
          by_cases hm : m = (ks.length : Int)
          · have HR := Aside0.mk (HS.out.trans (if_pos hm))
            have hm' : (m == (ks.length : Int)) = true := by rw [hm]; simp
            clear hm
            go_wp2_with fail
            clear c0 c1' c2' c3
            refine (mcontains_any (some ⟨w.heap.size, 0, none⟩) (fun i => !rightT (ks.getD i .nil) (d + 1)) qs A2 c2 ks.length wr (IsTs.length G.out.2.2) (Kd.C_below G.out.2.1 HRW.out.below) (fun j hj w' hw' => ?_)).mono ?_
            · have hjk : j < ks.length := by rw [← IsTs.length G.out.2.2]; exact hj
              obtain ⟨hj2, hg⟩ := IsTs.get G.out.2.2 j hjk
              have hk := HRW.out.keep hw'
              have e : ks.getD j .nil = ks[j] := by simp [hjk]
              rw [e]
              exact kid_any ks[j] (HK.out _ (List.getElem_mem hjk)) w.heap.size qs[j] d w' (IsT.keep _ hg hk.below) h0 (Int.not_lt.1 (fun h => HE.out (.inl h))) hk.box
            · rintro e w' ⟨rfl, hb⟩
              have HB2 := Aside0.mk (HRW.out.keep hb).below
              clear hb HRW
              go_wp2_with fail
              go_ret
              have ht := rightTs_any ks (d + 1)
              simp only [List.getD_eq_getElem?_getD] at ht
              refine ⟨?_, HB2.out⟩
              rw [HR.out]
              show Ending.returned (Value.bool (!(List.range ks.length).any fun i => !rightT (ks[i]?.getD T.nil) (d + 1))) = _
              rw [ht, Bool.not_not]
          · have HR := Aside0.mk (HS.out.trans (if_neg hm))
            have hm' : (m == (ks.length : Int)) = false := by simp [hm]
            clear hm
            go_wp2_with fail
            go_ret
            exact ⟨by rw [HR.out]; rfl, HRW.out.below⟩
    · have hf' : (f != 0) = true := by simp [hf]
      by_cases hv : v = 0
      · have hv' : (v != 0) = false := by rw [hv]; rfl
        have HE := Aside0.mk (show ¬ (d > 30 ∨ (f ≠ 0 ∧ v ≠ 0)) from fun h => h.elim hd (fun h => h.2 hv))
        clear hv hf hd
        have hmax := Kd.C_max G.out.1
        have HRW := Aside0.mk (RW.mk HX.out.1 HX.out.2.1 HX.out.2.2)
        go_enter Try.func27, Try.ntmps27
        go_wp2_with fail
        clear HX
        go_loopw [5, 33] (fun v5 v33 wr => ∃ (i : Nat) (m : Int), v5 = .int .i64 m ∧ v33 = .int .i64 i ∧ i ≤ ps.length ∧ Aside0 (0 ≤ m ∧ m ≤ i) ∧ Aside0 (metP 0 ps = metP m (ps.drop i)) ∧ Aside0 (RW w d b #[.slice A1 ps.length c1, .slice A2 ks.length c2, .int .i64 v, .int .i64 f] wr)) (fun _ v33 _ => ps.length - (intOf v33).toNat)
        case atStart => exact ⟨0, 0, rfl, rfl, Nat.zero_le _, ⟨by omega⟩, ⟨rfl⟩, HRW⟩
        case round =>
          clear HRW
          obtain ⟨i, m, rfl, rfl, hi, HM, HP, HRW⟩ := hrel
          by_cases hlt : i < ps.length
          · obtain ⟨ad, rfl, hx0, hx1⟩ := at_T64 G.out.1 i (by omega) (by omega)
            replace hx0 := (HRW.out.below.cell (World.block_lt_of_cell? w _ hx0)).trans hx0
            replace hx1 := (HRW.out.below.cell (World.block_lt_of_cell? w _ hx1)).trans hx1
            simp only [Int.toNat_natCast] at hx0 hx1
            have hfi : rd_T64 ps (i : Int) = ps[i] := by simp [rd_T64, hlt]
            rw [hfi] at hx0 hx1
            clear hfi
            generalize hfj : ps[i] = pi at hx0 hx1
            obtain ⟨p0, p1⟩ := pi
            have HK2 := Aside0.mk (HRW.out.keep ((Below.refl _ _).alloc (Nat.le_refl _) (.cells #[.bool p0, .int .i64 p1] 44)))
            have hm1 := HM.out.1
            have hm2 := HM.out.2
            cases p0 with
            | false =>
              have HP2 := Aside0.mk (metP_step hlt HP.out hfj (.inl ⟨rfl, rfl⟩))
              clear hfj
              go_wp2_with fail
              go_roundw
              case rel => exact ⟨i + 1, m, rfl, by go_num, by omega, ⟨by omega⟩, HP2, HK2⟩
              case measure => simp [intOf]; omega
            | true =>
              by_cases hpm : p1 = m
              · have HP2 := Aside0.mk (metP_step hlt HP.out hfj (.inr ⟨rfl, hpm, rfl⟩))
                have hpm' : (p1 != m) = false := by rw [hpm]; simp
                clear hfj hpm
                go_wp2_with fail
                go_roundw
                case rel => exact ⟨i + 1, m + 1, by go_num, by go_num, by omega, ⟨by omega⟩, HP2, HK2⟩
                case measure => simp [intOf]; omega
              · have HR := Aside0.mk (right_none (ks := ks) (v := v) (f := f) (d := d) (metP_stop hlt HP.out hfj rfl hpm))
                have hpm' : (p1 != m) = true := by simp [hpm]
                clear hfj hpm
                go_wp2_with fail
                go_ret
                exact ⟨by rw [HR.out]; rfl, HK2.out.below⟩
          · obtain rfl : i = ps.length := by omega
            clear hlt hi
            have hp : metP 0 ps = some m := by have := HP.out; rw [List.drop_length] at this; exact this
            have HS := Aside0.mk (right_some (ks := ks) HE.out hp)
            clear HP hp c0 c1' c2' c3 b0
            have c0 := blk_cell HRW.out.node 0
            have c1' := blk_cell HRW.out.node 1
            have c2' := blk_cell HRW.out.node 2
            have c3 := blk_cell HRW.out.node 3
            have hmf : ∀ (fn : Fn) (first cap : Array Value) (w : World), (Instr.makeFunc fn first cap).run Try.prog w = .ok (.func fn first cap) w := fun _ _ _ _ => rfl
            by_cases hm : m = (ks.length : Int)
            · have HR := Aside0.mk (HS.out.trans (if_pos hm))
              have hm' : (m == (ks.length : Int)) = true := by rw [hm]; simp
              clear hm
              go_wp2_with fail
              clear c0 c1' c2' c3
              refine (mcontains_any (some ⟨w.heap.size, 0, none⟩) (fun i => !rightT (ks.getD i .nil) (d + 1)) qs A2 c2 ks.length wr (IsTs.length G.out.2.2) (Kd.C_below G.out.2.1 HRW.out.below) (fun j hj w' hw' => ?_)).mono ?_
              · have hjk : j < ks.length := by rw [← IsTs.length G.out.2.2]; exact hj
                obtain ⟨hj2, hg⟩ := IsTs.get G.out.2.2 j hjk
                have hk := HRW.out.keep hw'
                have e : ks.getD j .nil = ks[j] := by simp [hjk]
                rw [e]
                exact kid_any ks[j] (HK.out _ (List.getElem_mem hjk)) w.heap.size qs[j] d w' (IsT.keep _ hg hk.below) h0 (Int.not_lt.1 (fun h => HE.out (.inl h))) hk.box
              · rintro e w' ⟨rfl, hb⟩
                have HB2 := Aside0.mk (HRW.out.keep hb).below
                clear hb HRW
                go_wp2_with fail
                go_ret
                have ht := rightTs_any ks (d + 1)
                simp only [List.getD_eq_getElem?_getD] at ht
                refine ⟨?_, HB2.out⟩
                rw [HR.out]
                show Ending.returned (Value.bool (!(List.range ks.length).any fun i => !rightT (ks[i]?.getD T.nil) (d + 1))) = _
                rw [ht, Bool.not_not]
            · have HR := Aside0.mk (HS.out.trans (if_neg hm))
              have hm' : (m == (ks.length : Int)) = false := by simp [hm]
              clear hm
              go_wp2_with fail
              go_ret
              exact ⟨by rw [HR.out]; rfl, HRW.out.below⟩
      · have hv' : (v != 0) = true := by simp [hv]
        have HR := Aside0.mk (right_early (ps := ps) (ks := ks) (d := d) (.inr ⟨hf, hv⟩))
        clear hv hf hd
        go_enter Try.func27, Try.ntmps27
        go_wp2_with fail
        go_ret
        exact ⟨by rw [HR.out]; rfl, HX.out.1⟩
mutual
theorem right_any : ∀ t : T, RightOk t
  | .nil => right_nil
  | .node ps ks v f => right_node ps ks v f (rights_any ks)
theorem rights_any : ∀ l : List T, ∀ k ∈ l, RightOk k
  | [], k, h => by cases h
  | x :: r, k, h => by
    rcases List.mem_cons.1 h with h | h
    · exact h ▸ right_any x
    · exact rights_any r k h
end
set_option maxRecDepth 100000 in
theorem Right_any (t : T) (a : Option Addr) (w : World) (h : IsT t w a) : Calls Try.prog 17 #[.pointer a] w fun e w' => e = .returned (.bool (rightT t 0)) ∧ Below w.heap.size w w' := by
  have HX := Aside0.mk (right_any t a 0 w h (by omega) (by omega))
  clear h
  go_enter Try.func17, Try.ntmps17
  go_wp2_with fail
  refine HX.out.mono ?_
  rintro e w' ⟨rfl, hb⟩
  have HB := Aside0.mk hb
  clear hb
  go_wp2_with fail
  go_ret
  exact ⟨rfl, HB.out⟩
#print axioms Right_any
end Go.Proofs.Ytiplpkjjplicjaa.H
