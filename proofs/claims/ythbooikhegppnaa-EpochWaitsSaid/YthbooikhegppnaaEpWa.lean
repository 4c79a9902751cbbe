/- EpochWaits, walked. -/
import Derived.Test.YthbooikhegppnaaEpWs
set_option linter.unusedVariables false
set_option linter.unusedSimpArgs false
namespace Go.Proofs.Ythbooikhegppnaa.H
open Go.RowKit Go.Hay Go.Proofs.YthbooikhegppnaaW.PrintWords Go.Proofs.YthbooikhegppnaaW.PrintLast Go.Proofs.YthbooikhegppnaaW.PrintMore
def WaI (w : World) (B8 n i : Nat) (v : Value) (wr : World) : Prop := ∃ now ws last when_, WA n i now ws last when_ ∧ WS w B8 27 w.heap.size now ws last when_ v wr ∧ ∃ A c, v = .slice A when_.length c
set_option maxRecDepth 100000 in
set_option maxHeartbeats 8000000 in
theorem waits_any (a0 : Int) (h0 : 0 ≤ a0) (h0' : a0 ≤ 255) (A : Option Addr) (c : Nat) (l : List S30) (w : World) (hC : k30.C w A l.length l) : Calls Try.prog 3 #[.int .u8 a0, .slice A l.length c] w fun e w' => e = .returned (.bool true) ∧ Below w.heap.size w w' := by
  obtain ⟨n, hn, hn2, hn6⟩ : ∃ n : Nat, a0 % 6 + 1 = (n : Int) ∧ 1 ≤ n ∧ n ≤ 6 := ⟨(a0 % 6 + 1).toNat, by omega, by omega, by omega⟩
  have HC := Aside0.mk hC
  clear hC
  by_cases hl : 200 < l.length
  · have hl' : (200 < (l.length : Int)) = True := eq_true (by omega)
    clear hl
    go_enter Try.func3, Try.ntmps3
    go_wp2_with fail
    go_ret
    exact ⟨rfl, Below.refl _ _⟩
  · have hl' : (200 < (l.length : Int)) = False := eq_false (by omega)
    have hl2 : l.length ≤ 200 := by omega
    clear hl
    have HN := Aside0.mk (St.new (Below.refl w.heap.size w) n (by omega) (by omega))
    go_enter Try.func3, Try.ntmps3
    go_wp2_with fail
    refine HN.out.mono ?_
    rintro e w1 ⟨rfl, hb, hs⟩
    have hW := WS.start hs [0, 0, 0, 0, 0, 0] 27
    have HW := Aside0.mk (show WaI w w1.heap.size n 0 (.slice none 0 0) (w1.alloc (.cells #[.int .i64 0, .int .i64 0, .int .i64 0, .int .i64 0, .int .i64 0, .int .i64 0] 27)) from ⟨0, _, _, [], WA.start n (by omega), hW, none, 0, rfl⟩)
    clear HN hb hs hW hn
    go_wp2_with fail
    go_loopw [9, 10] (fun v9 v10 wr => ∃ (i : Nat), v10 = .int .i64 i ∧ i ≤ l.length ∧ Aside0 (WaI w w1.heap.size n i v9 wr)) (fun _ v10 _ => l.length - (intOf v10).toNat)
    case atStart => exact ⟨0, rfl, Nat.zero_le _, HW⟩
    case round =>
      clear HW
      obtain ⟨i, rfl, hi, HW⟩ := hrel
      by_cases hlt : i < l.length
      · obtain ⟨now, ws, last, when_, hwa, hws, A9, c9, rfl⟩ := HW.out
        obtain ⟨t, k, ht, ht1, ht2, hk, hkn⟩ := rem_num (rd_T30 l i).f1 hn2
        obtain ⟨ad, rfl, p0, p1, p2⟩ := at_T30 HC.out (i : Int) (by omega) (by omega)
        have p0' := (hws.st.below.cell (World.block_lt_of_cell? w _ p0)).trans p0
        have p1' := (hws.st.below.cell (World.block_lt_of_cell? w _ p1)).trans p1
        rw [Int.toNat_natCast] at p0' p1'
        have hn0 : ((n : Int) = 0) = False := eq_false (by omega)
        have ht3 : 0 ≤ t + n := by omega
        cases hret : (rd_T30 l i).f0 with
        | true =>
          rw [hret] at p0'
          have hr := hws.retire k when_.length (by rw [hwa.len]; omega) (by rw [hwa.len]; exact hkn) (by have := hwa.small k hkn; omega)
          have HR := Aside0.mk (And.intro hwa hr)
          have HH := Aside0.mk (And.intro hwa.wl (blk_lt hws.box))
          clear hwa hr hws HW p0 p1 p2 hret
          go_wp2_with fail
          refine HR.out.2.mono ?_
          rintro e w2 ⟨rfl, hws⟩
          have HV := Aside0.mk hws
          clear hws
          go_wp2_with (first | ((with_reducible refine gate_builtin (b := .append) (xs := #[.tmp 58, .tmp 61]) rfl ?_); refine Kd.R_append (Kd.int .i64) (w0 := w2) (w1.heap.size + 1) rfl (.tmp 58) (.tmp 61) 28 3 (.int .i64 0) 8 rfl Try.underlying28 info3 rfl (by decide) (by omega) (.slice A9 when_.length c9) when_ ((i : Int) + 1) [.int .i64 ((i : Int) + 1)] (fun _ => True) (fun _ => False) rfl (by first | (go_simp; done) | (go_simp; rfl)) ?aP (fun _ hk => hk.elim) ?aF ?aO ?aB ?aS ?aL ?_; (case aP => rfl); (case aF => exact (fun _ _ => trivial)); (case aO => exact HV.out.row); (case aB => exact Below.refl _ _); (case aS => exact blk_lt HV.out.box); (case aL => have := HH.out.1; omega); intro v9 w9 hR9 hb9 hg9 hat9; obtain ⟨A8, c8, rfl⟩ := Kd.R_slice hR9; have HP0 := HV.out.push hR9 hb9 hg9 hat9; rw [show Value.slice A8 (when_ ++ [(i : Int) + 1]).length c8 = .slice A8 (when_.length + 1) c8 from by rw [List.length_append]; rfl] at HP0; have HP := Aside0.mk HP0; clear hR9 hb9 hg9 hat9 HP0))
          have HW := Aside0.mk (show WaI w w1.heap.size n (i + 1) (.slice A8 (when_.length + 1) c8) w9 from ⟨_, _, _, _, HR.out.1.ret hkn, HP.out, _, _, by rw [List.length_append]; rfl⟩)
          go_wp2_with fail
          go_roundw
          case rel => exact ⟨i + 1, by go_num, by omega, HW⟩
          case measure => simp [intOf]; omega
        | false => 
          rw [hret] at p0'
          obtain ⟨b0, z0⟩ := box_at hws.box (k := k) (by rw [hwa.ll]; omega)
          have ha := (hws.set k ((i : Int) + 1)).announce k (by rw [hwa.len]; omega) (by rw [hwa.len]; exact hkn) (by have := hwa.small k hkn; omega) (fun x hx => by have := hwa.it k hkn x hx; exact ⟨this.2.2.1, this.2.2.2.1⟩) hwa.now0 (by have := hwa.nowi; omega)
          have hwn := hwa.ann hkn hn6
          have hsm := hwa.small k hkn
          have HR := Aside0.mk (And.intro hwn (And.intro ha (And.intro hsm hwa.len)))
          clear hsm hwa hwn ha hws HW p0 p1 p2 hret
          go_wp2_with fail
          refine HR.out.2.1.mono ?_
          rintro e w2 ⟨A2, c2, rfl, hC2, hws⟩
          have hgl : (outP now ws k).length ≤ 1000 := by
            have h1 := gone_len (nowP now ws k) (rowP ws k)
            have h2 := HR.out.2.2.1
            have h3 : (outP now ws k).length = (goneT (nowP now ws k) (rowP ws k)).length := rfl
            omega
          obtain ⟨_, _, hC9⟩ := Kd.R_reads' hws.row
          have HV := Aside0.mk (And.intro hC2 (And.intro hC9 hws))
          generalize outP now ws k = gs at HR HV hgl
          have HD := Aside0.mk (Drawn0.refl w2)
          clear hC2 hws hC9
          go_wp2_with fail
          go_loopw [14] (fun v14 wj => ∃ (j : Nat), v14 = .int .i64 j ∧ j ≤ gs.length ∧ Aside0 (Drawn0 w2 wj)) (fun v14 _ => gs.length - (intOf v14).toNat)
          case atStart => exact ⟨0, rfl, Nat.zero_le _, HD⟩
          case round =>
            clear HD
            obtain ⟨j, rfl, hj, HD⟩ := hrel
            by_cases hjl : j < gs.length
            · obtain ⟨m, rfl⟩ := HD.out
              have hgj := HR.out.1.2 gs[j] (List.getElem_mem hjl)
              obtain ⟨ad2, rfl, hx2⟩ := Kd.at_int HV.out.1 (j : Int) (by omega) (by omega)
              have hrd : rd gs (j : Int) = gs[j] := by simp [rd, hjl]
              obtain ⟨ad9, rfl, hx9⟩ := Kd.at_int HV.out.2.1 gs[j] hgj.1 hgj.2.1
              rw [Int.toNat_natCast, hrd] at hx2
              generalize gs[j] = g at hgj hx2 hx9
              have hg0 : (g < 0) = False := eq_false (by omega)
              have hg1 : ((when_.length : Int) ≤ g) = False := eq_false (by omega)
              have HG := Aside0.mk (And.intro hgj.2.2 hx9)
              have HD2 := Aside0.mk (Drawn0.refl w2)
              have hg2 := hgj.1
              have hg3 := hgj.2.1
              clear hrd hgj hx9
              go_wp2_with fail
              go_loopw [15] (fun v15 wj => ∃ (v : Nat), v15 = .int .i64 v ∧ v ≤ n ∧ Aside0 (Drawn0 w2 wj)) (fun v15 _ => n - (intOf v15).toNat)
              case atStart => exact ⟨0, rfl, Nat.zero_le _, ⟨HD.out⟩⟩
              case round =>
                clear HD HD2
                obtain ⟨v, rfl, hv, HD⟩ := hrel
                by_cases hvl : v < n
                · have hbx := HV.out.2.2.box
                  obtain ⟨b0, _⟩ := box_at (k := v) hbx (by rw [List.length_set]; have := HR.out.1.1.ll; rw [List.length_set] at this; omega)
                  have hlt2 := HG.out.1 v hvl
                  generalize hlv : (last.set k ((i : Int) + 1)).getD v 0 = lv at b0
                  have hle : (lv ≤ rd when_ g) = False := eq_false (by rw [← hlv]; have : (last.set k ((i : Int) + 1)).getD v 0 = (last.set k (((i + 1 : Nat)) : Int)).getD v 0 := rfl; omega)
                  have x9 := HG.out.2
                  have HDv := Aside0.mk (And.intro HD.out hlv)
                  obtain ⟨m2, rfl⟩ := HD.out
                  clear hbx hlt2 hlv
                  go_wp2_with fail
                  go_quiet (fail)
                  go_wp2_with fail
                  go_roundw
                  case rel => exact ⟨v + 1, by go_num, by omega, ⟨⟨_, rfl⟩⟩⟩
                  case measure => simp [intOf]; omega
                · obtain rfl : v = n := by omega
                  go_wp2_with fail
                  go_roundw
                  case rel => exact ⟨j + 1, by go_num, by omega, HD⟩
                  case measure => simp [intOf]; omega
            · obtain rfl : j = gs.length := by omega
              have HW := Aside0.mk (show WaI w w1.heap.size n (i + 1) (.slice A9 when_.length c9) wr from ⟨_, _, _, _, HR.out.1.1, drawn_keep HV.out.2.2 HD.out, _, _, rfl⟩)
              clear HD hj hjl
              go_wp2_with fail
              go_roundw
              case rel => exact ⟨i + 1, by go_num, by omega, HW⟩
              case measure => simp [intOf]; omega
      · obtain rfl : i = l.length := by omega
        obtain ⟨_, _, _, _, _, hws, _⟩ := HW.out
        have HB := Aside0.mk hws.st.below
        clear hlt hi HW hws
        go_wp2_with fail
        refine (awake_any _).mono ?_
        rintro e w2 ⟨rfl, hb⟩
        have HB2 := Aside0.mk (HB.out.trans (hb.mono HB.out.size))
        clear hb HB
        go_wp2_with fail
        go_ret
        exact ⟨rfl, HB2.out⟩
def haymowlaw11_EpochWaits.f (a0 : Int) (l1 : List S30) : Option Bool := if 0 ≤ a0 ∧ a0 ≤ 255 then some true else none
theorem haymowlaw11_EpochWaits.calls (a0 : Int) (A1 : Option Addr) (c1 : Nat) (l1 : List S30) (r : Bool) (w : World) (hr1 : k30.C w A1 l1.length l1) (hc1 : l1.length ≤ c1) (h : haymowlaw11_EpochWaits.f a0 l1 = some r) : Calls Try.prog 3 #[.int .u8 a0, .slice A1 l1.length c1] w fun e w' => e = .returned (.bool r) ∧ Below w.heap.size w w' := by
  unfold haymowlaw11_EpochWaits.f at h
  split at h
  · rename_i hr
    obtain rfl : true = r := Option.some.inj h
    exact waits_any a0 hr.1 hr.2 A1 c1 l1 w hr1
  · cases h
#print axioms haymowlaw11_EpochWaits.calls
end Go.Proofs.Ythbooikhegppnaa.H
