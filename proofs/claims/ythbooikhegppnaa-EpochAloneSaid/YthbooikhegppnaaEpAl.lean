/- EpochAlone, walked. -/
import Derived.Test.YthbooikhegppnaaEpS
set_option linter.unusedVariables false
set_option linter.unusedSimpArgs false
namespace Go.Proofs.Ythbooikhegppnaa.H
open Go.RowKit Go.Hay Go.Proofs.YthbooikhegppnaaW.PrintWords Go.Proofs.YthbooikhegppnaaW.PrintLast Go.Proofs.YthbooikhegppnaaW.PrintMore
/-- the first i workers have retired one thing each. -/
def fillP (n i : Nat) : List (Int × List Rt) := (List.range n).map fun j => (-1, if j < i then [⟨j, 0⟩] else [])
theorem fillP_len (n i : Nat) : (fillP n i).length = n := by simp [fillP]
theorem fillP_zero (n : Nat) : fillP n 0 = List.replicate n (-1, []) := by
  unfold fillP
  apply List.ext_getElem (by simp)
  intro j h1 h2
  simp
theorem fillP_row {n i j : Nat} (h : j < n) : rowP (fillP n i) j = if j < i then [⟨j, 0⟩] else [] := by
  rw [rowP_get (by rw [fillP_len]; exact h)]; simp [fillP]
theorem fillP_ret {n i : Nat} (h : i < n) : retP 0 (fillP n i) i i = fillP n (i + 1) := by
  have e : (fillP n i).getD i (0, []) = (-1, []) := by rw [List.getD_eq_getElem?_getD, List.getElem?_eq_getElem (by rw [fillP_len]; exact h)]; simp [fillP]
  unfold retP
  rw [e]
  apply List.ext_getElem (by rw [List.length_set, fillP_len, fillP_len])
  intro j h1 h2
  rw [List.getElem_set]
  by_cases he : i = j
  · subst he; simp [fillP]
  · rw [if_neg he]; simp only [fillP, List.getElem_map, List.getElem_range]; congr 1; simp only [show (j < i) = (j < i + 1) from propext (by omega)]
structure AL (n who : Nat) (ws : List (Int × List Rt)) : Prop where
  len : ws.length = n
  row : ∀ j, j < n → rowP ws j = [⟨j, 0⟩]
  still : ∀ h : who < ws.length, ws[who].1 = -1
theorem AL.start {n who : Nat} : AL n who (fillP n n) := ⟨fillP_len n n, fun j h => by rw [fillP_row h, if_pos h], fun h => by simp [fillP]⟩
theorem AL.ann {n who k : Nat} {ws : List (Int × List Rt)} (h : AL n who ws) (hk : k < n) (hne : k ≠ who) (hw : who < n) : nowP 0 ws k = 0 ∧ outP 0 ws k = [] ∧ AL n who (annP 0 ws k) := by
  have hl := h.len
  have hk' : k < ws.length := by omega
  have hw' : who < ws.length := by omega
  have e1 : nowP 0 ws k = 0 := by
    unfold nowP
    refine if_pos (List.any_eq_true.2 ⟨ws[who], ?_, ?_⟩)
    · rw [List.mem_iff_getElem]
      exact ⟨who, by rw [List.length_set]; exact hw', by rw [List.getElem_set, if_neg hne]⟩
    · rw [h.still hw']; decide
  have e2 : (ws.getD k (0, [])).2 = [⟨k, 0⟩] := h.row k hk
  have e3 : outP 0 ws k = [] := by unfold outP; rw [e1, e2]; rfl
  have e4 : annP 0 ws k = ws.set k (0, [⟨k, 0⟩]) := by unfold annP; rw [e1, e2]; rfl
  refine ⟨e1, e3, ?_⟩
  rw [e4]
  refine ⟨by rw [List.length_set]; exact hl, fun j hj => ?_, fun hw2 => by rw [List.getElem_set, if_neg hne]; exact h.still hw'⟩
  rw [rowP_get (by rw [List.length_set]; omega), List.getElem_set]
  by_cases he : k = j
  · subst he; rw [if_pos rfl]
  · rw [if_neg he, ← rowP_get (by omega)]; exact h.row j hj
set_option maxRecDepth 100000 in
set_option maxHeartbeats 8000000 in
theorem alone_any (a0 a1 a2 : Int) (h0 : 0 ≤ a0) (h0' : a0 ≤ 255) (h1 : 0 ≤ a1) (h1' : a1 ≤ 255) (h2 : 0 ≤ a2) (h2' : a2 ≤ 255) (w : World) : Calls Try.prog 8 #[.int .u8 a0, .int .u8 a1, .int .u8 a2] w fun e w' => e = .returned (.bool true) ∧ Below w.heap.size w w' := by
  obtain ⟨n, hn, hn2, hn6⟩ : ∃ n : Nat, a0 % 5 + 2 = (n : Int) ∧ 2 ≤ n ∧ n ≤ 6 := ⟨(a0 % 5 + 2).toNat, by omega, by omega, by omega⟩
  obtain ⟨who, hwho, hwn⟩ : ∃ who : Nat, a1 % (n : Int) = (who : Int) ∧ who < n := ⟨(a1 % (n : Int)).toNat, by have := Int.emod_nonneg a1 (b := (n : Int)) (by omega); omega, by have := Int.emod_nonneg a1 (b := (n : Int)) (by omega); have := Int.emod_lt_of_pos a1 (b := (n : Int)) (by omega); omega⟩
  obtain ⟨m, hm, hm2⟩ : ∃ m : Nat, a2 % 200 = (m : Int) ∧ m < 200 := ⟨(a2 % 200).toNat, by omega, by omega⟩
  have HC := Aside0.mk (St.new (Below.refl w.heap.size w) n (by omega) (by omega))
  go_enter Try.func8, Try.ntmps8
  go_wp2_with fail
  refine HC.out.mono ?_
  rintro e w1 ⟨rfl, hb, hs⟩
  simp only [hwho]
  have hs := hs.less (P' := noP) (fun _ h => h.elim)
  rw [← fillP_zero] at hs
  have HS := Aside0.mk hs
  clear hs HC hb
  go_wp2_with fail
  go_loopw [11] (fun v11 wr => ∃ (i : Nat), v11 = .int .i64 i ∧ i ≤ n ∧ Aside0 (St w noP w.heap.size 0 (fillP n i) wr)) (fun v11 _ => n - (intOf v11).toNat)
  case atStart => exact ⟨0, rfl, Nat.zero_le _, HS⟩
  case round =>
    clear HS
    obtain ⟨i, rfl, hi, HS⟩ := hrel
    by_cases hlt : i < n
    · have hr := HS.out.retire i i (by rw [fillP_len]; omega) (by rw [fillP_len]; exact hlt) (by rw [fillP_row hlt, if_neg (Nat.lt_irrefl _)]; decide)
      rw [fillP_ret hlt] at hr
      have HR := Aside0.mk hr
      clear hr HS
      go_wp2_with fail
      refine HR.out.mono ?_
      rintro e w2 ⟨rfl, hs, _⟩
      have HS := Aside0.mk hs
      clear hs HR
      go_wp2_with fail
      go_roundw
      case rel => exact ⟨i + 1, by go_num, by omega, HS⟩
      case measure => simp [intOf]; omega
    · obtain rfl : i = n := by omega
      have HA := Aside0.mk (show ∃ ws, AL i who ws ∧ St w noP w.heap.size 0 ws wr from ⟨_, AL.start, HS.out⟩)
      clear hlt hi HS
      go_wp2_with fail
      go_loopw [12] (fun v12 wr => ∃ (j : Nat), v12 = .int .i64 j ∧ j ≤ m ∧ Aside0 (∃ ws, AL i who ws ∧ St w noP w.heap.size 0 ws wr)) (fun v12 _ => m - (intOf v12).toNat)
      case atStart => exact ⟨0, rfl, Nat.zero_le _, HA⟩
      case round =>
        clear HA
        obtain ⟨j, rfl, hj, HA⟩ := hrel
        by_cases hlt : j < m
        · go_wp2_with fail
          simp only [hm]
          go_loopw [13] (fun v13 wr => ∃ (k : Nat), v13 = .int .i64 k ∧ k ≤ i ∧ Aside0 (∃ ws, AL i who ws ∧ St w noP w.heap.size 0 ws wr)) (fun v13 _ => i - (intOf v13).toNat)
          case atStart => exact ⟨0, rfl, Nat.zero_le _, HA⟩
          case round =>
            clear HA
            obtain ⟨k, rfl, hk, HA⟩ := hrel
            by_cases hlk : k < i
            · by_cases hw : k = who
              · have hw' : ((k : Int) = (who : Int)) = True := eq_true (by rw [hw])
                go_wp2_with fail
                go_roundw
                case rel => exact ⟨k + 1, by go_num, by omega, HA⟩
                case measure => simp [intOf]; omega
              · have hw' : ((k : Int) = (who : Int)) = False := eq_false (by omega)
                obtain ⟨ws, hal, hs⟩ := HA.out
                have hrow := hal.row k hlk
                have hnn := hal.ann hlk hw hwn
                have ha := hs.announce k (by rw [hal.len]; omega) (by rw [hal.len]; exact hlk) (by rw [hrow]; show 1 ≤ 1000000; decide) (by rw [hrow]; intro x hx; rw [List.mem_singleton.1 hx]; exact ⟨Int.le_refl _, Int.le_refl _⟩) (by decide) (by decide)
                rw [hnn.1, hnn.2.1] at ha
                have HN := Aside0.mk (And.intro hnn.2.2 ha)
                clear ha hnn hrow hs hal HA
                go_wp2_with fail
                refine HN.out.2.mono ?_
                rintro e w2 ⟨⟨A, c, rfl, hR⟩, hs, _⟩
                have HA := Aside0.mk (show ∃ ws, AL i who ws ∧ St w noP w.heap.size 0 ws w2 from ⟨_, HN.out.1, hs⟩)
                clear hR hs HN
                go_wp2_with fail
                go_roundw
                case rel => exact ⟨k + 1, by go_num, by omega, HA⟩
                case measure => simp [intOf]; omega
            · obtain rfl : k = i := by omega
              go_wp2_with fail
              go_roundw
              case rel => exact ⟨j + 1, by go_num, by omega, HA⟩
              case measure => simp [intOf]; omega
        · obtain rfl : j = m := by omega
          clear hlt hj
          obtain ⟨ws, hal, hs⟩ := HA.out
          have hl1 := hs.limbo who (by rw [hal.len]; omega) (by rw [hal.len]; exact hwn)
          rw [hal.row who hwn] at hl1
          have HT := Aside0.mk (And.intro hs.tells (And.intro hl1 (And.intro (hs.limbo_out i (by rw [hal.len]; omega) (by rw [hal.len]; omega)) hs.below)))
          clear hl1 hs hal HA
          go_wp2_with fail
          refine HT.out.1.mono ?_
          rintro e w2 ⟨rfl, rfl⟩
          go_wp2_with fail
          refine HT.out.2.1.mono ?_
          rintro e w2 ⟨rfl, rfl⟩
          go_wp2_with fail
          refine HT.out.2.2.1.mono ?_
          rintro e w2 ⟨rfl, rfl⟩
          go_wp2_with fail
          refine (awake_any _).mono ?_
          rintro e w2 ⟨rfl, hb⟩
          have HB := Aside0.mk (HT.out.2.2.2.trans (hb.mono HT.out.2.2.2.size))
          clear hb HT
          go_wp2_with fail
          go_ret
          exact ⟨rfl, HB.out⟩
def haymowlaw11_EpochAlone.f (a0 a1 a2 : Int) : Option Bool := if (0 ≤ a0 ∧ a0 ≤ 255) ∧ (0 ≤ a1 ∧ a1 ≤ 255) ∧ (0 ≤ a2 ∧ a2 ≤ 255) then some true else none
theorem haymowlaw11_EpochAlone.calls (a0 a1 a2 : Int) (r : Bool) (w : World) (h : haymowlaw11_EpochAlone.f a0 a1 a2 = some r) : Calls Try.prog 8 #[.int .u8 a0, .int .u8 a1, .int .u8 a2] w fun e w' => e = .returned (.bool r) ∧ Below w.heap.size w w' := by
  unfold haymowlaw11_EpochAlone.f at h
  by_cases hr : (0 ≤ a0 ∧ a0 ≤ 255) ∧ (0 ≤ a1 ∧ a1 ≤ 255) ∧ (0 ≤ a2 ∧ a2 ≤ 255)
  · rw [if_pos hr] at h
    obtain rfl : true = r := Option.some.inj h
    exact alone_any a0 a1 a2 hr.1.1 hr.1.2 hr.2.1.1 hr.2.1.2 hr.2.2.1 hr.2.2.2 w
  · rw [if_neg hr] at h; cases h
#print axioms haymowlaw11_EpochAlone.calls
end Go.Proofs.Ythbooikhegppnaa.H
