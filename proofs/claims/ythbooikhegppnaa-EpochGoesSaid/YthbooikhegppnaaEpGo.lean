/- EpochGoes, walked. -/
import Derived.Test.YthbooikhegppnaaEpWs
set_option linter.unusedVariables false
set_option linter.unusedSimpArgs false
namespace Go.Proofs.Ythbooikhegppnaa.H
open Go.RowKit Go.Hay Go.Proofs.YthbooikhegppnaaW.PrintWords Go.Proofs.YthbooikhegppnaaW.PrintLast Go.Proofs.YthbooikhegppnaaW.PrintMore
theorem hz51 : ∀ w, (zeroValue 51).run Try.prog w = .ok (.agg ((List.replicate 200 0).map (Value.int .i64)).toArray) w := fun _ => by kernel_rfl
theorem GA.start (n : Nat) : GA n 0 0 (List.replicate n (-1, [])) (List.replicate 200 0) 0 := by
  have e : ∀ k, k < n → (List.replicate n ((-1 : Int), ([] : List Rt))).getD k (0, []) = (-1, []) := fun k hk => by rw [List.getD_eq_getElem?_getD]; simp [hk]
  have z : ∀ t : Nat, (List.replicate 200 (0 : Int)).getD t 0 = 0 := fun t => by
    rw [List.getD_eq_getElem?_getD, List.getElem?_replicate]; split <;> rfl
  refine ⟨List.length_replicate .., List.length_replicate .., Int.le_refl _, Int.le_refl _, Nat.le_refl _, by decide, fun v hv => by unfold annOf; rw [e v hv]; exact ⟨Int.le_refl _, by decide⟩, fun k hk => by unfold rowP; rw [e k hk]; exact Nat.le_refl _, fun k hk x hx => ?_, fun t ht => by omega, fun t _ => z t, fun t => by rw [z t]; exact Int.le_refl _⟩
  unfold rowP at hx; rw [e k hk] at hx; cases hx
theorem round_end {q r n : Nat} (h : q * n + r = 3 * n) (hr : r < n) : q = 3 ∧ r = 0 := by
  have h1 : q = 3 := by
    by_cases a : q ≤ 2
    · have := Nat.mul_le_mul_right n a; omega
    · by_cases b : 4 ≤ q
      · have := Nat.mul_le_mul_right n b; omega
      · omega
  subst h1
  exact ⟨rfl, by omega⟩
theorem round_mod {i len q r n : Nat} (h : i = len + (q * n + r)) (hr : r < n) : ((i : Int) - (len : Int)) % (n : Int) = (r : Int) := by
  have e : (i : Int) - (len : Int) = ((q * n + r : Nat) : Int) := by omega
  rw [e, ← Int.natCast_emod, Nat.mul_comm, Nat.mul_add_mod, Nat.mod_eq_of_lt hr]
def GoB (n len i : Nat) (now : Int) (ws : List (Int × List Rt)) : Prop := len ≤ i → ∃ N0 q r, i = len + (q * n + r) ∧ r < n ∧ GB n N0 q r now ws
def GoI (w : World) (B8 n len i many : Nat) (wr : World) : Prop := ∃ now ws times, GA n i now ws times many ∧ WS w B8 51 w.heap.size now ws times [] (.slice none 0 0) wr ∧ GoB n len i now ws
theorem GoB.first {n len i many k : Nat} {now : Int} {ws : List (Int × List Rt)} {times : List Int} (h : GA n (i + 1) now ws times many) (hi : i < len) (hn : 1 ≤ n) : GoB n len (i + 1) now ws :=
  fun h2 => ⟨now, 0, 0, by omega, by omega, h.begin⟩
theorem GoB.next {n len i q r many : Nat} {now N0 : Int} {ws : List (Int × List Rt)} {times : List Int} (h : GA n i now ws times many) (g : GB n N0 q r now ws) (hi : i = len + (q * n + r)) (hr : r < n) : GoB n len (i + 1) (nowP now ws r) (annP now ws r) := by
  intro _
  have hs := g.step h.len (fun v hv => (h.bd v hv).2) hr
  by_cases e : r + 1 = n
  · exact ⟨N0, q + 1, 0, by rw [hi, Nat.add_mul]; omega, by omega, hs.2 e⟩
  · exact ⟨N0, q, r + 1, by omega, by omega, hs.1 (by omega)⟩
set_option maxRecDepth 100000 in
set_option maxHeartbeats 8000000 in
theorem goes_any (a0 : Int) (h0 : 0 ≤ a0) (h0' : a0 ≤ 255) (A : Option Addr) (c : Nat) (l : List S30) (w : World) (hC : k30.C w A l.length l) : Calls Try.prog 7 #[.int .u8 a0, .slice A l.length c] w fun e w' => e = .returned (.bool true) ∧ Below w.heap.size w w' := by
  obtain ⟨n, hn, hn2, hn6⟩ : ∃ n : Nat, a0 % 6 + 1 = (n : Int) ∧ 1 ≤ n ∧ n ≤ 6 := ⟨(a0 % 6 + 1).toNat, by omega, by omega, by omega⟩
  have HC := Aside0.mk hC
  clear hC
  by_cases hl : 200 < l.length
  · have hl' : (200 < (l.length : Int)) = True := eq_true (by omega)
    clear hl
    go_enter Try.func7, Try.ntmps7
    go_wp2_with fail
    go_ret
    exact ⟨rfl, Below.refl _ _⟩
  · have hl' : (200 < (l.length : Int)) = False := eq_false (by omega)
    have hl2 : l.length ≤ 200 := by omega
    clear hl
    have HN := Aside0.mk (St.new (Below.refl w.heap.size w) n (by omega) (by omega))
    have hz := hz51
    have HW0 := fun w1 hs => WS.start (n := n) (w := w) (w1 := w1) hs (List.replicate 200 0) 51
    generalize ((List.replicate 200 0).map (Value.int .i64)).toArray = zs at hz HW0
    have HWS := Aside0.mk HW0
    clear HW0
    go_enter Try.func7, Try.ntmps7
    go_wp2_with fail
    refine HN.out.mono ?_
    rintro e w1 ⟨rfl, hb, hs⟩
    have hW := HWS.out w1 hs
    have HW := Aside0.mk (show GoI w w1.heap.size n l.length 0 0 (w1.alloc (.cells zs 51)) from ⟨0, _, _, GA.start n, hW, fun h => ⟨0, 0, 0, by omega, by omega, (GA.start n).begin⟩⟩)
    clear HN hb hs hW hn HWS
    go_wp2_with fail
    clear hz
    go_loopw [9, 10] (fun v9 v10 wr => ∃ (i many : Nat), v10 = .int .i64 i ∧ v9 = .int .i64 many ∧ i ≤ l.length + 3 * n ∧ Aside0 (GoI w w1.heap.size n l.length i many wr)) (fun _ v10 _ => l.length + 3 * n - (intOf v10).toNat)
    case atStart => exact ⟨0, 0, rfl, rfl, Nat.zero_le _, HW⟩
    case round =>
      clear HW
      obtain ⟨i, many, rfl, rfl, hi, HW⟩ := hrel
      have hn0 : ((n : Int) = 0) = False := eq_false (by omega)
      by_cases hlt : i < l.length
      · obtain ⟨now, ws, times, hga, hws, hgB⟩ := HW.out
        obtain ⟨t, k, ht, ht1, ht2, hk, hkn⟩ := rem_num (rd_T30 l i).f1 hn2
        have ht3 : 0 ≤ t + n := by omega
        obtain ⟨ad, rfl, p0, p1, p2⟩ := at_T30 HC.out (i : Int) (by omega) (by omega)
        have p0' := (hws.st.below.cell (World.block_lt_of_cell? w _ p0)).trans p0
        have p1' := (hws.st.below.cell (World.block_lt_of_cell? w _ p1)).trans p1
        rw [Int.toNat_natCast] at p0' p1'
        clear hgB
        cases hret : (rd_T30 l i).f0 with
        | true =>
          rw [hret] at p0'
          have hr := hws.retire k many (by rw [hga.len]; omega) (by rw [hga.len]; exact hkn) (by have := hga.small k hkn; have := hga.m2; omega)
          have hml : many < 200 := by have := hga.mi; omega
          have hg2 := hga.ret hkn hml
          have HR := Aside0.mk (And.intro hg2 hr)
          clear hga hg2 hr hws HW p0 p1 p2 hret
          go_wp2_with fail
          refine HR.out.2.mono ?_
          rintro e w2 ⟨rfl, hws⟩
          have HW := Aside0.mk (show GoI w w1.heap.size n l.length (i + 1) (many + 1) w2 from ⟨_, _, _, HR.out.1, hws, GoB.first (k := k) HR.out.1 hlt hn2⟩)
          clear HR hws
          go_wp2_with fail
          go_roundw
          case rel => exact ⟨i + 1, many + 1, by go_num, by go_num, by omega, HW⟩
          case measure => simp [intOf]; omega
        | false =>
          rw [hret] at p0'
          have hgb : GoB n l.length (i + 1) (nowP now ws k) (annP now ws k) := GoB.first (k := k) (hga.ann hkn).1 hlt hn2
          clear p0 p1 p2 hret
          have ha := hws.announceR k (by rw [hga.len]; omega) (by rw [hga.len]; exact hkn) (by have := hga.small k hkn; have := hga.m2; omega) (hga.fine hkn) hga.now0 (by have := hga.nowi; omega)
          have hnx := hga.ann hkn
          have HR := Aside0.mk (And.intro hnx (And.intro ha (And.intro hga (And.intro hgb hga.m2))))
          clear hga hnx ha hws hgb HW
          go_wp2_with fail
          refine HR.out.2.1.mono ?_
          rintro e w2 ⟨A2, c2, rfl, hC2, hws⟩
          have HV := Aside0.mk hC2
          have HS := Aside0.mk hws
          have hgl : (outP now ws k).length ≤ 200 := Nat.le_trans HR.out.1.2.2 HR.out.2.2.2.2
          generalize outP now ws k = gs at HR HV hgl
          have hs0 : incP times (gs.take 0) = times := rfl
          have HD := Aside0.mk (show WS w w1.heap.size 51 w.heap.size (nowP now ws k) (annP now ws k) (incP times (gs.take 0)) [] (.slice none 0 0) w2 ∧ (Kd.int .i64).R 3 w2 (w1.heap.size + 1) (fun _ => True) (.slice A2 gs.length c2) gs from ⟨HS.out, HV.out⟩)
          clear hC2 hws hs0 HS
          go_wp2_with fail
          go_loopw [14] (fun v14 wj => ∃ (j : Nat), v14 = .int .i64 j ∧ j ≤ gs.length ∧ Aside0 (WS w w1.heap.size 51 w.heap.size (nowP now ws k) (annP now ws k) (incP times (gs.take j)) [] (.slice none 0 0) wj ∧ (Kd.int .i64).R 3 wj (w1.heap.size + 1) (fun _ => True) (.slice A2 gs.length c2) gs)) (fun v14 _ => gs.length - (intOf v14).toNat)
          case atStart => exact ⟨0, rfl, Nat.zero_le _, HD⟩
          case round =>
            clear HD
            obtain ⟨j, rfl, hj, HD⟩ := hrel
            by_cases hjl : j < gs.length
            · have hgj := HR.out.1.2.1 gs[j] (List.getElem_mem hjl)
              have hwt := HD.out.1
              obtain ⟨_, _, hC2⟩ := Kd.R_reads' HD.out.2
              obtain ⟨ad2, rfl, hx2⟩ := Kd.at_int hC2 (j : Int) (by omega) (by omega)
              have hrd : rd gs (j : Int) = gs[j] := by simp [rd, hjl]
              rw [Int.toNat_natCast, hrd] at hx2
              have htk := incP_take times gs j hjl
              have hlen : (incP times (gs.take j)).length = 200 := by rw [incP_len]; exact HR.out.2.2.1.tl
              have hgt := incP_get times (gs.take j) gs[j].toNat (fun g hg => by have := HR.out.1.2.1 g (List.mem_of_mem_take hg); have := HR.out.2.2.1.tl; have := HR.out.2.2.1.m2; omega)
              have hcl : (gs.take j).count ((gs[j].toNat : Nat) : Int) ≤ (gs.take j).length := List.count_le_length
              have hcl2 : (gs.take j).length ≤ 200 := by rw [List.length_take]; omega
              have hle := HR.out.2.2.1.le gs[j].toNat
              have hps := HR.out.2.2.1.pos gs[j].toNat
              have hm2 := HR.out.2.2.1.m2
              generalize gs[j] = g at hgj hx2 htk hgt hcl hle hps
              obtain ⟨b0, z0⟩ := box_at hwt.box (k := g.toNat) (by omega)
              have hb1 : 0 ≤ (incP times (gs.take j)).getD g.toNat 0 := by omega
              have hb2 : (incP times (gs.take j)).getD g.toNat 0 ≤ 1000 := by omega
              have hset := hwt.set g.toNat ((incP times (gs.take j)).getD g.toNat 0 + 1)
              rw [← htk] at hset
              have hrow := nums_flat (ok' := fun _ => True) (w1 := wr.setCell ⟨w1.heap.size, g.toNat, none⟩ (.int .i64 ((incP times (gs.take j)).getD g.toNat 0 + 1))) HD.out.2 (fun _ _ => trivial) (fun q hq => Below.heap_setCell wr ⟨w1.heap.size, g.toNat, none⟩ _ q (by have := (nums_own HD.out.2 q hq).2.1; simp; omega))
              have HN := Aside0.mk (And.intro hset hrow)
              clear hset hrow htk hgt
              generalize (incP times (gs.take j)).getD g.toNat 0 = tv at b0 hb1 hb2 HN
              have hg0 : (g < 0) = False := eq_false (by omega)
              have hg1 : ((many : Int) ≤ g) = False := eq_false (by omega)
              have hg2 : 0 ≤ g := hgj.1
              have hg3 : g < 200 := by omega
              clear hgj hrd hwt hC2 hlen hcl hcl2 hle hps HD
              go_wp2_with fail
              go_roundw
              case rel => exact ⟨j + 1, by go_num, by omega, HN⟩
              case measure => simp [intOf]; omega
            · obtain rfl : j = gs.length := by omega
              have hD := HD.out.1
              rw [List.take_length] at hD
              have HW := Aside0.mk (show GoI w w1.heap.size n l.length (i + 1) many wr from ⟨_, _, _, HR.out.1.1, hD, HR.out.2.2.2.1⟩)
              clear HD hD hj hjl
              go_wp2_with fail
              go_roundw
              case rel => exact ⟨i + 1, many, by go_num, rfl, by omega, HW⟩
              case measure => simp [intOf]; omega
      · by_cases hle : i < l.length + 3 * n
        · obtain ⟨now, ws, times, hga, hws, hgB⟩ := HW.out
          obtain ⟨N0, q, k, hq, hkn, hgg⟩ := hgB (by omega)
          have hk := round_mod hq hkn
          have hgb := GoB.next hga hgg hq hkn
          have h03 : 0 ≤ (i : Int) - l.length := by omega
          clear hgg hgB hq
          have ha := hws.announceR k (by rw [hga.len]; omega) (by rw [hga.len]; exact hkn) (by have := hga.small k hkn; have := hga.m2; omega) (hga.fine hkn) hga.now0 (by have := hga.nowi; omega)
          have hnx := hga.ann hkn
          have HR := Aside0.mk (And.intro hnx (And.intro ha (And.intro hga (And.intro hgb hga.m2))))
          clear hga hnx ha hws hgb HW
          go_wp2_with fail
          refine HR.out.2.1.mono ?_
          rintro e w2 ⟨A2, c2, rfl, hC2, hws⟩
          have HV := Aside0.mk hC2
          have HS := Aside0.mk hws
          have hgl : (outP now ws k).length ≤ 200 := Nat.le_trans HR.out.1.2.2 HR.out.2.2.2.2
          generalize outP now ws k = gs at HR HV hgl
          have hs0 : incP times (gs.take 0) = times := rfl
          have HD := Aside0.mk (show WS w w1.heap.size 51 w.heap.size (nowP now ws k) (annP now ws k) (incP times (gs.take 0)) [] (.slice none 0 0) w2 ∧ (Kd.int .i64).R 3 w2 (w1.heap.size + 1) (fun _ => True) (.slice A2 gs.length c2) gs from ⟨HS.out, HV.out⟩)
          clear hC2 hws hs0 HS
          go_wp2_with fail
          go_loopw [14] (fun v14 wj => ∃ (j : Nat), v14 = .int .i64 j ∧ j ≤ gs.length ∧ Aside0 (WS w w1.heap.size 51 w.heap.size (nowP now ws k) (annP now ws k) (incP times (gs.take j)) [] (.slice none 0 0) wj ∧ (Kd.int .i64).R 3 wj (w1.heap.size + 1) (fun _ => True) (.slice A2 gs.length c2) gs)) (fun v14 _ => gs.length - (intOf v14).toNat)
          case atStart => exact ⟨0, rfl, Nat.zero_le _, HD⟩
          case round =>
            clear HD
            obtain ⟨j, rfl, hj, HD⟩ := hrel
            by_cases hjl : j < gs.length
            · have hgj := HR.out.1.2.1 gs[j] (List.getElem_mem hjl)
              have hwt := HD.out.1
              obtain ⟨_, _, hC2⟩ := Kd.R_reads' HD.out.2
              obtain ⟨ad2, rfl, hx2⟩ := Kd.at_int hC2 (j : Int) (by omega) (by omega)
              have hrd : rd gs (j : Int) = gs[j] := by simp [rd, hjl]
              rw [Int.toNat_natCast, hrd] at hx2
              have htk := incP_take times gs j hjl
              have hlen : (incP times (gs.take j)).length = 200 := by rw [incP_len]; exact HR.out.2.2.1.tl
              have hgt := incP_get times (gs.take j) gs[j].toNat (fun g hg => by have := HR.out.1.2.1 g (List.mem_of_mem_take hg); have := HR.out.2.2.1.tl; have := HR.out.2.2.1.m2; omega)
              have hcl : (gs.take j).count ((gs[j].toNat : Nat) : Int) ≤ (gs.take j).length := List.count_le_length
              have hcl2 : (gs.take j).length ≤ 200 := by rw [List.length_take]; omega
              have hle := HR.out.2.2.1.le gs[j].toNat
              have hps := HR.out.2.2.1.pos gs[j].toNat
              have hm2 := HR.out.2.2.1.m2
              generalize gs[j] = g at hgj hx2 htk hgt hcl hle hps
              obtain ⟨b0, z0⟩ := box_at hwt.box (k := g.toNat) (by omega)
              have hb1 : 0 ≤ (incP times (gs.take j)).getD g.toNat 0 := by omega
              have hb2 : (incP times (gs.take j)).getD g.toNat 0 ≤ 1000 := by omega
              have hset := hwt.set g.toNat ((incP times (gs.take j)).getD g.toNat 0 + 1)
              rw [← htk] at hset
              have hrow := nums_flat (ok' := fun _ => True) (w1 := wr.setCell ⟨w1.heap.size, g.toNat, none⟩ (.int .i64 ((incP times (gs.take j)).getD g.toNat 0 + 1))) HD.out.2 (fun _ _ => trivial) (fun q hq => Below.heap_setCell wr ⟨w1.heap.size, g.toNat, none⟩ _ q (by have := (nums_own HD.out.2 q hq).2.1; simp; omega))
              have HN := Aside0.mk (And.intro hset hrow)
              clear hset hrow htk hgt
              generalize (incP times (gs.take j)).getD g.toNat 0 = tv at b0 hb1 hb2 HN
              have hg0 : (g < 0) = False := eq_false (by omega)
              have hg1 : ((many : Int) ≤ g) = False := eq_false (by omega)
              have hg2 : 0 ≤ g := hgj.1
              have hg3 : g < 200 := by omega
              clear hgj hrd hwt hC2 hlen hcl hcl2 hle hps HD
              go_wp2_with fail
              go_roundw
              case rel => exact ⟨j + 1, by go_num, by omega, HN⟩
              case measure => simp [intOf]; omega
            · obtain rfl : j = gs.length := by omega
              have hD := HD.out.1
              rw [List.take_length] at hD
              have HW := Aside0.mk (show GoI w w1.heap.size n l.length (i + 1) many wr from ⟨_, _, _, HR.out.1.1, hD, HR.out.2.2.2.1⟩)
              clear HD hD hj hjl
              go_wp2_with fail
              go_roundw
              case rel => exact ⟨i + 1, many, by go_num, rfl, by omega, HW⟩
              case measure => simp [intOf]; omega
        · obtain rfl : i = l.length + 3 * n := by omega
          obtain ⟨now, ws, times, hga, hws, hgB⟩ := HW.out
          obtain ⟨N0, q, k, hq, hkn, hgg⟩ := hgB (by omega)
          obtain ⟨rfl, rfl⟩ := round_end (show q * n + k = 3 * n by omega) hkn
          have hall := hgg.all (Nat.le_refl _)
          have hcnt : ∀ t : Nat, t < many → times.getD t 0 = 1 := fun t ht => by
            have h1 := hga.cnt t ht
            have h2 := inAll_none (t := (t : Int)) (fun k hk => hall k (by rw [← hga.len]; exact hk))
            omega
          have HF := Aside0.mk (And.intro hall (And.intro hcnt (And.intro hga hws)))
          have hm2 := hga.m2
          clear hall hcnt hga hws hgg hgB hq HW hle hlt hi
          go_wp2_with fail
          go_loop [15] (fun v15 => ∃ (i : Nat), v15 = .int .i64 i ∧ i ≤ many) (fun v15 => many - (intOf v15).toNat)
          case atStart => exact ⟨0, rfl, Nat.zero_le _⟩
          case round =>
            obtain ⟨i, rfl, hi⟩ := hrel
            by_cases hlt : i < many
            · obtain ⟨b0, z0⟩ := box_at HF.out.2.2.2.box (k := i) (by have := HF.out.2.2.1.tl; omega)
              rw [HF.out.2.1 i hlt] at b0
              clear z0
              go_wp2_with fail
              go_round
              case rel => exact ⟨i + 1, by go_num, by omega⟩
              case measure => simp [intOf]; omega
            · obtain rfl : i = many := by omega
              clear hi hlt
              go_wp2_with fail
              go_loop [16] (fun v16 => ∃ (v : Nat), v16 = .int .i64 v ∧ v ≤ n) (fun v16 => n - (intOf v16).toNat)
              case atStart => exact ⟨0, rfl, Nat.zero_le _⟩
              case round =>
                obtain ⟨v, rfl, hv⟩ := hrel
                by_cases hlt : v < n
                · have hl1 := HF.out.2.2.2.st.limbo v (by rw [HF.out.2.2.1.len]; omega) (by rw [HF.out.2.2.1.len]; exact hlt)
                  rw [HF.out.1 v hlt] at hl1
                  have HL := Aside0.mk hl1
                  clear hl1
                  go_wp2_with fail
                  refine HL.out.mono ?_
                  rintro e w2 ⟨rfl, rfl⟩
                  go_wp2_with fail
                  go_round
                  case rel => exact ⟨v + 1, by go_num, by omega⟩
                  case measure => simp [intOf]; omega
                · obtain rfl : v = n := by omega
                  have HB := Aside0.mk HF.out.2.2.2.st.below
                  clear hlt hv
                  go_wp2_with fail
                  refine (awake_any _).mono ?_
                  rintro e w2 ⟨rfl, hb⟩
                  have HB2 := Aside0.mk (HB.out.trans (hb.mono HB.out.size))
                  clear hb HB
                  go_wp2_with fail
                  go_ret
                  exact ⟨rfl, HB2.out⟩
def haymowlaw11_EpochGoes.f (a0 : Int) (l1 : List S30) : Option Bool := if 0 ≤ a0 ∧ a0 ≤ 255 then some true else none
theorem haymowlaw11_EpochGoes.calls (a0 : Int) (A1 : Option Addr) (c1 : Nat) (l1 : List S30) (r : Bool) (w : World) (hr1 : k30.C w A1 l1.length l1) (hc1 : l1.length ≤ c1) (h : haymowlaw11_EpochGoes.f a0 l1 = some r) : Calls Try.prog 7 #[.int .u8 a0, .slice A1 l1.length c1] w fun e w' => e = .returned (.bool r) ∧ Below w.heap.size w w' := by
  unfold haymowlaw11_EpochGoes.f at h
  split at h
  · rename_i hr
    obtain rfl : true = r := Option.some.inj h
    exact goes_any a0 hr.1 hr.2 A1 c1 l1 w hr1
  · cases h
#print axioms haymowlaw11_EpochGoes.calls
end Go.Proofs.Ythbooikhegppnaa.H
