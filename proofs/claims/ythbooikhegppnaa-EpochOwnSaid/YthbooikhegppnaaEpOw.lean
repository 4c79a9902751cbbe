/- EpochOwn, walked. -/
import Derived.Test.YthbooikhegppnaaEpOwG
set_option linter.unusedVariables false
set_option linter.unusedSimpArgs false
namespace Go.Proofs.Ythbooikhegppnaa.H
open Go.RowKit Go.Hay Go.Proofs.YthbooikhegppnaaW.PrintWords Go.Proofs.YthbooikhegppnaaW.PrintLast Go.Proofs.YthbooikhegppnaaW.PrintMore
/-- how many things a worker retires. -/
def manyP (ys : List Int) (k : Nat) : Nat := (ys.getD k 0 % 30).toNat
def OwI (w : World) (b g e : Nat) (ys : List Int) (n i q r : Nat) (wr : World) : Prop := ∃ now ws vs got, OW n (manyP ys) i q r now ws got ∧ OS w b g e ys now ws vs got wr
theorem own_mod {q r n : Nat} (hr : r < n) : ((q * n + r : Nat) : Int) % (n : Int) = (r : Int) := by
  rw [← Int.natCast_emod, Nat.mul_comm, Nat.mul_add_mod, Nat.mod_eq_of_lt hr]
theorem own_end {q r n : Nat} (h : q * n + r = 3 * n) (hr : r < n) : q = 3 ∧ r = 0 := by
  have h1 : q = 3 := by
    by_cases a : q ≤ 2
    · have := Nat.mul_le_mul_right n a; omega
    · by_cases b : 4 ≤ q
      · have := Nat.mul_le_mul_right n b; omega
      · omega
  subst h1
  exact ⟨rfl, by omega⟩
theorem own_split (i : Nat) {n : Nat} (h : 1 ≤ n) : ∃ q r, i = q * n + r ∧ r < n := ⟨i / n, i % n, by rw [Nat.mul_comm]; exact (Nat.div_add_mod i n).symm, Nat.mod_lt _ h⟩
theorem u8_at {B8 T : Nat} {xs : List Int} {w : World} (h : w.heap[B8]? = some (.cells (xs.map (Value.int .u8)).toArray T (0, 0))) {k : Nat} (hk : k < xs.length) : w.cell? ⟨B8, k, none⟩ = some (.int .u8 (xs.getD k 0)) := by
  refine (blk_cell h k).trans ?_
  simp [List.getElem?_map, List.getD_eq_getElem?_getD, hk]
set_option maxRecDepth 100000 in
set_option maxHeartbeats 8000000 in
theorem own_any (a0 : Int) (h0 : 0 ≤ a0) (h0' : a0 ≤ 255) (ys : List Int) (hyl : ys.length = 6) (hy : ∀ y ∈ ys, 0 ≤ y ∧ y ≤ 255) (w : World) : Calls Try.prog 4 #[.int .u8 a0, .agg (ys.map (Value.int .u8)).toArray] w fun e w' => e = .returned (.bool true) ∧ Below w.heap.size w w' := by
  obtain ⟨n, hn, hn2, hn6⟩ : ∃ n : Nat, a0 % 6 + 1 = (n : Int) ∧ 1 ≤ n ∧ n ≤ 6 := ⟨(a0 % 6 + 1).toNat, by omega, by omega, by omega⟩
  have hb0 := (Below.refl w.heap.size w).alloc (Nat.le_refl _) (.cells (ys.map (Value.int .u8)).toArray 36)
  have HN := Aside0.mk (St.new hb0 n (by omega) (by omega))
  have HY := Aside0.mk hy
  clear hy
  have HM := Aside0.mk (alloc_blk w (.cells (ys.map (Value.int .u8)).toArray 36))
  clear hb0
  go_enter Try.func4, Try.ntmps4
  go_wp2_with fail
  refine HN.out.mono ?_
  rintro e w1 ⟨rfl, hb, hs⟩
  have hm := (hb.block _ (blk_lt HM.out)).trans HM.out
  have hs := hs.less (P' := fun q => q = w.heap.size) (fun q hq => by subst hq; exact ⟨blk_lt HM.out, Nat.le_refl _⟩)
  rw [← fAt_zero (manyP ys)] at hs
  have HS := Aside0.mk (And.intro hs hm)
  clear hs hm hb HN HM hn
  have hsz : (w.alloc (.cells (ys.map (Value.int .u8)).toArray 36)).heap.size = w.heap.size + 1 := alloc_size _ _
  rw [hsz] at HS
  clear hsz
  go_wp2_with fail
  go_loopw [8] (fun v8 wr => ∃ (k : Nat), v8 = .int .i64 k ∧ k ≤ n ∧ Aside0 (St w (fun q => q = w.heap.size) (w.heap.size + 1) 0 (ownP n (fAt (manyP ys) k 0)) wr ∧ wr.heap[w.heap.size]? = some (.cells (ys.map (Value.int .u8)).toArray 36 (0, 0)))) (fun v8 _ => n - (intOf v8).toNat)
  case atStart => exact ⟨0, rfl, Nat.zero_le _, HS⟩
  case round =>
    clear HS
    obtain ⟨k, rfl, hk, HS⟩ := hrel
    by_cases hlt : k < n
    · go_wp2_with fail
      go_loopw [9] (fun v9 wr => ∃ (i : Nat), v9 = .int .i64 i ∧ i ≤ manyP ys k ∧ Aside0 (St w (fun q => q = w.heap.size) (w.heap.size + 1) 0 (ownP n (fAt (manyP ys) k i)) wr ∧ wr.heap[w.heap.size]? = some (.cells (ys.map (Value.int .u8)).toArray 36 (0, 0)))) (fun v9 _ => manyP ys k - (intOf v9).toNat)
      case atStart => exact ⟨0, rfl, Nat.zero_le _, HS⟩
      case round =>
        clear HS
        obtain ⟨i, rfl, hi, HS⟩ := hrel
        have hyk := HY.out (ys.getD k 0) (by rw [List.getD_eq_getElem?_getD, List.getElem?_eq_getElem (by omega)]; exact List.getElem_mem _)
        have b0 := u8_at HS.out.2 (k := k) (by omega)
        have hmk : manyP ys k = (ys.getD k 0 % 30).toNat := rfl
        obtain ⟨m, hm, hm2⟩ : ∃ m : Nat, ys.getD k 0 % 30 = (m : Int) ∧ manyP ys k = m := ⟨(ys.getD k 0 % 30).toNat, by omega, hmk⟩
        have HMK := Aside0.mk hm2
        rw [hm2] at hi
        obtain ⟨hyk1, hyk2⟩ := hyk
        generalize ys.getD k 0 = y at b0 hm hyk1 hyk2
        clear hmk hm2
        by_cases hil : i < m
        · have hr := HS.out.1.retire k (100 * (k : Int) + (i : Int)) (by rw [ownP_len]; omega) (by rw [ownP_len]; exact hlt) (by rw [ownP_row hlt]; simp [ownRow, fAt]; omega)
          rw [ownP_ret (manyP ys) hlt] at hr
          have HR := Aside0.mk (And.intro hr HS.out.2)
          clear hr HS
          go_wp2_with fail
          refine HR.out.1.mono ?_
          rintro e w2 ⟨rfl, hs, hq⟩
          have HS := Aside0.mk (And.intro hs ((hq _ rfl).trans HR.out.2))
          clear hs hq HR
          go_wp2_with fail
          go_roundw
          case rel => exact ⟨i + 1, by go_num, by rw [HMK.out]; omega, HS⟩
          case measure => rw [HMK.out]; simp [intOf]; omega
        · have hie : i = manyP ys k := by rw [HMK.out]; omega
          have HS2 := Aside0.mk (show St w (fun q => q = w.heap.size) (w.heap.size + 1) 0 (ownP n (fAt (manyP ys) (k + 1) 0)) wr ∧ wr.heap[w.heap.size]? = some (.cells (ys.map (Value.int .u8)).toArray 36 (0, 0)) from by rw [← fAt_next, ← hie]; exact HS.out)
          have him : i = m := by omega
          clear hie HS
          go_wp2_with fail
          go_roundw
          case rel => exact ⟨k + 1, by go_num, by omega, HS2⟩
          case measure => simp [intOf]; omega
    · obtain rfl : n = k := by omega
      have HO := Aside0.mk (OS.start HS.out.1 HS.out.2 (Nat.le_refl _))
      have HI := Aside0.mk (show OwI w w.heap.size wr.heap.size (w.heap.size + 1) ys n 0 0 0 (wr.alloc (.cells (List.replicate 6 (Value.slice none 0 0)).toArray 37)) from ⟨_, _, _, _, OW.start, HO.out⟩)
      clear HS HO hlt hk
      go_wp2_with fail
      generalize wr.heap.size = g at HI
      go_loopw [11] (fun v11 wj => ∃ (i q r : Nat), v11 = .int .i64 i ∧ i ≤ 3 * n ∧ Aside0 (i = q * n + r ∧ r < n) ∧ Aside0 (OwI w w.heap.size g (w.heap.size + 1) ys n i q r wj)) (fun v11 _ => 3 * n - (intOf v11).toNat)
      case atStart => exact ⟨0, 0, 0, rfl, Nat.zero_le _, ⟨by omega, by omega⟩, HI⟩
      case round =>
        clear HI
        obtain ⟨i, q, r, rfl, hi, HQ, HI⟩ := hrel
        have hn0 : ((n : Int) = 0) = False := eq_false (by omega)
        by_cases hlt : i < 3 * n
        · obtain ⟨hqi, hrn⟩ := HQ.out
          obtain ⟨now, ws, vs, got, how, hos⟩ := HI.out
          have hmod : (i : Int) % (n : Int) = (r : Int) := by rw [hqi]; exact own_mod hrn
          have hsm := how.small hrn
          have hmm : manyP ys r ≤ 30 := by unfold manyP; omega
          have ha := hos.announce r (by rw [how.len]; omega) (by rw [how.len]; exact hrn) (by omega) (how.fine hrn) how.now0 (by have := how.nowi; omega)
          have hnx := how.ann hrn hn6
          have hgl := how.gl
          have HR := Aside0.mk (And.intro ha (And.intro hnx (And.intro (And.intro hsm hmm) (And.intro hqi hgl))))
          have hol : (outP now ws r).length ≤ 1000 := Nat.le_trans (gone_len _ _) (by show (rowP ws r).length ≤ 1000; omega)
          clear ha hnx how hos HI HQ hqi hsm hgl hmm
          go_wp2_with fail
          refine HR.out.1.mono ?_
          rintro e w2 ⟨A2, c2, rfl, hC2, hos⟩
          have hr6 : r < 6 := by omega
          obtain ⟨Ar, cr, hvr, hrw⟩ := hos.at_ hr6
          have HV := Aside0.mk (And.intro hos (And.intro hC2 (And.intro hvr hrw)))
          clear hC2 hos hvr hrw
          go_wp2_with fail
          refine wp_region_seq2 (fun w' => w'.heap[g]? = w2.heap[g]?) [11] [.take 0, .take 1, .take 2, .take 3, .take 4, .take 5, .take 6, .take 7, .take 8, .op 9, .op 10, .fin 11] (by kernel_rfl) (by kernel_rfl) rfl (by kernel_rfl) (panic_via (P := Try.prog) (fn := Try.f4) (R := fun e w' => e = .returned (.bool true) ∧ Below w.heap.size w w') (fun _ _ _ => rfl)) ?_
          have hs : w2.drew.heap[g]? = w2.heap[g]? := rfl
          have htm : Int.tmod (i : Int) (n : Int) = (r : Int) := by rw [Int.tmod_eq_emod_of_nonneg (by omega)]; exact hmod
          have hn00 : (n = 0) = False := eq_false (by omega)
          have hr7 : ((r : Int) < 6) = True := eq_true (by omega)
          have hwr : IntKind.i64.wrap (r : Int) = (r : Int) := IntWalk.i64_in _ (by omega)
          repeat (
            (first
              | (refine runSeq2_take (v := ?_) (by rfl) (by rfl) (fun w' hS => ?_) hs ?_
                 rotate_left
                 · (have q0 := ((World.cell?_of_block (w := w2) (a := ⟨g, r, none⟩) hS).trans (blk_cell HV.out.1.got.box r)).trans HV.out.2.2.1; go_simp; exact rfl))
              | refine runSeq2_skip (by rfl) (by rfl) hs ?_)
            (try simp only [Act.put, List.setIfInBounds_toArray, List.set_cons_zero, List.set_cons_succ]))
          clear htm hn00 hwr
          refine runSeq2_op (by rfl) (by rfl) (fun K hK => ?_)
          refine wp_append_nums .i64 (g + 1) rfl (.tmp 72) (.tmp 73) 28 3 8 rfl Try.underlying28 info3 (by decide) (.slice Ar (got.getD r []).length cr) (got.getD r []) (outP now ws r) A2 (outP now ws r).length c2 rfl rfl (Kd.R_drewN HV.out.2.2.2 1) (Kd.C_drewN HV.out.2.1 1) (blk_lt HV.out.1.got.box) (by have := HR.out.2.2.1; omega) ?_
          intro v9 w9 hR9 hb9 hg9 hat9
          have hos := (HV.out.1.keep ((Below.refl _ _).drew)).push2 hr6 HV.out.2.2.1 hR9 hb9 hg9 hat9
          have hE9 : w9.heap[g]? = w2.heap[g]? := hb9.block g (Nat.lt_succ_self _)
          have z9 := blk_frozen (hE9.trans HV.out.1.got.box) r
          have q9 := ((World.cell?_of_block (a := ⟨g, r, none⟩) hE9).trans (blk_cell HV.out.1.got.box r)).trans HV.out.2.2.1
          obtain ⟨A9, c9, rfl⟩ := Kd.R_slice hR9
          clear hR9 hb9 hg9 hat9 hs
          generalize (got.getD r [] ++ outP now ws r).length = L9 at hos ⊢
          have HP := Aside0.mk hos
          clear hos
          refine hK _ _ hE9 ?_
          clear hK K
          refine runSeq2_op (by rfl) (by rfl) (fun K hK => ?_)
          go_simp
          refine hK _ _ hE9 ?_
          clear hK K
          refine runSeq2_fin (by rfl) (by rfl) (fun K hK => ?_)
          go_simp
          refine hK _ _ ?_
          refine runSeq2_nil ?_
          clear hK K hE9 z9 q9 hr7
          have HI := Aside0.mk (show ∃ q' r', (i + 1 = q' * n + r' ∧ r' < n) ∧ OwI w w.heap.size g (w.heap.size + 1) ys n (i + 1) q' r' (w9.setCell ⟨g, r, none⟩ (.slice A9 L9 c9)) from by
            have hnx := HR.out.2.1
            have hqi := HR.out.2.2.2.1
            by_cases e : r + 1 = n
            · exact ⟨q + 1, 0, ⟨by rw [Nat.add_mul]; omega, by omega⟩, _, _, _, _, hnx.2 e, HP.out⟩
            · exact ⟨q, r + 1, ⟨by omega, by omega⟩, _, _, _, _, hnx.1 (by omega), HP.out⟩)
          obtain ⟨w4, hw4⟩ : ∃ w4, w4 = w9.setCell ⟨g, r, none⟩ (.slice A9 L9 c9) := ⟨_, rfl⟩
          rw [← hw4] at HI ⊢
          clear HP HV HR hw4
          obtain ⟨q', r', hq', HI'⟩ := HI.out
          have HQ' := Aside0.mk hq'
          have HI2 := Aside0.mk HI'
          clear HI hq' HI'
          go_wp2_with fail
          go_roundw
          case rel => exact ⟨i + 1, q', r', by go_num, by omega, HQ', HI2⟩
          case measure => simp [intOf]; omega
        · obtain rfl : i = 3 * n := by omega
          obtain ⟨hqi, hrn⟩ := HQ.out
          obtain ⟨rfl, rfl⟩ := own_end hqi.symm hrn
          obtain ⟨now, ws, vs, got, how, hos⟩ := HI.out
          have HF := Aside0.mk (And.intro (fun k (hk : k < n) => how.done hk) hos)
          clear how hos HI HQ hqi hrn hlt hi
          go_wp2_with fail
          obtain ⟨wo, rfl⟩ : ∃ wo : World, wo = wr := ⟨_, rfl⟩
          have HD := Aside0.mk (Drawn0.refl wo)
          go_loopw [14] (fun v14 wj => ∃ (k : Nat), v14 = .int .i64 k ∧ k ≤ n ∧ Aside0 (Drawn0 wo wj)) (fun v14 _ => n - (intOf v14).toNat)
          case atStart => exact ⟨0, rfl, Nat.zero_le _, HD⟩
          case round =>
            clear HD
            obtain ⟨k, rfl, hk, HD⟩ := hrel
            obtain ⟨md, rfl⟩ := HD.out
            by_cases hlt : k < n
            · have hk6 : k < 6 := by omega
              obtain ⟨Ar, cr, hvr, hrw⟩ := HF.out.2.at_ hk6
              have hyk := HY.out (ys.getD k 0) (by rw [List.getD_eq_getElem?_getD, List.getElem?_eq_getElem (by omega)]; exact List.getElem_mem _)
              have b0 := u8_at HF.out.2.many (k := k) (by omega)
              have hd := HF.out.1 k hlt
              have hmm : (manyP ys k : Int) = ys.getD k 0 % 30 := by unfold manyP; omega
              obtain ⟨hyk1, hyk2⟩ := hyk
              obtain ⟨m, hm, hm2⟩ : ∃ m : Nat, ys.getD k 0 % 30 = (m : Int) ∧ manyP ys k = m := ⟨_, hmm.symm, rfl⟩
              rw [hm2] at hd
              rw [hd] at hvr hrw
              rw [show ((List.range m).map fun i : Nat => 100 * (k : Int) + (i : Int)).length = m from by simp] at hvr hrw
              have hC := (Kd.R_reads' hrw).2.2
              rw [show ((List.range m).map fun i : Nat => 100 * (k : Int) + (i : Int)).length = m from by simp] at hC
              have c0 := (blk_cell HF.out.2.got.box k).trans hvr
              have HX := Aside0.mk hC
              have hm30 : m < 30 := by omega
              generalize ys.getD k 0 = y at b0 hm hyk1 hyk2
              clear hmm hm2 hd hvr hrw hC
              have htm : Int.tmod y 30 = (m : Int) := by rw [Int.tmod_eq_emod_of_nonneg hyk1]; exact hm
              have hwm : IntKind.i64.wrap (m : Int) = (m : Int) := IntWalk.i64_in _ (by omega)
              have hwy : IntKind.i64.wrap y = y := IntWalk.i64_in _ (by omega)
              have hk7 : ((k : Int) < 6) = True := eq_true (by omega)
              clear hm
              go_wp2_with fail
              go_quiet (fail)
              clear htm hwm hwy
              go_wp2_with fail
              go_loopw [15] (fun v15 wj => ∃ (i : Nat), v15 = .int .i64 i ∧ i ≤ m ∧ Aside0 (Drawn0 wo wj)) (fun v15 _ => m - (intOf v15).toNat)
              case atStart => exact ⟨0, rfl, Nat.zero_le _, ⟨HD.out.step _⟩⟩
              case round =>
                clear HD
                obtain ⟨i, rfl, hi, HD⟩ := hrel
                obtain ⟨md2, rfl⟩ := HD.out
                by_cases hil : i < m
                · obtain ⟨ad, rfl, hx⟩ := Kd.at_int HX.out (i : Int) (by omega) (by simp; omega)
                  rw [Int.toNat_natCast, show rd ((List.range m).map fun i : Nat => 100 * (k : Int) + (i : Int)) (i : Int) = 100 * (k : Int) + (i : Int) from by simp [rd, hil]] at hx
                  go_wp2_with fail
                  go_roundw
                  case rel => exact ⟨i + 1, by go_num, by omega, HD⟩
                  case measure => simp [intOf]; omega
                · obtain rfl : i = m := by omega
                  go_wp2_with fail
                  go_roundw
                  case rel => exact ⟨k + 1, by go_num, by omega, ⟨⟨_, rfl⟩⟩⟩
                  case measure => simp [intOf]; omega
            · obtain rfl : n = k := by omega
              have HB := Aside0.mk (pw_below_drewN HF.out.2.st.below md)
              clear hlt hk
              go_wp2_with fail
              refine (awake_any _).mono ?_
              rintro e w2 ⟨rfl, hb⟩
              have HB2 := Aside0.mk (HB.out.trans (hb.mono HB.out.size))
              clear hb HB
              go_wp2_with fail
              go_ret
              exact ⟨rfl, HB2.out⟩
def haymowlaw11_EpochOwn.f (a0 : Int) (l1 : List Int) : Option Bool := if (0 ≤ a0 ∧ a0 ≤ 255) ∧ l1.length = 6 ∧ (l1.all fun y => decide (0 ≤ y ∧ y ≤ 255)) = true then some true else none
theorem haymowlaw11_EpochOwn.calls (a0 : Int) (l1 : List Int) (r : Bool) (w : World) (h : haymowlaw11_EpochOwn.f a0 l1 = some r) : Calls Try.prog 4 #[.int .u8 a0, .agg (l1.map (Value.int .u8)).toArray] w fun e w' => e = .returned (.bool r) ∧ Below w.heap.size w w' := by
  unfold haymowlaw11_EpochOwn.f at h
  split at h
  · rename_i hr
    obtain rfl : true = r := Option.some.inj h
    exact own_any a0 hr.1.1 hr.1.2 l1 hr.2.1 (fun y hy => by simpa using List.all_eq_true.1 hr.2.2 y hy) w
  · cases h
#print axioms haymowlaw11_EpochOwn.calls
end Go.Proofs.Ythbooikhegppnaa.H
