/- Announce, walked. -/
import Derived.Test.YthbooikhegppnaaEpG
set_option linter.unusedVariables false
set_option linter.unusedSimpArgs false
namespace Go.Proofs.Ythbooikhegppnaa.H
open Go.RowKit Go.Hay Go.Proofs.YthbooikhegppnaaW.PrintWords Go.Proofs.YthbooikhegppnaaW.PrintLast Go.Proofs.YthbooikhegppnaaW.PrintMore
/-- what announcing comes to. -/
def nowP (now : Int) (ws : List (Int × List Rt)) (k : Nat) : Int := if ((ws.set k (now, (ws.getD k (0, [])).2)).any (fun x => x.1 != now)) = true then now else now + 1
def annP (now : Int) (ws : List (Int × List Rt)) (k : Nat) : List (Int × List Rt) := ws.set k (now, left (nowP now ws k) (ws.getD k (0, [])).2)
def outP (now : Int) (ws : List (Int × List Rt)) (k : Nat) : List Int := goneT (nowP now ws k) (ws.getD k (0, [])).2
set_option maxRecDepth 100000 in
theorem Announce_nil (k : Int) (w : World) : Calls Try.prog 11 #[.pointer none, .int .i64 k] w fun e w' => e = .returned (.tuple #[.slice none 0 0, .int .i64 1]) ∧ Below w.heap.size w w' := by
  have hb := (Below.refl w.heap.size w).alloc (Nat.le_refl _) (.cells #[.pointer none] 23)
  have q0 := blk_cell (alloc_blk w (.cells #[.pointer none] 23)) 0
  have H := Aside0.mk (worker_nil k (w.alloc (.cells #[.pointer none] 23)))
  have HB := Aside0.mk hb
  clear hb
  go_enter Try.func11, Try.ntmps11
  go_wp2_with fail
  refine H.out.mono ?_
  rintro e w' ⟨rfl, rfl⟩
  go_wp2_with fail
  go_ret2
  exact ⟨rfl, HB.out⟩
set_option maxRecDepth 100000 in
theorem Announce_out {ok : Nat → Prop} {B b : Nat} {now : Int} {w : World} {ws : List (Int × List Rt)} (h : Ep ok B b now ws w) (k : Int) (hn : ws.length ≤ 1000) (hk : k < 0 ∨ (ws.length : Int) ≤ k) : Calls Try.prog 11 #[.pointer (some ⟨b, 0, none⟩), .int .i64 k] w fun e w' => e = .returned (.tuple #[.slice none 0 0, .int .i64 1]) ∧ Below w.heap.size w w' := by
  obtain ⟨g, cap, xs, h1, rfl⟩ := h
  unfold PV at hn hk
  rw [List.length_map] at hn hk
  have hb := (Below.refl w.heap.size w).alloc (Nat.le_refl _) (.cells #[.pointer (some ⟨b, 0, none⟩)] 23)
  have q0 := blk_cell (alloc_blk w (.cells #[.pointer (some ⟨b, 0, none⟩)] 23)) 0
  have H := Aside0.mk (worker_out (h1.below hb) k hn hk)
  have HB := Aside0.mk hb
  clear h1 hk hb
  go_enter Try.func11, Try.ntmps11
  go_wp2_with fail
  refine H.out.mono ?_
  rintro e w' ⟨rfl, rfl⟩
  go_wp2_with fail
  go_ret2
  exact ⟨rfl, HB.out⟩
/-- what Announce answers: a row, and other Epochs. -/
def AnnPost (ok : Nat → Prop) (B b : Nat) (now : Int) (ws : List (Int × List Rt)) (out : List Int) (w : World) (e : Ending) (w' : World) : Prop :=
  ∃ A c, e = .returned (.tuple #[.slice A out.length c, .int .i64 0]) ∧ (Kd.int .i64).R 3 w' w.heap.size (fun _ => True) (.slice A out.length c) out ∧ EpStep ok B b now ws w w'
set_option maxRecDepth 100000 in
set_option maxHeartbeats 8000000 in
theorem Announce_in {ok : Nat → Prop} {B b : Nat} {now : Int} {w : World} {ws : List (Int × List Rt)} (h : Ep ok B b now ws w) (k : Nat) (hn : ws.length ≤ 1000) (hk : k < ws.length) (hl : ws[k].2.length ≤ 1000000) (hf : Fine now ws[k].2) (h0 : 0 ≤ now) (h1 : now ≤ 100000000) :
    Calls Try.prog 11 #[.pointer (some ⟨b, 0, none⟩), .int .i64 k] w (AnnPost ok B b (nowP now ws k) (annP now ws k) (outP now ws k) w) := by
  obtain ⟨g, cap, xs, hE, rfl⟩ := h
  have hk' : k < xs.length := by simpa [PV] using hk
  have hn' : xs.length ≤ 1000 := by simpa [PV] using hn
  have e1 : (PV xs)[k] = (xs[k].a, xs[k].l) := by simp [PV]
  have e2 : ((PV xs).getD k (0, [])) = (xs[k].a, xs[k].l) := by rw [List.getD_eq_getElem?_getD, List.getElem?_eq_getElem hk, e1]; rfl
  rw [e1] at hl hf
  have e3 : (PV xs).set k (now, xs[k].l) = PV (xs.set k { xs[k] with a := now }) := by unfold PV; rw [List.map_set]
  have e4 : ((PV xs).set k (now, xs[k].l)).any (fun x => x.1 != now) = (xs.set k { xs[k] with a := now }).any (fun x => x.a != now) := by rw [e3]; unfold PV; rw [List.any_map]; rfl
  have HQ := Aside0.mk (And.intro e2 e4)
  have hb0 := (Below.refl w.heap.size w).alloc (Nat.le_refl _) (.cells #[.pointer (some ⟨b, 0, none⟩)] 23)
  have hbx := alloc_blk w (.cells #[.pointer (some ⟨b, 0, none⟩)] 23)
  have hEp := hE.below hb0
  have hgw := hE.okw g hE.okg
  have hbw := hE.okw b hE.okb
  obtain ⟨n0, n1, nz⟩ := hEp.now_
  obtain ⟨_, _, z0, _⟩ := hEp.at_ hk'
  obtain ⟨a0, _, _, _⟩ := hEp.at_ hk'
  have q0 := blk_cell hbx 0
  have H := Aside0.mk (worker_in hEp k hn' hk')
  have hE1 := hEp.setA hk' now
  have hk1 : Keep ok w ((w.alloc (.cells #[.pointer (some ⟨b, 0, none⟩)] 23)).setCell ⟨g, k * 2, none⟩ (.int .i64 now)) := Keep.set (Keep.of_below hb0 ok) (.inr hE.okg) _
  have hX1 : XB w.heap.size b now ((w.alloc (.cells #[.pointer (some ⟨b, 0, none⟩)] 23)).setCell ⟨g, k * 2, none⟩ (.int .i64 now)) := ⟨(Below.heap_setCell _ ⟨g, k * 2, none⟩ _ w.heap.size (by simp; omega)).trans hbx, hE1.now_.1⟩
  have HE1 := Aside0.mk (And.intro hE1 (And.intro hk1 hX1))
  have HF := Aside0.mk (And.intro hf (And.intro hl (And.intro hgw hbw)))
  have HOK := Aside0.mk hE.okg
  obtain ⟨x, hx⟩ : ∃ x, x = xs[k] := ⟨_, rfl⟩
  obtain ⟨xs1, hxs1⟩ : ∃ xs1, xs1 = xs.set k { xs[k] with a := now } := ⟨_, rfl⟩
  rw [← hxs1] at HE1
  have hk2 : k < xs1.length := by rw [hxs1, List.length_set]; exact hk'
  have hn2 : xs1.length ≤ 1000 := by rw [hxs1, List.length_set]; exact hn'
  have HL := Aside0.mk (show xs1[k].v = x.v ∧ xs1[k].l = x.l ∧ ok g ∧ xs1[k].a = now from ⟨by simp [hxs1, hx, EW.v], by simp [hxs1, hx], hE.okg, by simp [hxs1]⟩)
  have HXX := Aside0.mk (And.intro hx hxs1)
  clear hb0 hbx hEp hE hE1 hk1 hX1 hf hl e1 e2 e3 e4 hx hgw hbw hk hn hxs1
  go_enter Try.func11, Try.ntmps11
  go_wp2_with fail
  refine H.out.mono ?_
  rintro e w' ⟨rfl, rfl⟩
  go_upto_region 5 with fail
  clear n0 n1 nz z0 a0 q0 H
  obtain ⟨w1, hw1⟩ : ∃ w1, w1 = (w.alloc (.cells #[.pointer (some ⟨b, 0, none⟩)] 23)).setCell ⟨g, k * 2, none⟩ (.int .i64 now) := ⟨_, rfl⟩
  rw [← hw1] at HE1 ⊢
  clear hw1
  have q0 := blk_cell HE1.out.2.2.box 0
  obtain ⟨n0, n1, nz⟩ := HE1.out.1.now_
  have HC := Aside0.mk (contains20_any w.heap.size HE1.out.1 HE1.out.2.2 hn2)
  have hmf : ∀ (fn : Fn) (first cap : Array Value) (w : World), (Instr.makeFunc fn first cap).run Try.prog w = .ok (.func fn first cap) w := fun _ _ _ _ => rfl
  go_wp2_with fail
  refine HC.out.mono ?_
  rintro e w2 ⟨rfl, hb2⟩
  have HE2 := Aside0.mk (And.intro (HE1.out.1.below hb2) (And.intro (HE1.out.2.1.trans (Keep.of_below (hb2.mono (Nat.le_refl _)) ok)) (HE1.out.2.2.below hb2)))
  clear hb2 HC q0 n0 n1 nz
  have q0 := blk_cell HE2.out.2.2.box 0
  obtain ⟨n0, n1, nz⟩ := HE2.out.1.now_
  cases hany : xs1.any (fun x => x.a != now) with
  | true =>
    have hnow : nowP now (PV xs) k = now := by unfold nowP; rw [HQ.out.1, HQ.out.2, ← HXX.out.2, hany, if_pos rfl]
    go_upto_region 8 with fail
    clear q0 n0 n1 nz
    have HP := Aside0.mk (show outP now (PV xs) k = goneT (now) x.l ∧ annP now (PV xs) k = (PV xs).set k (now, left (now) x.l) from by unfold outP annP; rw [hnow, HQ.out.1, HXX.out.1]; exact ⟨rfl, rfl⟩)
    have HNOW := Aside0.mk hnow
    clear hnow hany
    have HEA := Aside0.mk (And.intro HE2.out.1 (And.intro HE2.out.2.1 HE2.out.2.2))
    obtain ⟨wA, hwA⟩ : ∃ wA, wA = w2 := ⟨_, rfl⟩
    have HSZ := Aside0.mk (show wA.heap.size = w2.heap.size from by rw [hwA]; try simp [World.setCell])
    rw [← hwA] at HEA ⊢
    clear hwA
    have hba := (Below.refl wA.heap.size wA).alloc (Nat.le_refl _) (.cells #[.slice none 0 0] 28)
    have hoa := alloc_blk wA (.cells #[.slice none 0 0] 28)
    have HO := Aside0.mk (And.intro hba hoa)
    have hEo := HEA.out.1.below hba
    obtain ⟨s0, s1, z0, z1⟩ := hEo.at_ hk2
    rw [HL.out.1] at s1
    have HEo := Aside0.mk hEo
    have hlim := HEA.out.1.lim k hk2
    rw [HL.out.1, HL.out.2.1] at hlim
    have hgA := HEA.out.1.okw g HL.out.2.2.1
    have q0 := blk_cell (HEA.out.2.2.below hba).box 0
    clear s0 z0 hba hoa hEo
    cases hA : x.A with
    | none =>
      obtain ⟨hl0, hc0⟩ : x.l = [] ∧ x.c = 0 := by
        unfold EW.v at hlim
        rw [hA] at hlim
        obtain ⟨_, inner, ⟨_, h2⟩, _⟩ := hlim
        rcases h2 with ⟨h2, h3⟩ | ⟨g', cp, cur, h3, _⟩
        · injection h2 with _ h4 h5; exact ⟨List.eq_nil_of_length_eq_zero h4, h5⟩
        · injection h3 with h4; cases h4
      have hv0 : x.v = .slice none 0 0 := by unfold EW.v; rw [hA, hl0, hc0]; rfl
      rw [hv0] at s1
      have HV := Aside0.mk (And.intro hl0 hv0)
      have HX := Aside0.mk (delete_nil w.heap.size wA.heap.size (wA.alloc (.cells #[.slice none 0 0] 28)))
      have d0 := blk_cell HO.out.2 0
      clear hlim hl0 hc0 hv0 hA
      go_wp2_with fail
      try rw [← HSZ.out]
      refine HX.out.mono ?_
      rintro e w' ⟨rfl, rfl⟩
      obtain ⟨wO, hwO⟩ : ∃ wO, wO = wA.alloc (.cells #[.slice none 0 0] 28) := ⟨_, rfl⟩
      clear HX
      rw [← hwO] at HO HEo s1 z1 d0 q0 ⊢
      clear hwO
      have hst := HEA.out.1.setL (w1 := wO) hk2 (l := []) (A := none) (c := 0) (Kd.R_nil _ _ _ _ _) HO.out.1.size (fun q hq _ => HO.out.1.block q hq)
      have hks : Keep ok w (wO.setCell ⟨g, k * 2 + 1, none⟩ (.slice none 0 0)) := (HEA.out.2.1.trans (Keep.of_below (HO.out.1.mono (Nat.le_refl _)) ok)).set (.inr HL.out.2.2.1) _
      have HST := Aside0.mk (And.intro hst hks)
      have hne2 : (wA.heap.size = g) = False := eq_false (by omega)
      have hne3 : (g = wA.heap.size) = False := eq_false (by omega)
      clear hst hks
      go_wp2_with fail
      go_ret2
      rw [HNOW.out, HP.out.1, HP.out.2, HV.out.1]
      refine ⟨none, 0, rfl, Kd.R_nil _ _ _ _ _, ⟨HST.out.2, ⟨fun q => ok q ∨ (wA.heap.size ≤ q ∧ q < wO.heap.size), ⟨g, cap, _, HST.out.1, ?_⟩, fun q hq => hq.imp id (fun h => Nat.le_trans HEA.out.2.1.size h.1)⟩⟩⟩
      have e5 : xs1[k].a = now := HL.out.2.2.2
      rw [e5, HXX.out.2]
      unfold PV
      rw [List.map_set, List.map_set, List.set_set]
      rfl
    | some ad =>
      have hv0 : x.v = .slice (some ad) x.l.length x.c := by unfold EW.v; rw [hA]
      rw [hv0] at s1 hlim
      obtain ⟨q, hq⟩ : ∃ q, ad = ⟨q, 0, none⟩ := by
        obtain ⟨_, inner, ⟨_, h2⟩, _⟩ := hlim
        rcases h2 with ⟨h2, h3⟩ | ⟨g', cp, cur, h3, _⟩
        · injection h2 with h4; cases h4
        · injection h3 with h4; exact ⟨g', Option.some.inj h4⟩
      subst hq
      have hown := rt_own hlim q rfl
      obtain ⟨cq, htq⟩ := Kd.R_typed hlim q rfl
      have hxb := HEA.out.2.2.below HO.out.1
      have hli : LI B q w.heap.size b wA.heap.size (now) x.l.length x.c x.l [] (wA.alloc (.cells #[.slice none 0 0] 28)) :=
        ⟨rt_flat hlim (fun q2 h2 => by cases h2; rfl) (fun q2 h2 => by cases h2; exact HO.out.1.block q hown.2.2), hxb, ⟨_, HO.out.2, Kd.R_nil _ _ _ _ _⟩, hown.2.2, blk_lt HEA.out.2.2.box, HEA.out.1.okw b HEA.out.1.okb⟩
      have hX := delete_any B q w.heap.size b wA.heap.size (now) x.c x.l [] _ hli (fun e => by have h2 := HEA.out.2.2.box; rw [e, htq] at h2; cases h2) (fun e => by have h2 := HEA.out.1.node; rw [e, htq] at h2; cases h2) (by rw [HXX.out.1]; have := HF.out.2.1; simp; omega) (by rw [HXX.out.1]; intro y hy; have := HF.out.1 y hy; omega) (by omega)
      have HX := Aside0.mk hX
      have HV := Aside0.mk (And.intro hv0 (And.intro hown (And.intro (show g ≠ q from fun e => by obtain ⟨C, h2, _⟩ := HEA.out.1.row; rw [e, htq] at h2; cases h2) hA)))
      clear hlim hv0 hown htq hxb hli hX hA
      have hmf : ∀ (fn : Fn) (first cap : Array Value) (w : World), (Instr.makeFunc fn first cap).run Try.prog w = .ok (.func fn first cap) w := fun _ _ _ _ => rfl
      go_wp2_with fail
      try rw [← HSZ.out]
      refine HX.out.mono ?_
      rintro e w' ⟨rfl, hR, hout, hkp⟩
      have hblk : ∀ q', q' < wA.heap.size → q' ≠ q → w'.heap[q']? = wA.heap[q']? := fun q' h2 h3 => (hkp.block q' (Nat.lt_of_lt_of_le h2 HO.out.1.size) (fun h4 => h4.elim h3 (fun h5 => by omega))).trans (HO.out.1.block q' h2)
      have hz : wA.heap.size ≤ w'.heap.size := Nat.le_trans HO.out.1.size hkp.size
      have hvo : xs1[k].v.ownBlock = some q := by rw [HL.out.1, HV.out.1]; rfl
      have hst := HEA.out.1.setL (w1 := w') hk2 (l := left (now) x.l) (A := some ⟨q, 0, none⟩) (c := x.c) (rt_flat hR (fun q2 h2 => by cases h2; exact .inl hvo) (fun _ _ => rfl)) hz (fun q' h2 h3 => hblk q' h2 (fun e => h3 (e ▸ hvo)))
      have hkA : Keep ok wA w' := ⟨hkp.os.trans HO.out.1.os, hkp.tape.trans HO.out.1.tape, hkp.output.trans HO.out.1.output, hz, fun q' h2 h3 => hblk q' h2 (fun e => h3 (e ▸ HV.out.2.1.1))⟩
      have hks : Keep ok w (w'.setCell ⟨g, k * 2 + 1, none⟩ (.slice (some ⟨q, 0, none⟩) (left (now) x.l).length x.c)) := (HEA.out.2.1.trans hkA).set (.inr HL.out.2.2.1) _
      obtain ⟨C, hC1, hC2⟩ := HEA.out.1.row
      have hg9 := (hblk g hgA HV.out.2.2.1).trans hC1
      have z9 := blk_frozen hg9 (k * 2 + 1)
      have c9 : w'.cell? ⟨g, k * 2 + 1, none⟩ = some (.slice (some ⟨q, 0, none⟩) x.l.length x.c) := (blk_cell hg9 _).trans ((hC2 k hk2).2.trans (by rw [HL.out.1, HV.out.1]))
      obtain ⟨vo, ho1, ho2⟩ := hout
      have d0 := blk_cell ho1 0
      obtain ⟨Ao, co, rfl⟩ := Kd.R_slice ho2
      have HST := Aside0.mk (And.intro hst (And.intro hks ho2))
      have hne2 : (wA.heap.size = g) = False := eq_false (by omega)
      have hne3 : (g = wA.heap.size) = False := eq_false (by omega)
      clear hst hks HX hR hkp hblk hz hvo hkA hC1 hC2 hg9 ho1 ho2
      generalize hLL : ([] ++ goneT (now) x.l : List Int) = LL at HST d0
      have HLL := Aside0.mk hLL
      clear hLL
      go_wp2_with fail
      go_ret2
      rw [HNOW.out, HP.out.1, HP.out.2]
      have hLL : LL = goneT (now) x.l := by rw [← HLL.out, List.nil_append]
      subst hLL
      refine ⟨Ao, co, rfl, nums_flat (Kd.R_lower HST.out.2.2 (by have := HEA.out.2.1.size; omega)) (fun _ _ => trivial) (fun q2 h2 => Below.heap_setCell w' ⟨g, k * 2 + 1, none⟩ _ q2 (by have := (nums_own HST.out.2.2 q2 h2).2.1; simp; omega)), ⟨HST.out.2.1, ⟨fun q' => ok q' ∨ (wA.heap.size ≤ q' ∧ q' < w'.heap.size), ⟨g, cap, _, HST.out.1, ?_⟩, fun q hq => hq.imp id (fun h => Nat.le_trans HEA.out.2.1.size h.1)⟩⟩⟩
      have e5 : xs1[k].a = now := HL.out.2.2.2
      rw [e5, HXX.out.2]
      unfold PV
      rw [List.map_set, List.map_set, List.set_set]
  | false =>
    have hnow : nowP now (PV xs) k = now + 1 := by unfold nowP; rw [HQ.out.1, HQ.out.2, ← HXX.out.2, hany, if_neg (by simp)]
    go_upto_region 8 with fail
    clear q0 n0 n1 nz
    have hX3 : XB w.heap.size b (now + 1) (w2.setCell ⟨b, 0, none⟩ (.int .i64 (now + 1))) := ⟨(Below.heap_setCell w2 ⟨b, 0, none⟩ _ w.heap.size (by have := HF.out.2.2.2; simp; omega)).trans HE2.out.2.2.box, (HE2.out.1.setNow (now + 1)).now_.1⟩
    have HX3 := Aside0.mk hX3
    clear hX3
    have HP := Aside0.mk (show outP now (PV xs) k = goneT (now + 1) x.l ∧ annP now (PV xs) k = (PV xs).set k (now, left (now + 1) x.l) from by unfold outP annP; rw [hnow, HQ.out.1, HXX.out.1]; exact ⟨rfl, rfl⟩)
    have HNOW := Aside0.mk hnow
    clear hnow hany
    have HEA := Aside0.mk (And.intro (HE2.out.1.setNow (now + 1)) (And.intro (show Keep ok w (w2.setCell ⟨b, 0, none⟩ (.int .i64 (now + 1))) from HE2.out.2.1.set (p := ⟨b, 0, none⟩) (.inr HE2.out.1.okb) _) HX3.out))
    obtain ⟨wA, hwA⟩ : ∃ wA, wA = (w2.setCell ⟨b, 0, none⟩ (.int .i64 (now + 1))) := ⟨_, rfl⟩
    have HSZ := Aside0.mk (show wA.heap.size = w2.heap.size from by rw [hwA]; try simp [World.setCell])
    rw [← hwA] at HEA ⊢
    clear hwA
    have hba := (Below.refl wA.heap.size wA).alloc (Nat.le_refl _) (.cells #[.slice none 0 0] 28)
    have hoa := alloc_blk wA (.cells #[.slice none 0 0] 28)
    have HO := Aside0.mk (And.intro hba hoa)
    have hEo := HEA.out.1.below hba
    obtain ⟨s0, s1, z0, z1⟩ := hEo.at_ hk2
    rw [HL.out.1] at s1
    have HEo := Aside0.mk hEo
    have hlim := HEA.out.1.lim k hk2
    rw [HL.out.1, HL.out.2.1] at hlim
    have hgA := HEA.out.1.okw g HL.out.2.2.1
    have q0 := blk_cell (HEA.out.2.2.below hba).box 0
    clear s0 z0 hba hoa hEo
    cases hA : x.A with
    | none =>
      obtain ⟨hl0, hc0⟩ : x.l = [] ∧ x.c = 0 := by
        unfold EW.v at hlim
        rw [hA] at hlim
        obtain ⟨_, inner, ⟨_, h2⟩, _⟩ := hlim
        rcases h2 with ⟨h2, h3⟩ | ⟨g', cp, cur, h3, _⟩
        · injection h2 with _ h4 h5; exact ⟨List.eq_nil_of_length_eq_zero h4, h5⟩
        · injection h3 with h4; cases h4
      have hv0 : x.v = .slice none 0 0 := by unfold EW.v; rw [hA, hl0, hc0]; rfl
      rw [hv0] at s1
      have HV := Aside0.mk (And.intro hl0 hv0)
      have HX := Aside0.mk (delete_nil w.heap.size wA.heap.size (wA.alloc (.cells #[.slice none 0 0] 28)))
      have d0 := blk_cell HO.out.2 0
      clear hlim hl0 hc0 hv0 hA
      go_wp2_with fail
      try rw [← HSZ.out]
      refine HX.out.mono ?_
      rintro e w' ⟨rfl, rfl⟩
      obtain ⟨wO, hwO⟩ : ∃ wO, wO = wA.alloc (.cells #[.slice none 0 0] 28) := ⟨_, rfl⟩
      clear HX
      rw [← hwO] at HO HEo s1 z1 d0 q0 ⊢
      clear hwO
      have hst := HEA.out.1.setL (w1 := wO) hk2 (l := []) (A := none) (c := 0) (Kd.R_nil _ _ _ _ _) HO.out.1.size (fun q hq _ => HO.out.1.block q hq)
      have hks : Keep ok w (wO.setCell ⟨g, k * 2 + 1, none⟩ (.slice none 0 0)) := (HEA.out.2.1.trans (Keep.of_below (HO.out.1.mono (Nat.le_refl _)) ok)).set (.inr HL.out.2.2.1) _
      have HST := Aside0.mk (And.intro hst hks)
      have hne2 : (wA.heap.size = g) = False := eq_false (by omega)
      have hne3 : (g = wA.heap.size) = False := eq_false (by omega)
      clear hst hks
      go_wp2_with fail
      go_ret2
      rw [HNOW.out, HP.out.1, HP.out.2, HV.out.1]
      refine ⟨none, 0, rfl, Kd.R_nil _ _ _ _ _, ⟨HST.out.2, ⟨fun q => ok q ∨ (wA.heap.size ≤ q ∧ q < wO.heap.size), ⟨g, cap, _, HST.out.1, ?_⟩, fun q hq => hq.imp id (fun h => Nat.le_trans HEA.out.2.1.size h.1)⟩⟩⟩
      have e5 : xs1[k].a = now := HL.out.2.2.2
      rw [e5, HXX.out.2]
      unfold PV
      rw [List.map_set, List.map_set, List.set_set]
      rfl
    | some ad =>
      have hv0 : x.v = .slice (some ad) x.l.length x.c := by unfold EW.v; rw [hA]
      rw [hv0] at s1 hlim
      obtain ⟨q, hq⟩ : ∃ q, ad = ⟨q, 0, none⟩ := by
        obtain ⟨_, inner, ⟨_, h2⟩, _⟩ := hlim
        rcases h2 with ⟨h2, h3⟩ | ⟨g', cp, cur, h3, _⟩
        · injection h2 with h4; cases h4
        · injection h3 with h4; exact ⟨g', Option.some.inj h4⟩
      subst hq
      have hown := rt_own hlim q rfl
      obtain ⟨cq, htq⟩ := Kd.R_typed hlim q rfl
      have hxb := HEA.out.2.2.below HO.out.1
      have hli : LI B q w.heap.size b wA.heap.size (now + 1) x.l.length x.c x.l [] (wA.alloc (.cells #[.slice none 0 0] 28)) :=
        ⟨rt_flat hlim (fun q2 h2 => by cases h2; rfl) (fun q2 h2 => by cases h2; exact HO.out.1.block q hown.2.2), hxb, ⟨_, HO.out.2, Kd.R_nil _ _ _ _ _⟩, hown.2.2, blk_lt HEA.out.2.2.box, HEA.out.1.okw b HEA.out.1.okb⟩
      have hX := delete_any B q w.heap.size b wA.heap.size (now + 1) x.c x.l [] _ hli (fun e => by have h2 := HEA.out.2.2.box; rw [e, htq] at h2; cases h2) (fun e => by have h2 := HEA.out.1.node; rw [e, htq] at h2; cases h2) (by rw [HXX.out.1]; have := HF.out.2.1; simp; omega) (by rw [HXX.out.1]; intro y hy; have := HF.out.1 y hy; omega) (by omega)
      have HX := Aside0.mk hX
      have HV := Aside0.mk (And.intro hv0 (And.intro hown (And.intro (show g ≠ q from fun e => by obtain ⟨C, h2, _⟩ := HEA.out.1.row; rw [e, htq] at h2; cases h2) hA)))
      clear hlim hv0 hown htq hxb hli hX hA
      have hmf : ∀ (fn : Fn) (first cap : Array Value) (w : World), (Instr.makeFunc fn first cap).run Try.prog w = .ok (.func fn first cap) w := fun _ _ _ _ => rfl
      go_wp2_with fail
      try rw [← HSZ.out]
      refine HX.out.mono ?_
      rintro e w' ⟨rfl, hR, hout, hkp⟩
      have hblk : ∀ q', q' < wA.heap.size → q' ≠ q → w'.heap[q']? = wA.heap[q']? := fun q' h2 h3 => (hkp.block q' (Nat.lt_of_lt_of_le h2 HO.out.1.size) (fun h4 => h4.elim h3 (fun h5 => by omega))).trans (HO.out.1.block q' h2)
      have hz : wA.heap.size ≤ w'.heap.size := Nat.le_trans HO.out.1.size hkp.size
      have hvo : xs1[k].v.ownBlock = some q := by rw [HL.out.1, HV.out.1]; rfl
      have hst := HEA.out.1.setL (w1 := w') hk2 (l := left (now + 1) x.l) (A := some ⟨q, 0, none⟩) (c := x.c) (rt_flat hR (fun q2 h2 => by cases h2; exact .inl hvo) (fun _ _ => rfl)) hz (fun q' h2 h3 => hblk q' h2 (fun e => h3 (e ▸ hvo)))
      have hkA : Keep ok wA w' := ⟨hkp.os.trans HO.out.1.os, hkp.tape.trans HO.out.1.tape, hkp.output.trans HO.out.1.output, hz, fun q' h2 h3 => hblk q' h2 (fun e => h3 (e ▸ HV.out.2.1.1))⟩
      have hks : Keep ok w (w'.setCell ⟨g, k * 2 + 1, none⟩ (.slice (some ⟨q, 0, none⟩) (left (now + 1) x.l).length x.c)) := (HEA.out.2.1.trans hkA).set (.inr HL.out.2.2.1) _
      obtain ⟨C, hC1, hC2⟩ := HEA.out.1.row
      have hg9 := (hblk g hgA HV.out.2.2.1).trans hC1
      have z9 := blk_frozen hg9 (k * 2 + 1)
      have c9 : w'.cell? ⟨g, k * 2 + 1, none⟩ = some (.slice (some ⟨q, 0, none⟩) x.l.length x.c) := (blk_cell hg9 _).trans ((hC2 k hk2).2.trans (by rw [HL.out.1, HV.out.1]))
      obtain ⟨vo, ho1, ho2⟩ := hout
      have d0 := blk_cell ho1 0
      obtain ⟨Ao, co, rfl⟩ := Kd.R_slice ho2
      have HST := Aside0.mk (And.intro hst (And.intro hks ho2))
      have hne2 : (wA.heap.size = g) = False := eq_false (by omega)
      have hne3 : (g = wA.heap.size) = False := eq_false (by omega)
      clear hst hks HX hR hkp hblk hz hvo hkA hC1 hC2 hg9 ho1 ho2
      generalize hLL : ([] ++ goneT (now + 1) x.l : List Int) = LL at HST d0
      have HLL := Aside0.mk hLL
      clear hLL
      go_wp2_with fail
      go_ret2
      rw [HNOW.out, HP.out.1, HP.out.2]
      have hLL : LL = goneT (now + 1) x.l := by rw [← HLL.out, List.nil_append]
      subst hLL
      refine ⟨Ao, co, rfl, nums_flat (Kd.R_lower HST.out.2.2 (by have := HEA.out.2.1.size; omega)) (fun _ _ => trivial) (fun q2 h2 => Below.heap_setCell w' ⟨g, k * 2 + 1, none⟩ _ q2 (by have := (nums_own HST.out.2.2 q2 h2).2.1; simp; omega)), ⟨HST.out.2.1, ⟨fun q' => ok q' ∨ (wA.heap.size ≤ q' ∧ q' < w'.heap.size), ⟨g, cap, _, HST.out.1, ?_⟩, fun q hq => hq.imp id (fun h => Nat.le_trans HEA.out.2.1.size h.1)⟩⟩⟩
      have e5 : xs1[k].a = now := HL.out.2.2.2
      rw [e5, HXX.out.2]
      unfold PV
      rw [List.map_set, List.map_set, List.set_set]
#print axioms Announce_in
end Go.Proofs.Ythbooikhegppnaa.H
