/- Announce's closures and the loops of package slices that call them, walked. -/
import Derived.Test.YthbooikhegppnaaEpD
set_option linter.unusedVariables false
set_option linter.unusedSimpArgs false
namespace Go.Proofs.Ythbooikhegppnaa.H
open Go.RowKit Go.Hay Go.Proofs.YthbooikhegppnaaW.PrintWords Go.Proofs.YthbooikhegppnaaW.PrintLast Go.Proofs.YthbooikhegppnaaW.PrintMore
/-- the box of x, and the epoch. -/
structure XB (p b : Nat) (now : Int) (w : World) : Prop where
  box : w.heap[p]? = some (.cells #[.pointer (some ⟨b, 0, none⟩)] 23 (0, 0))
  now : w.cell? ⟨b, 0, none⟩ = some (.int .i64 now)
theorem XB.below {p b : Nat} {now : Int} {w w' : World} (h : XB p b now w) (hb : Below w.heap.size w w') : XB p b now w' :=
  ⟨(hb.block _ (blk_lt h.box)).trans h.box, (hb.cell (World.block_lt_of_cell? w _ h.now)).trans h.now⟩
theorem XB.keep {p b : Nat} {now : Int} {w w' : World} (h : XB p b now w) (hp : w'.heap[p]? = w.heap[p]?) (hb : w'.heap[b]? = w.heap[b]?) : XB p b now w' :=
  ⟨hp.trans h.box, (World.cell?_of_block (a := ⟨b, 0, none⟩) hb).trans h.now⟩
set_option maxRecDepth 100000 in
theorem c21_any (a : Int) (A : Option Addr) (n c p b : Nat) (now : Int) (w : World) (h : XB p b now w) :
    Calls Try.prog 21 #[.agg #[.int .i64 a, .slice A n c], .pointer (some ⟨p, 0, none⟩)] w fun e w' => e = .returned (.bool (a != now)) ∧ Below w.heap.size w w' := by
  have hb1 := (Below.refl w.heap.size w).alloc (Nat.le_refl _) (.cells #[.int .i64 a, .slice A n c] 58)
  have h1 := h.below hb1
  have q0 := blk_cell h1.box 0
  have q1 := h1.now
  have q2 := blk_cell (alloc_blk w (.cells #[.int .i64 a, .slice A n c] 58)) 0
  have HB := Aside0.mk hb1
  clear h h1 hb1
  go_enter Try.func21, Try.ntmps21
  go_wp2_with fail
  go_quiet (fail)
  go_wp2_with fail
  go_ret
  exact ⟨rfl, pw_below_drewN HB.out _⟩
theorem any_take {α : Type} (p : α → Bool) (xs : List α) (i : Nat) (h : i < xs.length) : (xs.take (i + 1)).any p = ((xs.take i).any p || p xs[i]) := by
  rw [List.take_succ_eq_append_getElem h, List.any_append]; simp
set_option maxRecDepth 100000 in
set_option maxHeartbeats 4000000 in
theorem index24_any {ok : Nat → Prop} {B b g cap : Nat} {now : Int} {xs : List EW} {w : World} (p : Nat) (hE : EpI ok B b g cap now xs w) (hX : XB p b now w) (hn : xs.length ≤ 1000) :
    Calls Try.prog 24 #[.slice (some ⟨g, 0, none⟩) xs.length cap, .func (.func 21) #[] #[.pointer (some ⟨p, 0, none⟩)]] w fun e w' => (∃ r : Int, e = .returned (.int .i64 r) ∧ decide (0 ≤ r) = xs.any (fun x => x.a != now)) ∧ Below w.heap.size w w' := by
  have HE := Aside0.mk (And.intro hE hX)
  have HW := Aside0.mk (Below.refl w.heap.size w)
  clear hE hX
  go_enter Try.func24, Try.ntmps24
  go_wp2_with fail
  go_loopw [8] (fun v8 wr => ∃ (i : Nat), v8 = .int .i64 i ∧ i ≤ xs.length ∧ Aside0 ((xs.take i).any (fun x => x.a != now) = false) ∧ Aside0 (Below w.heap.size w wr)) (fun v8 _ => xs.length - (intOf v8).toNat)
  case atStart => exact ⟨0, rfl, Nat.zero_le _, ⟨rfl⟩, HW⟩
  case round =>
    obtain ⟨i, rfl, hi, HN, HD⟩ := hrel
    by_cases hlt : i < xs.length
    · have hat := (HE.out.1.below HD.out).at_ hlt
      have hany := any_take (fun x : EW => x.a != now) xs i hlt
      rw [HN.out, Bool.false_or] at hany
      have HANY := Aside0.mk hany
      obtain ⟨h0, h1, -, -⟩ := hat
      unfold EW.v at h1
      clear hany
      generalize xs[i].a = a at h0 HANY
      generalize xs[i].A = A at h1
      generalize xs[i].l.length = m at h1
      generalize xs[i].c = c at h1
      have HC := Aside0.mk (c21_any a A m c p b now wr (HE.out.2.below HD.out))
      go_wp2_with fail
      refine HC.out.mono ?_
      rintro e w2 ⟨rfl, hd⟩
      have HD2 := Aside0.mk (HD.out.trans (hd.mono HD.out.size))
      clear hd h0 h1 HD HC
      cases hb : (a != now) with
      | true =>
        have hf : xs.any (fun x => x.a != now) = true := by
          rw [hb] at HANY
          obtain ⟨x, hx, hx2⟩ := List.any_eq_true.1 HANY.out
          exact List.any_eq_true.2 ⟨x, List.mem_of_mem_take hx, hx2⟩
        have HF := Aside0.mk hf
        clear hf HN hb HANY
        go_wp2_with fail
        go_ret
        exact ⟨⟨i, rfl, by rw [HF.out]; simp⟩, HD2.out⟩
      | false =>
        rw [hb] at HANY
        clear HN hb
        go_wp2_with fail
        go_roundw
        case rel => exact ⟨i + 1, by go_num, by omega, HANY, HD2⟩
        case measure => simp [intOf]; omega
    · obtain rfl : i = xs.length := by omega
      rw [List.take_length] at HN
      clear hlt
      go_wp2_with fail
      go_ret
      exact ⟨⟨-1, rfl, by rw [HN.out]; rfl⟩, HD.out⟩
set_option maxRecDepth 100000 in
theorem contains20_any {ok : Nat → Prop} {B b g cap : Nat} {now : Int} {xs : List EW} {w : World} (p : Nat) (hE : EpI ok B b g cap now xs w) (hX : XB p b now w) (hn : xs.length ≤ 1000) :
    Calls Try.prog 20 #[.slice (some ⟨g, 0, none⟩) xs.length cap, .func (.func 21) #[] #[.pointer (some ⟨p, 0, none⟩)]] w fun e w' => e = .returned (.bool (xs.any (fun x => x.a != now))) ∧ Below w.heap.size w w' := by
  have HX := Aside0.mk (index24_any p hE hX hn)
  clear hE hX
  go_enter Try.func20, Try.ntmps20
  go_wp2_with fail
  refine HX.out.mono ?_
  rintro e w' ⟨⟨r, rfl, hr⟩, hb⟩
  have HR := Aside0.mk hr
  have HB := Aside0.mk hb
  clear hr hb HX
  go_wp2_with fail
  go_ret
  exact ⟨by rw [← HR.out]; rfl, HB.out⟩
/-! ### what goes -/
/-- what is told so far: a box with a row. -/
def OutI (o : Nat) (out : List Int) (w : World) : Prop := ∃ v, w.heap[o]? = some (.cells #[v] 28 (0, 0)) ∧ (Kd.int .i64).R 3 w (o + 1) (fun _ => True) v out
theorem OutI.below {o : Nat} {out : List Int} {w w' : World} (h : OutI o out w) (hb : Below w.heap.size w w') : OutI o out w' := by
  obtain ⟨v, h1, h2⟩ := h
  exact ⟨v, (hb.block _ (blk_lt h1)).trans h1, nums_flat h2 (fun _ _ => trivial) (fun b hb2 => hb.block b (nums_own h2 b hb2).2.2)⟩
theorem OutI.keep {o : Nat} {out : List Int} {w w' : World} {S : Nat → Prop} (h : OutI o out w) (hk : Keep S w w') (hS : ∀ k, o ≤ k → ¬ S k) : OutI o out w' := by
  obtain ⟨v, h1, h2⟩ := h
  exact ⟨v, (hk.block _ (blk_lt h1) (hS o (Nat.le_refl _))).trans h1, nums_flat h2 (fun _ _ => trivial) (fun b hb2 => hk.block b (nums_own h2 b hb2).2.2 (hS b (by have := (nums_own h2 b hb2).2.1; omega)))⟩
theorem OutI.lt {o : Nat} {out : List Int} {w : World} (h : OutI o out w) : o < w.heap.size := by
  obtain ⟨v, h1, _⟩ := h; exact blk_lt h1
theorem keep62 {w w1 w9 : World} {o : Nat} {C0 : Array Value} {v : Value} {out : List Int} (hb : Below w.heap.size w w1) (ho : w1.heap[o]? = some (.cells C0 28 (0, 0))) (hR : (Kd.int .i64).R 3 w1 (o + 1) (fun _ => True) v out) (hg : w1.grownBy w9 v.ownBlock) {k : Nat} {C : Array Value} (hk0 : w.heap[k]? = some (.cells C 62 (0, 0))) (u : Value) :
    (w9.setCell ⟨o, 0, none⟩ u).heap[k]? = some (.cells C 62 (0, 0)) := by
  have hk := (hb.block k (blk_lt hk0)).trans hk0
  refine (Below.heap_setCell w9 ⟨o, 0, none⟩ u k (fun e => ?_)).trans ((hg.block k (blk_lt hk) (fun e => ?_)).trans hk)
  · rw [e, ho] at hk; cases hk
  · obtain ⟨cs, h4⟩ := Kd.R_typed hR k e.symm
    rw [hk] at h4; cases h4
def readyB (now : Int) (x : Rt) : Bool := decide (2 ≤ now - x.at_)
set_option maxRecDepth 100000 in
set_option maxHeartbeats 4000000 in
theorem c23_any (x : Rt) (p b o : Nat) (now : Int) (out : List Int) (w : World) (h : XB p b now w) (hO : OutI o out w) (hl : out.length ≤ 1000000) (h0 : 0 ≤ x.at_) (h1 : x.at_ ≤ now) (h2 : now ≤ 1000000000) :
    Calls Try.prog 23 #[.agg #[.int .i64 x.t, .int .i64 x.at_], .pointer (some ⟨p, 0, none⟩), .pointer (some ⟨o, 0, none⟩)] w fun e w' => e = .returned (.bool (readyB now x)) ∧ OutI o (if readyB now x = true then out ++ [x.t] else out) w' ∧ Below o w w' ∧ ∀ (k : Nat) (C : Array Value), w.heap[k]? = some (Obj.cells C 62 (0, 0)) → w'.heap[k]? = some (Obj.cells C 62 (0, 0)) := by
  have hb1 := (Below.refl w.heap.size w).alloc (Nat.le_refl _) (.cells #[.int .i64 x.t, .int .i64 x.at_] 62)
  have hX := h.below hb1
  have ha := alloc_blk w (.cells #[.int .i64 x.t, .int .i64 x.at_] 62)
  have q0 := blk_cell hX.box 0
  have q1 := hX.now
  have q2 := blk_cell ha 0
  have q3 := blk_cell ha 1
  have HB := Aside0.mk (And.intro hb1 (And.intro (hO.below hb1) ha))
  have HL := Aside0.mk (And.intro hl hO.lt)
  clear h hX hb1 ha hO hl
  cases hr : readyB now x with
  | true =>
    have hr' : (2 ≤ now - x.at_) = True := eq_true (by simpa [readyB] using hr)
    clear hr
    go_enter Try.func23, Try.ntmps23
    go_wp2_with fail
    go_quiet (fail)
    clear q0 q1 q2 q3 hr'
    obtain ⟨w1, hw1⟩ : ∃ w1, w1 = (w.alloc (.cells #[.int .i64 x.t, .int .i64 x.at_] 62)).drewN nq := ⟨_, rfl⟩
    rw [← hw1]
    obtain ⟨v, hv1, hv2⟩ := HB.out.2.1
    have hv1 : w1.heap[o]? = some (.cells #[v] 28 (0, 0)) := by rw [hw1]; exact hv1
    have hv2 : (Kd.int .i64).R 3 w1 (o + 1) (fun _ => True) v out := by rw [hw1]; exact Kd.R_drewN hv2 _
    have hba : Below w.heap.size w w1 := by rw [hw1]; exact pw_below_drewN HB.out.1 _
    have hxa : w1.heap[w.heap.size]? = some (.cells #[.int .i64 x.t, .int .i64 x.at_] 62 (0, 0)) := by rw [hw1]; exact HB.out.2.2
    have q2 := blk_cell hxa 0
    have q0 := blk_cell hv1 0
    obtain ⟨A, c, rfl⟩ := Kd.R_slice hv2
    have HV := Aside0.mk (And.intro hv1 (And.intro hv2 hba))
    clear hw1 hv1 hv2 hba hxa HB
    go_wp2_with (first | ((with_reducible refine gate_builtin (b := .append) (xs := #[.tmp 15, .tmp 18]) rfl ?_); refine Kd.R_append (Kd.int .i64) (w0 := w1) (o + 1) rfl (.tmp 15) (.tmp 18) 28 3 (.int .i64 0) 8 rfl Try.underlying28 info3 rfl (by decide) (by omega) (.slice A out.length c) out x.t [.int .i64 x.t] (fun _ => True) (fun _ => False) rfl (by first | (go_simp; done) | (go_simp; rfl)) ?aP (fun _ hk => hk.elim) ?aF ?aO ?aB ?aS ?aL ?_; (case aP => rfl); (case aF => exact (fun _ _ => trivial)); (case aO => exact HV.out.2.1); (case aB => exact Below.refl _ _); (case aS => exact blk_lt HV.out.1); (case aL => have := HL.out.1; omega); intro v9 w9 hR9 hb9 hg9 hat9; have hn9 := (hb9.block _ (Nat.lt_succ_self o)).trans HV.out.1; have d9 := blk_cell hn9 0; have z9 := blk_frozen hn9 0; obtain ⟨A9, c9, rfl⟩ := Kd.R_slice hR9; have HP := Aside0.mk (show OutI o (out ++ [x.t]) (w9.setCell ⟨o, 0, none⟩ (.slice A9 (out ++ [x.t]).length c9)) ∧ Below o w (w9.setCell ⟨o, 0, none⟩ (.slice A9 (out ++ [x.t]).length c9)) ∧ ∀ (k : Nat) (C : Array Value), w.heap[k]? = some (Obj.cells C 62 (0, 0)) → (w9.setCell ⟨o, 0, none⟩ (.slice A9 (out ++ [x.t]).length c9)).heap[k]? = some (.cells C 62 (0, 0)) from ⟨⟨_, blk_set hn9 0 _, nums_flat hR9 (fun _ _ => trivial) (fun q hq => Below.heap_setCell w9 ⟨o, 0, none⟩ _ q (by have := (nums_own hR9 q hq).2.1; simp; omega))⟩, (((HV.out.2.2.mono (Nat.le_of_lt HL.out.2)).trans (hb9.mono (Nat.le_succ o))).setCell (Nat.le_refl _) _), fun k C hk0 => keep62 (HV.out.2.2) HV.out.1 HV.out.2.1 hg9 hk0 _⟩); rw [show (out ++ [x.t]).length = out.length + 1 from List.length_append ..] at HP; clear hR9 hb9 hg9 hat9 hn9 q0))
    go_ret
    exact ⟨rfl, HP.out.1, HP.out.2.1, HP.out.2.2⟩
  | false =>
    have hr' : (2 ≤ now - x.at_) = False := eq_false (by simpa [readyB] using hr)
    clear hr
    go_enter Try.func23, Try.ntmps23
    go_wp2_with fail
    go_quiet (fail)
    go_wp2_with fail
    go_ret
    exact ⟨rfl, HB.out.2.1.below (pw_below_drewN (Below.refl _ _) _), (pw_below_drewN HB.out.1 _).mono (Nat.le_of_lt HL.out.2), fun k C hk => ((pw_below_drewN HB.out.1 _).block k (blk_lt hk)).trans hk⟩
#print axioms c23_any
end Go.Proofs.Ythbooikhegppnaa.H
