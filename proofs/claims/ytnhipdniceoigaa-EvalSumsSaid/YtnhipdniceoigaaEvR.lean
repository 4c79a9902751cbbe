/- A task's run. -/
import Derived.Test.YtnhipdniceoigaaEvX
import Derived.Deep.LoopGhost
set_option linter.unusedVariables false
set_option linter.unusedSimpArgs false
namespace Go.Proofs.Ytnhipdniceoigaa.H
open Go.RowKit Go.Hay Go.Proofs.YtnhipdniceoigaaW.PrintWords Go.Proofs.YtnhipdniceoigaaW.PrintLast Go.Proofs.YtnhipdniceoigaaW.PrintMore
/-- what is fixed in a task's run. -/
structure Rn (c : Cn) (l : List S58) (M : Nat) (tb : Nat) (A : Option Addr) (cp : Nat) (path : List Int) (f : Nat) (code : List S55) (Ac : Option Addr) (cc me : Nat) : Prop where
  hl : POk l
  hlo : c.w0.heap.size ≤ tb
  hM : M ≤ 1000000
  hdp : c.depth ≤ 900
  hb : 0 ≤ c.budget ∧ c.budget ≤ 1000000
  hcp : path.length ≤ cp
  hcn : A = none → cp = 0
  hf : ∃ h : f < l.length, code = l[f].f1
  hc : k55.C c.w0 Ac code.length code
  hcc : code.length ≤ cc
/-- a round's beginning. -/
def RunI (c : Cn) (l : List S58) (M tb : Nat) (A : Option Addr) (cp : Nat) (path : List Int) (code : List S55) (me mb : Nat) (S : Nat → Prop) (w : World) (r : Out × Gs) (gk : Nat) (wr : World) : Prop :=
  ∃ (T : Ts) (G : Gs) (ents : List Ent) (vt vl vw : Value), ES c l G ents vt vl wr ∧ TB tb c.wb (.slice A path.length cp) T vw me c.B wr ∧ GInv M c.budget G ∧ TInv code c.depth path me T G ∧ G.left < gk ∧ Keep S w wr ∧ (∀ q, PA c tb vt vl vw q → S q ∨ w.heap.size ≤ q) ∧ DeedAt mb wr ∧ PathAt wr A path ∧ runP l c.budget c.depth gk G path code me T = r
/-- what a run comes to. -/
def RunP (c : Cn) (l : List S58) (S : Nat → Prop) (r : Out × Gs) (w : World) (e : Ending) (w' : World) : Prop := EndP c l S r.1 r.2 w e w'
section
variable {c : Cn} {l : List S58} {M k tb cp f cc me : Nat} {A Ac : Option Addr} {path : List Int} {G : Gs} {ents : List Ent} {vt vl vw : Value} {w : World} {T : Ts} {code : List S55}
theorem runP_go {b d : Int} {x : S55} {T' : Ts} {G' : Gs} {gk : Nat} (h1 : (G.log.getD me ([], 0)).2 ≠ b) (h2 : G.left ≠ 0) (hx : rd_T55 code T.at_ = x) (h3 : x.f0 ≠ 17) (hs : stepP l d (runP l b d gk) path x { T with at_ := T.at_ + 1 } { G with left := G.left - 1, log := bump G.log me } = .go T' G') : runP l b d (gk + 1) G path code me T = runP l b d gk G' path code me T' := by
  rw [runP.eq_2, if_neg h1, if_neg h2, hx, if_neg h3, hs]
theorem runP_stop {b d : Int} {x : S55} {o : Out} {G' : Gs} {gk : Nat} (h1 : (G.log.getD me ([], 0)).2 ≠ b) (h2 : G.left ≠ 0) (hx : rd_T55 code T.at_ = x) (h3 : x.f0 ≠ 17) (hs : stepP l d (runP l b d gk) path x { T with at_ := T.at_ + 1 } { G with left := G.left - 1, log := bump G.log me } = .stop o G') : runP l b d (gk + 1) G path code me T = (o, G') := by
  rw [runP.eq_2, if_neg h1, if_neg h2, hx, if_neg h3, hs]
theorem runP_ret {b d : Int} {x : S55} {gk : Nat} (h1 : (G.log.getD me ([], 0)).2 ≠ b) (h2 : G.left ≠ 0) (hx : rd_T55 code T.at_ = x) (h3 : x.f0 = 17) : runP l b d (gk + 1) G path code me T = (.val (rg (syncP { T with at_ := T.at_ + 1 }) x.f1), { G with left := G.left - 1, log := bump G.log me }) := by
  rw [runP.eq_2, if_neg h1, if_neg h2, hx, if_pos h3]
theorem stepP_noval {d : Int} {rec : Gs → List Int → List S55 → Nat → Ts → Out × Gs} {x : S55} {o : Out} {G' : Gs} (h : stepP l d rec path x T G = .stop o G') : ∀ v, o ≠ .val v := by
  unfold stepP at h
  split at h
  · split at h
    · cases h; intro v e; cases e
    · generalize rec _ _ _ _ _ = r at h
      obtain ⟨o2, G2⟩ := r
      cases o2 with
      | val v => cases h
      | fail why => cases h; intro v e; cases e
      | long => cases h; intro v e; cases e
  · split at h
    · cases h
    · split at h
      · cases h
      · cases h; intro v e; cases e
theorem deed_enter {op : Int} (h : 1 ≤ op ∧ op ≤ 16) (args : Array Value) (w : World) : (callFunc (deedF op) args).run Try.prog w = .ok (.enter (deedF op) args) w := by
  have hcases : op = 1 ∨ op = 2 ∨ op = 3 ∨ op = 4 ∨ op = 5 ∨ op = 6 ∨ op = 7 ∨ op = 8 ∨ op = 9 ∨ op = 10 ∨ op = 11 ∨ op = 12 ∨ op = 13 ∨ op = 14 ∨ op = 15 ∨ op = 16 := by omega
  rcases hcases with rfl | rfl | rfl | rfl | rfl | rfl | rfl | rfl | rfl | rfl | rfl | rfl | rfl | rfl | rfl | rfl
  · rw [deedF_1]; exact Try.call38 args w
  · rw [deedF_2]; exact Try.call39 args w
  · rw [deedF_3]; exact Try.call40 args w
  · rw [deedF_4]; exact Try.call41 args w
  · rw [deedF_5]; exact Try.call42 args w
  · rw [deedF_6]; exact Try.call43 args w
  · rw [deedF_7]; exact Try.call44 args w
  · rw [deedF_8]; exact Try.call45 args w
  · rw [deedF_9]; exact Try.call46 args w
  · rw [deedF_10]; exact Try.call47 args w
  · rw [deedF_11]; exact Try.call48 args w
  · rw [deedF_12]; exact Try.call34 args w
  · rw [deedF_13]; exact Try.call49 args w
  · rw [deedF_14]; exact Try.call50 args w
  · rw [deedF_15]; exact Try.call51 args w
  · rw [deedF_16]; exact Try.call52 args w
def NextInv (M : Nat) (budget depth : Int) (code : List S55) (path : List Int) (me : Nat) (G : Gs) (r : SR) : Prop :=
  match r with
  | .go T' G' => GInv M budget G' ∧ TInv code depth path me T' G' ∧ G'.left ≤ G.left
  | .stop _ _ => True
/-- any operation but ret, behind the counting. -/
theorem step_all {x : S55} (hl : POk l) (hB : BeginC c l M k) (hlo : c.w0.heap.size ≤ tb) (hgi : GInv M c.budget G) (hti : TInv code c.depth path me T G) (hM : M ≤ 1000000) (hdp : c.depth ≤ 900) (hb : 0 ≤ c.budget) (hp : PathAt w A path) (hcp : path.length ≤ cp) (hcn : A = none → cp = 0) (hx : IOk l code.length x) (hnext : x.f0 ≠ 9 → x.f0 ≠ 16 → x.f0 ≠ 17 → T.at_ + 1 < code.length) (hleft : G.log.length + 1 + G.left ≤ M) (htold : G.told.length + 1 + G.left ≤ M) (hk : G.left < k)
    (hg : ES c l G ents vt vl w) (ht : TB tb c.wb (.slice A path.length cp) { T with at_ := T.at_ + 1 } vw me c.B w) (h17 : x.f0 ≠ 17) :
    Calls Try.prog (deedF x.f0) #[.pointer (some ⟨tb, 0, none⟩), xv x] w (StepPost c l tb (.slice A path.length cp) me (PA c tb vt vl vw) (stepP l c.depth (runP l c.budget c.depth k) path x { T with at_ := T.at_ + 1 } G) w) ∧
      NextInv M c.budget c.depth code path me G (stepP l c.depth (runP l c.budget c.depth k) path x { T with at_ := T.at_ + 1 } G) := by
  by_cases h9 : x.f0 = 9
  · have hs : simple x { T with at_ := T.at_ + 1 } = .go { T with at_ := x.f4 } := by
      unfold simple
      repeat (first | rw [if_pos h9] | rw [if_neg (by omega)])
    refine ⟨?_, ?_⟩
    · rw [h9, deedF_9]
      exact (tjump_any ht x).mono fun _ _ hp => StepPost.go (stepP_go (by omega) hs) (task_go hg ht hlo hp.1 hp.2.1 hp.2.2 (.inl rfl))
    · rw [stepP_go (by omega) hs]
      exact ⟨hgi, ⟨hti.rl, hti.hl, hti.wait, hx.k (.inl h9), hti.kids, hti.wl, hti.me_, hti.path_⟩, Nat.le_refl _⟩
  by_cases h16 : x.f0 = 16
  · have hs : simple x { T with at_ := T.at_ + 1 } = .stop x.f4 := by
      unfold simple
      repeat (first | rw [if_neg (by omega)])
    refine ⟨?_, ?_⟩
    · rw [h16, deedF_16]
      exact (tfail_any ht x).mono fun _ _ hp => StepPost.stop (stepP_stop (by omega) hs) (task_stop hg hp.1 hp.2 (fun q hq => .inl hq))
    · rw [stepP_stop (by omega) hs]
      trivial
  have hti2 : TInv code c.depth path me { T with at_ := T.at_ + 1 } G := ⟨hti.rl, hti.hl, hti.wait, ⟨by have := hti.at_; show 0 ≤ T.at_ + 1; omega, hnext h9 h16 h17⟩, hti.kids, hti.wl, hti.me_, hti.path_⟩
  refine ⟨step_any ⟨hl, hB, hlo, hgi, hti2, hM, hdp, hp, hcp, hcn, hx, hleft, hk⟩ hg ht h17, ?_⟩
  have h := step_inv hl hb (run_ok hl hb k) hx hgi hti2 hleft htold
  generalize stepP l c.depth (runP l c.budget c.depth k) path x { T with at_ := T.at_ + 1 } G = r at h ⊢
  cases r with
  | go T' G' => exact ⟨h.1, h.2.1, h.2.2.2⟩
  | stop o G' => trivial
set_option maxRecDepth 100000 in
set_option maxHeartbeats 8000000 in
theorem run_any (hR : Rn c l M tb A cp path f code Ac cc me) (hB : ∀ j, j < k → BeginC c l M j) (hg : ES c l G ents vt vl w) (ht : TB tb c.wb (.slice A path.length cp) T vw me c.B w) (hgi : GInv M c.budget G) (hti : TInv code c.depth path me T G) (hk : G.left < k) (hp : PathAt w A path) :
    Calls Try.prog 27 #[.pointer (some ⟨tb, 0, none⟩), .slice Ac code.length cc] w (RunP c l (PA c tb vt vl vw) (runP l c.budget c.depth k G path code me T) w) := by
  obtain ⟨r, hr⟩ : ∃ r, r = runP l c.budget c.depth k G path code me T := ⟨_, rfl⟩
  rw [← hr]
  obtain ⟨S, hS⟩ : ∃ S, S = PA c tb vt vl vw := ⟨_, rfl⟩
  rw [← hS]
  have HSS := Aside0.mk hS
  clear hS
  have H0 := Aside0.mk (And.intro hR (And.intro hB (And.intro hg (And.intro ht (And.intro hgi (And.intro hti (And.intro hk (And.intro hp hr))))))))
  clear hr hR hB hg ht hgi hti hk hp
  go_enter Try.func27, Try.ntmps27
  go_wp2_with (refine (deeds_any _).mono ?_; rintro e w1 ⟨rfl, hb1, hD1⟩)
  have H1 := Aside0.mk (show RunI c l M tb A cp path code me w.heap.size S w r k w1 from by
    obtain ⟨hR, hB, hg, ht, hgi, hti, hk, hp, hr⟩ := H0.out
    exact ⟨T, G, ents, vt, vl, vw, hg.below hb1, ht.below hb1, hgi, hti, hk, Keep.of_below hb1 _, fun q hq => .inl (by rw [HSS.out]; exact hq), hD1, hp.below hb1, hr.symm⟩)
  clear hb1 hD1
  go_loopg [] k (fun gk wr => gk ≤ k ∧ Aside0 (RunI c l M tb A cp path code me w.heap.size S w r gk wr))
  case atStart => exact ⟨Nat.le_refl _, H1⟩
  case round =>
    clear H1 HSS
    obtain ⟨hgk, HI⟩ := hrel
    have hR := H0.out.1
    have hB := H0.out.2.1
    obtain ⟨T, G, ents, vt, vl, vw, hE, hT, hgi, hti, hlk, hK, hP, hD, hp, hr⟩ := HI.out
    cases gk with
    | zero => exact absurd hlk (Nat.not_lt_zero _)
    | succ gk =>
    have hme := hti.me_
    have hmel : me < ents.length := by rw [hE.eg.ok.1]; exact hme
    obtain ⟨g, cl, hv, hvo⟩ := hE.eg.row (Nat.lt_of_le_of_lt (Nat.zero_le _) hmel)
    subst hv
    have t0 := hT.fix.1
    have t20 := hT.fix.2.2.2.2.1
    have t21 := hT.fix.2.2.2.2.2
    have q7 := blk_cell hE.eg.node 7
    have q1 := blk_cell hE.eg.node 1
    have q3 := blk_cell hE.eg.node 3
    obtain ⟨e0, e1, f0, f1⟩ := ent_at hE.eg.log hmel
    obtain ⟨s, hs⟩ : ∃ s, s = ents[me].s := ⟨_, rfl⟩
    have hs2 : s = (G.log.getD me ([], 0)).2 := by
      rw [hs, (hE.eg.ok.2 me hmel hme).1, List.getD_eq_getElem?_getD, List.getElem?_eq_getElem hme]; rfl
    rw [← hs] at e1
    have hmm : ((me : Int) < (ents.length : Nat)) = True := eq_true (by omega)
    have HS := Aside0.mk (And.intro hs2 (And.intro hme hmel))
    have HE := Aside0.mk (And.intro hE (And.intro hT (And.intro hgi (And.intro hti (And.intro hlk (And.intro hK (And.intro hP (And.intro hD (And.intro hp hr)))))))))
    have HRB := Aside0.mk (And.intro hR hB)
    clear hR hB hE hT hgi hti hlk hK hP hD hp hr hs hs2 hme hmel hvo e0 f0 f1 HI
    by_cases hbu : s = c.budget
    · have hbb : (s == c.budget) = true := by simpa using hbu
      have hbb2 : (s = c.budget) = True := eq_true hbu
      have HBU := Aside0.mk hbu
      clear hbu
      go_wp2_with fail
      go_quiet (fail)
      go_wp2_with fail
      go_quiet (fail)
      go_wp2_with fail
      refine (fail_any 3 _).mono ?_
      rintro e w' ⟨rfl, hb⟩
      refine ⟨rfl, ?_⟩
      obtain ⟨hE, hT, hgi, hti, hlk, hK, hP, hD, hp, hr⟩ := HE.out
      have hb0 := (pw_below_drewN (Below.refl wr.heap.size wr) _).trans (hb.mono (pw_below_drewN (Below.refl wr.heap.size wr) _).size)
      have e9 : r = (.fail 3, G) := by rw [← hr]; unfold runP; rw [if_pos (HS.out.1.symm.trans HBU.out)]
      rw [e9]
      exact ⟨rfl, hK.trans (Keep.of_below hb0 _), ents, vt, _, hE.below hb0, fun q hq => hP q (.inl hq)⟩
    · have hbb : (s == c.budget) = false := by simpa using hbu
      have hbb2 : (s = c.budget) = False := eq_false hbu
      have HBU := Aside0.mk hbu
      clear hbu
      by_cases hl0 : G.left = 0
      · have hll : ((G.left : Int) == 0) = true := by simpa using hl0
        have hll2 : ((G.left : Int) = 0) = True := eq_true (by omega)
        have HL := Aside0.mk hl0
        clear hl0
        go_wp2_with fail
        go_quiet (fail)
        go_wp2_with fail
        go_quiet (fail)
        go_wp2_with fail
        refine ⟨rfl, ?_⟩
        obtain ⟨hE, hT, hgi, hti, hlk, hK, hP, hD, hp, hr⟩ := HE.out
        have hb0 := fun n => (pw_below_drewN (Below.refl wr.heap.size wr) n)
        have e9 : r = (.long, G) := by rw [← hr]; unfold runP; rw [if_neg (fun e => HBU.out (HS.out.1.trans e)), if_pos HL.out]
        rw [e9]
        exact ⟨rfl, hK.trans (Keep.of_below (hb0 _) _), ents, vt, _, hE.below (hb0 _), fun q hq => hP q (.inl hq)⟩
      · have hll : ((G.left : Int) == 0) = false := by simpa using hl0
        have hll2 : ((G.left : Int) = 0) = False := eq_false (by omega)
        have HL := Aside0.mk hl0
        clear hl0
        obtain ⟨a1, ha1⟩ : ∃ a1 : Nat, a1 = G.left - 1 := ⟨_, rfl⟩
        have hsb : 0 ≤ s ∧ s ≤ 1000000 := by
          have h9 := HE.out.2.2.1.steps (G.log.getD me ([], 0)) (by rw [List.getD_eq_getElem?_getD, List.getElem?_eq_getElem HS.out.2.1]; exact List.getElem_mem _)
          rw [← HS.out.1] at h9
          have := HRB.out.1.hb; omega
        have hle1 : G.left ≤ 1000000 := by have h9 := HE.out.2.2.1.log; have := HRB.out.1.hM; omega
        have hw1 : IntKind.i64.wrap ((G.left : Int) - 1) = (a1 : Int) := (IntWalk.i64_in _ (by omega)).trans (by have := HL.out; omega)
        have hw2 : IntKind.i64.wrap (s + 1) = s + 1 := IntWalk.i64_in _ (by omega)
        have HA1 := Aside0.mk ha1
        clear hle1 ha1
        go_wp2_with fail
        go_quiet (fail)
        generalize nq = n1
        go_wp2_with fail
        go_quiet (fail)
        go_upto_region 7 with (fail)
        obtain ⟨W1, hW1⟩ : ∃ W1, W1 = wr.drewN (n1 + nq) := ⟨_, rfl⟩
        have hb1 : Below wr.heap.size wr W1 := by rw [hW1]; exact pw_below_drewN (Below.refl _ _) _
        rw [← hW1]
        have hx1 : ∀ a v, wr.cell? a = some v → W1.cell? a = some v := fun a v h => by rw [hW1]; exact h
        clear hW1 hbb hbb2 hll hll2 q1 q7 t21 hmm hsb
        have hE1 := HE.out.1.below hb1
        have hT1 := HE.out.2.1.below hb1
        have hmel := HS.out.2.2
        have t0 := hx1 _ _ t0
        have q3 := hx1 _ _ q3
        obtain ⟨W2, hW2⟩ : ∃ W2, W2 = W1.setCell ⟨c.wb, 3, none⟩ (.int .i64 (a1 : Int)) := ⟨_, rfl⟩
        have hk2 : Keep (fun q => q = c.wb) W1 W2 := by rw [hW2]; exact (Keep.refl (fun q => q = c.wb) W1).set (p := ⟨c.wb, 3, none⟩) (.inr rfl) _
        have hg2 := hE1.eg.setLeft a1 _ rfl
        rw [← hW2] at hg2
        have hB2 : c.w0.heap.size ≤ c.wb := Nat.le_trans hE1.lo hE1.eg.lo
        have hE2 := hE1.turn hg2 hk2 (fun q hq e => by subst e; omega)
        have hT2 := hT1.keep hk2 (fun q hq e => apart hE1.eg hT1 q (.inl e) hq)
        obtain ⟨e0, e1, f0, f1⟩ := ent_at hE2.eg.log hmel
        have z3 := blk_frozen hE1.eg.node 3
        have H2 := Aside0.mk (And.intro hb1 (And.intro hk2 (And.intro hE2 (And.intro hT2 (And.intro hE1 hT1)))))
        have HW2 := Aside0.mk hW2
        clear hx1 hE1 hT1 hmel hk2 hg2 hB2 hE2 hT2 hb1 e0 e1 f0 f1 hW2 t20
        go_upto_region 8 with (fail)
        rw [← HW2.out]
        have hE2 := H2.out.2.2.1
        have hT2 := H2.out.2.2.2.1
        have hmel := HS.out.2.2
        obtain ⟨e0, e1, f0, f1⟩ := ent_at hE2.eg.log hmel
        have hes : ents[me].s = s := by
          have hmeG := HS.out.2.1
          have h9 : (G.log.getD me ([], 0)).2 = (G.log[me]'hmeG).2 := by rw [List.getD_eq_getElem?_getD, List.getElem?_eq_getElem hmeG]; rfl
          exact (HE.out.1.eg.ok.2 me hmel hmeG).1.trans (h9.symm.trans HS.out.1.symm)
        rw [hes] at e1
        obtain ⟨W3, hW3⟩ : ∃ W3, W3 = W2.setCell ⟨g, me * 2 + 1, none⟩ (.int .i64 (s + 1)) := ⟨_, rfl⟩
        have hk3 : Keep (fun q => q = g) W2 W3 := by rw [hW3]; exact (Keep.refl (fun q => q = g) W2).set (p := ⟨g, me * 2 + 1, none⟩) (.inr rfl) _
        obtain ⟨ents3, hl3, hg3⟩ := hE2.eg.bump rfl hmel (s + 1) (by rw [← HS.out.1])
        rw [← hW3] at hg3
        have hPg : PG c.wb vt (.slice (some ⟨g, 0, none⟩) ents.length cl) g := .inr (.inr rfl)
        have hE3 := hE2.turn hg3 hk3 (fun q hq e => by subst e; have := hE2.pLo q hPg; omega)
        have hT3 := hT2.keep hk3 (fun q hq e => apart hE2.eg hT2 q (by subst e; exact hPg) hq)
        have H3 := Aside0.mk (And.intro hk3 (And.intro hE3 hT3))
        have HW3 := Aside0.mk hW3
        have HL3 := Aside0.mk hl3
        clear hE2 hT2 hmel e0 f0 hes hk3 hg3 hPg hE3 hT3 hW3 HW2 t0 q3 hl3 z3 hw1
        go_upto_region 9 with (fail)
        rw [← HW3.out]
        clear HW3 e1 f1 hw2
        have hE3 := H3.out.2.1
        have hT3 := H3.out.2.2
        have hti := HE.out.2.2.2.1
        obtain ⟨a, ha⟩ : ∃ a : Nat, T.at_ = a := ⟨T.at_.toNat, by have := hti.at_; omega⟩
        have hal : a < code.length := by have := hti.at_; omega
        have hcl : code.length ≤ 64 := by obtain ⟨hf, hc⟩ := HRB.out.1.hf; rw [hc]; exact ((HRB.out.1.hl.fn f hf).2.1).2
        have t0 := hT3.fix.1
        have t20 := hT3.fix.2.2.2.2.1
        rw [ha] at t20
        have z20 := hT3.frozen 20
        have hCC := Kd.C_below HRB.out.1.hc hE3.bl
        obtain ⟨ad, had, hx0, hx1, hx2, hx3, hx4⟩ := at_T55 hCC (a : Int) (by omega) (by omega)
        subst had
        obtain ⟨x, hx⟩ : ∃ x, x = rd_T55 code (a : Int) := ⟨_, rfl⟩
        rw [← hx] at hx0 hx1 hx2 hx3 hx4
        obtain ⟨x0, x1, x2, x3, x4⟩ := x
        simp only [Int.toNat_natCast] at hx0 hx1 hx2 hx3 hx4
        have hmm : ((a : Int) < (code.length : Nat)) = True := eq_true (by omega)
        have hw3 : IntKind.i64.wrap ((a : Int) + 1) = (a : Int) + 1 := IntWalk.i64_in _ (by omega)
        obtain ⟨W4, hW4⟩ : ∃ W4, W4 = W3.alloc (.cells #[.int .i64 x0, .int .i64 x1, .int .i64 x2, .int .i64 x3, .int .i64 x4] 55) := ⟨_, rfl⟩
        have HW4 := Aside0.mk hW4
        have HX := Aside0.mk (And.intro hx (And.intro ha (And.intro hal hcl)))
        have hu55 := Try.underlying55
        clear hW4 hx ha hal hcl hE3 hT3 hti hCC t20 z20
        have t20 := H3.out.2.2.fix.2.2.2.2.1
        rw [HX.out.2.1] at t20
        go_upto_region 10 with (fail)
        rw [← HW4.out]
        obtain ⟨bx, hbx⟩ : ∃ bx, bx = W3.heap.size := ⟨_, rfl⟩
        rw [← hbx]
        have hb4 : Below W3.heap.size W3 W4 := by rw [HW4.out]; exact (Below.refl W3.heap.size W3).alloc (Nat.le_refl _) _
        have h4x : W4.heap[bx]? = some (.cells #[.int .i64 x0, .int .i64 x1, .int .i64 x2, .int .i64 x3, .int .i64 x4] 55 (0, 0)) := by rw [HW4.out, hbx]; exact alloc_blk W3 _
        have hT4 := H3.out.2.2.below hb4
        have hE4 := H3.out.2.1.below hb4
        have hne : bx ≠ tb := fun e => by have h2 := H3.out.2.2.lt tb (.inl rfl); omega
        obtain ⟨W5, hW5⟩ : ∃ W5, W5 = W4.setCell ⟨tb, 20, none⟩ (.int .i64 ((a : Int) + 1)) := ⟨_, rfl⟩
        have hk5 : Keep (fun q => q = tb) W4 W5 := by rw [hW5]; exact (Keep.refl (fun q => q = tb) W4).set (p := ⟨tb, 20, none⟩) (.inr rfl) _
        have hT5 := hT4.setAt ((a : Int) + 1)
        rw [← hW5] at hT5
        have hE5 := hE4.task hT4 HRB.out.1.hlo hk5
        have h5x := hk5.blk h4x hne
        have t0 := hT4.fix.1
        have t20 := hT4.fix.2.2.2.2.1
        rw [HX.out.2.1] at t20
        have z20 := hT4.frozen 20
        have H5 := Aside0.mk (And.intro hb4 (And.intro hk5 (And.intro hE5 (And.intro hT5 (And.intro h5x hbx)))))
        have HW5 := Aside0.mk hW5
        have HW3 := Aside0.mk hw3
        clear hbx hb4 h4x hT4 hE4 hne hk5 hT5 hE5 h5x hW5 hx0 hx1 hx2 hx3 hx4 HW4 hmm
        go_upto_region 11 with (fail)
        rw [← HW5.out]
        clear hw3 HW5 HW3
        have hx := HX.out.1
        have h5x := H5.out.2.2.2.2.1
        have c0 := blk_cell h5x 0
        have c1 := blk_cell h5x 1
        have c2 := blk_cell h5x 2
        have c3 := blk_cell h5x 3
        have c4 := blk_cell h5x 4
        have hIO : IOk l code.length ⟨x0, x1, x2, x3, x4⟩ ∧ (x0 ≠ 9 → x0 ≠ 16 → x0 ≠ 17 → T.at_ + 1 < code.length) := by
          obtain ⟨hf, hc⟩ := HRB.out.1.hf
          have hti := HE.out.2.2.2.1
          have h := next_at HRB.out.1.hl f hf (T := T) hti.at_.1 (by rw [← hc]; exact hti.at_.2)
          rw [← hc, HX.out.2.1, ← HX.out.1] at h
          rw [HX.out.2.1]
          exact h
        have hbi := bump_inv HE.out.2.2.1 HE.out.2.2.2.1.me_ (fun e => HBU.out (HS.out.1.trans e)) HL.out
        rw [← HA1.out] at hbi
        have hkk : Keep (PA c tb vt (.slice (some ⟨g, 0, none⟩) ents.length cl) vw) wr W5 :=
          ((((Keep.of_below H2.out.1 _).trans (H2.out.2.1.mono (fun q _ e => .inl (.inl e)))).trans (H3.out.1.mono (fun q _ e => .inl (.inr (.inr (by rw [e]; rfl)))))).trans (Keep.of_below H5.out.1 _)).trans (H5.out.2.1.mono (fun q _ e => .inr (.inl e)))
        have hti5 : TInv code c.depth path me T { left := a1, told := G.told, log := bump G.log me } := by
          have h := HE.out.2.2.2.1
          exact ⟨h.rl, h.hl, h.wait, h.at_, by rw [bump_len]; exact h.kids, h.wl, by rw [bump_len]; exact h.me_, h.path_⟩
        have hap : ∀ q, PA c tb vt (.slice (some ⟨g, 0, none⟩) ents.length cl) vw q → ∃ cs t f, wr.heap[q]? = some (.cells cs t f) := by
          intro q hq
          rcases hq with hq | hq
          · obtain ⟨cs, t, h, _⟩ := HE.out.1.eg.typed q hq; exact ⟨cs, t, _, h⟩
          · obtain ⟨cs, t, h, _⟩ := HE.out.2.1.typed q hq; exact ⟨cs, t, _, h⟩
        have hD := HE.out.2.2.2.2.2.2.2.1
        have hD5 : DeedAt w.heap.size W5 := hD.heap (hkk.block _ hD.lt (fun hp => by
          obtain ⟨cs, t, f', h⟩ := hap _ hp
          exact hD.notCells cs t f' h))
        have hp5 : PathAt W5 A path := HE.out.2.2.2.2.2.2.2.2.1.keep hkk (fun q cs hq hp => hp.elim (HE.out.1.eg.notPath q cs hq) (HE.out.2.1.notPath q cs hq))
        have H6 := Aside0.mk (And.intro hIO (And.intro hbi (And.intro hkk (And.intro hti5 (And.intro hD5 hp5)))))
        clear t0 t20 z20 hx h5x hIO hbi hkk hti5 hap hD hp5 q3 e1
        by_cases h17 : x0 = 17
        · subst h17
          go_wp2_with fail
          have hti := HE.out.2.2.2.1
          refine (sync_any (x := ⟨17, x1, x2, x3, x4⟩) H5.out.2.2.2.1 hti.wait (by have h1 := hti.wl; have h2 := hti.kids; have h3 := HE.out.2.2.1.log; have h4 := HRB.out.1.hM; show T.wait.length ≤ 1000000; omega)).mono ?_
          rintro e w6 ⟨rfl, hT6, hk6⟩
          have hx1 := H6.out.1.1.a (by show (17 : Int) ≠ 9; decide) (by show (17 : Int) ≠ 12; decide) (by show (17 : Int) ≠ 13; decide) (by show (17 : Int) ≠ 16; decide)
          obtain ⟨b1, rfl⟩ : ∃ b1 : Nat, x1 = b1 := ⟨x1.toNat, by have : 0 ≤ x1 := hx1.1; omega⟩
          have hb1 : b1 < 8 := by have : (b1 : Int) < 8 := hx1.2; omega
          have hbb : ((b1 : Int) < 8) = True := eq_true hx1.2
          have hne : bx ≠ tb := fun e => by have h2 := H3.out.2.2.lt tb (.inl rfl); have h3 := H5.out.2.2.2.2.2; omega
          have c1' := hk6.cell (a := ⟨bx, 1, none⟩) c1 hne
          have r1 := hT6.reg b1 hb1
          have H7 := Aside0.mk (And.intro hT6 hk6)
          clear hti hT6 hk6 hx1 hb1 hne c0 c1 c2 c3 c4
          go_wp2_with fail
          go_quiet (fail)
          go_wp2_with fail
          go_ret
          obtain ⟨hT6, hk6⟩ := H7.out
          obtain ⟨hE, hT, hgi, hti, hlk, hK, hP, hD, hp, hr⟩ := HE.out
          obtain ⟨hIO, hbi, hkk, hti5, hD5, hp5⟩ := H6.out
          have e9 := runP_ret (l := l) (d := c.depth) (gk := gk) (path := path) (fun e => HBU.out (HS.out.1.trans e)) HL.out (by rw [HX.out.2.1, ← HX.out.1]) rfl
          rw [hr, HX.out.2.1, ← HA1.out] at e9
          rw [e9]
          have hE6 := H5.out.2.2.1.task H5.out.2.2.2.1 HRB.out.1.hlo hk6
          have hbd := fun n => pw_below_drewN (Below.refl w6.heap.size w6) n
          refine ⟨?_, (hK.then (hkk.trans (hk6.mono (fun q _ e => .inr (.inl e)))) (fun q hq hp => (hP q hp).elim id (fun h => absurd hq (by omega)))).trans (Keep.of_below (hbd _) _), ents3, vt, _, hE6.below (hbd _), fun q hq => hP q (.inl hq)⟩
          show _ = _
          unfold rg
          rw [Int.toNat_natCast]
          rfl
        · have h17b : (x0 == 17) = false := by simpa using h17
          have h17c : (x0 = 17) = False := eq_false h17
          have H17 := Aside0.mk h17
          clear h17
          have hop := And.intro H6.out.1.1.op.1 (show x0 ≤ 16 by have := H6.out.1.1.op.2; have h9 := H17.out; have : x0 ≤ 17 := this; omega)
          have hlook := hD5.look x0 hop.1 hop.2
          have hent := fun args w => deed_enter hop args w
          clear hD5 hop
          go_wp2_with fail
          obtain ⟨hE, hT, hgi, hti, hlk, hK, hP, hD, hp, hr⟩ := HE.out
          obtain ⟨hIO, hbi, hkk, hti5, hD5, hp5⟩ := H6.out
          have hT5 := H5.out.2.2.2.1
          rw [← HX.out.2.1] at hT5
          have hal := HA1.out
          have h0 := HL.out
          have hst := step_all (k := gk) (x := ⟨x0, x1, x2, x3, x4⟩) HRB.out.1.hl (HRB.out.2 gk (by omega)) HRB.out.1.hlo hbi.1 hti5 HRB.out.1.hM HRB.out.1.hdp HRB.out.1.hb.1 hp5 HRB.out.1.hcp HRB.out.1.hcn hIO.1 hIO.2 (by rw [bump_len]; exact hbi.2.1) hbi.2.2 (by show a1 < gk; omega) H5.out.2.2.1 hT5 H17.out
          obtain ⟨hst, hni⟩ := hst
          obtain ⟨sr, hsr⟩ : ∃ sr, sr = stepP l c.depth (runP l c.budget c.depth gk) path ⟨x0, x1, x2, x3, x4⟩ { T with at_ := T.at_ + 1 } { left := a1, told := G.told, log := bump G.log me } := ⟨_, rfl⟩
          rw [← hsr] at hst hni
          refine hst.mono ?_
          intro e w6 hpost
          have hbud : (G.log.getD me ([], 0)).2 ≠ c.budget := fun e => HBU.out (HS.out.1.trans e)
          have hxx : rd_T55 code T.at_ = ⟨x0, x1, x2, x3, x4⟩ := by rw [HX.out.2.1, ← HX.out.1]
          have hall := hK.then hkk (fun q hq hp => (hP q hp).elim id (fun h => absurd hq (by omega)))
          have hsz : w.heap.size ≤ W5.heap.size := hall.size
          have hPA : ∀ q, PA c tb vt (.slice (some ⟨g, 0, none⟩) ents.length cl) vw q → q < W5.heap.size := fun q hq => by
            have h2 := hkk.size
            rcases hq with hq | hq
            · exact Nat.lt_of_lt_of_le (hE.eg.pB q hq).2 h2
            · exact Nat.lt_of_lt_of_le (hT.lt q hq) h2
          rw [hal] at hsr
          cases sr with
          | go T' G' =>
            obtain ⟨rfl, hk6, ents6, vt6, vl6, vw6, hE6, hT6, hq6⟩ := hpost
            have e9 := (runP_go hbud h0 hxx H17.out hsr.symm).symm.trans hr
            have HR6 := Aside0.mk (show RunI c l M tb A cp path code me w.heap.size S w r gk w6 from
              ⟨T', G', ents6, vt6, vl6, vw6, hE6, hT6, hni.1, hni.2.1, by have := hni.2.2; have h3 : G'.left ≤ a1 := this; omega,
                hall.then hk6 (fun q hq hp => (hP q hp).elim id (fun h => absurd hq (by omega))),
                fun q hq => (hq6 q hq).elim (fun h => hP q h) (fun h => .inr (by omega)),
                hD5.heap (hk6.block _ hD5.lt (fun hp => by
                  rcases hp with hp | hp
                  · obtain ⟨cs, t, h, _⟩ := H5.out.2.2.1.eg.typed _ hp; exact hD5.notCells cs t _ h
                  · obtain ⟨cs, t, h, _⟩ := hT5.typed _ hp; exact hD5.notCells cs t _ h)), hp5.keep hk6 (fun q cs hq hp => hp.elim (H5.out.2.2.1.eg.notPath q cs hq) (hT5.notPath q cs hq)), e9⟩)
            clear hE hT hgi hti hlk hK hP hD hp hr hIO hbi hkk hti5 hD5 hp5 hT5 hal h0 hsr hbud hxx hall hsz hPA hk6 hE6 hT6 hq6 hni e9 hst
            go_wp2_with fail
            go_roundg gk
            case rel => exact ⟨by omega, HR6⟩
            case measure => omega
          | stop o G' =>
            have hno := stepP_noval hsr.symm
            have e9 := (runP_stop hbud h0 hxx H17.out hsr.symm).symm.trans hr
            obtain ⟨he, hk6, ents6, vt6, vl6, hE6, hq6⟩ := hpost
            have hfin : RunP c l S r w e w6 := by
              rw [← e9]
              exact ⟨he, hall.then hk6 (fun q hq hp => (hP q hp).elim id (fun h => absurd hq (by omega))), ents6, vt6, vl6, hE6, fun q hq => (hq6 q hq).elim (fun h => hP q h) (fun h => .inr (by omega))⟩
            cases o with
            | val v => exact absurd rfl (hno v)
            | fail why =>
              have he : e = .panicked [{ v := failV why, recovered := false }] := he
              subst he
              exact ⟨rfl, hfin⟩
            | long =>
              have he : e = .panicked [{ v := longV, recovered := false }] := he
              subst he
              exact ⟨rfl, hfin⟩
end
end Go.Proofs.Ytnhipdniceoigaa.H
