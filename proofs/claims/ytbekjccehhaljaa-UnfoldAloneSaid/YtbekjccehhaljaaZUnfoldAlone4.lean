/- What the proof of UnfoldAlone stands on, part 4: this session's own texts and the words that the kit's print lays, those that are used. -/
import Derived.Test.YtbekjccehhaljaaZUnfoldAlone3
import Derived.Deep.LoopGhost
import Derived.Laws.CopyOwn
import Derived.Shelf.SlSortCmp.NoneTotal
import Derived.Shelf.SlGeneric
import Derived.Ground.SlsfProg
import Derived.Test.YtbekjccehhaljaaProg
set_option linter.unusedVariables false
set_option linter.unusedSimpArgs false
namespace Go.Proofs.Ytbekjccehhaljaa.H
open Go.RowKit Go.Hay Go.Proofs.YtbekjccehhaljaaW.PrintWords Go.Proofs.YtbekjccehhaljaaW.PrintLast Go.Proofs.YtbekjccehhaljaaW.PrintMore
/-- what is fixed in a task's run. -/
structure RnU (c : Cu) (l : List S64) (M : Nat) (A : Option Addr) (cp : Nat) (path : List Int) (f : Nat) (code : List S61) (Ac : Option Addr) (cc : Nat) : Prop where
  hl : POk l
  hM : M ≤ 1000000
  hdp : c.depth ≤ 900
  hb : 0 ≤ c.budget ∧ c.budget ≤ 100000
  hcp : path.length ≤ cp
  hcn : A = none → cp = 0
  hf : ∃ h : f < l.length, code = l[f].f1
  hc : k61.C c.w0 Ac code.length code
  hcc : code.length ≤ cc
/-- a round's beginning. -/
def RunIU (c : Cu) (l : List S64) (M tb nb : Nat) (A : Option Addr) (cp : Nat) (path : List Int) (code : List S61) (mb xb : Nat) (SU1 SQ D0 : Nat → Prop) (w : World) (r : RU) (gk : Nat) (wr : World) : Prop :=
  ∃ (D : Nat → Prop) (T : Tu) (G : Gu) (ents : List Ent) (vl : Value) (p : Pl), ST c l D G ents vl (.slice A path.length cp) T p wr ∧ (p.tb = tb ∧ p.nb = nb) ∧ GUI M c.budget G ∧ G.log.length + 1 + G.left ≤ M ∧ TUI code c.depth c.budget path T ∧ G.left < gk ∧ Keep (fun q => SU1 q ∨ SQ q) w wr ∧ ((∀ q, PU c.wb vl q → SU1 q ∨ w.heap.size ≤ q) ∧ ∀ q, QU p q → SQ q ∨ w.heap.size ≤ q) ∧ ((∀ q, D0 q → D q) ∧ ∀ q, D q → D0 q ∨ w.heap.size ≤ q) ∧ UdeedAt mb wr ∧ PathAt wr A path ∧ wr.heap[xb]? = some (.cells #[.int .i64 0, .int .i64 0] 127 (0, 0)) ∧ runU l c.budget c.depth gk G path code T = r
section
variable {l : List S64} {path : List Int} {G : Gu} {T : Tu} {code : List S61}
theorem runU_budget {b d : Int} {gk : Nat} (h1 : (T.steps : Int) = b) : runU l b d (gk + 1) G path code T = some (0, 3, T, G) := by rw [runU, if_pos h1]
theorem runU_left {b d : Int} {gk : Nat} (h1 : (T.steps : Int) ≠ b) (h2 : G.left = 0) : runU l b d (gk + 1) G path code T = none := by rw [runU, if_neg h1, if_pos h2]
theorem runU_step {b d : Int} {gk : Nat} (h1 : (T.steps : Int) ≠ b) (h2 : G.left ≠ 0) {x : S61} (hx : rd_T61 code T.at_ = x) : runU l b d (gk + 1) G path code T = match stepU l d (runU l b d gk) path x (tickT T) (tickG G) with
    | .go T' G' => runU l b d gk G' path code T'
    | .stop v f T' G' => some (v, f, T', G')
    | .long => none := by rw [runU, if_neg h1, if_neg h2, hx]; rfl
end
theorem urun_results {tmps : Array Value} {w : World} {xb : Nat} {v f : Int} (t4 : tmps.getD 4 undef = .pointer (some ⟨xb, 0, none⟩)) (h : w.heap[xb]? = some (.cells #[.int .i64 v, .int .i64 f] 127 (0, 0))) : (results Try.f42 tmps).run Try.prog w = .ok (.agg #[.int .i64 v, .int .i64 f]) w := by
  have q0 := blk_cell h 0
  have q1 := blk_cell h 1
  simp only [Array.getD_eq_getD_getElem?] at t4
  simp [results, Try.results42, go_sem, t4, q0, q1]
section
variable {c : Cu} {l : List S64} {M k cp f cc : Nat} {A Ac : Option Addr} {path : List Int} {D : Nat → Prop} {G : Gu} {ents : List Ent} {vl : Value} {w : World} {T : Tu} {p : Pl} {code : List S61}
set_option maxRecDepth 100000 in
set_option maxHeartbeats 16000000 in
theorem run_anyU (hR : RnU c l M A cp path f code Ac cc) (hB : ∀ j, j < k → BegUC c l j) (h : ST c l D G ents vl (.slice A path.length cp) T p w) (hgi : GUI M c.budget G) (hleft : G.log.length + 1 + G.left ≤ M) (hti : TUI code c.depth c.budget path T) (hk : G.left < k) (hp : PathAt w A path) :
    Calls Try.prog 42 #[.pointer (some ⟨p.tb, 0, none⟩), .slice Ac code.length cc] w (RunPU c l p.tb p.nb (.slice A path.length cp) (PU c.wb vl) (QU p) D (runU l c.budget c.depth k G path code T) w) := by
  obtain ⟨r, hr⟩ : ∃ r, r = runU l c.budget c.depth k G path code T := ⟨_, rfl⟩
  rw [← hr]
  obtain ⟨SU1, hS⟩ : ∃ S, S = PU c.wb vl := ⟨_, rfl⟩
  rw [← hS]
  obtain ⟨SQ, hS2⟩ : ∃ S, S = QU p := ⟨_, rfl⟩
  rw [← hS2]
  obtain ⟨tb, htb⟩ : ∃ tb, tb = p.tb := ⟨_, rfl⟩
  obtain ⟨nb, hnb⟩ : ∃ nb, nb = p.nb := ⟨_, rfl⟩
  rw [← htb, ← hnb]
  obtain ⟨xb, hxb⟩ : ∃ xb, xb = w.heap.size := ⟨_, rfl⟩
  obtain ⟨W, hW⟩ : ∃ W, W = w.alloc (.cells #[.int .i64 0, .int .i64 0] 127) := ⟨_, rfl⟩
  have hb1 : Below w.heap.size w W := by rw [hW]; exact (Below.refl w.heap.size w).alloc (Nat.le_refl _) _
  have hbx : W.heap[xb]? = some (.cells #[.int .i64 0, .int .i64 0] 127 (0, 0)) := by rw [hW, hxb]; exact alloc_blk w _
  have HW := Aside0.mk (And.intro hW hxb)
  have HSS := Aside0.mk (And.intro (And.intro hS hS2) (And.intro htb hnb))
  have HX := Aside0.mk (And.intro hb1 (And.intro hbx (show w.heap.size ≤ xb by rw [hxb]; exact Nat.le_refl _)))
  have H0 := Aside0.mk (And.intro hR (And.intro hB (And.intro h (And.intro hgi (And.intro hleft (And.intro hti (And.intro hk (And.intro hp hr))))))))
  have HW0 := Aside0.mk (show c.w0.heap.size ≤ w.heap.size from h.us.bl.size)
  clear hS hS2 htb hnb hxb hW hb1 hbx hR hB h hgi hleft hti hk hp hr
  go_enter_defers Try.func42, Try.ntmps42
  go_upto_region 2 with (fail)
  rw [← HW.out.1, ← HW.out.2]
  go_wp2_with (refine (udeeds_any _).mono ?_; rintro e w1 ⟨rfl, hb1, hD1⟩)
  have H1 := Aside0.mk (show RunIU c l M tb nb A cp path code W.heap.size xb SU1 SQ D w r k w1 from by
    obtain ⟨hR, hB, h, hgi, hleft, hti, hk, hp, hr⟩ := H0.out
    have hbb := HX.out.1.trans (hb1.mono HX.out.1.size)
    exact ⟨D, T, G, ents, vl, p, h.below hbb, ⟨HSS.out.2.1.symm, HSS.out.2.2.symm⟩, hgi, hleft, hti, hk, Keep.of_below hbb _, ⟨fun q hq => .inl (by rw [HSS.out.1.1]; exact hq), fun q hq => .inl (by rw [HSS.out.1.2]; exact hq)⟩, ⟨fun q hq => hq, fun q hq => .inl hq⟩, hD1, hp.below hbb, (hb1.block _ (blk_lt HX.out.2.1)).trans HX.out.2.1, hr.symm⟩)
  clear hb1 hD1
  obtain ⟨mb, hmb⟩ : ∃ mb, mb = W.heap.size := ⟨_, rfl⟩
  rw [← hmb] at H1 ⊢
  clear hmb
  go_loopg [] k (fun gk wr => gk ≤ k ∧ Aside0 (RunIU c l M tb nb A cp path code mb xb SU1 SQ D w r gk wr))
  case atStart => exact ⟨Nat.le_refl _, H1⟩
  case round =>
    clear H1 HSS
    obtain ⟨hgk, HI⟩ := hrel
    have hR := H0.out.1
    have hB := H0.out.2.1
    obtain ⟨D1, T, G, ents, vl, p, hT, ⟨htb, hnb⟩, hgi, hleft, hti, hlk, hK, hP, hDD, hD, hp, hx, hr⟩ := HI.out
    subst htb
    subst hnb
    cases gk with
    | zero => exact absurd hlk (Nat.not_lt_zero _)
    | succ gk =>
    have t0 := hT.ub.fix.1
    have t17 := hT.ub.fix.2.2.2.2.2.1
    have q1 := blk_cell hT.us.eg.node 1
    have q3 := blk_cell hT.us.eg.node 3
    have HE := Aside0.mk (And.intro hT (And.intro hgi (And.intro hleft (And.intro hti (And.intro hlk (And.intro hK (And.intro hP (And.intro hDD (And.intro hD (And.intro hp (And.intro hx hr)))))))))))
    have HRB := Aside0.mk (And.intro hR hB)
    clear hR hB hT hgi hleft hti hlk hK hP hDD hD hp hx hr HI
    by_cases hbu : (T.steps : Int) = c.budget
    · have hbb : ((T.steps : Int) == c.budget) = true := by simpa using hbu
      have hbb2 : ((T.steps : Int) = c.budget) = True := eq_true hbu
      have HBU := Aside0.mk hbu
      clear hbu
      go_upto_region 3 with (fail)
      refine wp_region_T (fun w' => Drawn0 wr w') [] (.takes [0, 1, 2, 3, 4, 5, 6, 7, 8, 9, 10, 11, 12] .done) (by kernel_rfl) (by kernel_rfl) (by kernel_rfl) (by kernel_rfl) (panic_put1 rfl (by kernel_rfl)) ?_
      have hs : Drawn0 wr wr.drew := (Drawn0.refl wr).step 1
      simp only [Turns.takes]
      repeat (
        (first
          | (refine runT_take (v := ?_) (by rfl) (by rfl) (fun w' hS => ?_) hs ?_
             rotate_left
             · (obtain ⟨n, rfl⟩ := hS; go_simp; exact rfl))
          | refine runT_skip (by rfl) (by rfl) hs ?_)
        (try simp only [Act.put, List.setIfInBounds_toArray, List.set_cons_zero, List.set_cons_succ]))
      refine runT_done ?_
      clear hs t0 t17 q1 q3
      go_wp2_with fail
      refine (ufail_any 3 _).mono ?_
      rintro e w' ⟨rfl, hb⟩
      refine leaves_cons (f := 57) (args := #[.pointer (some ⟨xb, 0, none⟩)]) (by simp) (by simp [go_sem]) ?_
      have hbd : Below wr.heap.size wr wr.drew := (Below.refl _ _).drew
      have hb9 := hbd.trans (hb.mono hbd.size)
      obtain ⟨hT, hgi, hleft, hti, hlk, hK, hP, hDD, hD, hp, hx, hr⟩ := HE.out
      have hx9 := (hb9.block _ (blk_lt hx)).trans hx
      have e9 := (runU_budget HBU.out).symm.trans hr
      refine (ucatch_end 0 3 hx9).mono ?_
      rintro e u' w9 ⟨rfl, rfl, hk9, hx10⟩
      have hL : Left1 c l p.tb p.nb (.slice A path.length cp) SU1 SQ D T G w w' := ⟨hK.trans (Keep.of_below hb9 _), D1, ents, vl, p, hT.below hb9, rfl, rfl, hP, hDD.1, hDD.2⟩
      refine ⟨_, urun_results rfl hx10, ?_⟩
      rw [← e9]
      exact ⟨rfl, hL.box hx9 HX.out.2.2 HW0.out hk9⟩
    · have hbb : ((T.steps : Int) == c.budget) = false := by simpa using hbu
      have hbb2 : ((T.steps : Int) = c.budget) = False := eq_false hbu
      have HBU := Aside0.mk hbu
      clear hbu
      go_upto_region 3 with (fail)
      refine wp_region_T (fun w' => Drawn0 wr w') [] (.takes [0, 1, 2, 3, 4, 5, 6, 7, 8, 9, 10, 11, 12] .done) (by kernel_rfl) (by kernel_rfl) (by kernel_rfl) (by kernel_rfl) (panic_put1 rfl (by kernel_rfl)) ?_
      have hs : Drawn0 wr wr.drew := (Drawn0.refl wr).step 1
      simp only [Turns.takes]
      repeat (
        (first
          | (refine runT_take (v := ?_) (by rfl) (by rfl) (fun w' hS => ?_) hs ?_
             rotate_left
             · (obtain ⟨n, rfl⟩ := hS; go_simp; exact rfl))
          | refine runT_skip (by rfl) (by rfl) hs ?_)
        (try simp only [Act.put, List.setIfInBounds_toArray, List.set_cons_zero, List.set_cons_succ]))
      refine runT_done ?_
      clear hs
      have hbd : Below wr.heap.size wr wr.drew := (Below.refl _ _).drew
      obtain ⟨W1, hW1⟩ : ∃ W1, W1 = wr.drew := ⟨_, rfl⟩
      rw [← hW1] at hbd ⊢
      have t0 := (hbd.cell (World.block_lt_of_cell? wr _ t0)).trans t0
      have q3 := (hbd.cell (World.block_lt_of_cell? wr _ q3)).trans q3
      have HBD := Aside0.mk hbd
      clear hW1 hbd t17 q1 hbb hbb2
      by_cases hl0 : G.left = 0
      · have hll : ((G.left : Int) == 0) = true := by simpa using hl0
        have hll2 : ((G.left : Int) = 0) = True := eq_true (by omega)
        have HL := Aside0.mk hl0
        clear hl0
        go_wp2_with fail
        refine leaves_cons (f := 57) (args := #[.pointer (some ⟨xb, 0, none⟩)]) (by simp) (by simp [go_sem]) ?_
        obtain ⟨hT, hgi, hleft, hti, hlk, hK, hP, hDD, hD, hp, hx, hr⟩ := HE.out
        have hx9 := (HBD.out.block _ (blk_lt hx)).trans hx
        have e9 := (runU_left HBU.out HL.out).symm.trans hr
        refine (ucatch_long [] hx9).mono ?_
        rintro e u' w9 ⟨rfl, rfl, hk9⟩
        show RunPU c l p.tb p.nb (.slice A path.length cp) SU1 SQ D r w _ _
        rw [← e9]
        exact ⟨⟨_, rfl, fun x hx => by rw [List.mem_singleton.1 hx]⟩, (hK.trans (Keep.of_below HBD.out _)).then hk9 (fun q hq e => by have := HX.out.2.2; omega)⟩
      · have hll : ((G.left : Int) == 0) = false := by simpa using hl0
        have hll2 : ((G.left : Int) = 0) = False := eq_false (by omega)
        have HL := Aside0.mk hl0
        obtain ⟨a1, ha1⟩ : ∃ a1 : Nat, a1 = G.left - 1 := ⟨_, rfl⟩
        have hle1 : G.left ≤ 1000000 := by have h9 := HE.out.2.2.1; have := HRB.out.1.hM; omega
        have hs5 : T.steps ≤ 100000 := by have h9 := HE.out.2.2.2.1.steps; have := HRB.out.1.hb; omega
        have hw1 : IntKind.i64.wrap ((G.left : Int) - 1) = (a1 : Int) := (IntWalk.i64_in _ (by omega)).trans (by omega)
        have hw2 : IntKind.i64.wrap ((T.steps : Int) + 1) = (T.steps : Int) + 1 := IntWalk.i64_in _ (by omega)
        have HA1 := Aside0.mk ha1
        clear hle1 hs5 ha1 hl0
        go_upto_region 7 with (fail)
        have hT1 := HE.out.1.below HBD.out
        have z3 := blk_frozen hT1.us.eg.node 3
        go_upto_region 8 with (fail)
        obtain ⟨W2, hW2⟩ : ∃ W2, W2 = W1.setCell ⟨c.wb, 3, none⟩ (.int .i64 (a1 : Int)) := ⟨_, rfl⟩
        rw [← hW2]
        have hk2 : Keep (fun q => q = c.wb) W1 W2 := by rw [hW2]; exact (Keep.refl (fun q => q = c.wb) W1).set (p := ⟨c.wb, 3, none⟩) (.inr rfl) _
        have hg2 := hT1.us.eg.setLeft a1 _ rfl
        rw [← hW2] at hg2
        have hU2 := hT1.us.turn hg2 hk2 (fun q hq e => by have := hT1.us.pLo q (.inl e); omega) (fun q hq e => hT1.us.dp q (.inl e) hq) (fun q hq => .inl hq)
        have hB2 := hT1.ub.keep hk2 (fun q hq e => hT1.ap q (.inl e) hq) (fun q hq e => hT1.us.dp q (.inl e) hq) (fun _ h => h)
        have hT2 : ST c l D1 { G with left := a1 } ents vl (.slice A path.length cp) T p W2 := ⟨hU2, hB2, hT1.qd, hT1.tlo, hT1.nlo, hT1.kb⟩
        have t0 := hT2.ub.fix.1
        have t17 := hT2.ub.fix.2.2.2.2.2.1
        have z17 := hT2.ub.frozen 17
        have H2 := Aside0.mk (And.intro hT2 hk2)
        clear hT1 z3 hW2 hk2 hg2 hU2 hB2 hT2 q3 hw1 hll hll2
        go_upto_region 9 with (fail)
        obtain ⟨W3, hW3⟩ : ∃ W3, W3 = W2.setCell ⟨p.tb, 17, none⟩ (.int .i64 ((T.steps : Int) + 1)) := ⟨_, rfl⟩
        rw [← hW3]
        have hk3 : Keep (fun q => q = p.tb) W2 W3 := by rw [hW3]; exact (Keep.refl (fun q => q = p.tb) W2).set (p := ⟨p.tb, 17, none⟩) (.inr rfl) _
        have hub3 := H2.out.1.ub.setSteps (fun hd => H2.out.1.qd _ (.inl rfl) hd) (T.steps + 1) ((T.steps : Int) + 1) (by omega)
        rw [← hW3] at hub3
        have hT3 := H2.out.1.task hub3 hk3
        have H3 := Aside0.mk (And.intro hT3 hk3)
        clear hW3 hk3 hub3 t17 z17 hw2
        have hti := HE.out.2.2.2.1
        obtain ⟨a, ha⟩ : ∃ a : Nat, T.at_ = a := ⟨T.at_.toNat, by have := hti.at_; omega⟩
        have hal : a < code.length := by have := hti.at_; omega
        have hcl : code.length ≤ 64 := by obtain ⟨hf, hc⟩ := HRB.out.1.hf; rw [hc]; exact ((HRB.out.1.hl.fn f hf).2.1).2
        have t0 := hT3.ub.fix.1
        have t16 := hT3.ub.fix.2.2.2.2.1
        replace t16 : W3.cell? ⟨p.tb, 16, none⟩ = some (.int .i64 (a : Int)) := by rw [← ha]; exact t16
        have hCC := Kd.C_below HRB.out.1.hc hT3.us.bl
        obtain ⟨ad, had, hx0, hx1, hx2, hx3, hx4⟩ := at_T61 hCC (a : Int) (by omega) (by omega)
        subst had
        obtain ⟨x, hx⟩ : ∃ x, x = rd_T61 code (a : Int) := ⟨_, rfl⟩
        rw [← hx] at hx0 hx1 hx2 hx3 hx4
        obtain ⟨x0, x1, x2, x3, x4⟩ := x
        simp only [Int.toNat_natCast] at hx0 hx1 hx2 hx3 hx4
        have hmm : ((a : Int) < (code.length : Nat)) = True := eq_true (by omega)
        have hw3 : IntKind.i64.wrap ((a : Int) + 1) = (a : Int) + 1 := IntWalk.i64_in _ (by omega)
        obtain ⟨W4, hW4⟩ : ∃ W4, W4 = W3.alloc (.cells #[.int .i64 x0, .int .i64 x1, .int .i64 x2, .int .i64 x3, .int .i64 x4] 61) := ⟨_, rfl⟩
        obtain ⟨bx, hbx⟩ : ∃ bx, bx = W3.heap.size := ⟨_, rfl⟩
        have HW4 := Aside0.mk (And.intro hW4 hbx)
        have HXX := Aside0.mk (And.intro hx (And.intro ha (And.intro hal hcl)))
        clear hW4 hbx hx ha hal hcl hT3 hti hCC
        go_upto_region 10 with (fail)
        rw [← HW4.out.1, ← HW4.out.2]
        clear hx0 hx1 hx2 hx3 hx4 hmm t16 t0
        have hb4 : Below W3.heap.size W3 W4 := by rw [HW4.out.1]; exact (Below.refl W3.heap.size W3).alloc (Nat.le_refl _) _
        have h4x : W4.heap[bx]? = some (.cells #[.int .i64 x0, .int .i64 x1, .int .i64 x2, .int .i64 x3, .int .i64 x4] 61 (0, 0)) := by rw [HW4.out.1, HW4.out.2]; exact alloc_blk W3 _
        have hT4 := H3.out.1.below hb4
        have t0 := hT4.ub.fix.1
        have t16 := hT4.ub.fix.2.2.2.2.1
        replace t16 : W4.cell? ⟨p.tb, 16, none⟩ = some (.int .i64 (a : Int)) := by rw [← HXX.out.2.1]; exact t16
        have z16 := hT4.ub.frozen 16
        have H4 := Aside0.mk (And.intro hT4 (And.intro hb4 h4x))
        clear hT4 hb4 h4x HW4
        go_upto_region 11 with (fail)
        obtain ⟨W5, hW5⟩ : ∃ W5, W5 = W4.setCell ⟨p.tb, 16, none⟩ (.int .i64 ((a : Int) + 1)) := ⟨_, rfl⟩
        rw [← hW5]
        have hk5 : Keep (fun q => q = p.tb) W4 W5 := by rw [hW5]; exact (Keep.refl (fun q => q = p.tb) W4).set (p := ⟨p.tb, 16, none⟩) (.inr rfl) _
        have hub5 := H4.out.1.ub.setAt (fun hd => H4.out.1.qd _ (.inl rfl) hd) ((a : Int) + 1)
        rw [← hW5] at hub5
        have hT5 := H4.out.1.task hub5 hk5
        have e5 : ({ ({ T with steps := T.steps + 1 } : Tu) with at_ := (a : Int) + 1 } : Tu) = tickT T := by unfold tickT; rw [HXX.out.2.1]
        have eg : ({ G with left := a1 } : Gu) = tickG G := by unfold tickG; rw [HA1.out]
        rw [e5, eg] at hT5
        have h5x := hk5.blk H4.out.2.2 (fun e => box_apart H4.out.1 H4.out.2.2 (.inr (.inl e)))
        have c0 := blk_cell h5x 0
        have c1 := blk_cell h5x 1
        have c2 := blk_cell h5x 2
        have c3 := blk_cell h5x 3
        have c4 := blk_cell h5x 4
        obtain ⟨hT, hgi, hleft, hti, hlk, hK, hP, hDD, hD, hp, hx, hr⟩ := HE.out
        have hna : IOk l code.length ⟨x0, x1, x2, x3, x4⟩ ∧ (x0 ≠ 9 → x0 ≠ 16 → x0 ≠ 17 → 0 ≤ T.at_ + 1 ∧ T.at_ + 1 < code.length) := by
          obtain ⟨hf, hc⟩ := HRB.out.1.hf
          have h := nextU_at HRB.out.1.hl f hf (a := T.at_) hti.at_.1 (by rw [← hc]; exact hti.at_.2)
          rw [← hc, HXX.out.2.1, ← HXX.out.1] at h
          rw [HXX.out.2.1]
          exact h
        have hpt : p.tb = p.tb := rfl
        have hk15 : Keep (PQ c vl p) wr W5 := ((((Keep.of_below HBD.out _).trans (H2.out.2.mono (fun q _ e => .inl (.inl e)))).trans (H3.out.2.mono (fun q _ e => .inr (.inl e)))).trans (Keep.of_below H4.out.2.1 _)).trans (hk5.mono (fun q _ e => .inr (.inl e)))
        have hD5 : UdeedAt mb W5 := hD.heap (hk15.block _ hD.lt (fun hp => by
          rcases hp with hp | hp
          · obtain ⟨cs, t, h, _⟩ := hT.us.eg.typed _ hp; exact hD.notCells cs t _ h
          · obtain ⟨cs, t, h, _⟩ := hT.ub.typed _ hp; exact hD.notCells cs t _ h))
        have hp5 : PathAt W5 A path := hp.keep hk15 (fun q cs hq hp => hp.elim (hT.us.eg.notPath q cs hq) (hT.ub.notPath q cs hq))
        have hx5 := hk15.blk hx (fun hp => hp.elim (fun h => hT.us.eg.not hx (by decide) h) (fun h => hT.ub.not hx (by decide) h))
        have htk := tick_inv hti.toTU0 HBU.out
        have htg := tickG_inv hgi hleft HL.out
        have H5 := Aside0.mk (And.intro hT5 (And.intro h5x (And.intro hna (And.intro hk15 (And.intro hD5 (And.intro hp5 (And.intro hx5 (And.intro htk htg))))))))
        clear hub5 hT5 e5 eg h5x hna hpt hk15 hp5 hx5 htk htg hW5 hk5 hT hgi hleft hti hlk hK hP hDD hD hp hx hr t0 t16 z16 hw3
        have hop : 1 ≤ x0 ∧ x0 ≤ 17 := H5.out.2.2.1.1.op
        have hlook := hD5.look x0 hop.1 hop.2
        have hent := fun args w => udeed_enter hop args w
        clear hD5 hop
        go_wp2_with fail
        clear hlook hent c0 c1 c2 c3 c4
        obtain ⟨hT, hgi, hleft, hti, hlk, hK, hP, hDD, hD, hp, hx, hr⟩ := HE.out
        obtain ⟨hT5, h5x, hna, hk15, hD5, hp5, hx5, htk, htg⟩ := H5.out
        have hst := step_anyU (x := ⟨x0, x1, x2, x3, x4⟩) (k := gk) (M := M) (lc := code.length) ⟨HRB.out.1.hl, HRB.out.2 gk (by omega), htg.1, by have := htg.2; omega, htk.1, HRB.out.1.hM, HRB.out.1.hdp, HRB.out.1.hb.2, hp5, HRB.out.1.hcp, HRB.out.1.hcn, hna.1, by show G.left - 1 < gk; have := HL.out; omega⟩ hT5
        have hni := stepU_inv (x := ⟨x0, x1, x2, x3, x4⟩) HRB.out.1.hl HRB.out.1.hb.1 (runU_ok HRB.out.1.hl HRB.out.1.hb.1 gk) hna.1 htg.1 htg.2 htk.1 htk.2 (fun a b d => hna.2 a b d)
        have hxx : rd_T61 code T.at_ = ⟨x0, x1, x2, x3, x4⟩ := by rw [HXX.out.2.1, ← HXX.out.1]
        have e9 := (runU_step (gk := gk) (d := c.depth) HBU.out HL.out hxx).symm.trans hr
        obtain ⟨sr, hsr⟩ : ∃ sr, sr = stepU l c.depth (runU l c.budget c.depth gk) path ⟨x0, x1, x2, x3, x4⟩ (tickT T) (tickG G) := ⟨_, rfl⟩
        rw [← hsr] at hst hni e9
        refine hst.mono ?_
        intro e w6 hpost
        have hPP : ∀ q, q < w.heap.size → (PU c.wb vl q ∨ QU p q) → SU1 q ∨ SQ q := fun q hq hp => hp.elim (fun e => (hP.1 q e).elim .inl (fun h => absurd hq (by omega))) (fun e => (hP.2 q e).elim .inr (fun h => absurd hq (by omega)))
        have hall : Keep (fun q => SU1 q ∨ SQ q) w W5 := hK.then hk15 (fun q hq hp => hPP q hq hp)
        have hsz := hall.size
        have hstep : ∀ {T' : Tu} {G' : Gu} {w6 : World}, Left1 c l p.tb p.nb (.slice A path.length cp) (PU c.wb vl) (QU p) D1 T' G' W5 w6 → Left1 c l p.tb p.nb (.slice A path.length cp) SU1 SQ D T' G' w w6 := by
          rintro T' G' w6 ⟨hk6, D2, ents6, vl6, p6, hS6, ht6, hn6, hq6, hd1, hd2⟩
          refine ⟨hall.then hk6 (fun q hq hp => hPP q hq hp), D2, ents6, vl6, p6, hS6, ht6, hn6, ⟨fun q hq => (hq6.1 q hq).elim (fun h => hP.1 q h) (fun h => .inr (by omega)), fun q hq => (hq6.2 q hq).elim (fun h => hP.2 q h) (fun h => .inr (by omega))⟩, fun q hq => hd1 q (hDD.1 q hq), fun q hq => (hd2 q hq).elim (fun h => hDD.2 q h) (fun h => .inr (by omega))⟩
        cases sr with
        | go T' G' =>
          obtain ⟨rfl, hk6, D2, ents6, vl6, p6, hS6, ht6, hn6, hq6, hd1, hd2⟩ := hpost
          have hD6 : UdeedAt mb w6 := hD5.heap (hk6.block _ hD5.lt (fun hp => by
            rcases hp with hp | hp
            · obtain ⟨cs, t, h, _⟩ := hT5.us.eg.typed _ hp; exact hD5.notCells cs t _ h
            · obtain ⟨cs, t, h, _⟩ := hT5.ub.typed _ hp; exact hD5.notCells cs t _ h))
          have hp6 : PathAt w6 A path := hp5.keep hk6 (fun q cs hq hp => hp.elim (hT5.us.eg.notPath q cs hq) (hT5.ub.notPath q cs hq))
          have hx6 := hk6.blk hx5 (fun hp => hp.elim (fun h => hT5.us.eg.not hx5 (by decide) h) (fun h => hT5.ub.not hx5 (by decide) h))
          obtain ⟨hi1, hi2, hi3, hi4⟩ := hni
          have HR6 := Aside0.mk (show RunIU c l M p.tb p.nb A cp path code mb xb SU1 SQ D w r gk w6 from
            ⟨D2, T', G', ents6, vl6, p6, hS6, ⟨ht6, hn6⟩, hi1, hi2, hi4, by have h8 : G'.left ≤ G.left - 1 := hi3; have := HL.out; omega,
              hall.then hk6 (fun q hq hp => hPP q hq hp),
              ⟨fun q hq => (hq6.1 q hq).elim (fun h => hP.1 q h) (fun h => .inr (by omega)), fun q hq => (hq6.2 q hq).elim (fun h => hP.2 q h) (fun h => .inr (by omega))⟩, ⟨fun q hq => hd1 q (hDD.1 q hq), fun q hq => (hd2 q hq).elim (fun h => hDD.2 q h) (fun h => .inr (by omega))⟩, hD6, hp6, hx6, e9⟩)
          clear hT hgi hleft hti hlk hK hP hDD hD hp hx hr hT5 h5x hna hk15 hD5 hp5 hx5 htk htg hst hi1 hi2 hi3 hi4 hxx e9 hsr hPP hall hsz hstep hk6 hS6 ht6 hn6 hq6 hd1 hd2 hD6 hp6 hx6
          go_wp2_with fail
          go_roundg gk
          case rel => exact ⟨by omega, HR6⟩
          case measure => omega
        | stop v f' T' G' =>
          obtain ⟨he, hL⟩ := hpost
          subst he
          have hL0 := hstep hL
          have hx6 := hL.1.blk hx5 (fun hp => hp.elim (fun h => hT5.us.eg.not hx5 (by decide) h) (fun h => hT5.ub.not hx5 (by decide) h))
          show Leaves _ _ _ _ _ _ _
          refine leaves_cons (f := 57) (args := #[.pointer (some ⟨xb, 0, none⟩)]) (by simp) (by simp [go_sem]) ?_
          refine (ucatch_end v f' hx6).mono ?_
          rintro e u' w9 ⟨rfl, rfl, hk9, hx10⟩
          refine ⟨_, urun_results rfl hx10, ?_⟩
          rw [← e9]
          exact ⟨rfl, hL0.box hx6 HX.out.2.2 HW0.out hk9⟩
        | long =>
          obtain ⟨⟨rr, he, hrr⟩, hk6⟩ := hpost
          subst he
          have hx6 := hk6.blk hx5 (fun hp => hp.elim (fun h => hT5.us.eg.not hx5 (by decide) h) (fun h => hT5.ub.not hx5 (by decide) h))
          show Leaves _ _ _ _ _ _ _
          refine leaves_cons (f := 57) (args := #[.pointer (some ⟨xb, 0, none⟩)]) (by simp) (by simp [go_sem]) ?_
          refine (ucatch_long rr hx6).mono ?_
          rintro e u' w9 ⟨rfl, rfl, hk9⟩
          show RunPU c l p.tb p.nb (.slice A path.length cp) SU1 SQ D r w _ _
          rw [← e9]
          refine ⟨⟨_, rfl, fun x hx => ?_⟩, (hall.then hk6 (fun q hq hp => hPP q hq hp)).then hk9 (fun q hq e => by have := HX.out.2.2; omega)⟩
          rcases List.mem_append.1 hx with hx | hx
          · cases hx
          · rcases List.mem_cons.1 hx with hx | hx
            · rw [hx]
            · exact hrr x hx
end
end Go.Proofs.Ytbekjccehhaljaa.H

set_option linter.unusedVariables false
set_option linter.unusedSimpArgs false
namespace Go.Proofs.Ytbekjccehhaljaa.H
open Go.RowKit Go.Hay Go.Proofs.YtbekjccehhaljaaW.PrintWords Go.Proofs.YtbekjccehhaljaaW.PrintLast Go.Proofs.YtbekjccehhaljaaW.PrintMore
theorem slice_regs_allU (tb : Nat) (w : World) : (Instr.sliceAt 122 (.pointer (some ⟨tb, 2, none⟩)) none none none).run Try.prog w = .ok (.slice (some ⟨tb, 2, none⟩) 8 8) w := by
  have hal : Try.prog.arrayLen 122 = 8 := by kernel_rfl
  have hel : Try.prog.elem 122 = 2 := by kernel_rfl
  have ht : Try.prog.underlying 122 = some (.array (Try.prog.arrayLen 122) (Try.prog.elem 122)) := by rw [hal, hel]; exact Try.underlying122
  have hsz : ∀ w, (sizeOf 2).run Try.prog w = .ok 1 w := fun _ => by kernel_rfl
  rw [run_sliceAt_array_all w 122 ⟨tb, 2, none⟩ ht, hal, hel, hsz]
  rfl
theorem splice_regsU (p v : Value) (rest : List Value) (args : List Int) (h : args.length ≤ 8) :
    splice ([p, v] ++ ((List.replicate 8 (0 : Int)).map (Value.int .i64) ++ rest)) 2 (args.map (Value.int .i64)) = [p, v] ++ ((newRegs args).map (Value.int .i64) ++ rest) := by
  obtain ⟨n, hn⟩ : ∃ n, n = args.length := ⟨_, rfl⟩
  have e1 : args.take 8 = args := List.take_of_length_le h
  unfold splice newRegs
  rw [e1, List.length_map, List.map_append, ← hn]
  have e2 : ([p, v] ++ ((List.replicate 8 (0 : Int)).map (Value.int .i64) ++ rest)).take 2 = [p, v] := rfl
  have e3 : ([p, v] ++ ((List.replicate 8 (0 : Int)).map (Value.int .i64) ++ rest)).drop (2 + n) = (List.replicate (8 - n) (0 : Int)).map (Value.int .i64) ++ rest := by
    have : ([p, v] ++ ((List.replicate 8 (0 : Int)).map (Value.int .i64) ++ rest)).drop (2 + n) = ((List.replicate 8 (0 : Int)).map (Value.int .i64) ++ rest).drop n := by
      rw [Nat.add_comm]; rfl
    rw [this, List.drop_append_of_le_length (by simp; omega), ← List.map_drop, List.drop_replicate]
  rw [e2, e3, List.append_assoc]
theorem args_cellsU {w : World} {A : Option Addr} {xs : List Int} (h : (Kd.int .i64).C w A xs.length xs) (hx : 0 < xs.length) : ∃ ad, A = some ad ∧ ∀ j v, (xs.map (Value.int .i64))[j]? = some v → w.cell? (ad.add j) = some v := by
  obtain ⟨_, _, h3⟩ := h
  obtain ⟨ad, e, h4⟩ := h3 hx
  refine ⟨ad, e, fun j v hj => ?_⟩
  rw [List.getElem?_map] at hj
  cases hp : xs[j]? with
  | none => rw [hp] at hj; cases hj
  | some p =>
    rw [hp] at hj
    cases hj
    obtain ⟨cs, h5, h6, h7⟩ := h4 j p hp
    have h6 : cs = [.int .i64 p] := h6
    subst h6
    have := h7 0 _ rfl
    have e2 : j * (Kd.int .i64).sz + 0 = j := Nat.mul_one j
    rwa [e2] at this
def newPl (tb nb : Nat) (hs : List (Option Addr)) : Pl := ⟨tb, nb, [], [], hs, .slice none 0 0, .slice none 0 0, .slice none 0 0⟩
theorem UB.fresh {D : Nat → Prop} {wb tb nb B : Nat} {vp : Value} {args : List Int} {hands : List Tr} {hs : List (Option Addr)} {w : World} (h : w.heap[tb]? = some (.cells (splice (ucells wb nb vp (newTu [] hands) hs (.slice none 0 0)) 2 (args.map (Value.int .i64))).toArray 125 (0, 0))) (hn : w.heap[nb]? = some (.cells #[.slice none 0 0, .slice none 0 0, .int .i64 0, .int .i64 0] 70 (0, 0))) (ha : args.length ≤ 8) (hh : hands.length = 4) (hsl : hs.length = 4) (hd : ∀ j (h : j < hands.length) (h' : j < hs.length), ND D w hands[j] hs[j]) : UB D wb vp (newTu args hands) (newPl tb nb hs) B w := by
  have e : splice (ucells wb nb vp (newTu [] hands) hs (.slice none 0 0)) 2 (args.map (Value.int .i64)) = ucells wb nb vp (newTu args hands) hs (.slice none 0 0) := splice_regsU _ _ _ args ha
  rw [e] at h
  exact ⟨h, hn, Kd.R_nil _ _ _ _ _, Kd.R_nil _ _ _ _ _, Kd.R_nil _ _ _ _ _, rfl, hsl, newRegs_len ha, hh, fun j h1 => absurd h1 (Nat.not_lt_zero _), hd⟩
/-- the blocks of a finished node. -/
def Fin (D : Nat → Prop) (p : Pl) (q : Nat) : Prop := D q ∨ q = p.nb ∨ p.vps.ownBlock = some q ∨ p.vks.ownBlock = some q
theorem isTs_of {w : World} : ∀ (ks : List Tr) (qs : List (Option Addr)), ks.length = qs.length → (∀ j (h : j < ks.length) (h' : j < qs.length), IsT ks[j] w qs[j]) → IsTs ks w qs
  | [], qs, hl, _ => by simp only [IsTs]; exact List.eq_nil_of_length_eq_zero hl.symm
  | k :: r, [], hl, _ => by simp at hl
  | k :: r, a :: s, hl, h => by
    simp only [IsTs]
    exact ⟨a, s, rfl, h 0 (by simp) (by simp), isTs_of r s (by simpa using hl) (fun j h1 h2 => h (j + 1) (by simpa using h1) (by simpa using h2))⟩
/-- the task's node stands. -/
theorem UB.tree {D : Nat → Prop} {wb B : Nat} {vp : Value} {T : Tu} {p : Pl} {w w1 : World} (h : UB D wb vp T p B w) (hkb : p.kb = p.ka) (hD : ∀ q, QU p q → ¬ D q) (v f : Int) (hk : Keep (fun q => q = p.nb) w w1) (hn : w1.heap[p.nb]? = some (.cells #[p.vps, p.vks, .int .i64 v, .int .i64 f] 70 (0, 0))) : ND (Fin D p) w1 (mkNode T v f) (some ⟨p.nb, 0, none⟩) := by
  intro W' hW
  have hne := h.ne
  have hold : ∀ q, q < w.heap.size → Fin D p q → q ≠ p.nb → W'.heap[q]? = w.heap[q]? := fun q hq hf hn => (hW q hf (Nat.lt_of_lt_of_le hq hk.size)).trans (hk.block q hq hn)
  have rp := R_flat (w1 := W') (ok' := fun _ => True) kPc_flat h.rps (fun _ _ => trivial) (fun q hq => hold q (R_own h.rps q hq).2.2 (.inr (.inr (.inl hq))) (fun e => hne.pn (by rw [← e]; exact hq)))
  have rk := R_flat (w1 := W') (ok' := fun _ => True) kP_flat h.rks (fun _ _ => trivial) (fun q hq => hold q (R_own h.rks q hq).2.2 (.inr (.inr (.inr hq))) (fun e => hne.sn (by rw [← e]; exact hq)))
  obtain ⟨A1, c1, e1⟩ := Kd.R_slice h.rps
  obtain ⟨A2, c2, e2⟩ := Kd.R_slice h.rks
  rw [e1] at rp
  rw [e2] at rk
  have q1 := Kd.R_reads' rp
  have q2 := Kd.R_reads' rk
  have hl : p.kb.length = (T.kids.map (·.1)).length := by rw [hkb, List.length_map]; exact h.al
  unfold mkNode
  simp only [IsT]
  rw [hl] at q2 e2
  refine ⟨p.nb, A1, c1, A2, c2, p.kb, rfl, ?_, q1.2.1, q1.2.2, q2.2.1, q2.2.2, isTs_of _ _ hl.symm (fun j h1 h2 => ?_)⟩
  · rw [hW p.nb (.inr (.inl rfl)) (blk_lt hn), hn, e1, e2]
  · have h1' : j < T.kids.length := by rwa [List.length_map] at h1
    have h9 := h.kids j h1' (by rw [h.al]; exact h1') W' (fun q hq hl => hold q hl (.inl hq) (fun e => hD p.nb (.inr (.inl rfl)) (by rw [← e]; exact hq)))
    simp only [List.getElem_map, hkb]
    exact h9
section
variable {c : Cu} {l : List S64} {M k : Nat}
theorem ST.fin {D : Nat → Prop} {G : Gu} {ents : List Ent} {vl vp : Value} {T : Tu} {p : Pl} {w w1 : World} (h : ST c l D G ents vl vp T p w) {v f : Int} (hk : Keep (fun q => q = p.nb) w w1) (hn : w1.heap[p.nb]? = some (.cells #[p.vps, p.vks, .int .i64 v, .int .i64 f] 70 (0, 0))) : US c l (Fin D p) G ents vl w1 ∧ ND (Fin D p) w1 (mkNode T v f) (some ⟨p.nb, 0, none⟩) ∧ w1.heap[p.tb]? = w.heap[p.tb]? := by
  have hne := h.ub.ne
  have hU := h.us.keep hk (fun q hq e => h.ap q hq (.inr (.inl e))) (fun q hq e => h.qd q (.inr (.inl e)) hq) (fun q cs hq e => h.ub.notPath q cs hq (.inr (.inl e))) (fun q hq e => by have := h.nlo; omega)
  refine ⟨⟨hU.eg, hU.bl, hU.pr, hU.lo, fun q hq => ?_, fun q hq hf => ?_, fun q hq => ?_⟩, h.ub.tree h.kb h.qd v f hk hn, hk.block _ (blk_lt h.ub.node) hne.tn⟩
  · rcases hq with hq | hq | hq | hq
    · exact hU.dl q hq
    · rw [hq]; exact blk_lt hn
    · exact Nat.lt_of_lt_of_le (R_own h.ub.rps q hq).2.2 hk.size
    · exact Nat.lt_of_lt_of_le (R_own h.ub.rks q hq).2.2 hk.size
  · rcases hf with hf | hf | hf | hf
    · exact hU.dp q hq hf
    · exact h.ap q hq (.inr (.inl hf))
    · exact h.ap q hq (.inr (.inr (.inr (.inl hf))))
    · exact h.ap q hq (.inr (.inr (.inr (.inr hf))))
  · rcases hq with hq | hq | hq | hq
    · exact hU.dt q hq
    · rw [hq]; exact ⟨_, _, hn, .inl rfl⟩
    · obtain ⟨cs, h1⟩ := Kd.R_typed h.ub.rps q hq
      exact ⟨cs, _, hk.blk h1 (fun e => hne.pn (by rw [← e]; exact hq)), .inr (.inl rfl)⟩
    · obtain ⟨cs, h1⟩ := Kd.R_typed h.ub.rks q hq
      exact ⟨cs, _, hk.blk h1 (fun e => hne.sn (by rw [← e]; exact hq)), .inr (.inr rfl)⟩
theorem US.set {D : Nat → Prop} {G G' : Gu} {ents : List Ent} {vl : Value} {w : World} (h : US c l D G ents vl w) (i : Nat) (v : Value) (hg : G'.log = G.log) (hc : (#[.slice c.Ap l.length c.cp, .int .i64 c.budget, .int .i64 c.depth, .int .i64 G.left, .pointer none, vl, .int .i64 G.frames, .int .i64 G.cells, .int .i64 G.chunks, .int .i64 G.steps] : Array Value).setIfInBounds i v = #[.slice c.Ap l.length c.cp, .int .i64 c.budget, .int .i64 c.depth, .int .i64 G'.left, .pointer none, vl, .int .i64 G'.frames, .int .i64 G'.cells, .int .i64 G'.chunks, .int .i64 G'.steps]) : US c l D G' ents vl (w.setCell ⟨c.wb, i, none⟩ v) ∧ Keep (fun q => q = c.wb) w (w.setCell ⟨c.wb, i, none⟩ v) := by
  have hk : Keep (fun q => q = c.wb) w (w.setCell ⟨c.wb, i, none⟩ v) := (Keep.refl (fun q => q = c.wb) w).set (p := ⟨c.wb, i, none⟩) (.inr rfl) _
  exact ⟨h.turn (h.eg.setCell i v hg hc) hk (fun q hq e => by have := h.pLo q (.inl e); omega) (fun q hq e => h.dp q (.inl e) hq) (fun q hq => .inl hq), hk⟩
set_option maxRecDepth 100000 in
set_option maxHeartbeats 16000000 in
theorem begin_anyU (hl : POk l) (hdp : c.depth ≤ 900) (hb : 0 ≤ c.budget ∧ c.budget ≤ 100000) (hB : ∀ j, j < k → BegUC c l j) : BegUC c l k := by
  intro M D G ents vl w f A cpath path Aa ca args hands hs hg hgi hleft hM hf hp hcp hcn hpd hal haC hac hhl hsl hnd hk
  obtain ⟨h0, h1, h2, h3, rfl⟩ := four hsl
  obtain ⟨r, hr⟩ : ∃ r, r = runU l c.budget c.depth k G path (rd_T64 l (f : Int)).f1 (newTu args hands) := ⟨_, rfl⟩
  show Calls _ _ _ _ (BegPU c l (PU c.wb vl) D (endU path (runU l c.budget c.depth k G path (rd_T64 l (f : Int)).f1 (newTu args hands))) w)
  rw [← hr]
  obtain ⟨R, hRR⟩ : ∃ R, R = endU path r := ⟨_, rfl⟩
  rw [← hRR]
  have HRR := Aside0.mk hRR
  have hrd : rd_T64 l (f : Int) = l[f] := by simp [rd_T64, hf]
  rw [hrd] at hr
  obtain ⟨W, hW⟩ : ∃ W, W = w.alloc (.cells #[.pointer h0, .pointer h1, .pointer h2, .pointer h3] 97) := ⟨_, rfl⟩
  have hb1 : Below w.heap.size w W := by rw [hW]; exact (Below.refl w.heap.size w).alloc (Nat.le_refl _) _
  have hbx : W.heap[w.heap.size]? = some (.cells #[.pointer h0, .pointer h1, .pointer h2, .pointer h3] 97 (0, 0)) := by rw [hW]; exact alloc_blk w _
  have HW := Aside0.mk hW
  have x0 := blk_cell hbx 0
  have x1 := blk_cell hbx 1
  have x2 := blk_cell hbx 2
  have x3 := blk_cell hbx 3
  obtain ⟨nb, hnb⟩ : ∃ nb, nb = W.heap.size := ⟨_, rfl⟩
  obtain ⟨W0, hW0⟩ : ∃ W0, W0 = W.alloc (.cells #[.slice none 0 0, .slice none 0 0, .int .i64 0, .int .i64 0] 70) := ⟨_, rfl⟩
  have hb0 : Below W.heap.size W W0 := by rw [hW0]; exact (Below.refl W.heap.size W).alloc (Nat.le_refl _) _
  have hn0 : W0.heap[nb]? = some (.cells #[.slice none 0 0, .slice none 0 0, .int .i64 0, .int .i64 0] 70 (0, 0)) := by rw [hW0, hnb]; exact alloc_blk W _
  obtain ⟨tb, htb⟩ : ∃ tb, tb = W0.heap.size := ⟨_, rfl⟩
  obtain ⟨W2, hW2⟩ : ∃ W2, W2 = W0.alloc (.cells (ucells c.wb nb (.slice A path.length cpath) (newTu [] hands) [h0, h1, h2, h3] (.slice none 0 0)).toArray 125) := ⟨_, rfl⟩
  have hb2 : Below W0.heap.size W0 W2 := by rw [hW2]; exact (Below.refl W0.heap.size W0).alloc (Nat.le_refl _) _
  have ht2 : W2.heap[tb]? = some (.cells (ucells c.wb nb (.slice A path.length cpath) (newTu [] hands) [h0, h1, h2, h3] (.slice none 0 0)).toArray 125 (0, 0)) := by rw [hW2, htb]; exact alloc_blk W0 _
  have hn2 := (hb2.block _ (blk_lt hn0)).trans hn0
  have hbw : Below w.heap.size w W2 := (hb1.trans (hb0.mono hb1.size)).trans (hb2.mono (Nat.le_trans hb1.size hb0.size))
  have hntb : w.heap.size ≤ nb ∧ nb < tb := ⟨by rw [hnb]; exact hb1.size, by rw [htb]; exact blk_lt hn0⟩
  have HWW := Aside0.mk (And.intro hW0 (And.intro hW2 (And.intro hnb htb)))
  have H2 := Aside0.mk (And.intro hbw (And.intro ht2 (And.intro hn2 hntb)))
  have H0 := Aside0.mk (And.intro hg (And.intro hgi (And.intro hleft (And.intro hM (And.intro hf (And.intro hp (And.intro hcp (And.intro hcn (And.intro hpd (And.intro hal (And.intro haC (And.intro hac (And.intro hhl (And.intro hnd (And.intro hk hr)))))))))))))))
  have HF := Aside0.mk (And.intro hl (And.intro hdp (And.intro hb hB)))
  clear hg hgi hleft hM hp hcp hcn hpd hal haC hac hhl hnd hk hr hl hdp hb hB hW hb1 hbx hsl hrd hW0 hb0 hn0 hW2 hb2 ht2 hn2 hbw hntb hnb htb hRR
  simp only [List.map_cons, List.map_nil]
  go_enter Try.func26, Try.ntmps26
  go_upto_region 1 with (fail)
  rw [← HW.out]
  go_upto_region 2 with (fail)
  rw [← HWW.out.1, ← HWW.out.2.2.1]
  have ew : W0.alloc (.cells #[.pointer (some ⟨c.wb, 0, none⟩), .slice A path.length cpath, .int .i64 0, .int .i64 0, .int .i64 0, .int .i64 0, .int .i64 0, .int .i64 0, .int .i64 0, .int .i64 0, .pointer h0, .pointer h1, .pointer h2, .pointer h3, .slice none 0 0, .int .i64 0, .int .i64 0, .int .i64 0, .int .i64 0, .pointer (some ⟨nb, 0, none⟩)] 125) = W2 := by rw [HWW.out.2.1]; rfl
  have etb : tb = nb + 1 := by rw [HWW.out.2.2.2, HWW.out.1, HWW.out.2.2.1]; exact Array.size_push _
  rw [ew, ← etb]
  clear etb ew x0 x1 x2 x3 HWW HW
  have hsl := slice_regs_allU tb
  have LEN2 := Aside0.mk (show path.length ≤ 1000 from by have h1 := H0.out.2.2.2.2.2.2.2.2.1; have h2 := HF.out.2.1; omega)
  obtain ⟨cs, hcs⟩ : ∃ cs, cs = args.map (Value.int .i64) := ⟨_, rfl⟩
  have hcl : cs.length = args.length := by rw [hcs, List.length_map]
  have HCS := Aside0.mk (And.intro hcs hcl)
  clear hcs hcl
  have hs1 : 0 < cs.length → some (⟨tb, 2, none⟩ : Addr) = some ⟨tb, 2, none⟩ ∧ ∃ ad, Aa = some ad ∧ ∀ j v, cs[j]? = some v → W2.cell? (ad.add j) = some v := by
    intro hp
    rw [HCS.out.2] at hp
    obtain ⟨ad, e, h⟩ := args_cellsU (Kd.C_below H0.out.2.2.2.2.2.2.2.2.2.2.1 H2.out.1) hp
    rw [← HCS.out.1] at h
    exact ⟨rfl, ad, e, h⟩
  have hs2 : 2 + cs.length ≤ (ucells c.wb nb (.slice A path.length cpath) (newTu [] hands) [h0, h1, h2, h3] (.slice none 0 0)).length := by
    have h9 : (ucells c.wb nb (.slice A path.length cpath) (newTu [] hands) [h0, h1, h2, h3] (.slice none 0 0)).length = 20 := rfl
    have h8 := H0.out.2.2.2.2.2.2.2.2.2.1
    rw [h9, HCS.out.2]; omega
  have hs3 : ∀ v ∈ cs, v.oneCell' = true := by
    intro v hv
    rw [HCS.out.1] at hv
    obtain ⟨x, _, rfl⟩ := List.mem_map.1 hv
    rfl
  have hs0 : cs.length = Nat.min args.length 8 := by rw [HCS.out.2]; exact (Nat.min_eq_left H0.out.2.2.2.2.2.2.2.2.2.1).symm
  have HS := Aside0.mk (And.intro hs0 (And.intro hs1 (And.intro hs2 hs3)))
  clear hs0 hs1 hs2 hs3
  go_upto_region 3 with (first | (refine wpList_copy_splice rfl (.tmp 24) (.tmp 25) 23 23 rfl 2 Try.underlying23 (by kernel_rfl) (some ⟨tb, 2, none⟩) Aa 8 8 args.length ca rfl rfl tb 2 (ucells c.wb nb (.slice A path.length cpath) (newTu [] hands) [h0, h1, h2, h3] (.slice none 0 0)) 125 H2.out.2.1 cs HS.out.1 HS.out.2.1 HS.out.2.2.1 HS.out.2.2.2 tb W2 ((Below.refl W2.heap.size W2).mono (Nat.le_of_lt (blk_lt H2.out.2.1))) (Nat.le_refl _) ?_; intro W3 hn3 hb3; have H3 := Aside0.mk (And.intro hn3.out hb3); clear hn3 hb3) | fail)
  have hn3 := H3.out.1
  rw [HCS.out.1] at hn3
  have hbw3 : Below w.heap.size w W3 := H2.out.1.trans (H3.out.2.mono (by have := H2.out.2.2.2; omega))
  have hnb3 := (H3.out.2.block nb H2.out.2.2.2.2).trans H2.out.2.2.1
  have hg3 := H0.out.1.below hbw3
  have hub : UB D c.wb (.slice A path.length cpath) (newTu args hands) (newPl tb nb [h0, h1, h2, h3]) c.B W3 := UB.fresh hn3 hnb3 H0.out.2.2.2.2.2.2.2.2.2.1 H0.out.2.2.2.2.2.2.2.2.2.2.2.2.1 rfl (fun j h1 h2 => (H0.out.2.2.2.2.2.2.2.2.2.2.2.2.2.1 j h1 h2).below hbw3)
  have hq0 : ∀ q, QU (newPl tb nb [h0, h1, h2, h3]) q → w.heap.size ≤ q := by
    intro q hq
    have h9 := H2.out.2.2.2
    rcases hq with e | e | e | e | e
    · rw [show q = tb from e]; omega
    · rw [show q = nb from e]; omega
    · cases e
    · cases e
    · cases e
  have hbl0 := H0.out.1.bl.size
  have hST : ST c l D G ents vl (.slice A path.length cpath) (newTu args hands) (newPl tb nb [h0, h1, h2, h3]) W3 := ⟨hg3, hub, fun q hq hd => by have h8 := hq0 q hq; have h9 := H0.out.1.dl q hd; omega, by have := H2.out.2.2.2; show _ ≤ tb; omega, by have := H2.out.2.2.2; show _ ≤ nb; omega, rfl⟩
  have hf := H0.out.2.2.2.2.1
  have hrd : rd_T64 l (f : Int) = l[f] := by simp [rd_T64, hf]
  have hcode := H0.out.1.pr
  obtain ⟨adp, Ai, ci, hap, p0, p1, hci, hCi⟩ := at_T64 hcode (f : Int) (by omega) (by omega)
  rw [hrd] at p1 hci hCi
  rw [Int.toNat_natCast] at p0 p1
  replace p1 := (hg3.bl.cell (World.block_lt_of_cell? _ _ p1)).trans p1
  have q0 := blk_cell hg3.eg.node 0
  have hfl2 : ((f : Int) < (l.length : Int)) = True := eq_true (by omega)
  rw [hap] at q0
  have hti := new_inv HF.out.1 HF.out.2.2.1.1 f hf (path := path) (depth := c.depth) H0.out.2.2.2.2.2.2.2.2.1 args H0.out.2.2.2.2.2.2.2.2.2.1 hands H0.out.2.2.2.2.2.2.2.2.2.2.2.2.1
  have hRn : RnU c l M A cpath path f l[f].f1 Ai ci := ⟨HF.out.1, H0.out.2.2.2.1, HF.out.2.1, HF.out.2.2.1, H0.out.2.2.2.2.2.2.1, H0.out.2.2.2.2.2.2.2.1, ⟨hf, rfl⟩, hCi, hci⟩
  have hrun := run_anyU (k := k) hRn HF.out.2.2.2 hST H0.out.2.1 H0.out.2.2.1 hti H0.out.2.2.2.2.2.2.2.2.2.2.2.2.2.2.1 (H0.out.2.2.2.2.2.1.below hbw3)
  rw [← H0.out.2.2.2.2.2.2.2.2.2.2.2.2.2.2.2] at hrun
  have hok := fun v f' T' G' (e : r = some (v, f', T', G')) => runU_ok HF.out.1 HF.out.2.2.1.1 k M G path f hf _ H0.out.2.1 H0.out.2.2.1 hti v f' T' G' (H0.out.2.2.2.2.2.2.2.2.2.2.2.2.2.2.2.symm.trans e)
  have HR := Aside0.mk hrun
  have HOK := Aside0.mk hok
  have H4 := Aside0.mk (And.intro hbw3 hq0)
  clear hn3 hnb3 hg3 hub hq0 hbl0 hST hrd hcode p0 hci hCi hap hti hRn hrun hok hsl HS HCS H3
  go_wp2_with fail
  refine HR.out.mono ?_
  intro e w6 hpost
  clear HR q0 p1 hfl2
  cases r with
  | none =>
    obtain ⟨⟨rr, he, hrr⟩, hk6⟩ := hpost
    subst he
    rw [HRR.out]
    exact ⟨rfl, ⟨rr, rfl, hrr⟩, (Keep.of_below H4.out.1 (PU c.wb vl)).then hk6 (fun q hq hp => hp.elim id (fun e => by have := H4.out.2 q e; omega))⟩
  | some res =>
    obtain ⟨v, f', T', G'⟩ := res
    obtain ⟨he, hk6, D', ents', vl', p', hS6, ht6, hn6, hq6, hd1, hd2⟩ := hpost
    subst he
    obtain ⟨g1, g2, g3, g4⟩ := HOK.out v f' T' G' rfl
    replace ht6 : p'.tb = tb := ht6
    replace hn6 : p'.nb = nb := hn6
    have hk06 : Keep (PU c.wb vl) w w6 := (Keep.of_below H4.out.1 (PU c.wb vl)).then hk6 (fun q hq hp => hp.elim id (fun e => by have := H4.out.2 q e; omega))
    have hsz3 := H4.out.1.size
    have hqp : ∀ q, PU c.wb vl' q → PU c.wb vl q ∨ w.heap.size ≤ q := fun q hq => (hq6.1 q hq).imp id (fun e => Nat.le_trans hsz3 e)
    have hqq : ∀ q, QU p' q → w.heap.size ≤ q := fun q hq => (hq6.2 q hq).elim (fun e => H4.out.2 q e) (fun e => Nat.le_trans hsz3 e)
    obtain ⟨xb, hxb⟩ : ∃ xb, xb = w6.heap.size := ⟨_, rfl⟩
    obtain ⟨W7, hW7⟩ : ∃ W7, W7 = w6.alloc (.cells #[.int .i64 v, .int .i64 f'] 127) := ⟨_, rfl⟩
    have hb7 : Below w6.heap.size w6 W7 := by rw [hW7]; exact (Below.refl w6.heap.size w6).alloc (Nat.le_refl _) _
    have hx7 : W7.heap[xb]? = some (.cells #[.int .i64 v, .int .i64 f'] 127 (0, 0)) := by rw [hW7, hxb]; exact alloc_blk w6 _
    have hS7 := hS6.below hb7
    have HWX := Aside0.mk (And.intro hW7 hxb)
    have H7 := Aside0.mk (And.intro hS7 (And.intro hx7 (And.intro (hk06.trans (Keep.of_below hb7 _)) (And.intro hqp (And.intro hqq (And.intro (show (∀ q, D q → D' q) ∧ ∀ q, D' q → D q ∨ w.heap.size ≤ q from ⟨hd1, fun q hq => (hd2 q hq).imp id (fun e => Nat.le_trans hsz3 e)⟩) (And.intro (And.intro ht6 hn6) (And.intro g1 (And.intro g2 g4)))))))))
    have hk67 := hk06.size
    clear hW7 hxb hb7 hx7 hS7 hk06 hqp hqq hd1 hd2 ht6 hn6 g1 g2 g3 g4 hk6 hS6 hq6 hsz3 HOK hk67
    go_upto_region 4 with (fail)
    rw [← HWX.out.1, ← HWX.out.2]
    clear HWX
    have htb := H7.out.2.2.2.2.2.2.1.1
    have hnb := H7.out.2.2.2.2.2.2.1.2
    have t19 := H7.out.1.ub.fix.2.2.2.2.2.2.2
    rw [htb, hnb] at t19
    have q2 := blk_cell H7.out.1.ub.nd 2
    have q3 := blk_cell H7.out.1.ub.nd 3
    have z2 := blk_frozen H7.out.1.ub.nd 2
    have z3 := blk_frozen H7.out.1.ub.nd 3
    rw [hnb] at q2 q3 z2 z3
    have HT := Aside0.mk t19
    have hnt : nb ≠ tb := by have := H2.out.2.2.2; omega
    have hnx : xb ≠ nb := by rw [← hnb]; exact ne_of_typed H7.out.2.1 H7.out.1.ub.nd (by decide)
    have HNE := Aside0.mk (And.intro hnt hnx)
    clear htb hnb t19 hnt hnx
    refine wp_region_T (fun w' => w'.heap[tb]? = W7.heap[tb]? ∧ w'.heap[xb]? = W7.heap[xb]?) [17] (.takes [0, 1, 2, 3, 4, 5, 6, 7, 8, 9, 10, 11] (.op 12 (.op 13 (.op 14 (.op 15 (.op 16 (.fin 17 .done))))))) (by kernel_rfl) (by kernel_rfl) (by kernel_rfl) (by kernel_rfl) (panic_via (P := Try.prog) (fn := Try.f26) (R := BegPU c l (PU c.wb vl) D R w) (fun _ _ _ => rfl)) ?_
    have hs : W7.drew.heap[tb]? = W7.heap[tb]? ∧ W7.drew.heap[xb]? = W7.heap[xb]? := ⟨rfl, rfl⟩
    simp only [Turns.takes]
    repeat (
      (first
        | (refine runT_take (v := ?_) (by rfl) (by rfl) (fun w' hS => ?_) hs ?_
           rotate_left
           · (have t19 := (World.cell?_of_block (w := W7) (a := ⟨tb, 19, none⟩) hS.1).trans HT.out; have hx := hS.2.trans H7.out.2.1; have y0 := blk_cell hx 0; have y1 := blk_cell hx 1; go_simp; exact rfl))
        | refine runT_skip (by rfl) (by rfl) hs ?_)
      (try simp only [Act.put, List.setIfInBounds_toArray, List.set_cons_zero, List.set_cons_succ]))
    refine runT_op (by rfl) (by rfl) (fun K hK => ?_)
    go_simp
    refine hK _ _ hs ?_
    clear hK K
    (try simp only [Act.put, List.setIfInBounds_toArray, List.set_cons_zero, List.set_cons_succ])
    refine runT_op (by rfl) (by rfl) (fun K hK => ?_)
    go_simp
    refine hK _ _ hs ?_
    clear hK K
    (try simp only [Act.put, List.setIfInBounds_toArray, List.set_cons_zero, List.set_cons_succ])
    refine runT_op (by rfl) (by rfl) (fun K hK => ?_)
    go_simp
    have hs2 : (W7.drew.setCell ⟨nb, 2, none⟩ (.int .i64 v)).heap[tb]? = W7.heap[tb]? ∧ (W7.drew.setCell ⟨nb, 2, none⟩ (.int .i64 v)).heap[xb]? = W7.heap[xb]? := ⟨Below.heap_setCell _ ⟨nb, 2, none⟩ _ tb (fun e => HNE.out.1 e.symm), Below.heap_setCell _ ⟨nb, 2, none⟩ _ xb HNE.out.2⟩
    refine hK _ _ hs2 ?_
    clear hK K
    (try simp only [Act.put, List.setIfInBounds_toArray, List.set_cons_zero, List.set_cons_succ])
    refine runT_op (by rfl) (by rfl) (fun K hK => ?_)
    go_simp
    refine hK _ _ hs2 ?_
    clear hK K
    (try simp only [Act.put, List.setIfInBounds_toArray, List.set_cons_zero, List.set_cons_succ])
    refine runT_op (by rfl) (by rfl) (fun K hK => ?_)
    go_simp
    refine hK _ _ hs2 ?_
    clear hK K
    (try simp only [Act.put, List.setIfInBounds_toArray, List.set_cons_zero, List.set_cons_succ])
    refine runT_fin (by rfl) (by rfl) (fun K hK => ?_)
    go_simp
    refine hK _ _ ?_
    clear hK K hs2 hs
    (try simp only [Act.put, List.setIfInBounds_toArray, List.set_cons_zero, List.set_cons_succ])
    refine runT_done ?_
    obtain ⟨W8, hW8⟩ : ∃ W8, W8 = ((W7.setCell ⟨nb, 2, none⟩ (.int .i64 v)).setCell ⟨nb, 3, none⟩ (.int .i64 f')).drew := ⟨_, rfl⟩
    rw [← hW8]
    have hk8 : Keep (fun q => q = nb) W7 W8 := by rw [hW8]; exact (((Keep.refl (fun q => q = nb) W7).set (p := ⟨nb, 2, none⟩) (.inr rfl) _).set (p := ⟨nb, 3, none⟩) (.inr rfl) _).drew
    have hn8 : W8.heap[nb]? = some (.cells #[p'.vps, p'.vks, .int .i64 v, .int .i64 f'] 70 (0, 0)) := by
      rw [hW8]
      have h9 := H7.out.1.ub.nd
      rw [H7.out.2.2.2.2.2.2.1.2] at h9
      exact blk_set (blk_set h9 2 (.int .i64 v)) 3 (.int .i64 f')
    have hfin := H7.out.1.fin (v := v) (f := f') (w1 := W8) (by rw [H7.out.2.2.2.2.2.2.1.2]; exact hk8) (by rw [H7.out.2.2.2.2.2.2.1.2]; exact hn8)
    rw [H7.out.2.2.2.2.2.2.1.1, H7.out.2.2.2.2.2.2.1.2] at hfin
    obtain ⟨hU8, hN8, hT8⟩ := hfin
    obtain ⟨Al, cl, hvl⟩ := Kd.R_slice hU8.eg.log
    subst hvl
    have hub7 := H7.out.1.ub.node
    rw [H7.out.2.2.2.2.2.2.1.1] at hub7
    have hT8 := hT8.trans hub7
    obtain ⟨r0, r1, r2, r3, r4, r5, r6, r7, k0, k1, k2, k3, _, _, hcc⟩ := H7.out.1.ub.cells
    rw [hcc, H7.out.2.2.2.2.2.2.1.2] at hT8
    have hlen := hU8.eg.ok.1
    have hfk : Keep (PU c.wb vl) w W8 := H7.out.2.2.1.then hk8 (fun q hq e => by have := H2.out.2.2.2.1; omega)
    have H8 := Aside0.mk (And.intro hU8 (And.intro hN8 (And.intro hT8 (And.intro hfk hlen))))
    clear hW8 hk8 hn8 hU8 hN8 hT8 hub7 hcc hlen hfk q2 q3 z2 z3
    go_upto_region 5 with (fail)
    have q5 := blk_cell H8.out.1.eg.node 5
    have t17 := blk_cell H8.out.2.2.1 17
    have HMV := Aside0.mk (And.intro q5 t17)
    clear q5 t17
    refine wp_region_T (fun w' => w'.heap[c.wb]? = W8.heap[c.wb]? ∧ w'.heap[tb]? = W8.heap[tb]?) [17] (.takes [0, 1, 2, 3, 4, 5, 6, 7, 8, 9, 10, 11] (.op 12 (.op 13 (.op 14 (.op 15 (.op 16 (.fin 17 .done))))))) (by kernel_rfl) (by kernel_rfl) (by kernel_rfl) (by kernel_rfl) (panic_via (P := Try.prog) (fn := Try.f26) (R := BegPU c l (PU c.wb vl) D R w) (fun _ _ _ => rfl)) ?_
    have hs : W8.drew.heap[c.wb]? = W8.heap[c.wb]? ∧ W8.drew.heap[tb]? = W8.heap[tb]? := ⟨rfl, rfl⟩
    simp only [Turns.takes]
    repeat (
      (first
        | (refine runT_take (v := ?_) (by rfl) (by rfl) (fun w' hS => ?_) hs ?_
           rotate_left
           · (have q5 := (World.cell?_of_block (w := W8) (a := ⟨c.wb, 5, none⟩) hS.1).trans HMV.out.1; have t17 := (World.cell?_of_block (w := W8) (a := ⟨tb, 17, none⟩) hS.2).trans HMV.out.2; go_simp; exact rfl))
        | refine runT_skip (by rfl) (by rfl) hs ?_)
      (try simp only [Act.put, List.setIfInBounds_toArray, List.set_cons_zero, List.set_cons_succ]))
    refine runT_op (by rfl) (by rfl) (fun K hK => ?_)
    go_simp
    have hb2 : Below W8.heap.size W8 (W8.drew.alloc (.cells #[.slice A path.length cpath, .int .i64 (T'.steps : Int)] 54)) := (Below.refl _ _).drew.alloc (by exact Nat.le_refl _) _
    refine hK _ _ ⟨hb2.block _ (blk_lt H8.out.1.eg.node), hb2.block _ (blk_lt H8.out.2.2.1)⟩ ?_
    clear hK K
    (try simp only [Act.put, List.setIfInBounds_toArray, List.set_cons_zero, List.set_cons_succ])
    refine runT_op (by rfl) (by rfl) (fun K hK => ?_)
    have hrow := (H8.out.1.eg.below hb2).log
    have hBs : c.B ≤ (W8.drew.alloc (.cells #[.slice A path.length cpath, .int .i64 (T'.steps : Int)] 54)).heap.size := Nat.le_trans (Nat.le_trans H8.out.1.eg.lo (Nat.le_of_lt (blk_lt H8.out.1.eg.node))) hb2.size
    have hle : ents'.length ≤ 1000000 := by have h1 := H8.out.2.2.2.2; have h2 := H7.out.2.2.2.2.2.2.2.1.log; have h3 := H0.out.2.2.2.1; omega
    refine wp_append_rows kEnt (Rr := kEnt.M (W8.drew.alloc (.cells #[.slice A path.length cpath, .int .i64 (T'.steps : Int)] 54)) c.B (fun _ => False)) c.B rfl (.tmp 58) (.tmp 65) 29 54 (.agg #[.slice none 0 0, .int .i64 0]) 32 rfl Try.underlying29 infoU54 rfl (by decide) (by decide) (.slice Al ents'.length cl) ents' [⟨A, path.length, cpath, (T'.steps : Int)⟩] _ _ _ (fun _ => True) (fun _ => False) rfl rfl hrow (reads_one (alloc_blk _ _) (kEnt_mkM _ _ _ ⟨A, path.length, cpath, (T'.steps : Int)⟩)) (fun _ _ h => h) (fun _ h => h.elim) (fun _ _ => trivial) hBs (by omega) ?_
    intro v9 w9 hR9 hbw hgr hat
    have hp8 : PathAt W8 A path := H0.out.2.2.2.2.2.1.keep H8.out.2.2.2.1 (fun q cs hq e => H0.out.1.eg.notPath q cs hq e)
    have hP := H8.out.1.eg.note (y := ⟨A, path.length, cpath, (T'.steps : Int)⟩) hb2 hR9 ⟨rfl, rfl, H0.out.2.2.2.2.2.2.1, LEN2.out, hp8⟩ hgr hat
    have hE9 : w9.heap[c.wb]? = W8.heap[c.wb]? ∧ w9.heap[tb]? = W8.heap[tb]? := ⟨hP.2.2.2, (hgr.block tb (Nat.lt_of_lt_of_le (blk_lt H8.out.2.2.1) hb2.size) (fun e => not_own H8.out.1.eg.log H8.out.2.2.1 (by decide) e.symm)).trans (hb2.block tb (blk_lt H8.out.2.2.1))⟩
    obtain ⟨A9, c9, rfl⟩ := Kd.R_slice hR9
    have q5 := (World.cell?_of_block (a := ⟨c.wb, 5, none⟩) hE9.1).trans HMV.out.1
    have z5 := blk_frozen (hE9.1.trans H8.out.1.eg.node) 5
    generalize (ents' ++ [(⟨A, path.length, cpath, (T'.steps : Int)⟩ : Ent)]).length = L9 at hP ⊢
    have HP2 := Aside0.mk hP
    clear hP hR9 hbw hgr hat hrow hb2 hs hBs hle hp8
    refine hK _ _ hE9 ?_
    clear hK K
    (try simp only [Act.put, List.setIfInBounds_toArray, List.set_cons_zero, List.set_cons_succ])
    refine runT_op (by rfl) (by rfl) (fun K hK => ?_)
    go_simp
    refine hK _ _ hE9 ?_
    clear hK K
    (try simp only [Act.put, List.setIfInBounds_toArray, List.set_cons_zero, List.set_cons_succ])
    refine runT_op (by rfl) (by rfl) (fun K hK => ?_)
    go_simp
    refine hK _ _ hE9 ?_
    clear hK K
    (try simp only [Act.put, List.setIfInBounds_toArray, List.set_cons_zero, List.set_cons_succ])
    refine runT_op (by rfl) (by rfl) (fun K hK => ?_)
    go_simp
    refine hK _ _ hE9 ?_
    clear hK K
    (try simp only [Act.put, List.setIfInBounds_toArray, List.set_cons_zero, List.set_cons_succ])
    refine runT_fin (by rfl) (by rfl) (fun K hK => ?_)
    go_simp
    refine hK _ _ ?_
    clear hK K hE9 z5 q5
    (try simp only [Act.put, List.setIfInBounds_toArray, List.set_cons_zero, List.set_cons_succ])
    refine runT_done ?_
    obtain ⟨W9, hW9⟩ : ∃ W9, W9 = w9.setCell ⟨c.wb, 5, none⟩ (.slice A9 L9 c9) := ⟨_, rfl⟩
    have hP := HP2.out
    rw [← hW9] at hP ⊢
    obtain ⟨he9, hk9, hq9, _⟩ := hP
    have hU9 := H8.out.1.turn he9 hk9 (fun q hq e => by have := H8.out.1.pLo q e; omega) (fun q hq e => H8.out.1.dp q e hq) hq9
    have hN9 := H8.out.2.1.keep (fun _ h => h) hk9 (fun q hq e => H8.out.1.dp q e hq)
    have hT9 := hk9.blk H8.out.2.2.1 (fun e => H8.out.1.eg.not H8.out.2.2.1 (by decide) e)
    have hq10 : ∀ q, PU c.wb (.slice A9 L9 c9) q → PU c.wb vl q ∨ w.heap.size ≤ q := fun q hq => (hq9 q hq).elim (fun e => H7.out.2.2.2.1 q e) (fun e => .inr (Nat.le_trans H8.out.2.2.2.1.size e))
    have hk10 : Keep (PU c.wb vl) w W9 := H8.out.2.2.2.1.then hk9 (fun q hq e => (H7.out.2.2.2.1 q e).elim id (fun h => absurd hq (by omega)))
    have H9 := Aside0.mk (And.intro hU9 (And.intro hN9 (And.intro hT9 (And.intro hk10 hq10))))
    have hfr : G'.frames ≤ 1000000 := by have h1 := H7.out.2.2.2.2.2.2.2.1.frames; have h2 := H7.out.2.2.2.2.2.2.2.1.log; have h3 := H0.out.2.2.2.1; omega
    have q6 := blk_cell hU9.eg.node 6
    have z6 := blk_frozen hU9.eg.node 6
    replace q6 : W9.cell? ⟨c.wb, 6, none⟩ = some (.int .i64 (G'.frames : Int)) := q6
    have hw1 : IntKind.i64.wrap ((G'.frames : Int) + 1) = (G'.frames : Int) + 1 := IntWalk.i64_in _ (by omega)
    clear HP2 hW9 he9 hk9 hq9 hU9 hN9 hT9 hq10 hk10 hfr
    go_upto_region 8 with (fail)
    obtain ⟨W10, hW10⟩ : ∃ W10, W10 = W9.setCell ⟨c.wb, 6, none⟩ (.int .i64 ((G'.frames : Int) + 1)) := ⟨_, rfl⟩
    rw [← hW10]
    obtain ⟨hU10, hk10⟩ := H9.out.1.set 6 (.int .i64 ((G'.frames : Int) + 1)) (G' := { G' with log := G'.log ++ [(path, (T'.steps : Int))], frames := G'.frames + 1 }) rfl rfl
    rw [← hW10] at hU10 hk10
    have hN10 := H9.out.2.1.keep (fun _ h => h) hk10 (fun q hq e => H9.out.1.dp q (.inl e) hq)
    have hT10 := hk10.blk H9.out.2.2.1 (fun e => H9.out.1.eg.not H9.out.2.2.1 (by decide) (.inl e))
    have H10 := Aside0.mk (And.intro hU10 (And.intro hN10 (And.intro hT10 (H9.out.2.2.2.1.then hk10 (fun q hq e => .inl e)))))
    have q9 := blk_cell hU10.eg.node 9
    have z9 := blk_frozen hU10.eg.node 9
    replace q9 : W10.cell? ⟨c.wb, 9, none⟩ = some (.int .i64 (G'.steps : Int)) := q9
    have t17 := blk_cell hT10 17
    have hsb : (G'.steps : Int) ≤ 1000000000000 ∧ (T'.steps : Int) ≤ 100000 := by
      have h1 := H7.out.2.2.2.2.2.2.2.1.steps
      have h2 := H7.out.2.2.2.2.2.2.2.2.2.steps
      have h3 := HF.out.2.2.1
      have h4 : (G'.log.length : Int) ≤ 1000000 := by have h2 := H7.out.2.2.2.2.2.2.2.1.log; have h3 := H0.out.2.2.2.1; omega
      have h5 : c.budget * (G'.log.length : Int) ≤ 100000 * 1000000 := Int.mul_le_mul h3.2 h4 (by omega) (by decide)
      omega
    have hw2 : IntKind.i64.wrap ((G'.steps : Int) + (T'.steps : Int)) = (G'.steps : Int) + (T'.steps : Int) := IntWalk.i64_in _ (by omega)
    have HSB := Aside0.mk hsb
    clear hW10 hU10 hk10 hN10 hT10 q6 z6 hw1 hsb
    refine wp_region_T (fun w' => Drawn0 W10 w') [11] (.takes [0, 1, 2, 3, 4, 5, 6, 7, 8, 9, 10] (.fin 11 .done)) (by kernel_rfl) (by kernel_rfl) (by kernel_rfl) (by kernel_rfl) (panic_via (P := Try.prog) (fn := Try.f26) (R := BegPU c l (PU c.wb vl) D R w) (fun _ _ _ => rfl)) ?_
    have hs : Drawn0 W10 W10.drew := (Drawn0.refl W10).step 1
    simp only [Turns.takes]
    repeat (
      (first
        | (refine runT_take (v := ?_) (by rfl) (by rfl) (fun w' hS => ?_) hs ?_
           rotate_left
           · (obtain ⟨n, rfl⟩ := hS; go_simp; exact rfl))
        | refine runT_skip (by rfl) (by rfl) hs ?_)
      (try simp only [Act.put, List.setIfInBounds_toArray, List.set_cons_zero, List.set_cons_succ]))
    refine runT_fin (by rfl) (by rfl) (fun K hK => ?_)
    go_simp
    refine hK _ _ ?_
    clear hK K hs
    (try simp only [Act.put, List.setIfInBounds_toArray, List.set_cons_zero, List.set_cons_succ])
    refine runT_done ?_
    obtain ⟨W11, hW11⟩ : ∃ W11, W11 = (W10.setCell ⟨c.wb, 9, none⟩ (.int .i64 ((G'.steps : Int) + (T'.steps : Int)))).drew := ⟨_, rfl⟩
    rw [← hW11]
    have hbd : Below (W10.setCell ⟨c.wb, 9, none⟩ (.int .i64 ((G'.steps : Int) + (T'.steps : Int)))).heap.size (W10.setCell ⟨c.wb, 9, none⟩ (.int .i64 ((G'.steps : Int) + (T'.steps : Int)))) W11 := by rw [hW11]; exact (Below.refl _ _).drew
    obtain ⟨hUa, hka⟩ := H10.out.1.set 9 (.int .i64 ((G'.steps : Int) + (T'.steps : Int))) (G' := { G' with log := G'.log ++ [(path, (T'.steps : Int))], frames := G'.frames + 1, steps := G'.steps + T'.steps }) rfl rfl
    have hU11 := hUa.below hbd
    have hN11 := (H10.out.2.1.keep (fun _ h => h) hka (fun q hq e => H10.out.1.dp q (.inl e) hq)).below hbd
    have hTa := hka.blk H10.out.2.2.1 (fun e => H10.out.1.eg.not H10.out.2.2.1 (by decide) (.inl e))
    have hT11 := (hbd.block _ (blk_lt hTa)).trans hTa
    have H11 := Aside0.mk (And.intro hU11 (And.intro hN11 (And.intro hT11 ((H10.out.2.2.2.then hka (fun q hq e => .inl e)).trans (Keep.of_below hbd _)))))
    have q8 := blk_cell hU11.eg.node 8
    have z8 := blk_frozen hU11.eg.node 8
    replace q8 : W11.cell? ⟨c.wb, 8, none⟩ = some (.int .i64 (G'.chunks : Int)) := q8
    have t18 := blk_cell hT11 18
    clear hW11 hU11 hka hUa hTa hN11 hT11 hbd q9 z9 t17 hw2
    have hcb : (G'.chunks : Int) ≤ 1000000000000 ∧ T'.told ≤ 100000 := by
      have h1 := H7.out.2.2.2.2.2.2.2.1.chunks
      have h2 := H7.out.2.2.2.2.2.2.2.2.2.kt
      have h3 := HF.out.2.2.1
      have h4 : (G'.log.length : Int) ≤ 1000000 := by have h2 := H7.out.2.2.2.2.2.2.2.1.log; have h3 := H0.out.2.2.2.1; omega
      have h5 : c.budget * (G'.log.length : Int) ≤ 100000 * 1000000 := Int.mul_le_mul h3.2 h4 (by omega) (by decide)
      have h6 := HSB.out.2
      omega
    obtain ⟨m, hm⟩ : ∃ m : Nat, m = (T'.told + 3) / 4 := ⟨_, rfl⟩
    have hwa : IntKind.i64.wrap ((T'.told : Int) + 4) = (T'.told : Int) + 4 := IntWalk.i64_in _ (by omega)
    have hwb : IntKind.i64.wrap ((T'.told : Int) + 4 - 1) = (T'.told : Int) + 3 := (IntWalk.i64_in _ (by omega)).trans (by omega)
    have hwq : ((T'.told : Int) + 3).tdiv 4 = (m : Int) := by rw [Int.tdiv_eq_ediv_of_nonneg (by omega)]; omega
    have hwc : IntKind.i64.wrap (m : Int) = (m : Int) := IntWalk.i64_in _ (by omega)
    have hwd : IntKind.i64.wrap ((G'.chunks : Int) + (m : Int)) = (G'.chunks : Int) + (m : Int) := IntWalk.i64_in _ (by omega)
    have HM := Aside0.mk hm
    clear hm hcb
    go_upto_region 9 with (fail)
    refine wp_region_T (fun w' => Drawn0 W11 w') [14] (.takes [0, 1, 2, 3, 4, 5, 6, 7, 8, 9, 10, 11, 12, 13] (.fin 14 .done)) (by kernel_rfl) (by kernel_rfl) (by kernel_rfl) (by kernel_rfl) (panic_via (P := Try.prog) (fn := Try.f26) (R := BegPU c l (PU c.wb vl) D R w) (fun _ _ _ => rfl)) ?_
    have hs : Drawn0 W11 W11.drew := (Drawn0.refl W11).step 1
    simp only [Turns.takes]
    repeat (
      (first
        | (refine runT_take (v := ?_) (by rfl) (by rfl) (fun w' hS => ?_) hs ?_
           rotate_left
           · (obtain ⟨n, rfl⟩ := hS; go_simp; exact rfl))
        | refine runT_skip (by rfl) (by rfl) hs ?_)
      (try simp only [Act.put, List.setIfInBounds_toArray, List.set_cons_zero, List.set_cons_succ]))
    refine runT_fin (by rfl) (by rfl) (fun K hK => ?_)
    go_simp
    refine hK _ _ ?_
    clear hK K hs
    (try simp only [Act.put, List.setIfInBounds_toArray, List.set_cons_zero, List.set_cons_succ])
    refine runT_done ?_
    obtain ⟨W12, hW12⟩ : ∃ W12, W12 = (W11.setCell ⟨c.wb, 8, none⟩ (.int .i64 ((G'.chunks : Int) + (m : Int)))).drew := ⟨_, rfl⟩
    rw [← hW12]
    have hbd : Below (W11.setCell ⟨c.wb, 8, none⟩ (.int .i64 ((G'.chunks : Int) + (m : Int)))).heap.size (W11.setCell ⟨c.wb, 8, none⟩ (.int .i64 ((G'.chunks : Int) + (m : Int)))) W12 := by rw [hW12]; exact (Below.refl _ _).drew
    obtain ⟨hUa, hka⟩ := H11.out.1.set 8 (.int .i64 ((G'.chunks : Int) + (m : Int))) (G' := { G' with log := G'.log ++ [(path, (T'.steps : Int))], frames := G'.frames + 1, steps := G'.steps + T'.steps, chunks := G'.chunks + m }) rfl rfl
    have hU12 := hUa.below hbd
    have hN12 := (H11.out.2.1.keep (fun _ h => h) hka (fun q hq e => H11.out.1.dp q (.inl e) hq)).below hbd
    have hTa := hka.blk H11.out.2.2.1 (fun e => H11.out.1.eg.not H11.out.2.2.1 (by decide) (.inl e))
    have hT12 := (hbd.block _ (blk_lt hTa)).trans hTa
    have H12 := Aside0.mk (And.intro hU12 (And.intro hN12 ((H11.out.2.2.2.then hka (fun q hq e => .inl e)).trans (Keep.of_below hbd _))))
    have t19 := blk_cell hT12 19
    clear hW12 hU12 hka hUa hTa hN12 hT12 hbd q8 z8 t18 hwa hwb hwq hwc hwd
    go_wp2_with fail
    go_ret
    rw [HRR.out]
    have eG : noteU path T' G' = { G' with log := G'.log ++ [(path, (T'.steps : Int))], frames := G'.frames + 1, steps := G'.steps + T'.steps, chunks := G'.chunks + m } := by unfold noteU; rw [HM.out]
    show BegPU c l (PU c.wb vl) D (some (mkNode T' v f', noteU path T' G')) w _ _
    rw [eG]
    refine ⟨_, Fin D' p', _, _, rfl, H12.out.2.2, H12.out.1, H12.out.2.1, H9.out.2.2.2.2, fun q hq => .inl (H7.out.2.2.2.2.2.1.1 q hq), fun q hq => ?_⟩
    rcases hq with hq | hq | hq | hq
    · exact H7.out.2.2.2.2.2.1.2 q hq
    · exact .inr (H7.out.2.2.2.2.1 q (.inr (.inl hq)))
    · exact .inr (H7.out.2.2.2.2.1 q (.inr (.inr (.inr (.inl hq)))))
    · exact .inr (H7.out.2.2.2.2.1 q (.inr (.inr (.inr (.inr hq)))))
/-- every task's beginning, at any fuel. -/
theorem begin_allU (hl : POk l) (hdp : c.depth ≤ 900) (hb : 0 ≤ c.budget ∧ c.budget ≤ 100000) : ∀ k, BegUC c l k := by
  intro k
  induction k using Nat.strongRecOn with
  | _ k ih => exact begin_anyU hl hdp hb ih
end
end Go.Proofs.Ytbekjccehhaljaa.H

set_option linter.unusedVariables false
set_option linter.unusedSimpArgs false
namespace Go.Proofs.Ytbekjccehhaljaa.H
open Go.RowKit Go.Hay Go.Proofs.YtbekjccehhaljaaW.PrintWords Go.Proofs.YtbekjccehhaljaaW.PrintLast Go.Proofs.YtbekjccehhaljaaW.PrintMore
def ord1 (a b : Int) : Int := if a < b then -1 else if a > b then 1 else 0
def ordP : List Int → List Int → Int
  | [], [] => 0
  | [], _ :: _ => -1
  | _ :: _, [] => 1
  | a :: x, b :: y => if ord1 a b ≠ 0 then ord1 a b else ordP x y
set_option maxRecDepth 100000 in
set_option maxHeartbeats 4000000 in
theorem cmpInt_any (a b : Int) (w : World) : Calls Try.prog 70 #[.int .i64 a, .int .i64 b] w fun e w' => e = .returned (.int .i64 (ord1 a b)) ∧ w = w' := by
  by_cases h1 : a < b
  · have h2 : (a < b) = True := eq_true h1
    have e : ord1 a b = -1 := by unfold ord1; rw [if_pos h1]
    rw [e]
    clear h1 e
    go_enter Try.func70, Try.ntmps70
    go_wp2
    go_ret
    exact ⟨rfl, rfl⟩
  · have h2 : (a < b) = False := eq_false h1
    by_cases h3 : a > b
    · have h4 : (b < a) = True := eq_true h3
      have e : ord1 a b = 1 := by unfold ord1; rw [if_neg h1, if_pos h3]
      rw [e]
      clear h1 h3 e
      go_enter Try.func70, Try.ntmps70
      go_wp2
      go_ret
      exact ⟨rfl, rfl⟩
    · have h4 : (b < a) = False := eq_false h3
      have e : ord1 a b = 0 := by unfold ord1; rw [if_neg h1, if_neg h3]
      rw [e]
      clear h1 h3 e
      go_enter Try.func70, Try.ntmps70
      go_wp2
      go_ret
      exact ⟨rfl, rfl⟩
theorem ordP_drop {x y : List Int} {i : Nat} (hx : i < x.length) (hy : i < y.length) : ordP (x.drop i) (y.drop i) = if ord1 x[i] y[i] ≠ 0 then ord1 x[i] y[i] else ordP (x.drop (i + 1)) (y.drop (i + 1)) := by
  rw [List.drop_eq_getElem_cons hx, List.drop_eq_getElem_cons hy, ordP]
theorem numU_at {w : World} {A : Option Addr} {n : Nat} {xs : List Int} (h : (Kd.int .i64).C w A n xs) (i : Nat) (hi : i < n) (hi2 : i < xs.length) : ∃ ad, A = some ad ∧ w.cell? (ad.add i) = some (.int .i64 xs[i]) := by
  obtain ⟨ad, cs, e, _, hK, hc⟩ := Kd.C_get h 0 (i : Int) (by omega) (by omega)
  have hK : cs = [.int .i64 (xs.getD (i : Int).toNat 0)] := hK
  have := hc 0 _ (by rw [hK]; rfl)
  refine ⟨ad, e, ?_⟩
  have e2 : xs.getD (i : Int).toNat 0 = xs[i] := by simp [hi2]
  rw [e2] at this
  simpa [Kd.int, Kd.scalar] using this
set_option maxRecDepth 100000 in
set_option maxHeartbeats 8000000 in
theorem slCompare_any (A0 : Option Addr) (c0 : Nat) (x : List Int) (A1 : Option Addr) (c1 : Nat) (y : List Int) (w : World) (h0 : (Kd.int .i64).C w A0 x.length x) (h1 : (Kd.int .i64).C w A1 y.length y) (hx : x.length ≤ 1000000) (hy : y.length ≤ 1000000) :
    Calls Try.prog 45 #[.slice A0 x.length c0, .slice A1 y.length c1] w fun e w' => e = .returned (.int .i64 (ordP x y)) ∧ w = w' := by
  have H := Aside0.mk (And.intro h0 h1)
  have HO := Aside0.mk (show ordP x y = ordP (x.drop 0) (y.drop 0) by simp)
  obtain ⟨r, hr⟩ : ∃ r, r = ordP x y := ⟨_, rfl⟩
  rw [← hr]
  have HR := Aside0.mk hr
  clear h0 h1 hr
  go_enter Try.func45, Try.ntmps45
  go_upto_region 1 with (fail)
  go_wp2_with fail
  go_loop [11] (fun v11 => ∃ (i : Nat), v11 = .int .i64 i ∧ i ≤ x.length ∧ i ≤ y.length ∧ Aside0 (ordP x y = ordP (x.drop i) (y.drop i))) (fun v11 => x.length - (intOf v11).toNat)
  case atStart => exact ⟨0, rfl, Nat.zero_le _, Nat.zero_le _, HO⟩
  case round =>
    clear HO
    obtain ⟨i, rfl, hi, hiy, HO⟩ := hrel
    by_cases hlt : i < x.length
    · obtain ⟨ad0, e0, q0⟩ := numU_at H.out.1 i hlt hlt
      subst e0
      by_cases hly : i < y.length
      · obtain ⟨ad1, e1, q1⟩ := numU_at H.out.2 i hly hly
        subst e1
        have HD := Aside0.mk (ordP_drop hlt hly)
        go_wp2_with fail
        refine (cmpInt_any _ _ _).mono ?_
        rintro e w' ⟨rfl, rfl⟩
        by_cases hz : ord1 x[i] y[i] = 0
        · rw [hz]
          have HO2 := Aside0.mk (show ordP x y = ordP (x.drop (i + 1)) (y.drop (i + 1)) by rw [HO.out, HD.out, if_neg (by intro h; exact h hz)])
          clear hz
          go_wp2_with fail
          go_round
          case rel => exact ⟨i + 1, by go_num, by omega, by omega, HO2⟩
          case measure => simp [intOf]; omega
        · have HO2 := Aside0.mk (show ordP x y = ord1 x[i] y[i] by rw [HO.out, HD.out, if_pos hz])
          have hz2 : (ord1 x[i] y[i] = 0) = False := eq_false hz
          have hz3 : (ord1 x[i] y[i] == 0) = false := by simpa using hz
          clear hz
          generalize ord1 x[i] y[i] = o at hz2 hz3 HO2 ⊢
          go_wp2_with fail
          go_ret
          exact ⟨by rw [HR.out, HO2.out]; rfl, rfl⟩
      · have hyl : ((y.length : Int) ≤ (i : Int)) = True := eq_true (by omega)
        have e9 : ordP x y = 1 := by
          rw [HO.out, List.drop_eq_getElem_cons hlt, show y.drop i = [] from List.drop_eq_nil_of_le (by omega)]
          rfl
        have HE := Aside0.mk e9
        clear e9
        go_wp2_with fail
        go_ret
        exact ⟨by rw [HR.out, HE.out]; rfl, rfl⟩
    · have ei : i = x.length := by omega
      by_cases hly : x.length < y.length
      · have e9 : ordP x y = -1 := by
          rw [HO.out, ei, List.drop_length, List.drop_eq_getElem_cons hly]
          rfl
        have HE := Aside0.mk e9
        have hyl : ((x.length : Int) < (y.length : Int)) = True := eq_true (by omega)
        clear e9 
        go_wp2_with fail
        go_ret
        exact ⟨by rw [HR.out, HE.out]; rfl, rfl⟩
      · have e9 : ordP x y = 0 := by
          rw [HO.out, ei, List.drop_length, show y.drop x.length = [] from List.drop_eq_nil_of_le (by omega)]
          rfl
        have HE := Aside0.mk e9
        have hyl : ((x.length : Int) < (y.length : Int)) = False := eq_false (by omega)
        clear e9
        go_wp2_with fail
        go_ret
        exact ⟨by rw [HR.out, HE.out]; rfl, rfl⟩
set_option maxRecDepth 100000 in
theorem pathCompare_any (A0 : Option Addr) (c0 : Nat) (x : List Int) (A1 : Option Addr) (c1 : Nat) (y : List Int) (w : World) (h0 : (Kd.int .i64).C w A0 x.length x) (h1 : (Kd.int .i64).C w A1 y.length y) (hx : x.length ≤ 1000000) (hy : y.length ≤ 1000000) :
    Calls Try.prog 29 #[.slice A0 x.length c0, .slice A1 y.length c1] w fun e w' => e = .returned (.int .i64 (ordP x y)) ∧ w = w' := by
  have H := Aside0.mk (slCompare_any A0 c0 x A1 c1 y w h0 h1 hx hy)
  clear h0 h1
  go_enter Try.func29, Try.ntmps29
  go_wp2_with fail
  refine H.out.mono ?_
  rintro e w' ⟨rfl, rfl⟩
  go_wp2_with fail
  go_ret
  exact ⟨rfl, rfl⟩
end Go.Proofs.Ytbekjccehhaljaa.H

namespace Go.Proofs
open Go.Shelf
def Try.sortE_ren : Go.Shelf.Ren := ⟨fun | 6 => 27 | 15 => 44 | 14 => 43 | 28 => 68 | 29 => 69 | 20 => 60 | 21 => 61 | 22 => 62 | 23 => 63 | 24 => 64 | 25 => 65 | 26 => 66 | 27 => 67 | 46 => 90 | 47 => 91 | 48 => 92 | 49 => 93 | 50 => 94 | 57 => 113 | n => n, fun | 22 => 29 | 24 => 54 | 25 => 99 | 3 => 3 | 39 => 132 | 0 => 0 | 53 => 166 | 55 => 168 | 4 => 4 | 46 => 159 | 45 => 158 | 50 => 163 | 5 => 5 | 9 => 9 | 66 => 183 | 70 => 187 | 76 => 197 | 77 => 72 | n => n, fun | n => n⟩
theorem Try.sortE : Go.Proofs.SlLaysF0.n6 Try.prog Try.sortE_ren := {
  mixed := by kernel_rfl
  f6 := ⟨Try.f27.name, by decide, Try.func27.trans (congrArg some (by kernel_rfl))⟩
  f14 := ⟨Try.f43.name, by decide, Try.func43.trans (congrArg some (by kernel_rfl))⟩
  f15 := Try.func44.trans (congrArg some (by kernel_rfl))
  f20 := ⟨Try.f60.name, by decide, Try.func60.trans (congrArg some (by kernel_rfl))⟩
  f21 := ⟨Try.f61.name, by decide, Try.func61.trans (congrArg some (by kernel_rfl))⟩
  f22 := ⟨Try.f62.name, by decide, Try.func62.trans (congrArg some (by kernel_rfl))⟩
  f23 := ⟨Try.f63.name, by decide, Try.func63.trans (congrArg some (by kernel_rfl))⟩
  f24 := ⟨Try.f64.name, by decide, Try.func64.trans (congrArg some (by kernel_rfl))⟩
  f25 := ⟨Try.f65.name, by decide, Try.func65.trans (congrArg some (by kernel_rfl))⟩
  f26 := ⟨Try.f66.name, by decide, Try.func66.trans (congrArg some (by kernel_rfl))⟩
  f27 := ⟨Try.f67.name, by decide, Try.func67.trans (congrArg some (by kernel_rfl))⟩
  f28 := Try.func68.trans (congrArg some (by kernel_rfl))
  f29 := Try.func69.trans (congrArg some (by kernel_rfl))
  f46 := ⟨Try.f90.name, by decide, Try.func90.trans (congrArg some (by kernel_rfl))⟩
  f47 := Try.func91.trans (congrArg some (by kernel_rfl))
  f48 := Try.func92.trans (congrArg some (by kernel_rfl))
  f49 := ⟨Try.f93.name, by decide, Try.func93.trans (congrArg some (by kernel_rfl))⟩
  f50 := ⟨Try.f94.name, by decide, Try.func94.trans (congrArg some (by kernel_rfl))⟩
  f57 := ⟨Try.f113.name, by decide, Try.func113.trans (congrArg some (by kernel_rfl))⟩
  t0 := Try.underlying0
  a0 := Try.isAgg0
  z0 := Try.sizeOf0
  v0 := Try.zeroValue0
  t3 := Try.underlying3
  a3 := Try.isAgg3
  z3 := Try.sizeOf3
  v3 := Try.zeroValue3
  t4 := Try.underlying4
  a4 := Try.isAgg4
  z4 := Try.sizeOf4
  v4 := Try.zeroValue4
  t5 := Try.underlying5
  a5 := Try.isAgg5
  z5 := Try.sizeOf5
  v5 := Try.zeroValue5
  t9 := Try.underlying9
  a9 := Try.isAgg9
  z9 := Try.sizeOf9
  v9 := Try.zeroValue9
  t22 := Try.underlying29
  a22 := Try.isAgg29
  z22 := Try.sizeOf29
  v22 := Try.zeroValue29
  t25 := Try.underlying99
  a25 := Try.isAgg99
  z25 := Try.sizeOf99
  v25 := Try.zeroValue99
  t39 := Try.underlying132
  a39 := Try.isAgg132
  z39 := Try.sizeOf132
  v39 := Try.zeroValue132
  t45 := Try.underlying158
  a45 := Try.isAgg158
  z45 := Try.sizeOf158
  v45 := Try.zeroValue158
  t46 := Try.underlying159
  a46 := Try.isAgg159
  z46 := Try.sizeOf159
  v46 := Try.zeroValue159
  t50 := Try.underlying163
  a50 := Try.isAgg163
  z50 := Try.sizeOf163
  v50 := Try.zeroValue163
  t53 := Try.underlying166
  a53 := Try.isAgg166
  z53 := Try.sizeOf166
  v53 := Try.zeroValue166
  t55 := Try.underlying168
  a55 := Try.isAgg168
  z55 := Try.sizeOf168
  v55 := Try.zeroValue168
  t66 := Try.underlying183
  a66 := Try.isAgg183
  z66 := Try.sizeOf183
  v66 := Try.zeroValue183
  t70 := Try.underlying187
  a70 := Try.isAgg187
  z70 := Try.sizeOf187
  v70 := Try.zeroValue187
  t76 := Try.underlying197
  a76 := Try.isAgg197
  z76 := Try.sizeOf197
  v76 := Try.zeroValue197
  t77 := Try.underlying72
  a77 := Try.isAgg72
  z77 := Try.sizeOf72
  v77 := Try.zeroValue72 }
end Go.Proofs

set_option linter.unusedVariables false
set_option linter.unusedSimpArgs false
namespace Go.Proofs.Ytbekjccehhaljaa.H
open Go.RowKit Go.Hay Go.Proofs.YtbekjccehhaljaaW.PrintWords Go.Proofs.YtbekjccehhaljaaW.PrintLast Go.Proofs.YtbekjccehhaljaaW.PrintMore
/-! ### the order -/
theorem ord1_lt (a b : Int) : ord1 a b < 0 ↔ a < b := by
  unfold ord1
  by_cases h : a < b
  · rw [if_pos h]; omega
  · rw [if_neg h]; by_cases h2 : a > b
    · rw [if_pos h2]; omega
    · rw [if_neg h2]; omega
theorem ord1_zero (a b : Int) : ord1 a b = 0 ↔ a = b := by
  unfold ord1
  by_cases h : a < b
  · rw [if_pos h]; omega
  · rw [if_neg h]; by_cases h2 : a > b
    · rw [if_pos h2]; omega
    · rw [if_neg h2]; omega
/-- ahead of. -/
def ltP (x y : List Int) : Bool := decide (ordP x y < 0)
theorem ltP_cons (a b : Int) (x y : List Int) : ltP (a :: x) (b :: y) = (decide (a < b) || (decide (a = b) && ltP x y)) := by
  unfold ltP
  rw [ordP]
  by_cases h : ord1 a b = 0
  · rw [if_neg (by intro h2; exact h2 h)]
    have e := (ord1_zero a b).1 h
    simp [e]
  · rw [if_pos h]
    have e : ¬ a = b := fun e => h ((ord1_zero a b).2 e)
    simp [e, ord1_lt]
theorem ltP_irrefl : ∀ x, ltP x x = false
  | [] => rfl
  | a :: x => by rw [ltP_cons, ltP_irrefl x]; simp
theorem ltP_trans : ∀ x y z, ltP x y = true → ltP y z = true → ltP x z = true
  | [], y, [], h1, h2 => by cases y with
    | nil => exact h2
    | cons b y => cases h2
  | [], y, c :: z, _, _ => rfl
  | a :: x, [], z, h1, _ => by cases h1
  | a :: x, b :: y, [], _, h2 => by cases h2
  | a :: x, b :: y, c :: z, h1, h2 => by
    rw [ltP_cons] at h1 h2 ⊢
    simp only [Bool.or_eq_true, Bool.and_eq_true, decide_eq_true_eq] at h1 h2 ⊢
    rcases h1 with h1 | ⟨h1, h3⟩ <;> rcases h2 with h2 | ⟨h2, h4⟩
    · exact .inl (by omega)
    · exact .inl (by omega)
    · exact .inl (by omega)
    · exact .inr ⟨by omega, ltP_trans x y z h3 h4⟩
theorem ltP_total : ∀ x y, ltP x y = false → ltP y x = false → x = y
  | [], [], _, _ => rfl
  | [], b :: y, h1, _ => by cases h1
  | a :: x, [], _, h2 => by cases h2
  | a :: x, b :: y, h1, h2 => by
    rw [ltP_cons] at h1 h2
    simp only [Bool.or_eq_false_iff, Bool.and_eq_false_iff, decide_eq_false_iff_not] at h1 h2
    have e : a = b := by omega
    subst e
    rw [ltP_total x y (h1.2.resolve_left (fun h => h rfl)) (h2.2.resolve_left (fun h => h rfl))]
theorem ltP_swo : Go.Sort.SWO ltP := by
  refine ⟨ltP_irrefl, ltP_trans, fun x y z h1 h2 => ?_⟩
  cases h3 : ltP x z with
  | false => rfl
  | true =>
    exfalso
    cases h4 : ltP y x with
    | true => have := ltP_trans y x z h4 h3; rw [this] at h2; cases h2
    | false =>
      have e := ltP_total x y h1 h4
      subst e; rw [h3] at h2; cases h2
/-! ### an entry with its path -/
def EnOk (w : World) (x : Ent × List Int) : Prop := PathAt w x.1.A x.2 ∧ x.1.n = x.2.length ∧ x.1.n ≤ x.1.c ∧ x.2.length ≤ 1000
abbrev En (w : World) := { x : Ent × List Int // EnOk w x }
instance (w : World) : Inhabited (En w) := ⟨⟨(⟨none, 0, 0, 0⟩, []), PathAt.nil w, rfl, Nat.le_refl _, Nat.zero_le _⟩⟩
def encE {w : World} (x : En w) : List Value := [.slice x.1.1.A x.1.1.n x.1.1.c, .int .i64 x.1.1.s]
def cmpE {w : World} (x y : En w) : Int := ordP x.1.2 y.1.2
theorem cmpE_swo (w : World) : Go.Sort.SWO (Go.Proofs.ltOf (cmpE (w := w))) := ⟨fun x => ltP_irrefl _, fun x y z => ltP_trans _ _ _, fun x y z => ltP_swo.ntrans _ _ _⟩
theorem sortK_old {α : Type} [Inhabited α] (enc : α → List Value) (k : Nat) (w : World) (g off m : Nat) (dk : Array α) (os : Array Obj) (hg : g < w.heap.size) : Keep (fun q => q = g) w (Go.Proofs.sortWorldK enc k w g off m dk os) := by
  have hsz : (Go.Sort.putRowK enc k (Go.Sort.ahead w m) g off dk).heap.size = w.heap.size := by
    unfold Go.Sort.putRowK Go.Sort.putRow Go.Sort.mapBlock Go.Sort.ahead
    simp
  have hblk : ∀ q, q < w.heap.size → ¬ q = g → (Go.Proofs.sortWorldK enc k w g off m dk os).heap[q]? = w.heap[q]? := by
    intro q hq hn
    unfold Go.Proofs.sortWorldK
    rw [Go.Sort.heap_grow_old _ _ (by omega)]
    unfold Go.Sort.putRowK Go.Sort.putRow Go.Sort.mapBlock Go.Sort.ahead
    simp only [Array.getElem?_modify]
    rw [if_neg (fun e => hn e.symm)]
  have hs : w.heap.size ≤ (Go.Proofs.sortWorldK enc k w g off m dk os).heap.size := by
    unfold Go.Proofs.sortWorldK Go.Sort.grow
    simp only [Array.size_append]
    omega
  constructor <;> first | exact hblk | exact hs | rfl
set_option maxRecDepth 100000 in
set_option maxHeartbeats 4000000 in
theorem closeE (x0 x1 y0 y1 : Value) (A0 : Option Addr) (c0 : Nat) (x : List Int) (A1 : Option Addr) (c1 : Nat) (y : List Int) (s t : Int) (w : World) (h0 : (Kd.int .i64).C w A0 x.length x) (h1 : (Kd.int .i64).C w A1 y.length y) (hx : x.length ≤ 1000000) (hy : y.length ≤ 1000000) :
    Calls Try.prog 28 #[.agg #[.slice A0 x.length c0, .int .i64 s], .agg #[.slice A1 y.length c1, .int .i64 t]] w fun e w' => e = .returned (.int .i64 (ordP x y)) ∧ ∃ q os', w' = Go.Sort.grow (w.drewN q) os' := by
  obtain ⟨W, hW⟩ : ∃ W, W = (w.alloc (.cells #[.slice A0 x.length c0, .int .i64 s] 54)).alloc (.cells #[.slice A1 y.length c1, .int .i64 t] 54) := ⟨_, rfl⟩
  have hb : Below w.heap.size w W := by rw [hW]; have b1 := (Below.refl w.heap.size w).alloc (Nat.le_refl _) (.cells #[.slice A0 x.length c0, .int .i64 s] 54); exact b1.alloc b1.size _
  have H := Aside0.mk (pathCompare_any A0 c0 x A1 c1 y W (Kd.C_below h0 hb) (Kd.C_below h1 hb) hx hy)
  have hg : W = Go.Sort.grow (w.drewN 0) #[.cells #[.slice A0 x.length c0, .int .i64 s] 54, .cells #[.slice A1 y.length c1, .int .i64 t] 54] := by
    rw [hW, Go.Sort.alloc_eq_grow, Go.Sort.alloc_eq_grow, Go.Sort.grow_grow]; rfl
  have HW := Aside0.mk hW
  have HG := Aside0.mk hg
  clear hW hb h0 h1 hg
  go_enter Try.func28, Try.ntmps28
  go_upto_region 1 with (fail)
  rw [← HW.out]
  have e1 : (w.alloc (.cells #[.slice A0 x.length c0, .int .i64 s] 54)).heap.size = w.heap.size + 1 := Array.size_push _
  have q0 : W.cell? ⟨w.heap.size, 0, none⟩ = some (.slice A0 x.length c0) := by rw [HW.out]; exact blk_cell (blk_alloc (alloc_blk w _) _) 0
  have q1 : W.cell? ⟨w.heap.size + 1, 0, none⟩ = some (.slice A1 y.length c1) := by
    rw [HW.out]
    have h9 := alloc_blk (w.alloc (.cells #[.slice A0 x.length c0, .int .i64 s] 54)) (.cells #[.slice A1 y.length c1, .int .i64 t] 54)
    rw [e1] at h9
    exact blk_cell h9 0
  clear e1
  go_wp2_with fail
  refine H.out.mono ?_
  rintro e w' ⟨rfl, rfl⟩
  go_wp2_with fail
  go_ret
  exact ⟨rfl, 0, _, HG.out⟩
theorem PathAt.CE {w W : World} {g : Nat} {x : Ent × List Int} (h : EnOk w x) (hg : ∃ cs t, w.heap[g]? = some (.cells cs t (0, 0)) ∧ t ≠ 3) (hk : Keep (fun q => q = g) w W) : (Kd.int .i64).C W x.1.A x.2.length x.2 := by
  obtain ⟨cs, t, h1, h2⟩ := hg
  exact (h.1.keep hk (fun q cs' hq e => by subst e; rw [h1] at hq; cases hq; exact h2 rfl)).C h.2.2.2
theorem cmpLaysE (w : World) (g size : Nat) (hg : ∃ cs t, w.heap[g]? = some (.cells cs t (0, 0)) ∧ t ≠ 3) : Go.Proofs.CmpLays Try.prog 28 #[] (encE (w := w)) 2 cmpE g 0 size w := by
  intro m os dk hdk x y
  have hlt : g < w.heap.size := by obtain ⟨cs, t, h1, _⟩ := hg; exact blk_lt h1
  have hk := sortK_old (encE (w := w)) 2 w g 0 m dk os hlt
  have h0 := PathAt.CE x.2 hg hk
  have h1 := PathAt.CE y.2 hg hk
  have hx := x.2.2
  have hy := y.2.2
  have := closeE undef undef undef undef x.1.1.A x.1.1.c x.1.2 y.1.1.A y.1.1.c y.1.2 x.1.1.s y.1.1.s (Go.Proofs.sortWorldK (encE (w := w)) 2 w g 0 m dk os) h0 h1 (by omega) (by omega)
  rw [← hx.1, ← hy.1] at this
  exact this
/-- the entries beside their paths. -/
def logArr {w : World} {ents : List Ent} {log : List (List Int × Int)} (hok : EntsOk w ents log) : Array (En w) :=
  Array.ofFn (n := ents.length) fun i => ⟨(ents[i.1], (log[i.1]'(by have := hok.1; omega)).1), by
    obtain ⟨a, b, c, d, e⟩ := hok.2 i.1 i.2 (by have := hok.1; omega)
    exact ⟨e, b, c, d⟩⟩
theorem logArr_size {w : World} {ents : List Ent} {log : List (List Int × Int)} (hok : EntsOk w ents log) : (logArr hok).size = ents.length := by unfold logArr; simp
theorem logArr_get {w : World} {ents : List Ent} {log : List (List Int × Int)} (hok : EntsOk w ents log) (i : Nat) (hi : i < ents.length) : ((logArr hok)[i]!).1.1 = ents[i] ∧ ((logArr hok)[i]!).1.2 = (log[i]'(by have := hok.1; omega)).1 := by
  have h : i < (logArr hok).size := by rw [logArr_size]; exact hi
  rw [getElem!_pos (logArr hok) i h]
  simp only [logArr, Array.getElem_ofFn, and_self]
theorem logArr_map {w : World} {ents : List Ent} {log : List (List Int × Int)} (hok : EntsOk w ents log) : (logArr hok).toList.map (fun x => (x.1.2, x.1.1.s)) = log := by
  apply List.ext_getElem
  · rw [List.length_map, Array.length_toList, logArr_size]; exact hok.1
  · intro i h1 h2
    have hi : i < ents.length := by have := hok.1; omega
    obtain ⟨a, _, _, _, _⟩ := hok.2 i hi h2
    have hs : i < (logArr hok).size := by rw [logArr_size]; exact hi
    have h9 := logArr_get hok i hi
    rw [getElem!_pos (logArr hok) i hs] at h9
    rw [List.getElem_map, Array.getElem_toList, h9.1, h9.2, a]
theorem logArr_holds {w : World} {B g n cap : Nat} {ok : Nat → Prop} {ents : List Ent} {log : List (List Int × Int)} (hlog : kEnt.R 54 w B ok (.slice (some ⟨g, 0, none⟩) n cap) ents) (hok : EntsOk w ents log) : Go.Sort.HoldsK encE 2 w g 0 (logArr hok) := by
  intro j hj
  have hsz : (Go.Sort.flatK encE 2 (logArr hok)).size = ents.length * 2 := by unfold Go.Sort.flatK; simp [logArr_size]
  rw [hsz] at hj
  rw [Go.Sort.get_flatK encE 2 _ j (by rw [logArr_size]; exact hj)]
  have hi : j / 2 < ents.length := by omega
  obtain ⟨q0, q1, f0, f1⟩ := ent_at hlog hi
  have h9 := logArr_get hok (j / 2) hi
  have hm : j % 2 = 0 ∨ j % 2 = 1 := by omega
  unfold encE
  rw [h9.1]
  rcases hm with hm | hm
  · have e : 0 + j = j / 2 * 2 := by omega
    rw [hm, e]
    exact ⟨q0, f0⟩
  · have e : 0 + j = j / 2 * 2 + 1 := by omega
    rw [hm, e]
    exact ⟨q1, f1⟩
/-- what sorting the log leaves. -/
def SortP (w : World) (g : Nat) (log : List (List Int × Int)) (e : Ending) (w' : World) : Prop :=
  e = .returned (.tuple #[]) ∧ Keep (fun q => q = g) w w' ∧ ∃ xs : List (Ent × List Int), (∀ x ∈ xs, EnOk w x) ∧ (xs.map (fun x => (x.2, x.1.s))).Perm log ∧ xs.Pairwise (fun a b => ltP b.2 a.2 = false) ∧
    ∀ i (h : i < xs.length), w'.cell? ⟨g, i * 2, none⟩ = some (.slice xs[i].1.A xs[i].1.n xs[i].1.c) ∧ w'.cell? ⟨g, i * 2 + 1, none⟩ = some (.int .i64 xs[i].1.s)
theorem sortLog_any {w : World} {B g n cap : Nat} {ok : Nat → Prop} {ents : List Ent} {log : List (List Int × Int)} (hlog : kEnt.R 54 w B ok (.slice (some ⟨g, 0, none⟩) n cap) ents) (hok : EntsOk w ents log) (hp : 0 < ents.length) (hl : ents.length ≤ 1000000) :
    Calls Try.prog 27 #[.slice (some ⟨g, 0, none⟩) n cap, .func (.func 28) #[] #[]] w (SortP w g log) := by
  have hn := (Kd.R_reads' hlog).1
  obtain ⟨g', cp, hv, _, _, C, hC⟩ := Kd.R_form hlog hp
  injection hv with hA _ _
  cases hA
  have hg : ∃ cs t, w.heap[g]? = some (.cells cs t (0, 0)) ∧ t ≠ 3 := ⟨_, _, hC, by decide⟩
  have hH := logArr_holds hlog hok
  have hsz := logArr_size hok
  have hcon := Go.Proofs.AnyQ.slices_SortFunc Go.Proofs.Try.sortE 2 (fun w => by kernel_rfl) (fun w => by kernel_rfl) encE (fun _ => rfl) (fun x v hv => by simp [encE] at hv; rcases hv with rfl | rfl <;> rfl) cmpE (cmpE_swo w) 28 #[] g 0 cap (logArr hok) w (fun args w => Try.call28 args w) (cmpLaysE w g _ hg) hH (blk_lt hC) (by rw [hsz]; omega)
  rw [hsz, ← hn] at hcon
  change Calls Try.prog 27 _ _ _ at hcon
  refine hcon.mono ?_
  rintro e w' ⟨rfl, d', m, os, hperm, hsort, rfl⟩
  have hk := sortK_old (encE (w := w)) 2 w g 0 m d' os (blk_lt hC)
  have hds : d'.size = ents.length := hperm.1.trans (by rw [hsz])
  have hH' : Go.Sort.HoldsK encE 2 (Go.Proofs.sortWorldK encE 2 w g 0 m d' os) g 0 d' := by
    unfold Go.Proofs.sortWorldK
    refine Go.Sort.holdsK_grow encE 2 _ os g 0 d' ?_ (Go.Sort.holdsK_putRowK encE 2 _ g 0 _ d' (Go.Sort.holdsK_ahead encE 2 w m g 0 _ hH) (by rw [hds, hsz]))
    have : (Go.Sort.putRowK encE 2 (Go.Sort.ahead w m) g 0 d').heap.size = w.heap.size := by
      unfold Go.Sort.putRowK Go.Sort.putRow Go.Sort.mapBlock Go.Sort.ahead
      simp
    rw [this]; exact blk_lt hC
  refine ⟨rfl, hk, d'.toList.map (·.1), fun x hx => ?_, ?_, ?_, fun i h => ?_⟩
  · obtain ⟨y, _, rfl⟩ := List.mem_map.1 hx
    exact y.2
  · have h9 := hperm.2.2
    have e1 : (d'.extract 0 n).toList = d'.toList := by rw [Array.extract_eq_self_of_le (by omega)]
    have e2 : ((logArr hok).extract 0 n).toList = (logArr hok).toList := by rw [Array.extract_eq_self_of_le (by rw [hsz]; omega)]
    rw [e1, e2] at h9
    have e3 : ∀ L : List (En w), (L.map (·.1)).map (fun x => (x.2, x.1.s)) = L.map (fun x => (x.1.2, x.1.1.s)) := fun L => by
      induction L with
      | nil => rfl
      | cons a L ih => simp only [List.map_cons, ih]
    rw [e3]
    have h8 := h9.map (fun x : En w => (x.1.2, x.1.1.s))
    rw [logArr_map] at h8
    exact h8
  · rw [List.pairwise_map, List.pairwise_iff_getElem]
    intro i j hi hj hij
    have hj' : j < d'.size := by simpa using hj
    have hi' : i < d'.size := by simpa using hi
    have h9 := hsort i j (Nat.zero_le _) hij (by omega)
    rw [getElem!_pos d' i hi', getElem!_pos d' j hj'] at h9
    rw [Array.getElem_toList, Array.getElem_toList]
    exact h9
  · have hi' : i < d'.size := by simpa using h
    have c0 := (hH'.cell hi' (show 0 < 2 by decide)).1
    have c1 := (hH'.cell hi' (show 1 < 2 by decide)).1
    rw [getElem!_pos d' i hi'] at c0 c1
    rw [List.getElem_map, Array.getElem_toList]
    rw [Nat.zero_add] at c0 c1
    exact ⟨c0, c1⟩
end Go.Proofs.Ytbekjccehhaljaa.H

set_option linter.unusedVariables false
set_option linter.unusedSimpArgs false
namespace Go.Proofs.Ytbekjccehhaljaa.H
open Go.RowKit Go.Hay Go.Proofs.YtbekjccehhaljaaW.PrintWords Go.Proofs.YtbekjccehhaljaaW.PrintLast Go.Proofs.YtbekjccehhaljaaW.PrintMore
theorem idx4 {a b c d e : Value} {i : Int} (w : World) (h : (i = 0 ∧ e = a) ∨ (i = 1 ∧ e = b) ∨ (i = 2 ∧ e = c) ∨ (i = 3 ∧ e = d)) : (Instr.index 181 (.agg #[a, b, c, d]) (.int .i64 i)).run Try.prog w = .ok e w := by
  have hu181 := Try.underlying181
  rcases h with ⟨rfl, rfl⟩ | ⟨rfl, rfl⟩ | ⟨rfl, rfl⟩ | ⟨rfl, rfl⟩ <;> simp [Instr.index, run_underlying hu181, asIntOf, go_sem]
theorem blk_other {w : World} {g b : Nat} {o : Obj} (h : w.heap[g]? = some o) (hne : g ≠ b) (i : Nat) (v : Value) : (w.setCell ⟨b, i, none⟩ v).heap[g]? = some o := (Below.heap_setCell w _ v g hne).trans h
structure IW (w : World) (A : Option Addr) (n c : Nat) (f at_ : Int) (x : S61) (w' : World) : Prop where
  below : Below w.heap.size w w'
  b0 : w'.heap[w.heap.size]? = some (.cells #[.slice A n c, .int .i64 f, .int .i64 at_] 149 (0, 0))
  b1 : w'.heap[w.heap.size + 1]? = some (.cells #[.int .i64 x.f0, .int .i64 x.f1, .int .i64 x.f2, .int .i64 x.f3, .int .i64 x.f4] 61 (0, 0))
theorem IW.size {w : World} {A : Option Addr} {n c : Nat} {f at_ : Int} {x : S61} {w' : World} (h : IW w A n c f at_ x w') : w.heap.size + 2 ≤ w'.heap.size := by
  have := blk_lt h.b1; omega
theorem IW.keep {w : World} {A : Option Addr} {n c : Nat} {f at_ : Int} {x : S61} {w' w'' : World} (h : IW w A n c f at_ x w') (k : Keep (fun b => w.heap.size + 2 ≤ b) w' w'') : IW w A n c f at_ x w'' :=
  ⟨h.below.trans (k.below h.below.size (fun b hb hs => by omega)), k.blk h.b0 (by omega), k.blk h.b1 (by omega)⟩
theorem IW.start (w : World) (A : Option Addr) (n c : Nat) (f at_ : Int) (x : S61) : IW w A n c f at_ x ((w.alloc (.cells #[.slice A n c, .int .i64 f, .int .i64 at_] 149)).alloc (.cells #[.int .i64 x.f0, .int .i64 x.f1, .int .i64 x.f2, .int .i64 x.f3, .int .i64 x.f4] 61)) := by
  have hb0 := ((Below.refl w.heap.size w).alloc (Nat.le_refl _) (.cells #[.slice A n c, .int .i64 f, .int .i64 at_] 149))
  refine ⟨hb0.alloc hb0.size _, blk_alloc (alloc_blk w _) _, ?_⟩
  have := alloc_blk (w.alloc (.cells #[.slice A n c, .int .i64 f, .int .i64 at_] 149)) (.cells #[.int .i64 x.f0, .int .i64 x.f1, .int .i64 x.f2, .int .i64 x.f3, .int .i64 x.f4] 61)
  have e : (w.alloc (.cells #[.slice A n c, .int .i64 f, .int .i64 at_] 149)).heap.size = w.heap.size + 1 := Array.size_push _
  rwa [e] at this
structure JW (w : World) (A : Option Addr) (n c : Nat) (f at_ : Int) (x : S61) (g4 b6 b7 : Nat) (pa pb pc pk : Int) (w' : World) : Prop where
  iw : IW w A n c f at_ x w'
  h4 : w'.heap[g4]? = some (.cells #[.int .i64 pa, .int .i64 pb, .int .i64 pc, .int .i64 pk] 178 (0, 0))
  h6 : w'.heap[b6]? = some (.cells #[.int .i64 x.f1, .int .i64 x.f2, .int .i64 x.f3, .int .i64 x.f4] 103 (0, 0))
  h7 : w'.heap[b7]? = some (.cells #[.int .i64 pa, .int .i64 pb, .int .i64 pc, .int .i64 pk] 181 (0, 0))
theorem JW.keep {w : World} {A : Option Addr} {n c : Nat} {f at_ : Int} {x : S61} {g4 b6 b7 : Nat} {pa pb pc pk : Int} {w' w'' : World} (h : JW w A n c f at_ x g4 b6 b7 pa pb pc pk w') (k : Below w'.heap.size w' w'') : JW w A n c f at_ x g4 b6 b7 pa pb pc pk w'' :=
  ⟨h.iw.keep (Keep.of_belowB (k.mono h.iw.size)), (k.block _ (blk_lt h.h4)).trans h.h4, (k.block _ (blk_lt h.h6)).trans h.h6, (k.block _ (blk_lt h.h7)).trans h.h7⟩
def formTo (x : S61) (pa pb pc pk : Int) (i : Nat) : Prop := (0 < i → ¬ (pa = 0 ∧ x.f1 ≠ 0)) ∧ (1 < i → ¬ (pb = 0 ∧ x.f2 ≠ 0)) ∧ (2 < i → ¬ (pc = 0 ∧ x.f3 ≠ 0)) ∧ (3 < i → ¬ (pk = 0 ∧ x.f4 ≠ 0))
section
variable {x : S61} {pa pb pc pk : Int} {E : Option Int}
theorem form_no0 (h : formTo x pa pb pc pk 0) (hp : pa = 0) (hq : ¬ x.f1 = 0) : (if pa = 0 ∧ x.f1 ≠ 0 then some 4 else if pb = 0 ∧ x.f2 ≠ 0 then some 4 else if pc = 0 ∧ x.f3 ≠ 0 then some 4 else if pk = 0 ∧ x.f4 ≠ 0 then some 4 else E) = some 4 := if_pos ⟨hp, hq⟩
theorem form_no1 (h : formTo x pa pb pc pk 1) (hp : pb = 0) (hq : ¬ x.f2 = 0) : (if pa = 0 ∧ x.f1 ≠ 0 then some 4 else if pb = 0 ∧ x.f2 ≠ 0 then some 4 else if pc = 0 ∧ x.f3 ≠ 0 then some 4 else if pk = 0 ∧ x.f4 ≠ 0 then some 4 else E) = some 4 := by
  rw [if_neg (h.1 (by omega)), if_pos ⟨hp, hq⟩]
theorem form_no2 (h : formTo x pa pb pc pk 2) (hp : pc = 0) (hq : ¬ x.f3 = 0) : (if pa = 0 ∧ x.f1 ≠ 0 then some 4 else if pb = 0 ∧ x.f2 ≠ 0 then some 4 else if pc = 0 ∧ x.f3 ≠ 0 then some 4 else if pk = 0 ∧ x.f4 ≠ 0 then some 4 else E) = some 4 := by
  rw [if_neg (h.1 (by omega)), if_neg (h.2.1 (by omega)), if_pos ⟨hp, hq⟩]
theorem form_no3 (h : formTo x pa pb pc pk 3) (hp : pk = 0) (hq : ¬ x.f4 = 0) : (if pa = 0 ∧ x.f1 ≠ 0 then some 4 else if pb = 0 ∧ x.f2 ≠ 0 then some 4 else if pc = 0 ∧ x.f3 ≠ 0 then some 4 else if pk = 0 ∧ x.f4 ≠ 0 then some 4 else E) = some 4 := by
  rw [if_neg (h.1 (by omega)), if_neg (h.2.1 (by omega)), if_neg (h.2.2.1 (by omega)), if_pos ⟨hp, hq⟩]
theorem form_all (h : formTo x pa pb pc pk 4) : (if pa = 0 ∧ x.f1 ≠ 0 then some 4 else if pb = 0 ∧ x.f2 ≠ 0 then some 4 else if pc = 0 ∧ x.f3 ≠ 0 then some 4 else if pk = 0 ∧ x.f4 ≠ 0 then some 4 else E) = E := by
  rw [if_neg (h.1 (by omega)), if_neg (h.2.1 (by omega)), if_neg (h.2.2.1 (by omega)), if_neg (h.2.2.2 (by omega))]
theorem form_next0 (h : formTo x pa pb pc pk 0) (hq : ¬ (pa = 0 ∧ x.f1 ≠ 0)) : formTo x pa pb pc pk (0 + 1) := ⟨fun _ => hq, fun h => by omega, fun h => by omega, fun h => by omega⟩
theorem form_next1 (h : formTo x pa pb pc pk 1) (hq : ¬ (pb = 0 ∧ x.f2 ≠ 0)) : formTo x pa pb pc pk (1 + 1) := ⟨fun _ => h.1 (by omega), fun _ => hq, fun h => by omega, fun h => by omega⟩
theorem form_next2 (h : formTo x pa pb pc pk 2) (hq : ¬ (pc = 0 ∧ x.f3 ≠ 0)) : formTo x pa pb pc pk (2 + 1) := ⟨fun _ => h.1 (by omega), fun _ => h.2.1 (by omega), fun _ => hq, fun h => by omega⟩
theorem form_next3 (h : formTo x pa pb pc pk 3) (hq : ¬ (pk = 0 ∧ x.f4 ≠ 0)) : formTo x pa pb pc pk (3 + 1) := ⟨fun _ => h.1 (by omega), fun _ => h.2.1 (by omega), fun _ => h.2.2.1 (by omega), fun _ => hq⟩
end
def passTo (np lc : Nat) (x : S61) (pa pb pc pk : Int) (i : Nat) : Prop := (0 < i → fieldE np lc x.f1 pa = none) ∧ (1 < i → fieldE np lc x.f2 pb = none) ∧ (2 < i → fieldE np lc x.f3 pc = none) ∧ (3 < i → fieldE np lc x.f4 pk = none)
section
variable {np lc : Nat} {x : S61} {pa pb pc pk : Int} {E : Option Int}
theorem pass_all (h : passTo np lc x pa pb pc pk 4) : (fieldE np lc x.f1 pa).or ((fieldE np lc x.f2 pb).or ((fieldE np lc x.f3 pc).or ((fieldE np lc x.f4 pk).or E))) = E := by
  rw [h.1 (by omega), h.2.1 (by omega), h.2.2.1 (by omega), h.2.2.2 (by omega)]; rfl
theorem pass_no0 (h : passTo np lc x pa pb pc pk 0) {e : Int} (he : fieldE np lc x.f1 pa = some e) : (fieldE np lc x.f1 pa).or ((fieldE np lc x.f2 pb).or ((fieldE np lc x.f3 pc).or ((fieldE np lc x.f4 pk).or E))) = some e := by
  rw [he]; rfl
theorem pass_no1 (h : passTo np lc x pa pb pc pk 1) {e : Int} (he : fieldE np lc x.f2 pb = some e) : (fieldE np lc x.f1 pa).or ((fieldE np lc x.f2 pb).or ((fieldE np lc x.f3 pc).or ((fieldE np lc x.f4 pk).or E))) = some e := by
  rw [h.1 (by omega), he]; rfl
theorem pass_no2 (h : passTo np lc x pa pb pc pk 2) {e : Int} (he : fieldE np lc x.f3 pc = some e) : (fieldE np lc x.f1 pa).or ((fieldE np lc x.f2 pb).or ((fieldE np lc x.f3 pc).or ((fieldE np lc x.f4 pk).or E))) = some e := by
  rw [h.1 (by omega), h.2.1 (by omega), he]; rfl
theorem pass_no3 (h : passTo np lc x pa pb pc pk 3) {e : Int} (he : fieldE np lc x.f4 pk = some e) : (fieldE np lc x.f1 pa).or ((fieldE np lc x.f2 pb).or ((fieldE np lc x.f3 pc).or ((fieldE np lc x.f4 pk).or E))) = some e := by
  rw [h.1 (by omega), h.2.1 (by omega), h.2.2.1 (by omega), he]; rfl
theorem pass_next0 (h : passTo np lc x pa pb pc pk 0) (he : fieldE np lc x.f1 pa = none) : passTo np lc x pa pb pc pk (0 + 1) := ⟨fun _ => he, fun h => by omega, fun h => by omega, fun h => by omega⟩
theorem pass_next1 (h : passTo np lc x pa pb pc pk 1) (he : fieldE np lc x.f2 pb = none) : passTo np lc x pa pb pc pk (1 + 1) := ⟨fun _ => h.1 (by omega), fun _ => he, fun h => by omega, fun h => by omega⟩
theorem pass_next2 (h : passTo np lc x pa pb pc pk 2) (he : fieldE np lc x.f3 pc = none) : passTo np lc x pa pb pc pk (2 + 1) := ⟨fun _ => h.1 (by omega), fun _ => h.2.1 (by omega), fun _ => he, fun h => by omega⟩
theorem pass_next3 (h : passTo np lc x pa pb pc pk 3) (he : fieldE np lc x.f4 pk = none) : passTo np lc x pa pb pc pk (3 + 1) := ⟨fun _ => h.1 (by omega), fun _ => h.2.1 (by omega), fun _ => h.2.2.1 (by omega), fun _ => he⟩
theorem field_threeN {n : Int} (h : fieldE np lc n 3 = none) : 0 ≤ n ∧ n < np := by
  by_cases hI : inB 0 np n = true
  · simpa [inB] using hI
  · simp [fieldE, hI] at h
theorem field_oneN {n : Int} (h : fieldE np lc n 1 = none) : 0 ≤ n ∧ n < 8 := by
  by_cases hI : inB 0 8 n = true
  · simpa [inB] using hI
  · simp [fieldE, hI] at h
end
set_option maxRecDepth 100000 in
set_option maxHeartbeats 4000000 in
theorem instr_any (A : Option Addr) (c : Nat) (l : List S64) (f : Nat) (at_ : Int) (x : S61) (w : World) (hC : k64.C w A l.length l) (hf : f < l.length) :
    Calls Try.prog 56 #[.agg #[.slice A l.length c, .int .i64 f, .int .i64 at_], .agg #[.int .i64 x.f0, .int .i64 x.f1, .int .i64 x.f2, .int .i64 x.f3, .int .i64 x.f4]] w (stopPost f at_ (instrE l[f].f1.length l x) w) := by
  have hu149 := Try.underlying149
  have hu61 := Try.underlying61
  have hu178 := Try.underlying178
  have hu103 := Try.underlying103
  have hu181 := Try.underlying181
  have hse := shape_eq x.f0
  have h3 := shape_three x.f0
  obtain ⟨⟨pa, pb, pc, pk, is⟩, hsh⟩ : ∃ s, s = shapeP x.f0 := ⟨_, rfl⟩
  have hE := instrE_eq (lc := l[f].f1.length) (l := l) (x := x) hsh.symm
  rw [← hsh] at hse h3
  have hfa : ∀ (n p : Int) (w' : World), k64.C w' A l.length l → Calls Try.prog 77 #[.agg #[.slice A l.length c, .int .i64 f, .int .i64 at_], .int .i64 n, .int .i64 p] w' (stopPost f at_ (fieldE l.length l[f].f1.length n p) w') :=
    fun n p w' h => field_any A c l f at_ n p w' h hf
  obtain ⟨r, hr⟩ : ∃ r, r = instrE l[f].f1.length l x := ⟨_, rfl⟩
  rw [← hr] at hE ⊢
  clear hr
  generalize l[f].f1.length = lc at hE hfa
  have HE := Aside0.mk hE
  have HS := Aside0.mk hse
  have H3 := Aside0.mk h3
  have HC := Aside0.mk hC
  have HFA := Aside0.mk hfa
  have hi0 := fun w' => idx4 (a := .int .i64 pa) (b := .int .i64 pb) (c := .int .i64 pc) (d := .int .i64 pk) (i := 0) w' (.inl ⟨rfl, rfl⟩)
  have hi1 := fun w' => idx4 (a := .int .i64 pa) (b := .int .i64 pb) (c := .int .i64 pc) (d := .int .i64 pk) (i := 1) w' (.inr (.inl ⟨rfl, rfl⟩))
  have hi2 := fun w' => idx4 (a := .int .i64 pa) (b := .int .i64 pb) (c := .int .i64 pc) (d := .int .i64 pk) (i := 2) w' (.inr (.inr (.inl ⟨rfl, rfl⟩)))
  have hi3 := fun w' => idx4 (a := .int .i64 pa) (b := .int .i64 pb) (c := .int .i64 pc) (d := .int .i64 pk) (i := 3) w' (.inr (.inr (.inr ⟨rfl, rfl⟩)))
  have HX := Aside0.mk (IW.start w A l.length c f at_ x)
  clear hse h3 hsh hE hC hf hfa
  go_enter Try.func56, Try.ntmps56
  go_wp2_with fail
  refine (valid_shapeOf.calls 3 x.f0 pa pb pc pk is _ HS.out).mono ?_
  rintro e w1 ⟨rfl, hb1⟩
  have hx1 := HX.out.keep (Keep.of_belowB (hb1.mono HX.out.size))
  clear HX hb1
  have HX := Aside0.mk hx1
  have hx2 := hx1.keep ((Keep.refl (fun b => w.heap.size + 2 ≤ b) w1).alloc (.cells #[.int .i64 pa, .int .i64 pb, .int .i64 pc, .int .i64 pk] 178))
  have hg := alloc_blk w1 (.cells #[.int .i64 pa, .int .i64 pb, .int .i64 pc, .int .i64 pk] 178)
  have hg4 := HX.out.size
  have c0 := blk_cell hx2.b0 0
  have c1 := blk_cell hx2.b0 1
  have c2 := blk_cell hx2.b0 2
  clear hx1 HX
  have HX := Aside0.mk (And.intro hx2 (And.intro hg hg4))
  clear hx2 hg hg4
  go_wp2_with fail
  clear c0 c1 c2
  obtain ⟨hx2, hg, hg4⟩ := HX.out
  clear HX
  generalize w1.heap.size = g4 at hg hg4 ⊢
  generalize w1.alloc (.cells #[.int .i64 pa, .int .i64 pb, .int .i64 pc, .int .i64 pk] 178) = w2 at hx2 hg ⊢
  clear w1
  have HX := Aside0.mk (And.intro hx2 (And.intro hg hg4))
  clear hx2 hg hg4
  refine (need_any A l.length c f at_ 4 is w2).mono ?_
  rintro e w3 ⟨hb3, he⟩
  cases is with
  | false => 
    have hr : r = some 4 := HE.out
    subst hr
    subst he
    exact ⟨rfl, HX.out.1.below.trans (hb3.mono HX.out.1.below.size), rfl⟩
  | true =>
  subst he
  have hx3 := HX.out.1.keep (Keep.of_belowB (hb3.mono HX.out.1.size))
  have hg3 := (hb3.block _ (blk_lt HX.out.2.1)).trans HX.out.2.1
  have hg4 := HX.out.2.2
  clear HX hb3
  have HX := Aside0.mk (And.intro hx3 (And.intro hg3 hg4))
  clear hx3 hg3 hg4 w2
  have he := HE.out
  rw [if_neg (by simp)] at he
  clear HE
  have HE := Aside0.mk he
  clear he
  go_wp2_with fail
  refine wp_region_seq2 (fun w' => Below w3.heap.size w3 w') [] [.take 0, .take 1, .take 2, .take 3, .take 4, .take 5, .take 6, .take 7, .take 8, .take 9, .take 10, .take 11, .take 12, .take 13, .take 14, .take 15, .take 16, .take 17, .pair 18 19, .op 20, .op 21] (by kernel_rfl) (by kernel_rfl) rfl (by kernel_rfl) (panic_via (P := Try.prog) (fn := Try.f56) (fun _ _ _ => rfl)) ?_
  have hs : Below w3.heap.size w3 w3.drew := (Below.refl _ _).drew
  repeat (
    (first
      | (refine runSeq2_take (v := ?_) (by rfl) (by rfl) (fun w' hS => ?_) hs ?_
         rotate_left
         · (have hX := HX.out.1.keep (Keep.of_belowB (hS.mono HX.out.1.size)); have c1 := blk_cell hX.b1 1; have c2 := blk_cell hX.b1 2; have c3 := blk_cell hX.b1 3; have c4 := blk_cell hX.b1 4; have hG := (hS.block _ (blk_lt HX.out.2.1)).trans HX.out.2.1; have g0 := blk_cell hG 0; have g1 := blk_cell hG 1; have g2 := blk_cell hG 2; have g3 := blk_cell hG 3; go_simp; exact rfl))
      | refine runSeq2_skip (by rfl) (by rfl) hs ?_)
    (try simp only [Act.put, List.setIfInBounds_toArray, List.set_cons_zero, List.set_cons_succ]))
  refine runSeq2_two (di := 6) (dj := 7) (Zi := .cells #[.int .i64 0, .int .i64 0, .int .i64 0, .int .i64 0] 103 (0, 0)) (Zj := .cells #[.int .i64 0, .int .i64 0, .int .i64 0, .int .i64 0] 181 (0, 0)) (by rfl) (by rfl) rfl rfl (by intro a w K h; go_simp; exact h) (by intro a w K h; go_simp; exact h) (by decide) (fun w' h o => h.alloc h.size o) hs ?_
  intro b6 b7 w4 hs4 h67 h6 h7 hz6 hz7
  replace h6 : w3.heap.size ≤ b6 := h6
  replace h7 : w3.heap.size ≤ b7 := h7
  (try simp only [Act.put, List.setIfInBounds_toArray, List.set_cons_zero, List.set_cons_succ])
  have hs6 := ((((hs4.setCell (p := ⟨b6, 0, none⟩) h6 (.int .i64 x.f1)).setCell (p := ⟨b6, 1, none⟩) h6 (.int .i64 x.f2)).setCell (p := ⟨b6, 2, none⟩) h6 (.int .i64 x.f3)).setCell (p := ⟨b6, 3, none⟩) h6 (.int .i64 x.f4))
  have e6 := blk_set (blk_set (blk_set (blk_set hz6 0 (.int .i64 x.f1)) 1 (.int .i64 x.f2)) 2 (.int .i64 x.f3)) 3 (.int .i64 x.f4)
  have e7 := blk_other (blk_other (blk_other (blk_other hz7 (Ne.symm h67) 0 (.int .i64 x.f1)) (Ne.symm h67) 1 (.int .i64 x.f2)) (Ne.symm h67) 2 (.int .i64 x.f3)) (Ne.symm h67) 3 (.int .i64 x.f4)
  have G := Aside0.mk (And.intro hs6 (And.intro e6 e7))
  have c0 := blk_cell hz6 0
  have c1 := blk_cell hz6 1
  have c2 := blk_cell hz6 2
  have c3 := blk_cell hz6 3
  have f0 := blk_frozen hz6 0
  have f1 := blk_frozen hz6 1
  have f2 := blk_frozen hz6 2
  have f3 := blk_frozen hz6 3
  clear hs6 e6 e7 hz7 hs4 hs
  refine runSeq2_op (by rfl) (by rfl) (fun K hK => ?_)
  go_simp
  refine hK _ _ G.out.1 ?_
  clear hK K c0 c1 c2 c3 f0 f1 f2 f3 hz6
  obtain ⟨hs5, e6, e7⟩ := G.out
  clear G
  generalize (((w4.setCell ⟨b6, 0, none⟩ (.int .i64 x.f1)).setCell ⟨b6, 1, none⟩ (.int .i64 x.f2)).setCell ⟨b6, 2, none⟩ (.int .i64 x.f3)).setCell ⟨b6, 3, none⟩ (.int .i64 x.f4) = w5 at hs5 e6 e7 ⊢
  clear w4
  have hs7 := ((((hs5.setCell (p := ⟨b7, 0, none⟩) h7 (.int .i64 pa)).setCell (p := ⟨b7, 1, none⟩) h7 (.int .i64 pb)).setCell (p := ⟨b7, 2, none⟩) h7 (.int .i64 pc)).setCell (p := ⟨b7, 3, none⟩) h7 (.int .i64 pk))
  have e7' := blk_set (blk_set (blk_set (blk_set e7 0 (.int .i64 pa)) 1 (.int .i64 pb)) 2 (.int .i64 pc)) 3 (.int .i64 pk)
  have e6' := blk_other (blk_other (blk_other (blk_other e6 h67 0 (.int .i64 pa)) h67 1 (.int .i64 pb)) h67 2 (.int .i64 pc)) h67 3 (.int .i64 pk)
  have G := Aside0.mk (And.intro hs7 (And.intro e6' e7'))
  have c0 := blk_cell e7 0
  have c1 := blk_cell e7 1
  have c2 := blk_cell e7 2
  have c3 := blk_cell e7 3
  have f0 := blk_frozen e7 0
  have f1 := blk_frozen e7 1
  have f2 := blk_frozen e7 2
  have f3 := blk_frozen e7 3
  clear hs7 e7' e6' e6 hs5
  refine runSeq2_op (by rfl) (by rfl) (fun K hK => ?_)
  go_simp
  refine hK _ _ G.out.1 ?_
  clear hK K c0 c1 c2 c3 f0 f1 f2 f3 e7
  obtain ⟨hs6, e6, e7⟩ := G.out
  clear G
  generalize (((w5.setCell ⟨b7, 0, none⟩ (.int .i64 pa)).setCell ⟨b7, 1, none⟩ (.int .i64 pb)).setCell ⟨b7, 2, none⟩ (.int .i64 pc)).setCell ⟨b7, 3, none⟩ (.int .i64 pk) = w6 at hs6 e6 e7 ⊢
  clear w5
  refine runSeq2_nil ?_
  have hx6 := HX.out.1.keep (Keep.of_belowB (hs6.mono HX.out.1.size))
  have hg6 := (hs6.block _ (blk_lt HX.out.2.1)).trans HX.out.2.1
  have HJ := Aside0.mk (JW.mk hx6 hg6 e6 e7)
  have c0 := blk_cell e7 0
  have c1 := blk_cell e7 1
  have c2 := blk_cell e7 2
  have c3 := blk_cell e7 3
  clear hx6 hg6 HX hs6 e6 e7 h67 h6 h7 w3
  go_wp2_with fail
  clear c0 c1 c2 c3
  go_loopw [40] (fun v40 wr => ∃ i : Nat, v40 = .int .i64 i ∧ i ≤ 4 ∧ Aside0 (formTo x pa pb pc pk i) ∧ Aside0 (JW w A l.length c f at_ x g4 b6 b7 pa pb pc pk wr)) (fun v40 _ => 4 - (intOf v40).toNat)
  case atStart => exact ⟨0, rfl, by omega, ⟨by simp [formTo]⟩, HJ⟩
  case round =>
    clear HJ w6
    obtain ⟨i, rfl, hi, HFT, HJ⟩ := hrel
    by_cases hlt : i < 4
    · have : i = 0 ∨ i = 1 ∨ i = 2 ∨ i = 3 := by omega
      clear hlt hi
      rcases this with rfl | rfl | rfl | rfl
      · skip
        go_wp2_with fail
        by_cases hp : pa = 0
        · by_cases hq : x.f1 = 0
          · have HFN := Aside0.mk (form_next0 HFT.out (fun h => h.2 hq))
            have hp2 : (pa != 0) = false := by rw [hp]; rfl
            have hq2 : (x.f1 == 0) = true := by rw [hq]; rfl
            clear hp hq
            refine wp_region_seq (fun w' => Below wr.heap.size wr w') [9] [.take 0, .take 1, .take 2, .take 3, .take 4, .take 5, .take 6, .take 7, .take 8, .fin 9] (by kernel_rfl) (by kernel_rfl) rfl (by kernel_rfl) (panic_via (P := Try.prog) (fn := Try.f56) (fun _ _ _ => rfl)) ?_
            have hs : Below wr.heap.size wr wr.drew := (Below.refl _ _).drew
            repeat (
              (first
                | (refine runSeq_take (v := ?_) (by rfl) (by rfl) (fun w' hS => ?_) hs ?_
                   rotate_left
                   · (have hJ := HJ.out.keep hS; have c0 := blk_cell hJ.iw.b0 0; have c1 := blk_cell hJ.iw.b0 1; have c2 := blk_cell hJ.iw.b0 2; have d := blk_cell hJ.h6 0; go_simp; exact rfl))
                | refine runSeq_skip (by rfl) (by rfl) hs ?_)
              (try simp only [Act.put, List.setIfInBounds_toArray, List.set_cons_zero, List.set_cons_succ]))
            refine runSeq_fin (by rfl) (by rfl) (fun K hK => ?_)
            go_simp
            clear hp2 hq2
            refine (need_ok A l.length c f at_ 4 _).mono ?_
            rintro e w'' ⟨rfl, hb⟩
            refine hK _ _ ?_
            clear hK K
            refine runSeq_nil ?_
            have hj2 := HJ.out.keep (hs.trans (hb.mono hs.size))
            clear HJ hs hb
            have HJ := Aside0.mk hj2
            clear hj2
            go_wp2_with fail
            go_roundw
            case rel => exact ⟨0 + 1, by go_num, by omega, HFN, HJ⟩
            case measure => simp [intOf]
          · have HR := Aside0.mk (HE.out.trans (form_no0 HFT.out hp hq))
            have hp2 : (pa != 0) = false := by rw [hp]; rfl
            have hq2 : (x.f1 == 0) = false := by simp [hq]
            clear hp hq
            refine wp_region_seq (fun w' => Below wr.heap.size wr w') [9] [.take 0, .take 1, .take 2, .take 3, .take 4, .take 5, .take 6, .take 7, .take 8, .fin 9] (by kernel_rfl) (by kernel_rfl) rfl (by kernel_rfl) (panic_via (P := Try.prog) (fn := Try.f56) (fun _ _ _ => rfl)) ?_
            have hs : Below wr.heap.size wr wr.drew := (Below.refl _ _).drew
            repeat (
              (first
                | (refine runSeq_take (v := ?_) (by rfl) (by rfl) (fun w' hS => ?_) hs ?_
                   rotate_left
                   · (have hJ := HJ.out.keep hS; have c0 := blk_cell hJ.iw.b0 0; have c1 := blk_cell hJ.iw.b0 1; have c2 := blk_cell hJ.iw.b0 2; have d := blk_cell hJ.h6 0; go_simp; exact rfl))
                | refine runSeq_skip (by rfl) (by rfl) hs ?_)
              (try simp only [Act.put, List.setIfInBounds_toArray, List.set_cons_zero, List.set_cons_succ]))
            refine runSeq_fin (by rfl) (by rfl) (fun K hK => ?_)
            go_simp
            refine (need_no A l.length c f at_ 4 _).mono ?_
            rintro e w'' ⟨rfl, hb⟩
            have hr := HR.out
            subst hr
            exact ⟨rfl, HJ.out.iw.below.trans ((hs.trans (hb.mono hs.size)).mono HJ.out.iw.below.size), rfl⟩
        · have HFN := Aside0.mk (form_next0 HFT.out (fun h => hp h.1))
          have hp2 : (pa != 0) = true := by simp [hp]
          clear hp
          refine wp_region_seq (fun w' => Below wr.heap.size wr w') [9] [.take 0, .take 1, .take 2, .take 3, .take 4, .take 5, .take 6, .take 7, .take 8, .fin 9] (by kernel_rfl) (by kernel_rfl) rfl (by kernel_rfl) (panic_via (P := Try.prog) (fn := Try.f56) (fun _ _ _ => rfl)) ?_
          have hs : Below wr.heap.size wr wr.drew := (Below.refl _ _).drew
          repeat (
            (first
              | (refine runSeq_take (v := ?_) (by rfl) (by rfl) (fun w' hS => ?_) hs ?_
                 rotate_left
                 · (have hJ := HJ.out.keep hS; have c0 := blk_cell hJ.iw.b0 0; have c1 := blk_cell hJ.iw.b0 1; have c2 := blk_cell hJ.iw.b0 2; have d := blk_cell hJ.h6 0; go_simp; exact rfl))
              | refine runSeq_skip (by rfl) (by rfl) hs ?_)
            (try simp only [Act.put, List.setIfInBounds_toArray, List.set_cons_zero, List.set_cons_succ]))
          refine runSeq_fin (by rfl) (by rfl) (fun K hK => ?_)
          go_simp
          clear hp2
          refine (need_ok A l.length c f at_ 4 _).mono ?_
          rintro e w'' ⟨rfl, hb⟩
          refine hK _ _ ?_
          clear hK K
          refine runSeq_nil ?_
          have hj2 := HJ.out.keep (hs.trans (hb.mono hs.size))
          clear HJ hs hb
          have HJ := Aside0.mk hj2
          clear hj2
          go_wp2_with fail
          go_roundw
          case rel => exact ⟨0 + 1, by go_num, by omega, HFN, HJ⟩
          case measure => simp [intOf]
      · skip
        go_wp2_with fail
        by_cases hp : pb = 0
        · by_cases hq : x.f2 = 0
          · have HFN := Aside0.mk (form_next1 HFT.out (fun h => h.2 hq))
            have hp2 : (pb != 0) = false := by rw [hp]; rfl
            have hq2 : (x.f2 == 0) = true := by rw [hq]; rfl
            clear hp hq
            refine wp_region_seq (fun w' => Below wr.heap.size wr w') [9] [.take 0, .take 1, .take 2, .take 3, .take 4, .take 5, .take 6, .take 7, .take 8, .fin 9] (by kernel_rfl) (by kernel_rfl) rfl (by kernel_rfl) (panic_via (P := Try.prog) (fn := Try.f56) (fun _ _ _ => rfl)) ?_
            have hs : Below wr.heap.size wr wr.drew := (Below.refl _ _).drew
            repeat (
              (first
                | (refine runSeq_take (v := ?_) (by rfl) (by rfl) (fun w' hS => ?_) hs ?_
                   rotate_left
                   · (have hJ := HJ.out.keep hS; have c0 := blk_cell hJ.iw.b0 0; have c1 := blk_cell hJ.iw.b0 1; have c2 := blk_cell hJ.iw.b0 2; have d := blk_cell hJ.h6 1; go_simp; exact rfl))
                | refine runSeq_skip (by rfl) (by rfl) hs ?_)
              (try simp only [Act.put, List.setIfInBounds_toArray, List.set_cons_zero, List.set_cons_succ]))
            refine runSeq_fin (by rfl) (by rfl) (fun K hK => ?_)
            go_simp
            clear hp2 hq2
            refine (need_ok A l.length c f at_ 4 _).mono ?_
            rintro e w'' ⟨rfl, hb⟩
            refine hK _ _ ?_
            clear hK K
            refine runSeq_nil ?_
            have hj2 := HJ.out.keep (hs.trans (hb.mono hs.size))
            clear HJ hs hb
            have HJ := Aside0.mk hj2
            clear hj2
            go_wp2_with fail
            go_roundw
            case rel => exact ⟨1 + 1, by go_num, by omega, HFN, HJ⟩
            case measure => simp [intOf]
          · have HR := Aside0.mk (HE.out.trans (form_no1 HFT.out hp hq))
            have hp2 : (pb != 0) = false := by rw [hp]; rfl
            have hq2 : (x.f2 == 0) = false := by simp [hq]
            clear hp hq
            refine wp_region_seq (fun w' => Below wr.heap.size wr w') [9] [.take 0, .take 1, .take 2, .take 3, .take 4, .take 5, .take 6, .take 7, .take 8, .fin 9] (by kernel_rfl) (by kernel_rfl) rfl (by kernel_rfl) (panic_via (P := Try.prog) (fn := Try.f56) (fun _ _ _ => rfl)) ?_
            have hs : Below wr.heap.size wr wr.drew := (Below.refl _ _).drew
            repeat (
              (first
                | (refine runSeq_take (v := ?_) (by rfl) (by rfl) (fun w' hS => ?_) hs ?_
                   rotate_left
                   · (have hJ := HJ.out.keep hS; have c0 := blk_cell hJ.iw.b0 0; have c1 := blk_cell hJ.iw.b0 1; have c2 := blk_cell hJ.iw.b0 2; have d := blk_cell hJ.h6 1; go_simp; exact rfl))
                | refine runSeq_skip (by rfl) (by rfl) hs ?_)
              (try simp only [Act.put, List.setIfInBounds_toArray, List.set_cons_zero, List.set_cons_succ]))
            refine runSeq_fin (by rfl) (by rfl) (fun K hK => ?_)
            go_simp
            refine (need_no A l.length c f at_ 4 _).mono ?_
            rintro e w'' ⟨rfl, hb⟩
            have hr := HR.out
            subst hr
            exact ⟨rfl, HJ.out.iw.below.trans ((hs.trans (hb.mono hs.size)).mono HJ.out.iw.below.size), rfl⟩
        · have HFN := Aside0.mk (form_next1 HFT.out (fun h => hp h.1))
          have hp2 : (pb != 0) = true := by simp [hp]
          clear hp
          refine wp_region_seq (fun w' => Below wr.heap.size wr w') [9] [.take 0, .take 1, .take 2, .take 3, .take 4, .take 5, .take 6, .take 7, .take 8, .fin 9] (by kernel_rfl) (by kernel_rfl) rfl (by kernel_rfl) (panic_via (P := Try.prog) (fn := Try.f56) (fun _ _ _ => rfl)) ?_
          have hs : Below wr.heap.size wr wr.drew := (Below.refl _ _).drew
          repeat (
            (first
              | (refine runSeq_take (v := ?_) (by rfl) (by rfl) (fun w' hS => ?_) hs ?_
                 rotate_left
                 · (have hJ := HJ.out.keep hS; have c0 := blk_cell hJ.iw.b0 0; have c1 := blk_cell hJ.iw.b0 1; have c2 := blk_cell hJ.iw.b0 2; have d := blk_cell hJ.h6 1; go_simp; exact rfl))
              | refine runSeq_skip (by rfl) (by rfl) hs ?_)
            (try simp only [Act.put, List.setIfInBounds_toArray, List.set_cons_zero, List.set_cons_succ]))
          refine runSeq_fin (by rfl) (by rfl) (fun K hK => ?_)
          go_simp
          clear hp2
          refine (need_ok A l.length c f at_ 4 _).mono ?_
          rintro e w'' ⟨rfl, hb⟩
          refine hK _ _ ?_
          clear hK K
          refine runSeq_nil ?_
          have hj2 := HJ.out.keep (hs.trans (hb.mono hs.size))
          clear HJ hs hb
          have HJ := Aside0.mk hj2
          clear hj2
          go_wp2_with fail
          go_roundw
          case rel => exact ⟨1 + 1, by go_num, by omega, HFN, HJ⟩
          case measure => simp [intOf]
      · skip
        go_wp2_with fail
        by_cases hp : pc = 0
        · by_cases hq : x.f3 = 0
          · have HFN := Aside0.mk (form_next2 HFT.out (fun h => h.2 hq))
            have hp2 : (pc != 0) = false := by rw [hp]; rfl
            have hq2 : (x.f3 == 0) = true := by rw [hq]; rfl
            clear hp hq
            refine wp_region_seq (fun w' => Below wr.heap.size wr w') [9] [.take 0, .take 1, .take 2, .take 3, .take 4, .take 5, .take 6, .take 7, .take 8, .fin 9] (by kernel_rfl) (by kernel_rfl) rfl (by kernel_rfl) (panic_via (P := Try.prog) (fn := Try.f56) (fun _ _ _ => rfl)) ?_
            have hs : Below wr.heap.size wr wr.drew := (Below.refl _ _).drew
            repeat (
              (first
                | (refine runSeq_take (v := ?_) (by rfl) (by rfl) (fun w' hS => ?_) hs ?_
                   rotate_left
                   · (have hJ := HJ.out.keep hS; have c0 := blk_cell hJ.iw.b0 0; have c1 := blk_cell hJ.iw.b0 1; have c2 := blk_cell hJ.iw.b0 2; have d := blk_cell hJ.h6 2; go_simp; exact rfl))
                | refine runSeq_skip (by rfl) (by rfl) hs ?_)
              (try simp only [Act.put, List.setIfInBounds_toArray, List.set_cons_zero, List.set_cons_succ]))
            refine runSeq_fin (by rfl) (by rfl) (fun K hK => ?_)
            go_simp
            clear hp2 hq2
            refine (need_ok A l.length c f at_ 4 _).mono ?_
            rintro e w'' ⟨rfl, hb⟩
            refine hK _ _ ?_
            clear hK K
            refine runSeq_nil ?_
            have hj2 := HJ.out.keep (hs.trans (hb.mono hs.size))
            clear HJ hs hb
            have HJ := Aside0.mk hj2
            clear hj2
            go_wp2_with fail
            go_roundw
            case rel => exact ⟨2 + 1, by go_num, by omega, HFN, HJ⟩
            case measure => simp [intOf]
          · have HR := Aside0.mk (HE.out.trans (form_no2 HFT.out hp hq))
            have hp2 : (pc != 0) = false := by rw [hp]; rfl
            have hq2 : (x.f3 == 0) = false := by simp [hq]
            clear hp hq
            refine wp_region_seq (fun w' => Below wr.heap.size wr w') [9] [.take 0, .take 1, .take 2, .take 3, .take 4, .take 5, .take 6, .take 7, .take 8, .fin 9] (by kernel_rfl) (by kernel_rfl) rfl (by kernel_rfl) (panic_via (P := Try.prog) (fn := Try.f56) (fun _ _ _ => rfl)) ?_
            have hs : Below wr.heap.size wr wr.drew := (Below.refl _ _).drew
            repeat (
              (first
                | (refine runSeq_take (v := ?_) (by rfl) (by rfl) (fun w' hS => ?_) hs ?_
                   rotate_left
                   · (have hJ := HJ.out.keep hS; have c0 := blk_cell hJ.iw.b0 0; have c1 := blk_cell hJ.iw.b0 1; have c2 := blk_cell hJ.iw.b0 2; have d := blk_cell hJ.h6 2; go_simp; exact rfl))
                | refine runSeq_skip (by rfl) (by rfl) hs ?_)
              (try simp only [Act.put, List.setIfInBounds_toArray, List.set_cons_zero, List.set_cons_succ]))
            refine runSeq_fin (by rfl) (by rfl) (fun K hK => ?_)
            go_simp
            refine (need_no A l.length c f at_ 4 _).mono ?_
            rintro e w'' ⟨rfl, hb⟩
            have hr := HR.out
            subst hr
            exact ⟨rfl, HJ.out.iw.below.trans ((hs.trans (hb.mono hs.size)).mono HJ.out.iw.below.size), rfl⟩
        · have HFN := Aside0.mk (form_next2 HFT.out (fun h => hp h.1))
          have hp2 : (pc != 0) = true := by simp [hp]
          clear hp
          refine wp_region_seq (fun w' => Below wr.heap.size wr w') [9] [.take 0, .take 1, .take 2, .take 3, .take 4, .take 5, .take 6, .take 7, .take 8, .fin 9] (by kernel_rfl) (by kernel_rfl) rfl (by kernel_rfl) (panic_via (P := Try.prog) (fn := Try.f56) (fun _ _ _ => rfl)) ?_
          have hs : Below wr.heap.size wr wr.drew := (Below.refl _ _).drew
          repeat (
            (first
              | (refine runSeq_take (v := ?_) (by rfl) (by rfl) (fun w' hS => ?_) hs ?_
                 rotate_left
                 · (have hJ := HJ.out.keep hS; have c0 := blk_cell hJ.iw.b0 0; have c1 := blk_cell hJ.iw.b0 1; have c2 := blk_cell hJ.iw.b0 2; have d := blk_cell hJ.h6 2; go_simp; exact rfl))
              | refine runSeq_skip (by rfl) (by rfl) hs ?_)
            (try simp only [Act.put, List.setIfInBounds_toArray, List.set_cons_zero, List.set_cons_succ]))
          refine runSeq_fin (by rfl) (by rfl) (fun K hK => ?_)
          go_simp
          clear hp2
          refine (need_ok A l.length c f at_ 4 _).mono ?_
          rintro e w'' ⟨rfl, hb⟩
          refine hK _ _ ?_
          clear hK K
          refine runSeq_nil ?_
          have hj2 := HJ.out.keep (hs.trans (hb.mono hs.size))
          clear HJ hs hb
          have HJ := Aside0.mk hj2
          clear hj2
          go_wp2_with fail
          go_roundw
          case rel => exact ⟨2 + 1, by go_num, by omega, HFN, HJ⟩
          case measure => simp [intOf]
      · skip
        go_wp2_with fail
        by_cases hp : pk = 0
        · by_cases hq : x.f4 = 0
          · have HFN := Aside0.mk (form_next3 HFT.out (fun h => h.2 hq))
            have hp2 : (pk != 0) = false := by rw [hp]; rfl
            have hq2 : (x.f4 == 0) = true := by rw [hq]; rfl
            clear hp hq
            refine wp_region_seq (fun w' => Below wr.heap.size wr w') [9] [.take 0, .take 1, .take 2, .take 3, .take 4, .take 5, .take 6, .take 7, .take 8, .fin 9] (by kernel_rfl) (by kernel_rfl) rfl (by kernel_rfl) (panic_via (P := Try.prog) (fn := Try.f56) (fun _ _ _ => rfl)) ?_
            have hs : Below wr.heap.size wr wr.drew := (Below.refl _ _).drew
            repeat (
              (first
                | (refine runSeq_take (v := ?_) (by rfl) (by rfl) (fun w' hS => ?_) hs ?_
                   rotate_left
                   · (have hJ := HJ.out.keep hS; have c0 := blk_cell hJ.iw.b0 0; have c1 := blk_cell hJ.iw.b0 1; have c2 := blk_cell hJ.iw.b0 2; have d := blk_cell hJ.h6 3; go_simp; exact rfl))
                | refine runSeq_skip (by rfl) (by rfl) hs ?_)
              (try simp only [Act.put, List.setIfInBounds_toArray, List.set_cons_zero, List.set_cons_succ]))
            refine runSeq_fin (by rfl) (by rfl) (fun K hK => ?_)
            go_simp
            clear hp2 hq2
            refine (need_ok A l.length c f at_ 4 _).mono ?_
            rintro e w'' ⟨rfl, hb⟩
            refine hK _ _ ?_
            clear hK K
            refine runSeq_nil ?_
            have hj2 := HJ.out.keep (hs.trans (hb.mono hs.size))
            clear HJ hs hb
            have HJ := Aside0.mk hj2
            clear hj2
            go_wp2_with fail
            go_roundw
            case rel => exact ⟨3 + 1, by go_num, by omega, HFN, HJ⟩
            case measure => simp [intOf]
          · have HR := Aside0.mk (HE.out.trans (form_no3 HFT.out hp hq))
            have hp2 : (pk != 0) = false := by rw [hp]; rfl
            have hq2 : (x.f4 == 0) = false := by simp [hq]
            clear hp hq
            refine wp_region_seq (fun w' => Below wr.heap.size wr w') [9] [.take 0, .take 1, .take 2, .take 3, .take 4, .take 5, .take 6, .take 7, .take 8, .fin 9] (by kernel_rfl) (by kernel_rfl) rfl (by kernel_rfl) (panic_via (P := Try.prog) (fn := Try.f56) (fun _ _ _ => rfl)) ?_
            have hs : Below wr.heap.size wr wr.drew := (Below.refl _ _).drew
            repeat (
              (first
                | (refine runSeq_take (v := ?_) (by rfl) (by rfl) (fun w' hS => ?_) hs ?_
                   rotate_left
                   · (have hJ := HJ.out.keep hS; have c0 := blk_cell hJ.iw.b0 0; have c1 := blk_cell hJ.iw.b0 1; have c2 := blk_cell hJ.iw.b0 2; have d := blk_cell hJ.h6 3; go_simp; exact rfl))
                | refine runSeq_skip (by rfl) (by rfl) hs ?_)
              (try simp only [Act.put, List.setIfInBounds_toArray, List.set_cons_zero, List.set_cons_succ]))
            refine runSeq_fin (by rfl) (by rfl) (fun K hK => ?_)
            go_simp
            refine (need_no A l.length c f at_ 4 _).mono ?_
            rintro e w'' ⟨rfl, hb⟩
            have hr := HR.out
            subst hr
            exact ⟨rfl, HJ.out.iw.below.trans ((hs.trans (hb.mono hs.size)).mono HJ.out.iw.below.size), rfl⟩
        · have HFN := Aside0.mk (form_next3 HFT.out (fun h => hp h.1))
          have hp2 : (pk != 0) = true := by simp [hp]
          clear hp
          refine wp_region_seq (fun w' => Below wr.heap.size wr w') [9] [.take 0, .take 1, .take 2, .take 3, .take 4, .take 5, .take 6, .take 7, .take 8, .fin 9] (by kernel_rfl) (by kernel_rfl) rfl (by kernel_rfl) (panic_via (P := Try.prog) (fn := Try.f56) (fun _ _ _ => rfl)) ?_
          have hs : Below wr.heap.size wr wr.drew := (Below.refl _ _).drew
          repeat (
            (first
              | (refine runSeq_take (v := ?_) (by rfl) (by rfl) (fun w' hS => ?_) hs ?_
                 rotate_left
                 · (have hJ := HJ.out.keep hS; have c0 := blk_cell hJ.iw.b0 0; have c1 := blk_cell hJ.iw.b0 1; have c2 := blk_cell hJ.iw.b0 2; have d := blk_cell hJ.h6 3; go_simp; exact rfl))
              | refine runSeq_skip (by rfl) (by rfl) hs ?_)
            (try simp only [Act.put, List.setIfInBounds_toArray, List.set_cons_zero, List.set_cons_succ]))
          refine runSeq_fin (by rfl) (by rfl) (fun K hK => ?_)
          go_simp
          clear hp2
          refine (need_ok A l.length c f at_ 4 _).mono ?_
          rintro e w'' ⟨rfl, hb⟩
          refine hK _ _ ?_
          clear hK K
          refine runSeq_nil ?_
          have hj2 := HJ.out.keep (hs.trans (hb.mono hs.size))
          clear HJ hs hb
          have HJ := Aside0.mk hj2
          clear hj2
          go_wp2_with fail
          go_roundw
          case rel => exact ⟨3 + 1, by go_num, by omega, HFN, HJ⟩
          case measure => simp [intOf]
    · obtain rfl : i = 4 := by omega
      clear hlt hi
      rw [show ((4 : Nat) : Int) = 4 from rfl]
      have c0 := blk_cell HJ.out.h7 0
      have c1 := blk_cell HJ.out.h7 1
      have c2 := blk_cell HJ.out.h7 2
      have c3 := blk_cell HJ.out.h7 3
      go_wp2_with fail
      clear c0 c1 c2 c3
      have he := HE.out.trans (form_all HFT.out)
      clear HE HFT
      have HE := Aside0.mk he
      clear he
      go_loopw [56] (fun v56 wr => ∃ i : Nat, v56 = .int .i64 i ∧ i ≤ 4 ∧ Aside0 (passTo l.length lc x pa pb pc pk i) ∧ Aside0 (JW w A l.length c f at_ x g4 b6 b7 pa pb pc pk wr)) (fun v56 _ => 4 - (intOf v56).toNat)
      case atStart => exact ⟨0, rfl, by omega, ⟨by simp [passTo]⟩, HJ⟩
      case round =>
        clear HJ
        obtain ⟨i, rfl, hi, HFT, HJ⟩ := hrel
        by_cases hlt : i < 4
        · have : i = 0 ∨ i = 1 ∨ i = 2 ∨ i = 3 := by omega
          clear hlt hi
          rcases this with rfl | rfl | rfl | rfl
          · skip
            go_wp2_with fail
            refine wp_region_seq (fun w' => Below wr.heap.size wr w') [5] [.take 0, .take 1, .take 2, .take 3, .take 4, .fin 5] (by kernel_rfl) (by kernel_rfl) rfl (by kernel_rfl) (panic_via (P := Try.prog) (fn := Try.f56) (fun _ _ _ => rfl)) ?_
            have hs : Below wr.heap.size wr wr.drew := (Below.refl _ _).drew
            repeat (
              (first
                | (refine runSeq_take (v := ?_) (by rfl) (by rfl) (fun w' hS => ?_) hs ?_
                   rotate_left
                   · (have hJ := HJ.out.keep hS; have c0 := blk_cell hJ.iw.b0 0; have c1 := blk_cell hJ.iw.b0 1; have c2 := blk_cell hJ.iw.b0 2; have d := blk_cell hJ.h6 0; go_simp; exact rfl))
                | refine runSeq_skip (by rfl) (by rfl) hs ?_)
              (try simp only [Act.put, List.setIfInBounds_toArray, List.set_cons_zero, List.set_cons_succ]))
            refine runSeq_fin (by rfl) (by rfl) (fun K hK => ?_)
            go_simp
            refine (HFA.out x.f1 pa _ (Kd.C_below HC.out (HJ.out.iw.below.trans (hs.mono HJ.out.iw.below.size)))).mono ?_
            rintro e w'' ⟨hb, he⟩
            have hj2 := HJ.out.keep (hs.trans (hb.mono hs.size))
            clear HJ hs hb
            have HJ := Aside0.mk hj2
            clear hj2
            cases hE : fieldE l.length lc x.f1 pa with
            | some q =>
              rw [hE] at he
              subst he
              have hr := HE.out.trans (pass_no0 HFT.out hE)
              subst hr
              exact ⟨rfl, HJ.out.iw.below, rfl⟩
            | none =>
            rw [hE] at he
            subst he
            have HFN := Aside0.mk (pass_next0 HFT.out hE)
            clear hE
            refine hK _ _ ?_
            clear hK K
            refine runSeq_nil ?_
            go_wp2_with fail
            go_roundw
            case rel => exact ⟨0 + 1, by go_num, by omega, HFN, HJ⟩
            case measure => simp [intOf]
          · skip
            go_wp2_with fail
            refine wp_region_seq (fun w' => Below wr.heap.size wr w') [5] [.take 0, .take 1, .take 2, .take 3, .take 4, .fin 5] (by kernel_rfl) (by kernel_rfl) rfl (by kernel_rfl) (panic_via (P := Try.prog) (fn := Try.f56) (fun _ _ _ => rfl)) ?_
            have hs : Below wr.heap.size wr wr.drew := (Below.refl _ _).drew
            repeat (
              (first
                | (refine runSeq_take (v := ?_) (by rfl) (by rfl) (fun w' hS => ?_) hs ?_
                   rotate_left
                   · (have hJ := HJ.out.keep hS; have c0 := blk_cell hJ.iw.b0 0; have c1 := blk_cell hJ.iw.b0 1; have c2 := blk_cell hJ.iw.b0 2; have d := blk_cell hJ.h6 1; go_simp; exact rfl))
                | refine runSeq_skip (by rfl) (by rfl) hs ?_)
              (try simp only [Act.put, List.setIfInBounds_toArray, List.set_cons_zero, List.set_cons_succ]))
            refine runSeq_fin (by rfl) (by rfl) (fun K hK => ?_)
            go_simp
            refine (HFA.out x.f2 pb _ (Kd.C_below HC.out (HJ.out.iw.below.trans (hs.mono HJ.out.iw.below.size)))).mono ?_
            rintro e w'' ⟨hb, he⟩
            have hj2 := HJ.out.keep (hs.trans (hb.mono hs.size))
            clear HJ hs hb
            have HJ := Aside0.mk hj2
            clear hj2
            cases hE : fieldE l.length lc x.f2 pb with
            | some q =>
              rw [hE] at he
              subst he
              have hr := HE.out.trans (pass_no1 HFT.out hE)
              subst hr
              exact ⟨rfl, HJ.out.iw.below, rfl⟩
            | none =>
            rw [hE] at he
            subst he
            have HFN := Aside0.mk (pass_next1 HFT.out hE)
            clear hE
            refine hK _ _ ?_
            clear hK K
            refine runSeq_nil ?_
            go_wp2_with fail
            go_roundw
            case rel => exact ⟨1 + 1, by go_num, by omega, HFN, HJ⟩
            case measure => simp [intOf]
          · skip
            go_wp2_with fail
            refine wp_region_seq (fun w' => Below wr.heap.size wr w') [5] [.take 0, .take 1, .take 2, .take 3, .take 4, .fin 5] (by kernel_rfl) (by kernel_rfl) rfl (by kernel_rfl) (panic_via (P := Try.prog) (fn := Try.f56) (fun _ _ _ => rfl)) ?_
            have hs : Below wr.heap.size wr wr.drew := (Below.refl _ _).drew
            repeat (
              (first
                | (refine runSeq_take (v := ?_) (by rfl) (by rfl) (fun w' hS => ?_) hs ?_
                   rotate_left
                   · (have hJ := HJ.out.keep hS; have c0 := blk_cell hJ.iw.b0 0; have c1 := blk_cell hJ.iw.b0 1; have c2 := blk_cell hJ.iw.b0 2; have d := blk_cell hJ.h6 2; go_simp; exact rfl))
                | refine runSeq_skip (by rfl) (by rfl) hs ?_)
              (try simp only [Act.put, List.setIfInBounds_toArray, List.set_cons_zero, List.set_cons_succ]))
            refine runSeq_fin (by rfl) (by rfl) (fun K hK => ?_)
            go_simp
            refine (HFA.out x.f3 pc _ (Kd.C_below HC.out (HJ.out.iw.below.trans (hs.mono HJ.out.iw.below.size)))).mono ?_
            rintro e w'' ⟨hb, he⟩
            have hj2 := HJ.out.keep (hs.trans (hb.mono hs.size))
            clear HJ hs hb
            have HJ := Aside0.mk hj2
            clear hj2
            cases hE : fieldE l.length lc x.f3 pc with
            | some q =>
              rw [hE] at he
              subst he
              have hr := HE.out.trans (pass_no2 HFT.out hE)
              subst hr
              exact ⟨rfl, HJ.out.iw.below, rfl⟩
            | none =>
            rw [hE] at he
            subst he
            have HFN := Aside0.mk (pass_next2 HFT.out hE)
            clear hE
            refine hK _ _ ?_
            clear hK K
            refine runSeq_nil ?_
            go_wp2_with fail
            go_roundw
            case rel => exact ⟨2 + 1, by go_num, by omega, HFN, HJ⟩
            case measure => simp [intOf]
          · skip
            go_wp2_with fail
            refine wp_region_seq (fun w' => Below wr.heap.size wr w') [5] [.take 0, .take 1, .take 2, .take 3, .take 4, .fin 5] (by kernel_rfl) (by kernel_rfl) rfl (by kernel_rfl) (panic_via (P := Try.prog) (fn := Try.f56) (fun _ _ _ => rfl)) ?_
            have hs : Below wr.heap.size wr wr.drew := (Below.refl _ _).drew
            repeat (
              (first
                | (refine runSeq_take (v := ?_) (by rfl) (by rfl) (fun w' hS => ?_) hs ?_
                   rotate_left
                   · (have hJ := HJ.out.keep hS; have c0 := blk_cell hJ.iw.b0 0; have c1 := blk_cell hJ.iw.b0 1; have c2 := blk_cell hJ.iw.b0 2; have d := blk_cell hJ.h6 3; go_simp; exact rfl))
                | refine runSeq_skip (by rfl) (by rfl) hs ?_)
              (try simp only [Act.put, List.setIfInBounds_toArray, List.set_cons_zero, List.set_cons_succ]))
            refine runSeq_fin (by rfl) (by rfl) (fun K hK => ?_)
            go_simp
            refine (HFA.out x.f4 pk _ (Kd.C_below HC.out (HJ.out.iw.below.trans (hs.mono HJ.out.iw.below.size)))).mono ?_
            rintro e w'' ⟨hb, he⟩
            have hj2 := HJ.out.keep (hs.trans (hb.mono hs.size))
            clear HJ hs hb
            have HJ := Aside0.mk hj2
            clear hj2
            cases hE : fieldE l.length lc x.f4 pk with
            | some q =>
              rw [hE] at he
              subst he
              have hr := HE.out.trans (pass_no3 HFT.out hE)
              subst hr
              exact ⟨rfl, HJ.out.iw.below, rfl⟩
            | none =>
            rw [hE] at he
            subst he
            have HFN := Aside0.mk (pass_next3 HFT.out hE)
            clear hE
            refine hK _ _ ?_
            clear hK K
            refine runSeq_nil ?_
            go_wp2_with fail
            go_roundw
            case rel => exact ⟨3 + 1, by go_num, by omega, HFN, HJ⟩
            case measure => simp [intOf]
        · obtain rfl : i = 4 := by omega
          clear hlt hi
          have he := HE.out.trans (pass_all HFT.out)
          clear HE
          have HE := Aside0.mk he
          clear he
          have c2 := blk_cell HJ.out.h4 2
          by_cases hc3 : pc = 3
          · subst hc3
            have hb1 := H3.out rfl
            subst hb1
            have hB := field_oneN (HFT.out.2.1 (by omega))
            have hCc := field_threeN (HFT.out.2.2.1 (by omega))
            have hx3 : (x.f3.toNat : Int) = x.f3 := Int.toNat_of_nonneg hCc.1
            obtain ⟨ad, Ai, ci, rfl, p0, p1, hci, hCi⟩ := at_T64 HC.out x.f3 hCc.1 hCc.2
            have p0' := (HJ.out.iw.below.cell (World.block_lt_of_cell? w _ p0)).trans p0
            have hE2 : r = if (rd_T64 l x.f3).f0 ≤ 8 - x.f2 then none else some 6 := HE.out
            have HP := Aside0.mk (And.intro hE2 p0')
            have hw8 : wrap64 (8 - x.f2) = 8 - x.f2 := by unfold wrap64; omega
            have hlt3 : (x.f3 < (l.length : Int)) = True := eq_true hCc.2
            have h03 : (0 ≤ x.f3) = True := eq_true hCc.1
            have HW := Aside0.mk (And.intro hw8 hCc)
            clear p0 p1 hci hCi p0' hE2 hx3 hB hw8
            go_wp2_with fail
            refine wp_region_seq (fun w' => Below wr.heap.size wr w') [12] [.take 0, .take 1, .take 2, .take 3, .take 4, .take 5, .take 6, .take 7, .take 8, .take 9, .take 10, .take 11, .fin 12] (by kernel_rfl) (by kernel_rfl) rfl (by kernel_rfl) (panic_via (P := Try.prog) (fn := Try.f56) (fun _ _ _ => rfl)) ?_
            have hs : Below wr.heap.size wr wr.drew := (Below.refl _ _).drew
            clear c2
            repeat (
              (first
                | (refine runSeq_take (v := ?_) (by rfl) (by rfl) (fun w' hS => ?_) hs ?_
                   rotate_left
                   · (have hJ := HJ.out.keep hS; have c0 := blk_cell hJ.iw.b0 0; have c1 := blk_cell hJ.iw.b0 1; have c2 := blk_cell hJ.iw.b0 2; have d2 := blk_cell hJ.iw.b1 2; have d3 := blk_cell hJ.iw.b1 3; have q0 := (hS.cell (World.block_lt_of_cell? wr _ HP.out.2)).trans HP.out.2; have hw8 := HW.out.1; go_simp; exact rfl))
                | refine runSeq_skip (by rfl) (by rfl) hs ?_)
              (try simp only [Act.put, List.setIfInBounds_toArray, List.set_cons_zero, List.set_cons_succ]))
            refine runSeq_fin (by rfl) (by rfl) (fun K hK => ?_)
            go_simp
            rw [show IntKind.i64.wrap (8 - x.f2) = 8 - x.f2 from (i64_w _).trans HW.out.1]
            refine (need_any (some ad) l.length c f at_ 6 _ _).mono ?_
            rintro e w'' ⟨hb, he⟩
            have hb2 := HJ.out.iw.below.trans ((hs.trans (hb.mono hs.size)).mono HJ.out.iw.below.size)
            have hr := HP.out.1
            clear hs hb HJ
            have HB2 := Aside0.mk hb2
            clear hb2
            by_cases hle : (rd_T64 l x.f3).f0 ≤ 8 - x.f2
            · rw [if_pos (decide_eq_true hle)] at he
              rw [if_pos hle] at hr
              subst he
              refine hK _ _ ?_
              clear hK K hle
              refine runSeq_nil ?_
              have HR := Aside0.mk hr
              clear hr
              go_wp2_with fail
              go_end0
              have hr := HR.out
              subst hr
              exact ⟨HB2.out, rfl⟩
            · rw [if_neg (fun h => hle (of_decide_eq_true h))] at he
              rw [if_neg hle] at hr
              subst he
              subst hr
              exact ⟨rfl, HB2.out, rfl⟩
          · have hc3' : (pc == 3) = false := by simp [hc3]
            have hr : r = none := by rw [HE.out]; exact if_neg hc3
            have HR := Aside0.mk hr
            clear hr hc3
            go_wp2_with fail
            go_end0
            have hr := HR.out
            subst hr
            exact ⟨HJ.out.iw.below, rfl⟩
end Go.Proofs.Ytbekjccehhaljaa.H

set_option linter.unusedVariables false
set_option linter.unusedSimpArgs false
namespace Go.Proofs.Ytbekjccehhaljaa.H
open Go.RowKit Go.Hay Go.Proofs.YtbekjccehhaljaaW.PrintWords Go.Proofs.YtbekjccehhaljaaW.PrintLast Go.Proofs.YtbekjccehhaljaaW.PrintMore
theorem blk_farC {w : World} {g : Nat} {o : Obj} {p : Addr} (h : w.heap[g]? = some o) (hne : g ≠ p.block) (v : Value) : (w.setCell p v).heap[g]? = some o := (Below.heap_setCell w p v g hne).trans h
theorem assert_wrong (v : Value) (w : World) : (Instr.typeAssert (.iface 146 v) 20 146 true).run Try.prog w = .ok (.tuple #[v, .bool true]) w := by kernel_rfl
set_option maxRecDepth 100000 in
set_option maxHeartbeats 4000000 in
theorem ccatch_panicking (B : Nat) (f at_ e : Int) (w : World) (v1 v2 v3 : Value) (h1 : w.heap[B]? = some (.cells #[v1] 3 (0, 0))) (h2 : w.heap[B + 1]? = some (.cells #[v2] 3 (0, 0))) (h3 : w.heap[B + 1 + 1]? = some (.cells #[v3] 34 (0, 0))) :
    CallsD Try.prog 54 #[.pointer (some ⟨B, 0, none⟩), .pointer (some ⟨B + 1, 0, none⟩), .pointer (some ⟨B + 1 + 1, 0, none⟩)] (.panicking [{ v := wrongV f at_ e, recovered := false }]) w fun x u' w' =>
      x = .returned (.tuple #[]) ∧ u' = .panicking [{ v := wrongV f at_ e, recovered := true }] ∧ Below B w w' ∧ w'.heap[B]? = some (.cells #[.int .i64 f] 3 (0, 0)) ∧ w'.heap[B + 1]? = some (.cells #[.int .i64 at_] 3 (0, 0)) ∧ w'.heap[B + 1 + 1]? = some (.cells #[.int .i64 e] 34 (0, 0)) := by
  have hu146 := Try.underlying146
  have ha := assert_wrong (.agg #[.int .i64 f, .int .i64 at_, .int .i64 e])
  have H1 := Aside0.mk h1
  have H2 := Aside0.mk h2
  have H3 := Aside0.mk h3
  clear h1 h2 h3
  refine callsD_of_wpS Try.func54 rfl fun c₀ cs hu => ?_
  apply wpS_seq
  apply wpS_region
  simp [wpOpsS, go_sem, recoverD, hu, Try.ntmps54, Exit.thenS]
  refine wpS_body ?_
  simp only [Array.replicate_succ, Array.replicate_zero, List.push_toArray, List.append_toArray, List.nil_append, List.cons_append, List.setIfInBounds_toArray, List.set_cons_zero, List.set_cons_succ, wrongV]
  go_wp2_with fail
  have hg := alloc_blk w (.cells #[.int .i64 f, .int .i64 at_, .int .i64 e] 146)
  have g1 := blk_alloc H1.out (.cells #[.int .i64 f, .int .i64 at_, .int .i64 e] 146)
  have g2 := blk_alloc H2.out (.cells #[.int .i64 f, .int .i64 at_, .int .i64 e] 146)
  have g3 := blk_alloc H3.out (.cells #[.int .i64 f, .int .i64 at_, .int .i64 e] 146)
  have hz := blk_lt H3.out
  have hb : Below B w (w.alloc (.cells #[.int .i64 f, .int .i64 at_, .int .i64 e] 146)) := (Below.refl _ _).alloc (by omega) _
  clear H1 H2 H3
  have GS := Aside0.mk (And.intro hg (And.intro g1 (And.intro g2 (And.intro g3 (And.intro hz hb)))))
  clear hg g1 g2 g3 hz hb
  refine wp_region_seq (fun w' => w'.heap[w.heap.size]? = some (.cells #[.int .i64 f, .int .i64 at_, .int .i64 e] 146 (0, 0))) [] [.take 0, .take 1, .take 2, .take 3, .take 4, .take 5, .op 6, .op 7, .op 8] (by kernel_rfl) (by kernel_rfl) rfl (by kernel_rfl) (panic_via (P := Try.prog) (fn := Try.f54) (fun _ _ _ => rfl)) ?_
  have hs : (w.alloc (.cells #[.int .i64 f, .int .i64 at_, .int .i64 e] 146)).drew.heap[w.heap.size]? = some (.cells #[.int .i64 f, .int .i64 at_, .int .i64 e] 146 (0, 0)) := GS.out.1
  repeat (
    (first
      | (refine runSeq_take (v := ?_) (by rfl) (by rfl) (fun w' hS => ?_) hs ?_
         rotate_left
         · (have d0 := blk_cell hS 0; have d1 := blk_cell hS 1; have d2 := blk_cell hS 2; go_simp; exact rfl))
      | refine runSeq_skip (by rfl) (by rfl) hs ?_)
    (try simp only [Act.put, List.setIfInBounds_toArray, List.set_cons_zero, List.set_cons_succ]))
  obtain ⟨hg, g1, g2, g3, hz, hb⟩ := GS.out
  clear GS hs
  have hg : (w.alloc (.cells #[.int .i64 f, .int .i64 at_, .int .i64 e] 146)).drew.heap[w.heap.size]? = _ := hg
  have g1 : (w.alloc (.cells #[.int .i64 f, .int .i64 at_, .int .i64 e] 146)).drew.heap[B]? = _ := g1
  have g2 : (w.alloc (.cells #[.int .i64 f, .int .i64 at_, .int .i64 e] 146)).drew.heap[B + 1]? = _ := g2
  have g3 : (w.alloc (.cells #[.int .i64 f, .int .i64 at_, .int .i64 e] 146)).drew.heap[B + 1 + 1]? = _ := g3
  have hb := hb.drew
  generalize (w.alloc (.cells #[.int .i64 f, .int .i64 at_, .int .i64 e] 146)).drew = wa at hg g1 g2 g3 hb ⊢
  have c := blk_cell g1 0
  have fz := blk_frozen g1 0
  refine runSeq_op (by rfl) (by rfl) (fun K hK => ?_)
  go_simp
  have hg := blk_farC (p := ⟨B, 0, none⟩) hg (show w.heap.size ≠ B by omega) (.int .i64 f)
  refine hK _ _ hg ?_
  clear hK K c fz
  have n1 := g1
  have q1 := g1
  have q2 := g2
  have q3 := g3
  clear g1 g2 g3
  have g1 : (wa.setCell ⟨B, 0, none⟩ (.int .i64 f)).heap[B]? = some (.cells #[.int .i64 f] 3 (0, 0)) := by first | exact blk_farC (p := ⟨B, 0, none⟩) q1 (show B ≠ B by omega) (.int .i64 f) | exact blk_set q1 0 _
  have g2 : (wa.setCell ⟨B, 0, none⟩ (.int .i64 f)).heap[B + 1]? = some (.cells #[v2] 3 (0, 0)) := by first | exact blk_farC (p := ⟨B, 0, none⟩) q2 (show B + 1 ≠ B by omega) (.int .i64 f) | exact blk_set q2 0 _
  have g3 : (wa.setCell ⟨B, 0, none⟩ (.int .i64 f)).heap[B + 1 + 1]? = some (.cells #[v3] 34 (0, 0)) := by first | exact blk_farC (p := ⟨B, 0, none⟩) q3 (show B + 1 + 1 ≠ B by omega) (.int .i64 f) | exact blk_set q3 0 _
  have hb := Below.setCell (p := ⟨B, 0, none⟩) hb (show B ≤ B by omega) (.int .i64 f)
  clear q1 q2 q3 n1
  generalize wa.setCell ⟨B, 0, none⟩ (.int .i64 f) = wa at hg g1 g2 g3 hb ⊢
  have c := blk_cell g2 0
  have fz := blk_frozen g2 0
  refine runSeq_op (by rfl) (by rfl) (fun K hK => ?_)
  go_simp
  have hg := blk_farC (p := ⟨B + 1, 0, none⟩) hg (show w.heap.size ≠ B + 1 by omega) (.int .i64 at_)
  refine hK _ _ hg ?_
  clear hK K c fz
  have n1 := g2
  have q1 := g1
  have q2 := g2
  have q3 := g3
  clear g1 g2 g3
  have g1 : (wa.setCell ⟨B + 1, 0, none⟩ (.int .i64 at_)).heap[B]? = some (.cells #[.int .i64 f] 3 (0, 0)) := by first | exact blk_farC (p := ⟨B + 1, 0, none⟩) q1 (show B ≠ B + 1 by omega) (.int .i64 at_) | exact blk_set q1 0 _
  have g2 : (wa.setCell ⟨B + 1, 0, none⟩ (.int .i64 at_)).heap[B + 1]? = some (.cells #[.int .i64 at_] 3 (0, 0)) := by first | exact blk_farC (p := ⟨B + 1, 0, none⟩) q2 (show B + 1 ≠ B + 1 by omega) (.int .i64 at_) | exact blk_set q2 0 _
  have g3 : (wa.setCell ⟨B + 1, 0, none⟩ (.int .i64 at_)).heap[B + 1 + 1]? = some (.cells #[v3] 34 (0, 0)) := by first | exact blk_farC (p := ⟨B + 1, 0, none⟩) q3 (show B + 1 + 1 ≠ B + 1 by omega) (.int .i64 at_) | exact blk_set q3 0 _
  have hb := Below.setCell (p := ⟨B + 1, 0, none⟩) hb (show B ≤ B + 1 by omega) (.int .i64 at_)
  clear q1 q2 q3 n1
  generalize wa.setCell ⟨B + 1, 0, none⟩ (.int .i64 at_) = wa at hg g1 g2 g3 hb ⊢
  have c := blk_cell g3 0
  have fz := blk_frozen g3 0
  refine runSeq_op (by rfl) (by rfl) (fun K hK => ?_)
  go_simp
  have hg := blk_farC (p := ⟨B + 1 + 1, 0, none⟩) hg (show w.heap.size ≠ B + 1 + 1 by omega) (.int .i64 e)
  refine hK _ _ hg ?_
  clear hK K c fz
  have n1 := g3
  have q1 := g1
  have q2 := g2
  have q3 := g3
  clear g1 g2 g3
  have g1 : (wa.setCell ⟨B + 1 + 1, 0, none⟩ (.int .i64 e)).heap[B]? = some (.cells #[.int .i64 f] 3 (0, 0)) := by first | exact blk_farC (p := ⟨B + 1 + 1, 0, none⟩) q1 (show B ≠ B + 1 + 1 by omega) (.int .i64 e) | exact blk_set q1 0 _
  have g2 : (wa.setCell ⟨B + 1 + 1, 0, none⟩ (.int .i64 e)).heap[B + 1]? = some (.cells #[.int .i64 at_] 3 (0, 0)) := by first | exact blk_farC (p := ⟨B + 1 + 1, 0, none⟩) q2 (show B + 1 ≠ B + 1 + 1 by omega) (.int .i64 e) | exact blk_set q2 0 _
  have g3 : (wa.setCell ⟨B + 1 + 1, 0, none⟩ (.int .i64 e)).heap[B + 1 + 1]? = some (.cells #[.int .i64 e] 34 (0, 0)) := by first | exact blk_farC (p := ⟨B + 1 + 1, 0, none⟩) q3 (show B + 1 + 1 ≠ B + 1 + 1 by omega) (.int .i64 e) | exact blk_set q3 0 _
  have hb := Below.setCell (p := ⟨B + 1 + 1, 0, none⟩) hb (show B ≤ B + 1 + 1 by omega) (.int .i64 e)
  clear q1 q2 q3 n1
  generalize wa.setCell ⟨B + 1 + 1, 0, none⟩ (.int .i64 e) = wa at hg g1 g2 g3 hb ⊢
  refine runSeq_nil ?_
  have GS := Aside0.mk (And.intro g1 (And.intro g2 (And.intro g3 hb)))
  clear hg g1 g2 g3 hb
  go_wp2_with fail
  go_end0
  exact ⟨rfl, trivial, GS.out.2.2.2, GS.out.1, GS.out.2.1, GS.out.2.2.1⟩
theorem ccatch_idle (p q r : Addr) (w : World) :
    CallsD Try.prog 54 #[.pointer (some p), .pointer (some q), .pointer (some r)] .returning w fun x u' w' =>
      x = .returned (.tuple #[]) ∧ u' = .returning ∧ w = w' := by
  refine callsD_of_wpS Try.func54 rfl fun c₀ cs hu => ?_
  apply wpS_seq
  apply wpS_region
  simp [wpOpsS, go_sem, recoverD, hu, Try.ntmps54, Exit.thenS]
  refine wpS_body_same hu ?_
  simp only [Array.replicate_succ, Array.replicate_zero, List.push_toArray, List.append_toArray, List.nil_append, List.cons_append, List.setIfInBounds_toArray, List.set_cons_zero, List.set_cons_succ]
  go_wp2
  go_end0
  exact ⟨rfl, trivial, rfl⟩

structure CkW (w w' : World) : Prop where
  below : Below w.heap.size w w'
  c0 : w'.heap[w.heap.size]? = some (.cells #[.int .i64 0] 3 (0, 0))
  c1 : w'.heap[w.heap.size + 1]? = some (.cells #[.int .i64 0] 3 (0, 0))
  c2 : w'.heap[w.heap.size + 1 + 1]? = some (.cells #[.int .i64 0] 34 (0, 0))
theorem CkW.size {w w' : World} (h : CkW w w') : w.heap.size + 3 ≤ w'.heap.size := by
  have := blk_lt h.c2; omega
theorem CkW.keep {w w' w'' : World} (h : CkW w w') (k : Below (w.heap.size + 3) w' w'') : CkW w w'' :=
  ⟨h.below.trans (k.mono (by omega)), (k.block _ (by omega)).trans h.c0, (k.block _ (by omega)).trans h.c1, (k.block _ (by omega)).trans h.c2⟩
theorem CkW.start (w : World) : CkW w (((w.alloc (.cells #[.int .i64 0] 3)).alloc (.cells #[.int .i64 0] 3)).alloc (.cells #[.int .i64 0] 34)) := by
  have e1 : (w.alloc (.cells #[.int .i64 0] 3)).heap.size = w.heap.size + 1 := Array.size_push _
  have e2 : ((w.alloc (.cells #[.int .i64 0] 3)).alloc (.cells #[.int .i64 0] 3)).heap.size = w.heap.size + 1 + 1 := by
    rw [← e1]; exact Array.size_push _
  have b1 := (Below.refl w.heap.size w).alloc (Nat.le_refl _) (.cells #[.int .i64 0] 3)
  have b2 := b1.alloc b1.size (.cells #[.int .i64 0] 3)
  refine ⟨b2.alloc b2.size _, blk_alloc (blk_alloc (alloc_blk w _) _) _, ?_, ?_⟩
  · have := alloc_blk (w.alloc (.cells #[.int .i64 0] 3)) (.cells #[.int .i64 0] 3)
    rw [e1] at this
    exact blk_alloc this _
  · have := alloc_blk ((w.alloc (.cells #[.int .i64 0] 3)).alloc (.cells #[.int .i64 0] 3)) (.cells #[.int .i64 0] 34)
    rw [e2] at this
    exact this
def ckPost (w : World) (l : List S64) (e : Ending) (w' : World) : Prop :=
  e = .returned (.tuple #[.int .i64 (checkP l).1, .int .i64 (checkP l).2.1, .int .i64 (checkP l).2.2]) ∧ Below w.heap.size w w'
theorem check_panics (l : List S64) (f at_ e : Int) (w w' : World) (tmps : Array Value) (hno : checkP l = (f, at_, e)) (H : CkW w w')
    (t2 : tmps.getD 2 undef = .pointer (some ⟨w.heap.size, 0, none⟩)) (t3 : tmps.getD 3 undef = .pointer (some ⟨w.heap.size + 1, 0, none⟩)) (t4 : tmps.getD 4 undef = .pointer (some ⟨w.heap.size + 1 + 1, 0, none⟩)) :
    bodyPostD Try.prog Try.f41 (ckPost w l) (.panic [{ v := wrongV f at_ e, recovered := false }])
      { tmps := tmps, defers := [{ target := Target.fn (Fn.func 54) #[.pointer (some ⟨w.heap.size, 0, none⟩), .pointer (some ⟨w.heap.size + 1, 0, none⟩), .pointer (some ⟨w.heap.size + 1 + 1, 0, none⟩)], args := #[] }] } w' := by
  refine leaves_cons (f := 54) (args := #[.pointer (some ⟨w.heap.size, 0, none⟩), .pointer (some ⟨w.heap.size + 1, 0, none⟩), .pointer (some ⟨w.heap.size + 1 + 1, 0, none⟩)]) (by simp) (by simp [go_sem]) ?_
  refine (ccatch_panicking w.heap.size f at_ e w' _ _ _ H.c0 H.c1 H.c2).mono ?_
  rintro x u' w2 ⟨rfl, rfl, hb2, c0, c1, c2⟩
  have q0 := blk_cell c0 0
  have q1 := blk_cell c1 0
  have q2 := blk_cell c2 0
  simp only [Array.getD_eq_getD_getElem?] at t2 t3 t4
  refine ⟨.tuple #[.int .i64 f, .int .i64 at_, .int .i64 e], by simp [results, Try.results41, go_sem, t2, t3, t4, q0, q1, q2], ?_⟩
  exact ⟨by rw [hno], H.below.trans hb2⟩
theorem check_stop {l : List S64} {i : Nat} {g : S64} {e : Int × Int} (hb : 1 ≤ l.length ∧ l.length ≤ 16) (hF : funcsE l 0 l = funcsE l i (l.drop i)) (hg : ∃ h : i < l.length, l[i] = g) (he : funcE l g = some e) : checkP l = ((i : Int), e.1, e.2) := by
  obtain ⟨hi, hg⟩ := hg
  unfold checkP
  rw [if_pos hb, hF, List.drop_eq_getElem_cons hi, hg]
  simp only [funcsE, he]
  rfl
theorem check_step {l : List S64} {i : Nat} {g : S64} (hF : funcsE l 0 l = funcsE l i (l.drop i)) (hg : ∃ h : i < l.length, l[i] = g) (he : funcE l g = none) : funcsE l 0 l = funcsE l (i + 1) (l.drop (i + 1)) := by
  obtain ⟨hi, hg⟩ := hg
  rw [hF, List.drop_eq_getElem_cons hi, hg]
  simp only [funcsE, he]
structure FW (w : World) (A : Option Addr) (n c : Nat) (i at_ : Int) (g6 : S64) (A1 : Option Addr) (c1 g : Nat) (w' : World) : Prop where
  ck : CkW w w'
  h6 : w'.heap[g]? = some (.cells #[.int .i64 g6.f0, .slice A1 g6.f1.length c1] 64 (0, 0))
  h7 : w'.heap[g + 1]? = some (.cells #[.slice A n c, .int .i64 i, .int .i64 at_] 149 (0, 0))
  lg : w.heap.size + 3 ≤ g
theorem FW.keep {w : World} {A : Option Addr} {n c : Nat} {i at_ : Int} {g6 : S64} {A1 : Option Addr} {c1 g : Nat} {w' w'' : World} (h : FW w A n c i at_ g6 A1 c1 g w') (k : Below w'.heap.size w' w'') : FW w A n c i at_ g6 A1 c1 g w'' :=
  ⟨h.ck.keep (k.mono h.ck.size), (k.block _ (blk_lt h.h6)).trans h.h6, (k.block _ (blk_lt h.h7)).trans h.h7, h.lg⟩
theorem FW.put {w : World} {A : Option Addr} {n c : Nat} {i at_ : Int} {g6 : S64} {A1 : Option Addr} {c1 g : Nat} {w' : World} (h : FW w A n c i at_ g6 A1 c1 g w') (k : Int) : FW w A n c i k g6 A1 c1 g (w'.setCell ⟨g + 1, 2, none⟩ (.int .i64 k)) :=
  ⟨h.ck.keep (Below.setCell (p := ⟨g + 1, 2, none⟩) (Below.refl _ _) (show w.heap.size + 3 ≤ g + 1 by have := h.lg; omega) _), blk_farC (p := ⟨g + 1, 2, none⟩) h.h6 (show g ≠ g + 1 by omega) _, blk_set h.h7 2 _, h.lg⟩
theorem FW.start {w : World} {A : Option Addr} {n c : Nat} {i : Int} {g6 : S64} {A1 : Option Addr} {c1 : Nat} {w' : World} (h : CkW w w') : FW w A n c i 0 g6 A1 c1 w'.heap.size ((w'.alloc (.cells #[.int .i64 g6.f0, .slice A1 g6.f1.length c1] 64)).alloc (.cells #[.slice A n c, .int .i64 i, .int .i64 0] 149)) := by
  have e1 : (w'.alloc (.cells #[.int .i64 g6.f0, .slice A1 g6.f1.length c1] 64)).heap.size = w'.heap.size + 1 := Array.size_push _
  have b1 := (Below.refl w'.heap.size w').alloc (Nat.le_refl _) (.cells #[.int .i64 g6.f0, .slice A1 g6.f1.length c1] 64)
  have b2 := b1.alloc b1.size (.cells #[.slice A n c, .int .i64 i, .int .i64 0] 149)
  refine ⟨h.keep (b2.mono h.size), blk_alloc (alloc_blk w' _) _, ?_, h.size⟩
  have := alloc_blk (w'.alloc (.cells #[.int .i64 g6.f0, .slice A1 g6.f1.length c1] 64)) (.cells #[.slice A n c, .int .i64 i, .int .i64 0] 149)
  rw [e1] at this
  exact this
set_option maxRecDepth 100000 in
set_option maxHeartbeats 8000000 in
theorem check_walk (A : Option Addr) (c : Nat) (l : List S64) (w : World) (hC : k64.C w A l.length l) (hc : l.length ≤ c) : Calls Try.prog 41 #[.slice A l.length c] w (ckPost w l) := by
  have hmf : ∀ (fn : Fn) (first cap : Array Value) (w : World), (Instr.makeFunc fn first cap).run Try.prog w = .ok (.func fn first cap) w := fun _ _ _ _ => rfl
  have HC := Aside0.mk hC
  have HS := Aside0.mk (CkW.start w)
  clear hC hc
  by_cases hl1 : 1 ≤ l.length
  · have hl1' : (1 ≤ (l.length : Int)) = True := eq_true (by omega)
    have HL1 := Aside0.mk hl1
    clear hl1
    go_enter_defers Try.func41, Try.ntmps41
    go_wp2_with fail
    refine (need_any none 0 0 0 0 3 _ _).mono ?_
    rintro e w2 ⟨hb, he⟩
    have hs2 := HS.out.keep (hb.mono HS.out.size)
    clear HS hb
    have HS := Aside0.mk hs2
    clear hs2
    by_cases hl2 : l.length ≤ 16
    · rw [if_pos (decide_eq_true (by omega))] at he
      subst he
      have HLL := Aside0.mk (And.intro HL1.out hl2)
      clear HL1 hl2 hl1'
      go_wp2_with fail
      go_loopw [24] (fun v24 wr => ∃ i : Nat, v24 = .int .i64 i ∧ i ≤ l.length ∧ Aside0 (funcsE l 0 l = funcsE l i (l.drop i)) ∧ Aside0 (CkW w wr)) (fun v24 _ => l.length - (intOf v24).toNat)
      case atStart => exact ⟨0, rfl, Nat.zero_le _, ⟨rfl⟩, HS⟩
      case round =>
        clear HS w2
        obtain ⟨i, rfl, hi, HF, HS⟩ := hrel
        by_cases hlt : i < l.length
        · have p1 : (0 : Int) ≤ (i : Int) := by omega
          have q1 : (i : Int) < (l.length : Nat) := by omega
          obtain ⟨ad, A1, c1, rfl, hx0, hx1, hl1, hi1⟩ := at_T64 HC.out i p1 q1
          replace hx0 := (HS.out.below.cell (World.block_lt_of_cell? w _ hx0)).trans hx0
          replace hx1 := (HS.out.below.cell (World.block_lt_of_cell? w _ hx1)).trans hx1
          simp only [Int.toNat_natCast] at hx0 hx1
          have hfi : rd_T64 l (i : Int) = l[i] := by simp [rd_T64, hlt]
          rw [hfi] at hx0 hx1 hl1 hi1
          clear hfi
          generalize hfj : l[i] = fi at hx0 hx1 hl1 hi1
          have HFI := Aside0.mk (show ∃ h : i < l.length, l[i] = fi from ⟨hlt, hfj⟩)
          have HR1 := Aside0.mk hi1
          have HIA := Aside0.mk (fun (at_ : Int) (x : S61) (w' : World) (h : k64.C w' (some ad) l.length l) => instr_any (some ad) c l i at_ x w' h hlt)
          rw [hfj] at HIA
          clear hi1 hl1 hfj
          have hu64 := Try.underlying64
          go_upto_region 7 with (fail)
          have hfw := FW.start (A := some ad) (n := l.length) (c := c) (i := (i : Int)) (g6 := fi) (A1 := A1) (c1 := c1) HS.out
          clear HS hx0 hx1 hu64
          generalize hgg : wr.heap.size = g at hfw ⊢
          clear hgg
          generalize (wr.alloc (.cells #[.int .i64 fi.f0, .slice A1 fi.f1.length c1] 64)).alloc (.cells #[.slice (some ad) l.length c, .int .i64 (i : Int), .int .i64 0] 149) = w3 at hfw ⊢
          have HW := Aside0.mk hfw
          have b60 := blk_cell hfw.h6 0
          have b70 := blk_cell hfw.h7 0
          have b71 := blk_cell hfw.h7 1
          have b72 := blk_cell hfw.h7 2
          have HLT := Aside0.mk hlt
          clear hfw wr p1 q1 hi hlt
          by_cases ha0 : 0 ≤ fi.f0
          · have ha0' : (0 ≤ fi.f0) = True := eq_true ha0
            have HA0 := Aside0.mk ha0
            clear ha0
            go_wp2_with fail
            clear b60 b70 b71 b72 ha0'
            refine (need_any (some ad) l.length c i 0 6 _ _).mono ?_
            rintro e w4 ⟨hb, he⟩
            have hfw := HW.out.keep hb
            clear HW hb
            by_cases ha1 : fi.f0 ≤ 4
            · rw [if_pos (decide_eq_true ha1)] at he
              subst he
              have HW := Aside0.mk hfw
              have HA := Aside0.mk (And.intro HA0.out ha1)
              have b61 := blk_cell hfw.h6 1
              have b70 := blk_cell hfw.h7 0
              have b71 := blk_cell hfw.h7 1
              have b72 := blk_cell hfw.h7 2
              clear hfw ha1 HA0 w3
              by_cases hb0 : 1 ≤ fi.f1.length
              · have hb0' : (1 ≤ (fi.f1.length : Int)) = True := eq_true (by omega)
                have HB0 := Aside0.mk hb0
                clear hb0
                go_wp2_with fail
                clear b61 b70 b71 b72 hb0'
                refine (need_any (some ad) l.length c i 0 3 _ _).mono ?_
                rintro e w5 ⟨hb, he⟩
                have hfw := HW.out.keep hb
                clear HW hb
                by_cases hb1 : fi.f1.length ≤ 64
                · rw [if_pos (decide_eq_true (by omega))] at he
                  subst he
                  have HW := Aside0.mk hfw
                  have HB := Aside0.mk (And.intro HB0.out hb1)
                  have b61 := blk_cell hfw.h6 1
                  clear hfw hb1 HB0 w4
                  go_wp2_with fail
                  clear b61
                  go_loopw [57] (fun v57 wr => ∃ (k : Nat) (at_ : Int), v57 = .int .i64 k ∧ k ≤ fi.f1.length ∧ Aside0 (instrsE fi.f1.length l 0 fi.f1 = instrsE fi.f1.length l k (fi.f1.drop k)) ∧ Aside0 (k = 0 ∨ at_ = (k : Int) - 1) ∧ Aside0 (FW w (some ad) l.length c i at_ fi A1 c1 g wr)) (fun v57 _ => fi.f1.length - (intOf v57).toNat)
                  case atStart => exact ⟨0, 0, rfl, Nat.zero_le _, ⟨rfl⟩, ⟨.inl rfl⟩, HW⟩
                  case round =>
                    clear HW w5
                    obtain ⟨k, at_, rfl, hk, HI, HAT, HW⟩ := hrel
                    by_cases hlk : k < fi.f1.length
                    · have p1 : (0 : Int) ≤ (k : Int) := by omega
                      have q1 : (k : Int) < (fi.f1.length : Nat) := by omega
                      obtain ⟨ad2, rfl, hx0, hx1, hx2, hx3, hx4⟩ := at_T61 HR1.out k p1 q1
                      replace hx0 := (HW.out.ck.below.cell (World.block_lt_of_cell? w _ hx0)).trans hx0
                      replace hx1 := (HW.out.ck.below.cell (World.block_lt_of_cell? w _ hx1)).trans hx1
                      replace hx2 := (HW.out.ck.below.cell (World.block_lt_of_cell? w _ hx2)).trans hx2
                      replace hx3 := (HW.out.ck.below.cell (World.block_lt_of_cell? w _ hx3)).trans hx3
                      replace hx4 := (HW.out.ck.below.cell (World.block_lt_of_cell? w _ hx4)).trans hx4
                      simp only [Int.toNat_natCast] at hx0 hx1 hx2 hx3 hx4
                      have hgi : rd_T61 fi.f1 (k : Int) = fi.f1[k] := by simp [rd_T61, hlk]
                      rw [hgi] at hx0 hx1 hx2 hx3 hx4
                      clear hgi
                      generalize hgj : fi.f1[k] = gi at hx0 hx1 hx2 hx3 hx4
                      have HGI := Aside0.mk (show ∃ h : k < fi.f1.length, fi.f1[k] = gi from ⟨hlk, hgj⟩)
                      clear hgj
                      have hu61 := Try.underlying61
                      go_upto_region 12 with (fail)
                      have hfw := HW.out.keep ((Below.refl _ _).alloc (Nat.le_refl _) (.cells #[.int .i64 gi.f0, .int .i64 gi.f1, .int .i64 gi.f2, .int .i64 gi.f3, .int .i64 gi.f4] 61))
                      have hbg := alloc_blk wr (.cells #[.int .i64 gi.f0, .int .i64 gi.f1, .int .i64 gi.f2, .int .i64 gi.f3, .int .i64 gi.f4] 61)
                      have hne : wr.heap.size ≠ g + 1 := by have := blk_lt HW.out.h7; omega
                      clear hx0 hx1 hx2 hx3 hx4 hu61 p1 q1 HW HAT
                      generalize wr.heap.size = b9 at hbg hne ⊢
                      generalize wr.alloc (.cells #[.int .i64 gi.f0, .int .i64 gi.f1, .int .i64 gi.f2, .int .i64 gi.f3, .int .i64 gi.f4] 61) = w6 at hfw hbg ⊢
                      clear wr
                      have hfp := hfw.put (k : Int)
                      have hbp := blk_farC (p := ⟨g + 1, 2, none⟩) hbg hne (.int .i64 (k : Int))
                      have HW := Aside0.mk (And.intro hfp hbp)
                      have c7 := blk_cell hfw.h7 2
                      have f7 := blk_frozen hfw.h7 2
                      have hu149 := Try.underlying149
                      clear hfp hbp hfw hbg hne
                      go_upto_region 13 with (fail)
                      clear c7 f7 hu149
                      obtain ⟨hfw, hbg⟩ := HW.out
                      clear HW
                      generalize w6.setCell ⟨g + 1, 2, none⟩ (.int .i64 (k : Int)) = w7 at hfw hbg ⊢
                      clear w6
                      have b70 := blk_cell hfw.h7 0
                      have b71 := blk_cell hfw.h7 1
                      have b72 := blk_cell hfw.h7 2
                      have x0 := blk_cell hbg 0
                      have x1 := blk_cell hbg 1
                      have x2 := blk_cell hbg 2
                      have x3 := blk_cell hbg 3
                      have x4 := blk_cell hbg 4
                      have HW := Aside0.mk hfw
                      have hu149 := Try.underlying149
                      have hu61 := Try.underlying61
                      clear hfw hbg
                      go_wp2_with fail
                      clear b70 b71 b72 x0 x1 x2 x3 x4 hu149 hu61
                      refine (HIA.out k gi w7 (Kd.C_below HC.out HW.out.ck.below)).mono ?_
                      rintro e w8 ⟨hb, he⟩
                      have hfw := HW.out.keep hb
                      clear HW hb
                      cases hE : instrE fi.f1.length l gi with
                      | some q =>
                        rw [hE] at he
                        subst he
                        exact check_panics l i k q w w8 _ (check_stop HLL.out HF.out HFI.out (e := ((k : Int), q)) (by
                          obtain ⟨h1, h2⟩ := HGI.out
                          unfold funcE; rw [if_pos HA.out, if_pos HB.out, HI.out, List.drop_eq_getElem_cons h1, h2]
                          simp only [instrsE, hE]; rfl)) hfw.ck rfl rfl rfl
                      | none =>
                      rw [hE] at he
                      subst he
                      have hin : instrsE fi.f1.length l 0 fi.f1 = instrsE fi.f1.length l (k + 1) (fi.f1.drop (k + 1)) := by
                        obtain ⟨h1, h2⟩ := HGI.out
                        rw [HI.out, List.drop_eq_getElem_cons h1, h2]
                        simp only [instrsE, hE]
                      have HIN := Aside0.mk hin
                      have HW := Aside0.mk hfw
                      have hB64 := HB.out.2
                      clear hin hfw hE
                      go_wp2_with fail
                      go_roundw
                      case rel => exact ⟨k + 1, k, by go_num, by omega, HIN, ⟨.inr (by omega)⟩, HW⟩
                      case measure => simp [intOf]; omega
                    · obtain rfl : k = fi.f1.length := by omega
                      have hB1 := HB.out.1
                      have hB64 := HB.out.2
                      have hin : instrsE fi.f1.length l 0 fi.f1 = none := by
                        have := HI.out
                        rw [List.drop_length] at this
                        exact this
                      have hat : at_ = (fi.f1.length : Int) - 1 := HAT.out.resolve_left (by omega)
                      subst hat
                      obtain ⟨ad2, rfl, hx0, hx1, hx2, hx3, hx4⟩ := at_T61 HR1.out ((fi.f1.length : Int) - 1) (by omega) (by omega)
                      replace hx0 := (HW.out.ck.below.cell (World.block_lt_of_cell? w _ hx0)).trans hx0
                      rw [show ((fi.f1.length : Int) - 1).toNat = fi.f1.length - 1 by omega] at hx0
                      have hFE : funcE l fi = lastE fi := by
                        unfold funcE; rw [if_pos HA.out, if_pos HB.out, hin]; rfl
                      have hLE : lastE fi = if (rd_T61 fi.f1 ((fi.f1.length : Int) - 1)).f0 = 9 ∨ (rd_T61 fi.f1 ((fi.f1.length : Int) - 1)).f0 = 16 ∨ (rd_T61 fi.f1 ((fi.f1.length : Int) - 1)).f0 = 17 then none else some ((fi.f1.length : Int) - 1, 11) := rfl
                      rw [hLE] at hFE
                      generalize (rd_T61 fi.f1 ((fi.f1.length : Int) - 1)).f0 = o at hx0 hFE
                      have hwl : IntKind.i64.wrap ((fi.f1.length : Int) - 1) = (fi.f1.length : Int) - 1 := (i64_w _).trans (by unfold wrap64; omega)
                      have hlo : (0 ≤ (fi.f1.length : Int) - 1) = True := eq_true (by omega)
                      have hhi : ((fi.f1.length : Int) - 1 < (fi.f1.length : Int)) = True := eq_true (by omega)
                      have hB1i : (1 ≤ (fi.f1.length : Int)) = True := eq_true (by omega)
                      have HFE := Aside0.mk hFE
                      have HW' := Aside0.mk HW.out.ck
                      have b61 := blk_cell HW.out.h6 1
                      clear hx1 hx2 hx3 hx4 hFE hLE hin HAT HI hB1 hB64 hk hlk
                      go_upto_region 16 with (fail)
                      clear hx0 b61 hwl hlo hhi hB1i
                      have b70 := blk_cell HW.out.h7 0
                      have b71 := blk_cell HW.out.h7 1
                      have b72 := blk_cell HW.out.h7 2
                      have hu149 := Try.underlying149
                      by_cases ho9 : o = 9
                      · have HN := Aside0.mk (HFE.out.trans (if_pos (.inl ho9)))
                        have e9 : (o == 9) = true := by rw [ho9]; rfl
                        clear ho9
                        go_wp2_with fail
                        clear b70 b71 b72 hu149
                        refine (need_ok (some ad) l.length c i ((fi.f1.length : Int) - 1) 11 _).mono ?_
                        rintro e w9 ⟨rfl, hb⟩
                        have hck := (HW.out.keep hb).ck
                        have hst := check_step HF.out HFI.out HN.out
                        have hl16 := HLL.out.2
                        have hil := HLT.out
                        have HFN := Aside0.mk hst
                        have HCN := Aside0.mk hck
                        clear hst hck hb HF HW
                        go_wp2_with fail
                        go_roundw
                        case rel => exact ⟨i + 1, by go_num, by omega, HFN, HCN⟩
                        case measure => simp [intOf]; omega
                      · have e9 : (o == 9) = false := by simp [ho9]
                        by_cases ho16 : o = 16
                        · have HN := Aside0.mk (HFE.out.trans (if_pos (.inr (.inl ho16))))
                          have e16 : (o == 16) = true := by rw [ho16]; rfl
                          clear ho16 ho9
                          go_wp2_with fail
                          clear b70 b71 b72 hu149
                          refine (need_ok (some ad) l.length c i ((fi.f1.length : Int) - 1) 11 _).mono ?_
                          rintro e w9 ⟨rfl, hb⟩
                          have hck := (HW.out.keep hb).ck
                          have hst := check_step HF.out HFI.out HN.out
                          have hl16 := HLL.out.2
                          have hil := HLT.out
                          have HFN := Aside0.mk hst
                          have HCN := Aside0.mk hck
                          clear hst hck hb HF HW
                          go_wp2_with fail
                          go_roundw
                          case rel => exact ⟨i + 1, by go_num, by omega, HFN, HCN⟩
                          case measure => simp [intOf]; omega
                        · have e16 : (o == 16) = false := by simp [ho16]
                          by_cases ho17 : o = 17
                          · have HN := Aside0.mk (HFE.out.trans (if_pos (.inr (.inr ho17))))
                            have e17 : (o == 17) = true := by rw [ho17]; rfl
                            clear ho17 ho16 ho9
                            go_wp2_with fail
                            clear b70 b71 b72 hu149
                            refine (need_ok (some ad) l.length c i ((fi.f1.length : Int) - 1) 11 _).mono ?_
                            rintro e w9 ⟨rfl, hb⟩
                            have hck := (HW.out.keep hb).ck
                            have hst := check_step HF.out HFI.out HN.out
                            have hl16 := HLL.out.2
                            have hil := HLT.out
                            have HFN := Aside0.mk hst
                            have HCN := Aside0.mk hck
                            clear hst hck hb HF HW
                            go_wp2_with fail
                            go_roundw
                            case rel => exact ⟨i + 1, by go_num, by omega, HFN, HCN⟩
                            case measure => simp [intOf]; omega
                          · have e17 : (o == 17) = false := by simp [ho17]
                            have HN := Aside0.mk (HFE.out.trans (if_neg (by omega)))
                            clear ho17 ho16 ho9
                            go_wp2_with fail
                            refine (need_no (some ad) l.length c i ((fi.f1.length : Int) - 1) 11 _).mono ?_
                            rintro e w9 ⟨rfl, hb⟩
                            exact check_panics l i ((fi.f1.length : Int) - 1) 11 w w9 _ (check_stop HLL.out HF.out HFI.out HN.out) (HW.out.keep hb).ck rfl rfl rfl
                · rw [if_neg (fun h => hb1 (by have := of_decide_eq_true h; omega))] at he
                  subst he
                  exact check_panics l i 0 3 w w5 _ (check_stop HLL.out HF.out HFI.out (e := (0, 3)) (by unfold funcE; rw [if_pos HA.out, if_neg (by omega)])) hfw.ck rfl rfl rfl
              · have hb0' : (1 ≤ (fi.f1.length : Int)) = False := eq_false (by omega)
                have HB0 := Aside0.mk hb0
                clear hb0
                go_wp2_with fail
                refine (need_no (some ad) l.length c i 0 3 _).mono ?_
                rintro e w5 ⟨rfl, hb⟩
                exact check_panics l i 0 3 w w5 _ (check_stop HLL.out HF.out HFI.out (e := (0, 3)) (by unfold funcE; rw [if_pos HA.out, if_neg (by have := HB0.out; omega)])) (HW.out.keep hb).ck rfl rfl rfl
            · rw [if_neg (fun h => ha1 (of_decide_eq_true h))] at he
              subst he
              exact check_panics l i 0 6 w w4 _ (check_stop HLL.out HF.out HFI.out (e := (0, 6)) (by unfold funcE; rw [if_neg (by omega)])) hfw.ck rfl rfl rfl
          · have ha0' : (0 ≤ fi.f0) = False := eq_false ha0
            have HA0 := Aside0.mk ha0
            clear ha0
            go_wp2_with fail
            refine (need_no (some ad) l.length c i 0 6 _).mono ?_
            rintro e w4 ⟨rfl, hb⟩
            exact check_panics l i 0 6 w w4 _ (check_stop HLL.out HF.out HFI.out (e := (0, 6)) (by unfold funcE; rw [if_neg (by have := HA0.out; omega)])) (HW.out.keep hb).ck rfl rfl rfl
        · obtain rfl : i = l.length := by omega
          clear hlt hi
          have hck : checkP l = (0, 0, 0) := by
            have := HF.out
            rw [List.drop_length] at this
            unfold checkP; rw [if_pos HLL.out, this]; rfl
          have c0 := blk_cell HS.out.c0 0
          have c1 := blk_cell HS.out.c1 0
          have c2 := blk_cell HS.out.c2 0
          have f0 := blk_frozen HS.out.c0 0
          have f1 := blk_frozen HS.out.c1 0
          have f2 := blk_frozen HS.out.c2 0
          have HCK := Aside0.mk hck
          clear hck
          go_wp2_with fail
          have d0 := blk_farC (p := ⟨w.heap.size + 1 + 1, 0, none⟩) (blk_farC (p := ⟨w.heap.size + 1, 0, none⟩) (blk_set HS.out.c0 0 (.int .i64 0)) (by simp) (.int .i64 0)) (by simp; omega) (.int .i64 0)
          have d1 := blk_farC (p := ⟨w.heap.size + 1 + 1, 0, none⟩) (blk_set (blk_farC (p := ⟨w.heap.size, 0, none⟩) HS.out.c1 (by simp) (.int .i64 0)) 0 (.int .i64 0)) (by simp) (.int .i64 0)
          have d2 := blk_set (blk_farC (p := ⟨w.heap.size + 1, 0, none⟩) (blk_farC (p := ⟨w.heap.size, 0, none⟩) HS.out.c2 (by simp; omega) (.int .i64 0)) (by simp) (.int .i64 0)) 0 (.int .i64 0)
          have dB := Below.setCell (p := ⟨w.heap.size + 1 + 1, 0, none⟩) (Below.setCell (p := ⟨w.heap.size + 1, 0, none⟩) (Below.setCell (p := ⟨w.heap.size, 0, none⟩) HS.out.below (Nat.le_refl _) (.int .i64 0)) (show w.heap.size ≤ w.heap.size + 1 by omega) (.int .i64 0)) (show w.heap.size ≤ w.heap.size + 1 + 1 by omega) (.int .i64 0)
          have r0 := blk_cell d0 0
          have r1 := blk_cell d1 0
          have r2 := blk_cell d2 0
          refine leaves_cons (f := 54) (args := #[.pointer (some ⟨w.heap.size, 0, none⟩), .pointer (some ⟨w.heap.size + 1, 0, none⟩), .pointer (some ⟨w.heap.size + 1 + 1, 0, none⟩)]) (by simp) (by simp [go_sem]) ?_
          refine (ccatch_idle _ _ _ _).mono ?_
          rintro e u' w2 ⟨rfl, rfl, rfl⟩
          refine ⟨.tuple #[.int .i64 0, .int .i64 0, .int .i64 0], ?_, ?_⟩
          · simp [results, Try.results41, go_sem, r0, r1, r2]
          · exact ⟨by rw [HCK.out], dB⟩
    · rw [if_neg (fun h => hl2 (by have := of_decide_eq_true h; omega))] at he
      subst he
      exact check_panics l 0 0 3 w w2 _ (by unfold checkP; rw [if_neg (by omega)]) HS.out rfl rfl rfl
  · have hl1' : (1 ≤ (l.length : Int)) = False := eq_false (by omega)
    have HL1 := Aside0.mk hl1
    clear hl1
    go_enter_defers Try.func41, Try.ntmps41
    go_wp2_with fail
    refine (need_no none 0 0 0 0 3 _).mono ?_
    rintro e w2 ⟨rfl, hb⟩
    have hs2 := HS.out.keep (hb.mono HS.out.size)
    exact check_panics l 0 0 3 w w2 _ (by unfold checkP; rw [if_neg (by have := HL1.out; omega)]) hs2 rfl rfl rfl
theorem valid_Check.calls (A0 : Option Addr) (c0 : Nat) (l0 : List S64) (r1 r2 r3 : Int) (w : World) (hr0 : k64.C w A0 l0.length l0) (hc0 : l0.length ≤ c0) (h : valid_Check.f l0 = some (r1, r2, r3)) :
    Calls Try.prog 41 #[.slice A0 l0.length c0] w fun e w' => e = .returned (.tuple #[.int .i64 r1, .int .i64 r2, .int .i64 r3]) ∧ Below w.heap.size w w' := by
  have hq : checkP l0 = (r1, r2, r3) := Option.some.inj h
  refine (check_walk A0 c0 l0 w hr0 hc0).mono ?_
  rintro e w' ⟨he, hb⟩
  rw [hq] at he
  exact ⟨he, hb⟩
end Go.Proofs.Ytbekjccehhaljaa.H

-- made by this session's gen.py over the kit's print.py; not trusted: Lean checks it
namespace Go.Proofs.Ytbekjccehhaljaa.H
open Go.RowKit Go.Proofs.YtbekjccehhaljaaW.PrintWords Go.Proofs.YtbekjccehhaljaaW.PrintLast Go.Proofs.YtbekjccehhaljaaW.PrintMore
attribute [local go_sem] max2_int min2_int max_two min_two max_three min_three max_four min_four   -- for this text's walks alone
set_option linter.unusedVariables false
set_option linter.unusedSimpArgs false

/-! ### eval_Right: function 24 -/
def eval_Right.f (l0 : List (S64)) (l1 : List Int) (a2_0 : Int) (a2_1 : Int) : Option (Bool) := (valid_Check.f l0).bind fun bt114 => (if bt114.2.2 = 0 then (if a2_0 < 1 then (some false) else (if a2_0 > 10000 then (some false) else (if a2_1 < 0 then (some false) else (if a2_1 > 30 then (some false) else (if 0 < (l0.length : Int) then (some ((l1.length : Int) == ((rd_T64 l0 0).f0))) else (none)))))) else (some false))
set_option maxHeartbeats 8000000 in
set_option maxRecDepth 100000 in
theorem eval_Right.calls (A0 : Option Addr) (c0 : Nat) (l0 : List (S64)) (A1 : Option Addr) (c1 : Nat) (l1 : List Int) (a2_0 : Int) (a2_1 : Int) (r : Bool) (w : World) (hr0 : Kd.C k64 w A0 l0.length l0) (hc0 : l0.length ≤ c0) (hr1 : Kd.C (Kd.int .i64) w A1 l1.length l1) (hc1 : l1.length ≤ c1) (h : eval_Right.f l0 l1 a2_0 a2_1 = some r) :
    Calls Try.prog 24 #[.slice A0 l0.length c0, .slice A1 l1.length c1, .agg #[.int .i64 a2_0, .int .i64 a2_1]] w fun e w' => e = .returned (.bool r) ∧ Below w.heap.size w w' := by
  have hu40 := Try.underlying40
  have HR0 := Aside0.mk hr0
  have HC0 := Aside0.mk hc0
  clear hr0 hc0
  have HR1 := Aside0.mk hr1
  have HC1 := Aside0.mk hc1
  clear hr1 hc1
  have HB := Aside0.mk (Below.refl w.heap.size w)
  have H : ((valid_Check.f l0).bind fun bt114 => (if bt114.2.2 = 0 then (if a2_0 < 1 then (some false) else (if a2_0 > 10000 then (some false) else (if a2_1 < 0 then (some false) else (if a2_1 > 30 then (some false) else (if 0 < (l0.length : Int) then (some ((l1.length : Int) == ((rd_T64 l0 0).f0))) else (none)))))) else (some false))) = some r := h
  clear h
  replace H := Option.bind_eq_some_iff.mp H
  obtain ⟨⟨t114, t115, t116⟩, A40, H⟩ := H
  replace H : (if t116 = 0 then (if a2_0 < 1 then (some false) else (if a2_0 > 10000 then (some false) else (if a2_1 < 0 then (some false) else (if a2_1 > 30 then (some false) else (if 0 < (l0.length : Int) then (some ((l1.length : Int) == ((rd_T64 l0 0).f0))) else (none)))))) else (some false)) = some r := H
  have A4 := Aside0.mk A40
  clear A40
  by_cases c5 : t116 = 0
  · rw [if_pos c5] at H
    have c5b0 : (t116 == 0) = true := beq_iff_eq.mpr c5
    have c5b1 : (t116 != 0) = false := bne_eq_false_iff_eq.mpr c5
    clear c5
    by_cases c6 : a2_0 < 1
    · rw [if_pos c6] at H
      have c6b0 : decide (a2_0 < 1) = true := decide_eq_true c6
      clear c6
      obtain rfl := Option.some.inj H
      go_enter Try.func24, Try.ntmps24
      go_wp2_with (first | ((with_reducible refine gate_dst (N := 5) rfl ?_); refine box_event ?hg (N := 5) ?hd (cs := #[.int .i64 a2_0, .int .i64 a2_1]) (t := 40) ?hr ?_; (case hd => rfl); (case hg => rfl); (case hr => first | (go_simp; done) | (go_simp; rfl)); intro gb113 hg w7 hbox hb; have n0_ := Aside0.mk (below_step (by repeat (first | (with_reducible first | exact HB.out | apply below_alloc | apply pw_below_drewN | apply below_drew1) | exact HB.out)) hb); have n1_ := Aside0.mk (hbox); have n2_ := Aside0.mk ((by rw [hg]; exact (below_size (by repeat (first | (with_reducible first | exact HB.out | apply below_alloc | apply pw_below_drewN | apply below_drew1) | exact HB.out))) : w.heap.size ≤ gb113)); have n3_ := Aside0.mk ((by rw [hg]; exact (below_size (by repeat (first | (with_reducible first | exact HB.out | apply below_alloc | apply pw_below_drewN | apply below_drew1) | exact HB.out))) : w.heap.size ≤ gb113)); clear HB; have HB := n0_; have BK113 := n1_; have GW113 := n2_; have GE113 := n3_; clear n0_ n1_ n2_ n3_; clear hb hbox hg) | ((with_reducible refine gate_callee (f := 41) rfl ?_); refine goesL_ (some 12) rfl rfl Try.func41 (by kernel_rfl) rfl #[.slice A0 l0.length c0] rfl (by (try simp only [List.map_toArray, List.map_cons, List.map_nil]); first | done | rfl | (simp only [List.length_drop, List.length_take]; rfl)) ?_; (with_reducible refine (valid_Check.calls _ _ l0 t114 t115 t116 _ ?side1 ?side2 A4.out).mono ?_); (case side1 => repeat (first | exact (Kd.C_below HR0.out HB.out) | (with_reducible refine Kd.C_alloc ?_ _) | (with_reducible refine Kd.C_drewN ?_ _) | (with_reducible refine Kd.C_drew ?_))); (case side2 => exact HC0.out); rintro e w8 ⟨rfl, hb⟩; refine ⟨_, rfl, ?_⟩; have n0_ := Aside0.mk (blk_below (g := gb113) (o := .cells #[.int .i64 a2_0, .int .i64 a2_1] 40 (0, 0)) (by (with_reducible repeat (first | refine blk_drewN ?_ _ | refine blk_drew ?_ | refine blk_alloc ?_ _)); exact BK113.out) hb); have n1_ := Aside0.mk (below_step (by repeat (first | (with_reducible first | exact HB.out | apply below_alloc | apply pw_below_drewN | apply below_drew1 | refine below_set ?_ GE113.out) | exact HB.out)) hb); clear BK113; clear HB; have BK113 := n0_; have HB := n1_; clear n0_ n1_; (try clear hb); (try clear hb2); (try clear hk); (try clear hi); have hcz9_0 : w8.cell? ⟨gb113, 0, none⟩ = some (.int .i64 a2_0) := (blk_cell BK113.out 0).trans rfl; have hcz9_1 : w8.cell? ⟨gb113, 1, none⟩ = some (.int .i64 a2_1) := (blk_cell BK113.out 1).trans rfl; have hfz9_0 := blk_frozen BK113.out 0; have hfz9_1 := blk_frozen BK113.out 1))
      go_ret
      exact ⟨by first | rfl | (simp [errW_none, errW_some] <;> rfl) | (simp [*, errW_none, errW_some] <;> rfl), by repeat (first | (with_reducible first | exact HB.out | apply below_alloc | apply pw_below_drewN | apply below_drew1 | refine below_set ?_ GE113.out) | exact HB.out)⟩
    · rw [if_neg c6] at H
      have c6b0 : decide (a2_0 < 1) = false := decide_eq_false c6
      clear c6
      by_cases c10 : a2_0 > 10000
      · rw [if_pos c10] at H
        have c10b0 : decide (10000 < a2_0) = true := decide_eq_true c10
        clear c10
        obtain rfl := Option.some.inj H
        go_enter Try.func24, Try.ntmps24
        go_wp2_with (first | ((with_reducible refine gate_dst (N := 5) rfl ?_); refine box_event ?hg (N := 5) ?hd (cs := #[.int .i64 a2_0, .int .i64 a2_1]) (t := 40) ?hr ?_; (case hd => rfl); (case hg => rfl); (case hr => first | (go_simp; done) | (go_simp; rfl)); intro gb113 hg w11 hbox hb; have n0_ := Aside0.mk (below_step (by repeat (first | (with_reducible first | exact HB.out | apply below_alloc | apply pw_below_drewN | apply below_drew1) | exact HB.out)) hb); have n1_ := Aside0.mk (hbox); have n2_ := Aside0.mk ((by rw [hg]; exact (below_size (by repeat (first | (with_reducible first | exact HB.out | apply below_alloc | apply pw_below_drewN | apply below_drew1) | exact HB.out))) : w.heap.size ≤ gb113)); have n3_ := Aside0.mk ((by rw [hg]; exact (below_size (by repeat (first | (with_reducible first | exact HB.out | apply below_alloc | apply pw_below_drewN | apply below_drew1) | exact HB.out))) : w.heap.size ≤ gb113)); clear HB; have HB := n0_; have BK113 := n1_; have GW113 := n2_; have GE113 := n3_; clear n0_ n1_ n2_ n3_; clear hb hbox hg) | ((with_reducible refine gate_callee (f := 41) rfl ?_); refine goesL_ (some 12) rfl rfl Try.func41 (by kernel_rfl) rfl #[.slice A0 l0.length c0] rfl (by (try simp only [List.map_toArray, List.map_cons, List.map_nil]); first | done | rfl | (simp only [List.length_drop, List.length_take]; rfl)) ?_; (with_reducible refine (valid_Check.calls _ _ l0 t114 t115 t116 _ ?side1 ?side2 A4.out).mono ?_); (case side1 => repeat (first | exact (Kd.C_below HR0.out HB.out) | (with_reducible refine Kd.C_alloc ?_ _) | (with_reducible refine Kd.C_drewN ?_ _) | (with_reducible refine Kd.C_drew ?_))); (case side2 => exact HC0.out); rintro e w12 ⟨rfl, hb⟩; refine ⟨_, rfl, ?_⟩; have n0_ := Aside0.mk (blk_below (g := gb113) (o := .cells #[.int .i64 a2_0, .int .i64 a2_1] 40 (0, 0)) (by (with_reducible repeat (first | refine blk_drewN ?_ _ | refine blk_drew ?_ | refine blk_alloc ?_ _)); exact BK113.out) hb); have n1_ := Aside0.mk (below_step (by repeat (first | (with_reducible first | exact HB.out | apply below_alloc | apply pw_below_drewN | apply below_drew1 | refine below_set ?_ GE113.out) | exact HB.out)) hb); clear BK113; clear HB; have BK113 := n0_; have HB := n1_; clear n0_ n1_; (try clear hb); (try clear hb2); (try clear hk); (try clear hi); have hcz13_0 : w12.cell? ⟨gb113, 0, none⟩ = some (.int .i64 a2_0) := (blk_cell BK113.out 0).trans rfl; have hcz13_1 : w12.cell? ⟨gb113, 1, none⟩ = some (.int .i64 a2_1) := (blk_cell BK113.out 1).trans rfl; have hfz13_0 := blk_frozen BK113.out 0; have hfz13_1 := blk_frozen BK113.out 1))
        go_ret
        exact ⟨by first | rfl | (simp [errW_none, errW_some] <;> rfl) | (simp [*, errW_none, errW_some] <;> rfl), by repeat (first | (with_reducible first | exact HB.out | apply below_alloc | apply pw_below_drewN | apply below_drew1 | refine below_set ?_ GE113.out) | exact HB.out)⟩
      · rw [if_neg c10] at H
        have c10b0 : decide (10000 < a2_0) = false := decide_eq_false c10
        clear c10
        by_cases c14 : a2_1 < 0
        · rw [if_pos c14] at H
          have c14b0 : decide (a2_1 < 0) = true := decide_eq_true c14
          clear c14
          obtain rfl := Option.some.inj H
          go_enter Try.func24, Try.ntmps24
          go_wp2_with (first | ((with_reducible refine gate_dst (N := 5) rfl ?_); refine box_event ?hg (N := 5) ?hd (cs := #[.int .i64 a2_0, .int .i64 a2_1]) (t := 40) ?hr ?_; (case hd => rfl); (case hg => rfl); (case hr => first | (go_simp; done) | (go_simp; rfl)); intro gb113 hg w15 hbox hb; have n0_ := Aside0.mk (below_step (by repeat (first | (with_reducible first | exact HB.out | apply below_alloc | apply pw_below_drewN | apply below_drew1) | exact HB.out)) hb); have n1_ := Aside0.mk (hbox); have n2_ := Aside0.mk ((by rw [hg]; exact (below_size (by repeat (first | (with_reducible first | exact HB.out | apply below_alloc | apply pw_below_drewN | apply below_drew1) | exact HB.out))) : w.heap.size ≤ gb113)); have n3_ := Aside0.mk ((by rw [hg]; exact (below_size (by repeat (first | (with_reducible first | exact HB.out | apply below_alloc | apply pw_below_drewN | apply below_drew1) | exact HB.out))) : w.heap.size ≤ gb113)); clear HB; have HB := n0_; have BK113 := n1_; have GW113 := n2_; have GE113 := n3_; clear n0_ n1_ n2_ n3_; clear hb hbox hg) | ((with_reducible refine gate_callee (f := 41) rfl ?_); refine goesL_ (some 12) rfl rfl Try.func41 (by kernel_rfl) rfl #[.slice A0 l0.length c0] rfl (by (try simp only [List.map_toArray, List.map_cons, List.map_nil]); first | done | rfl | (simp only [List.length_drop, List.length_take]; rfl)) ?_; (with_reducible refine (valid_Check.calls _ _ l0 t114 t115 t116 _ ?side1 ?side2 A4.out).mono ?_); (case side1 => repeat (first | exact (Kd.C_below HR0.out HB.out) | (with_reducible refine Kd.C_alloc ?_ _) | (with_reducible refine Kd.C_drewN ?_ _) | (with_reducible refine Kd.C_drew ?_))); (case side2 => exact HC0.out); rintro e w16 ⟨rfl, hb⟩; refine ⟨_, rfl, ?_⟩; have n0_ := Aside0.mk (blk_below (g := gb113) (o := .cells #[.int .i64 a2_0, .int .i64 a2_1] 40 (0, 0)) (by (with_reducible repeat (first | refine blk_drewN ?_ _ | refine blk_drew ?_ | refine blk_alloc ?_ _)); exact BK113.out) hb); have n1_ := Aside0.mk (below_step (by repeat (first | (with_reducible first | exact HB.out | apply below_alloc | apply pw_below_drewN | apply below_drew1 | refine below_set ?_ GE113.out) | exact HB.out)) hb); clear BK113; clear HB; have BK113 := n0_; have HB := n1_; clear n0_ n1_; (try clear hb); (try clear hb2); (try clear hk); (try clear hi); have hcz17_0 : w16.cell? ⟨gb113, 0, none⟩ = some (.int .i64 a2_0) := (blk_cell BK113.out 0).trans rfl; have hcz17_1 : w16.cell? ⟨gb113, 1, none⟩ = some (.int .i64 a2_1) := (blk_cell BK113.out 1).trans rfl; have hfz17_0 := blk_frozen BK113.out 0; have hfz17_1 := blk_frozen BK113.out 1))
          go_ret
          exact ⟨by first | rfl | (simp [errW_none, errW_some] <;> rfl) | (simp [*, errW_none, errW_some] <;> rfl), by repeat (first | (with_reducible first | exact HB.out | apply below_alloc | apply pw_below_drewN | apply below_drew1 | refine below_set ?_ GE113.out) | exact HB.out)⟩
        · rw [if_neg c14] at H
          have c14b0 : decide (a2_1 < 0) = false := decide_eq_false c14
          clear c14
          by_cases c18 : a2_1 > 30
          · rw [if_pos c18] at H
            have c18b0 : decide (30 < a2_1) = true := decide_eq_true c18
            clear c18
            obtain rfl := Option.some.inj H
            go_enter Try.func24, Try.ntmps24
            go_wp2_with (first | ((with_reducible refine gate_dst (N := 5) rfl ?_); refine box_event ?hg (N := 5) ?hd (cs := #[.int .i64 a2_0, .int .i64 a2_1]) (t := 40) ?hr ?_; (case hd => rfl); (case hg => rfl); (case hr => first | (go_simp; done) | (go_simp; rfl)); intro gb113 hg w19 hbox hb; have n0_ := Aside0.mk (below_step (by repeat (first | (with_reducible first | exact HB.out | apply below_alloc | apply pw_below_drewN | apply below_drew1) | exact HB.out)) hb); have n1_ := Aside0.mk (hbox); have n2_ := Aside0.mk ((by rw [hg]; exact (below_size (by repeat (first | (with_reducible first | exact HB.out | apply below_alloc | apply pw_below_drewN | apply below_drew1) | exact HB.out))) : w.heap.size ≤ gb113)); have n3_ := Aside0.mk ((by rw [hg]; exact (below_size (by repeat (first | (with_reducible first | exact HB.out | apply below_alloc | apply pw_below_drewN | apply below_drew1) | exact HB.out))) : w.heap.size ≤ gb113)); clear HB; have HB := n0_; have BK113 := n1_; have GW113 := n2_; have GE113 := n3_; clear n0_ n1_ n2_ n3_; clear hb hbox hg) | ((with_reducible refine gate_callee (f := 41) rfl ?_); refine goesL_ (some 12) rfl rfl Try.func41 (by kernel_rfl) rfl #[.slice A0 l0.length c0] rfl (by (try simp only [List.map_toArray, List.map_cons, List.map_nil]); first | done | rfl | (simp only [List.length_drop, List.length_take]; rfl)) ?_; (with_reducible refine (valid_Check.calls _ _ l0 t114 t115 t116 _ ?side1 ?side2 A4.out).mono ?_); (case side1 => repeat (first | exact (Kd.C_below HR0.out HB.out) | (with_reducible refine Kd.C_alloc ?_ _) | (with_reducible refine Kd.C_drewN ?_ _) | (with_reducible refine Kd.C_drew ?_))); (case side2 => exact HC0.out); rintro e w20 ⟨rfl, hb⟩; refine ⟨_, rfl, ?_⟩; have n0_ := Aside0.mk (blk_below (g := gb113) (o := .cells #[.int .i64 a2_0, .int .i64 a2_1] 40 (0, 0)) (by (with_reducible repeat (first | refine blk_drewN ?_ _ | refine blk_drew ?_ | refine blk_alloc ?_ _)); exact BK113.out) hb); have n1_ := Aside0.mk (below_step (by repeat (first | (with_reducible first | exact HB.out | apply below_alloc | apply pw_below_drewN | apply below_drew1 | refine below_set ?_ GE113.out) | exact HB.out)) hb); clear BK113; clear HB; have BK113 := n0_; have HB := n1_; clear n0_ n1_; (try clear hb); (try clear hb2); (try clear hk); (try clear hi); have hcz21_0 : w20.cell? ⟨gb113, 0, none⟩ = some (.int .i64 a2_0) := (blk_cell BK113.out 0).trans rfl; have hcz21_1 : w20.cell? ⟨gb113, 1, none⟩ = some (.int .i64 a2_1) := (blk_cell BK113.out 1).trans rfl; have hfz21_0 := blk_frozen BK113.out 0; have hfz21_1 := blk_frozen BK113.out 1))
            go_ret
            exact ⟨by first | rfl | (simp [errW_none, errW_some] <;> rfl) | (simp [*, errW_none, errW_some] <;> rfl), by repeat (first | (with_reducible first | exact HB.out | apply below_alloc | apply pw_below_drewN | apply below_drew1 | refine below_set ?_ GE113.out) | exact HB.out)⟩
          · rw [if_neg c18] at H
            have c18b0 : decide (30 < a2_1) = false := decide_eq_false c18
            clear c18
            by_cases c22 : 0 < (l0.length : Int)
            · rw [if_pos c22] at H
              have c22b0 : decide (0 < (l0.length : Int)) = true := decide_eq_true c22
              have c22b1 : decide (0 < l0.length) = true := decide_eq_true (by omega)
              clear c22
              obtain rfl := Option.some.inj H
              go_enter Try.func24, Try.ntmps24
              go_wp2_with (first | ((with_reducible refine gate_dst (N := 5) rfl ?_); refine box_event ?hg (N := 5) ?hd (cs := #[.int .i64 a2_0, .int .i64 a2_1]) (t := 40) ?hr ?_; (case hd => rfl); (case hg => rfl); (case hr => first | (go_simp; done) | (go_simp; rfl)); intro gb113 hg w23 hbox hb; have n0_ := Aside0.mk (below_step (by repeat (first | (with_reducible first | exact HB.out | apply below_alloc | apply pw_below_drewN | apply below_drew1) | exact HB.out)) hb); have n1_ := Aside0.mk (hbox); have n2_ := Aside0.mk ((by rw [hg]; exact (below_size (by repeat (first | (with_reducible first | exact HB.out | apply below_alloc | apply pw_below_drewN | apply below_drew1) | exact HB.out))) : w.heap.size ≤ gb113)); have n3_ := Aside0.mk ((by rw [hg]; exact (below_size (by repeat (first | (with_reducible first | exact HB.out | apply below_alloc | apply pw_below_drewN | apply below_drew1) | exact HB.out))) : w.heap.size ≤ gb113)); clear HB; have HB := n0_; have BK113 := n1_; have GW113 := n2_; have GE113 := n3_; clear n0_ n1_ n2_ n3_; clear hb hbox hg) | ((with_reducible refine gate_callee (f := 41) rfl ?_); refine goesL_ (some 12) rfl rfl Try.func41 (by kernel_rfl) rfl #[.slice A0 l0.length c0] rfl (by (try simp only [List.map_toArray, List.map_cons, List.map_nil]); first | done | rfl | (simp only [List.length_drop, List.length_take]; rfl)) ?_; (with_reducible refine (valid_Check.calls _ _ l0 t114 t115 t116 _ ?side1 ?side2 A4.out).mono ?_); (case side1 => repeat (first | exact (Kd.C_below HR0.out HB.out) | (with_reducible refine Kd.C_alloc ?_ _) | (with_reducible refine Kd.C_drewN ?_ _) | (with_reducible refine Kd.C_drew ?_))); (case side2 => exact HC0.out); rintro e w24 ⟨rfl, hb⟩; refine ⟨_, rfl, ?_⟩; have n0_ := Aside0.mk (blk_below (g := gb113) (o := .cells #[.int .i64 a2_0, .int .i64 a2_1] 40 (0, 0)) (by (with_reducible repeat (first | refine blk_drewN ?_ _ | refine blk_drew ?_ | refine blk_alloc ?_ _)); exact BK113.out) hb); have n1_ := Aside0.mk (below_step (by repeat (first | (with_reducible first | exact HB.out | apply below_alloc | apply pw_below_drewN | apply below_drew1 | refine below_set ?_ GE113.out) | exact HB.out)) hb); clear BK113; clear HB; have BK113 := n0_; have HB := n1_; clear n0_ n1_; (try clear hb); (try clear hb2); (try clear hk); (try clear hi); have hcz25_0 : w24.cell? ⟨gb113, 0, none⟩ = some (.int .i64 a2_0) := (blk_cell BK113.out 0).trans rfl; have hcz25_1 : w24.cell? ⟨gb113, 1, none⟩ = some (.int .i64 a2_1) := (blk_cell BK113.out 1).trans rfl; have hfz25_0 := blk_frozen BK113.out 0; have hfz25_1 := blk_frozen BK113.out 1; have p117 : 0 ≤ (0 : Int) := (by omega); have q117 : 0 < (l0.length : Int) := of_decide_eq_true (by first | (with_reducible assumption) | assumption); obtain ⟨ad117, A117_1, c117_1, e117, hx117_0, hx117_1, hl117_1, hi117_1⟩ := at_T64 HR0.out 0 p117 q117; cases e117; have qi117 : (0 < l0.length) = True := eq_true (by omega); (try rw [show ((0 : Int)).toNat = 0 from rfl] at hx117_0); (try rw [show 0 * 2 = 0 from rfl] at hx117_0); (try rw [Addr.add_zero'] at hx117_0); (try rw [show ((0 : Int)).toNat = 0 from rfl] at hx117_1); (try rw [show 0 * 2 = 0 from rfl] at hx117_1); (try rw [Addr.add_zero'] at hx117_1); replace hx117_0 := (HB.out.cell (World.block_lt_of_cell? w _ hx117_0)).trans hx117_0; replace hx117_1 := (HB.out.cell (World.block_lt_of_cell? w _ hx117_1)).trans hx117_1; have HR117_1 := Aside0.mk hi117_1; have HC117_1 := Aside0.mk hl117_1; clear hi117_1 hl117_1; replace p117 := eq_true p117; replace q117 := eq_true q117))
              go_ret
              exact ⟨by first | rfl | (simp [errW_none, errW_some] <;> rfl) | (simp [*, errW_none, errW_some] <;> rfl), by repeat (first | (with_reducible first | exact HB.out | apply below_alloc | apply pw_below_drewN | apply below_drew1 | refine below_set ?_ GE113.out) | exact HB.out)⟩
            · rw [if_neg c22] at H
              exact absurd H (by simp)
  · rw [if_neg c5] at H
    have c5b0 : (t116 == 0) = false := beq_eq_false_iff_ne.mpr c5
    have c5b1 : (t116 != 0) = true := bne_iff_ne.mpr c5
    obtain rfl := Option.some.inj H
    go_enter Try.func24, Try.ntmps24
    go_wp2_with (first | ((with_reducible refine gate_dst (N := 5) rfl ?_); refine box_event ?hg (N := 5) ?hd (cs := #[.int .i64 a2_0, .int .i64 a2_1]) (t := 40) ?hr ?_; (case hd => rfl); (case hg => rfl); (case hr => first | (go_simp; done) | (go_simp; rfl)); intro gb113 hg w26 hbox hb; have n0_ := Aside0.mk (below_step (by repeat (first | (with_reducible first | exact HB.out | apply below_alloc | apply pw_below_drewN | apply below_drew1) | exact HB.out)) hb); have n1_ := Aside0.mk (hbox); have n2_ := Aside0.mk ((by rw [hg]; exact (below_size (by repeat (first | (with_reducible first | exact HB.out | apply below_alloc | apply pw_below_drewN | apply below_drew1) | exact HB.out))) : w.heap.size ≤ gb113)); have n3_ := Aside0.mk ((by rw [hg]; exact (below_size (by repeat (first | (with_reducible first | exact HB.out | apply below_alloc | apply pw_below_drewN | apply below_drew1) | exact HB.out))) : w.heap.size ≤ gb113)); clear HB; have HB := n0_; have BK113 := n1_; have GW113 := n2_; have GE113 := n3_; clear n0_ n1_ n2_ n3_; clear hb hbox hg) | ((with_reducible refine gate_callee (f := 41) rfl ?_); refine goesL_ (some 12) rfl rfl Try.func41 (by kernel_rfl) rfl #[.slice A0 l0.length c0] rfl (by (try simp only [List.map_toArray, List.map_cons, List.map_nil]); first | done | rfl | (simp only [List.length_drop, List.length_take]; rfl)) ?_; (with_reducible refine (valid_Check.calls _ _ l0 t114 t115 t116 _ ?side1 ?side2 A4.out).mono ?_); (case side1 => repeat (first | exact (Kd.C_below HR0.out HB.out) | (with_reducible refine Kd.C_alloc ?_ _) | (with_reducible refine Kd.C_drewN ?_ _) | (with_reducible refine Kd.C_drew ?_))); (case side2 => exact HC0.out); rintro e w27 ⟨rfl, hb⟩; refine ⟨_, rfl, ?_⟩; have n0_ := Aside0.mk (blk_below (g := gb113) (o := .cells #[.int .i64 a2_0, .int .i64 a2_1] 40 (0, 0)) (by (with_reducible repeat (first | refine blk_drewN ?_ _ | refine blk_drew ?_ | refine blk_alloc ?_ _)); exact BK113.out) hb); have n1_ := Aside0.mk (below_step (by repeat (first | (with_reducible first | exact HB.out | apply below_alloc | apply pw_below_drewN | apply below_drew1 | refine below_set ?_ GE113.out) | exact HB.out)) hb); clear BK113; clear HB; have BK113 := n0_; have HB := n1_; clear n0_ n1_; (try clear hb); (try clear hb2); (try clear hk); (try clear hi)))
    go_ret
    exact ⟨by first | rfl | (simp [errW_none, errW_some] <;> rfl) | (simp [*, errW_none, errW_some] <;> rfl), by repeat (first | (with_reducible first | exact HB.out | apply below_alloc | apply pw_below_drewN | apply below_drew1 | refine below_set ?_ GE113.out) | exact HB.out)⟩

end Go.Proofs.Ytbekjccehhaljaa.H

set_option linter.unusedVariables false
set_option linter.unusedSimpArgs false
namespace Go.Proofs.Ytbekjccehhaljaa.H
open Go.RowKit Go.Hay Go.Proofs.YtbekjccehhaljaaW.PrintWords Go.Proofs.YtbekjccehhaljaaW.PrintLast Go.Proofs.YtbekjccehhaljaaW.PrintMore
/-- may a program run? -/
def evRight (l : List S64) (n : Nat) (b d : Int) : Bool :=
  if (checkP l).2.2 = 0 then (if b < 1 then false else if b > 10000 then false else if d < 0 then false else if d > 30 then false else ((n : Int) == (rd_T64 l 0).f0)) else false
theorem evRight_f (l : List S64) (args : List Int) (b d : Int) : eval_Right.f l args b d = some (evRight l args.length b d) := by
  unfold eval_Right.f evRight valid_Check.f
  simp only [Option.bind_some]
  by_cases h : (checkP l).2.2 = 0
  · have hl := (check_ok h).len
    rw [if_pos h, if_pos h]
    repeat' split
    all_goals first | rfl | (exfalso; omega)
  · rw [if_neg h, if_neg h]
theorem evRight_ok {l : List S64} {n : Nat} {b d : Int} (h : evRight l n b d = true) : POk l ∧ (1 ≤ b ∧ b ≤ 10000) ∧ (0 ≤ d ∧ d ≤ 30) ∧ (n : Int) = (rd_T64 l 0).f0 ∧ n ≤ 4 := by
  unfold evRight at h
  split at h
  · rename_i hc
    have hp := check_ok hc
    repeat' split at h
    all_goals try (exact absurd h (by decide))
    have hn : (n : Int) = (rd_T64 l 0).f0 := by simpa using h
    have hl := hp.len
    have h0 := (hp.fn 0 (by omega)).1
    have e : rd_T64 l 0 = l[0] := by simp [rd_T64, show 0 < l.length by omega]
    rw [e] at hn
    exact ⟨hp, by omega, by omega, by rw [e]; exact hn, by omega⟩
  · exact absurd h (by decide)
end Go.Proofs.Ytbekjccehhaljaa.H

