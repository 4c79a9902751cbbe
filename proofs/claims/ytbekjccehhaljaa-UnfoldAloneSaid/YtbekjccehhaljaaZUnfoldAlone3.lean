/- What the proof of UnfoldAlone stands on, part 3: this session's own texts and the words that the kit's print lays, those that are used. -/
import Derived.Test.YtbekjccehhaljaaZUnfoldAlone2
import Derived.Maps.OwnOps
import Derived.Maps.OwnSet
import Derived.Maps.Views
set_option linter.unusedVariables false
set_option linter.unusedSimpArgs false
namespace Go.Proofs.Ytbekjccehhaljaa.H
open Go.RowKit Go.Hay Go.Proofs.YtbekjccehhaljaaW.PrintWords Go.Proofs.YtbekjccehhaljaaW.PrintLast Go.Proofs.YtbekjccehhaljaaW.PrintMore
theorem infoU86 : (Try.prog.info? 86).map (fun i => (i.zero, i.size, i.bytes)) = some (some (.agg #[(.bool false), (.int .i64 0)]), 2, 16) := by kernel_rfl
theorem infoU28 : (Try.prog.info? 28).map (fun i => (i.zero, i.size, i.bytes)) = some (some (.pointer none), 1, 8) := by kernel_rfl
theorem infoU196 : (Try.prog.info? 196).map (fun i => (i.zero, i.size, i.bytes)) = some (some (.agg #[(.pointer none), (.int .i64 0)]), 2, 16) := by kernel_rfl
theorem infoU54 : (Try.prog.info? 54).map (fun i => (i.zero, i.size, i.bytes)) = some (some (.agg #[.slice none 0 0, .int .i64 0]), 2, 32) := by kernel_rfl
/-- a node that stands. -/
theorem ND.cells {D : Nat → Prop} {w : World} {t : Tr} {a : Option Addr} (h : ND D w t a) (hn : isN t) : ∃ b, a = some ⟨b, 0, none⟩ ∧ w.cell? ⟨b, 2, none⟩ = some (.int .i64 (nv t)) ∧ w.cell? ⟨b, 3, none⟩ = some (.int .i64 (nf t)) := by
  cases t with
  | nil => exact hn.elim
  | node ps ks v f =>
    have h1 := h.is
    simp only [IsT] at h1
    obtain ⟨b, A1, c1, A2, c2, qs, rfl, hc, _⟩ := h1
    exact ⟨b, rfl, blk_cell hc 2, blk_cell hc 3⟩
section
variable {D : Nat → Prop} {wb B : Nat} {vp : Value} {T : Tu} {p : Pl} {w W w9 : World}
/-- a row of its own grows, and its header is written. -/
theorem grown_keep {own : Option Nat} {hb i : Nat} {v9 : Value} (hW : Below w.heap.size w W) (hg : W.grownBy w9 own) : Keep (fun q => q = hb ∨ own = some q) w (w9.setCell ⟨hb, i, none⟩ v9) :=
  (((Keep.of_below hW (fun q => q = hb ∨ own = some q))).trans ((Keep.grown hg).mono (fun k hk h2 => .inr h2.symm))).set (p := ⟨hb, i, none⟩) (.inr (.inl rfl)) _
theorem grown_old {own : Option Nat} {q : Nat} {o : Option Obj} (hW : Below w.heap.size w W) (hg : W.grownBy w9 own) (hq : q < w.heap.size) (hn : own ≠ some q) : w9.heap[q]? = w.heap[q]? :=
  (hg.block q (Nat.lt_of_lt_of_le hq hW.size) (fun e => hn e.symm)).trans (hW.block q hq)
theorem UB.pushPs (h : UB D wb vp T p B w) (hqd : ∀ q, QU p q → ¬ D q) {y : Pc} {v9 : Value} (hW : Below w.heap.size w W) (hR : kPc.R 86 w9 B (fun _ => True) v9 (T.ps ++ [y])) (hg : W.grownBy w9 p.vps.ownBlock) (hat : v9.ownBlock = p.vps.ownBlock ∨ ∃ q, v9.ownBlock = some q ∧ W.heap.size ≤ q) :
    UB D wb vp { T with ps := T.ps ++ [y] } { p with vps := v9 } B (w9.setCell ⟨p.nb, 0, none⟩ v9) ∧ Keep (QU p) w (w9.setCell ⟨p.nb, 0, none⟩ v9) ∧ (∀ q, QU { p with vps := v9 } q → QU p q ∨ w.heap.size ≤ q) ∧ (∀ q, q < w.heap.size → p.vps.ownBlock ≠ some q → w9.heap[q]? = w.heap[q]?) := by
  have hne := h.ne
  have hk : Keep (fun q => q = p.nb ∨ p.vps.ownBlock = some q) w (w9.setCell ⟨p.nb, 0, none⟩ v9) := grown_keep hW hg
  have hold : ∀ q, q < w.heap.size → p.vps.ownBlock ≠ some q → w9.heap[q]? = w.heap[q]? := fun q hq hn => grown_old (o := none) hW hg hq hn
  have hs : ∀ q, q ≠ p.nb → (w9.setCell ⟨p.nb, 0, none⟩ v9).heap[q]? = w9.heap[q]? := fun q hq => Below.heap_setCell w9 ⟨p.nb, 0, none⟩ _ q hq
  have hDS : ∀ q, D q → ¬ (q = p.nb ∨ p.vps.ownBlock = some q) := fun q hq e => e.elim (fun e => hqd q (.inr (.inl e)) hq) (fun e => hqd q (.inr (.inr (.inr (.inl e)))) hq)
  refine ⟨⟨hk.blk h.node (fun e => e.elim hne.tn hne.pt), blk_set ((hold _ (blk_lt h.nd) hne.pn).trans h.nd) 0 v9, R_flat kBg_flat h.rk (fun _ _ => trivial) (fun q hq => hk.block q (R_own h.rk q hq).2.2 (fun e => e.elim (fun e => hne.kn (by rw [← e]; exact hq)) (hne.kp q hq))), R_flat kPc_flat hR (fun _ _ => trivial) (fun q hq => hs q (fun e => ?_)), R_flat kP_flat h.rks (fun _ _ => trivial) (fun q hq => hk.block q (R_own h.rks q hq).2.2 (fun e => e.elim (fun e => hne.sn (by rw [← e]; exact hq)) (fun e => hne.ps q e hq))), h.al, h.sl, h.rl, h.hl, fun j h1 h2 => (h.kids j h1 h2).keep (fun _ h => h) hk hDS, fun j h1 h2 => (h.hands j h1 h2).keep (fun _ h => h) hk hDS⟩, hk.mono (fun q _ e => e.elim (fun e => .inr (.inl e)) (fun e => .inr (.inr (.inr (.inl e))))), fun q hq => ?_, hold⟩
  · subst e
    rcases hat with e | ⟨q', e, hq'⟩
    · exact hne.pn (by rw [← e]; exact hq)
    · rw [e] at hq; cases hq; have := blk_lt h.nd; have := hW.size; omega
  · rcases hq with e | e | e | e | e
    · exact .inl (.inl e)
    · exact .inl (.inr (.inl e))
    · exact .inl (.inr (.inr (.inl e)))
    · have e : v9.ownBlock = some q := e
      rcases hat with e2 | ⟨q', e2, hq'⟩
      · rw [e2] at e; exact .inl (.inr (.inr (.inr (.inl e))))
      · rw [e2] at e; cases e; exact .inr (Nat.le_trans hW.size hq')
    · exact .inl (.inr (.inr (.inr (.inr e))))
theorem UB.pushKs (h : UB D wb vp T p B w) (hqd : ∀ q, QU p q → ¬ D q) {y : Option Addr} {v9 : Value} (hW : Below w.heap.size w W) (hR : kP.R 28 w9 B (fun _ => True) v9 (p.kb ++ [y])) (hg : W.grownBy w9 p.vks.ownBlock) (hat : v9.ownBlock = p.vks.ownBlock ∨ ∃ q, v9.ownBlock = some q ∧ W.heap.size ≤ q) :
    UB D wb vp T { p with vks := v9, kb := p.kb ++ [y] } B (w9.setCell ⟨p.nb, 1, none⟩ v9) ∧ Keep (QU p) w (w9.setCell ⟨p.nb, 1, none⟩ v9) ∧ (∀ q, QU { p with vks := v9, kb := p.kb ++ [y] } q → QU p q ∨ w.heap.size ≤ q) ∧ (∀ q, q < w.heap.size → p.vks.ownBlock ≠ some q → w9.heap[q]? = w.heap[q]?) := by
  have hne := h.ne
  have hk : Keep (fun q => q = p.nb ∨ p.vks.ownBlock = some q) w (w9.setCell ⟨p.nb, 1, none⟩ v9) := grown_keep hW hg
  have hold : ∀ q, q < w.heap.size → p.vks.ownBlock ≠ some q → w9.heap[q]? = w.heap[q]? := fun q hq hn => grown_old (o := none) hW hg hq hn
  have hs : ∀ q, q ≠ p.nb → (w9.setCell ⟨p.nb, 1, none⟩ v9).heap[q]? = w9.heap[q]? := fun q hq => Below.heap_setCell w9 ⟨p.nb, 1, none⟩ _ q hq
  have hDS : ∀ q, D q → ¬ (q = p.nb ∨ p.vks.ownBlock = some q) := fun q hq e => e.elim (fun e => hqd q (.inr (.inl e)) hq) (fun e => hqd q (.inr (.inr (.inr (.inr e)))) hq)
  refine ⟨⟨hk.blk h.node (fun e => e.elim hne.tn hne.st), blk_set ((hold _ (blk_lt h.nd) hne.sn).trans h.nd) 1 v9, R_flat kBg_flat h.rk (fun _ _ => trivial) (fun q hq => hk.block q (R_own h.rk q hq).2.2 (fun e => e.elim (fun e => hne.kn (by rw [← e]; exact hq)) (hne.ks q hq))), R_flat kPc_flat h.rps (fun _ _ => trivial) (fun q hq => hk.block q (R_own h.rps q hq).2.2 (fun e => e.elim (fun e => hne.pn (by rw [← e]; exact hq)) (fun e => hne.ps q hq e))), R_flat kP_flat hR (fun _ _ => trivial) (fun q hq => hs q (fun e => ?_)), h.al, h.sl, h.rl, h.hl, fun j h1 h2 => (h.kids j h1 h2).keep (fun _ h => h) hk hDS, fun j h1 h2 => (h.hands j h1 h2).keep (fun _ h => h) hk hDS⟩, hk.mono (fun q _ e => e.elim (fun e => .inr (.inl e)) (fun e => .inr (.inr (.inr (.inr e))))), fun q hq => ?_, hold⟩
  · subst e
    rcases hat with e | ⟨q', e, hq'⟩
    · exact hne.sn (by rw [← e]; exact hq)
    · rw [e] at hq; cases hq; have := blk_lt h.nd; have := hW.size; omega
  · rcases hq with e | e | e | e | e
    · exact .inl (.inl e)
    · exact .inl (.inr (.inl e))
    · exact .inl (.inr (.inr (.inl e)))
    · exact .inl (.inr (.inr (.inr (.inl e))))
    · have e : v9.ownBlock = some q := e
      rcases hat with e2 | ⟨q', e2, hq'⟩
      · rw [e2] at e; exact .inl (.inr (.inr (.inr (.inr e))))
      · rw [e2] at e; cases e; exact .inr (Nat.le_trans hW.size hq')
theorem UB.pushK (h : UB D wb vp T p B w) (hqd : ∀ q, QU p q → ¬ D q) {t : Tr} {a : Option Addr} {r : Int} {v9 : Value} (hW : Below w.heap.size w W) (ht : ND D w t a) (hR : kBg.R 196 w9 B (fun _ => True) v9 (p.ka.zip (T.kids.map (·.2)) ++ [(a, r)])) (hg : W.grownBy w9 p.vk.ownBlock) (hat : v9.ownBlock = p.vk.ownBlock ∨ ∃ q, v9.ownBlock = some q ∧ W.heap.size ≤ q) :
    UB D wb vp { T with kids := T.kids ++ [(t, r)] } { p with vk := v9, ka := p.ka ++ [a] } B (w9.setCell ⟨p.tb, 14, none⟩ v9) ∧ Keep (QU p) w (w9.setCell ⟨p.tb, 14, none⟩ v9) ∧ (∀ q, QU { p with vk := v9, ka := p.ka ++ [a] } q → QU p q ∨ w.heap.size ≤ q) ∧ (∀ q, q < w.heap.size → p.vk.ownBlock ≠ some q → w9.heap[q]? = w.heap[q]?) := by
  have hne := h.ne
  have hk : Keep (fun q => q = p.tb ∨ p.vk.ownBlock = some q) w (w9.setCell ⟨p.tb, 14, none⟩ v9) := grown_keep hW hg
  have hold : ∀ q, q < w.heap.size → p.vk.ownBlock ≠ some q → w9.heap[q]? = w.heap[q]? := fun q hq hn => grown_old (o := none) hW hg hq hn
  have hs : ∀ q, q ≠ p.tb → (w9.setCell ⟨p.tb, 14, none⟩ v9).heap[q]? = w9.heap[q]? := fun q hq => Below.heap_setCell w9 ⟨p.tb, 14, none⟩ _ q hq
  have hDS : ∀ q, D q → ¬ (q = p.tb ∨ p.vk.ownBlock = some q) := fun q hq e => e.elim (fun e => hqd q (.inl e) hq) (fun e => hqd q (.inr (.inr (.inl e))) hq)
  have hzip : (p.ka ++ [a]).zip ((T.kids ++ [(t, r)]).map (·.2)) = p.ka.zip (T.kids.map (·.2)) ++ [(a, r)] := by
    rw [List.map_append, List.zip_append (by rw [List.length_map]; exact h.al)]; rfl
  have hn := blk_set ((hold _ (blk_lt h.node) hne.kt).trans h.node) 14 v9
  refine ⟨⟨?_, hk.blk h.nd (fun e => e.elim (fun e => hne.tn e.symm) hne.kn), ?_, R_flat kPc_flat h.rps (fun _ _ => trivial) (fun q hq => hk.block q (R_own h.rps q hq).2.2 (fun e => e.elim (fun e => hne.pt (by rw [← e]; exact hq)) (fun e => hne.kp q e hq))), R_flat kP_flat h.rks (fun _ _ => trivial) (fun q hq => hk.block q (R_own h.rks q hq).2.2 (fun e => e.elim (fun e => hne.st (by rw [← e]; exact hq)) (fun e => hne.ks q e hq))), by show (p.ka ++ [a]).length = (T.kids ++ [(t, r)]).length; rw [List.length_append, List.length_append, h.al]; rfl, h.sl, h.rl, h.hl, fun j h1 h2 => ?_, fun j h1 h2 => (h.hands j h1 h2).keep (fun _ h => h) hk hDS⟩, hk.mono (fun q _ e => e.elim (fun e => .inl e) (fun e => .inr (.inr (.inl e)))), fun q hq => ?_, hold⟩
  · rw [hn]
    obtain ⟨r0, r1, r2, r3, r4, r5, r6, r7, h0, h1, h2, h3, hr, hh, hc⟩ := h.cells
    rw [hc]; unfold ucells; simp only [hr, hh]; rfl
  · show kBg.R 196 _ B _ v9 ((p.ka ++ [a]).zip ((T.kids ++ [(t, r)]).map (·.2)))
    rw [hzip]
    refine R_flat kBg_flat hR (fun _ _ => trivial) (fun q hq => hs q (fun e => ?_))
    subst e
    rcases hat with e | ⟨q', e, hq'⟩
    · exact hne.kt (by rw [← e]; exact hq)
    · rw [e] at hq; cases hq; have := blk_lt h.node; have := hW.size; omega
  · have h1' : j < T.kids.length + 1 := by have : j < (T.kids ++ [(t, r)]).length := h1; rwa [List.length_append] at this
    show ND D _ (T.kids ++ [(t, r)])[j].1 (p.ka ++ [a])[j]
    by_cases hj : j < T.kids.length
    · rw [List.getElem_append_left hj, List.getElem_append_left (by rw [h.al]; exact hj)]
      exact (h.kids j hj (by rw [h.al]; exact hj)).keep (fun _ h => h) hk hDS
    · have hj2 : j = T.kids.length := by omega
      subst hj2
      rw [List.getElem_append_right (Nat.le_refl _), List.getElem_append_right (by rw [h.al]; exact Nat.le_refl _)]
      simp only [Nat.sub_self, h.al, List.getElem_singleton]
      exact ht.keep (fun _ h => h) hk hDS
  · rcases hq with e | e | e | e | e
    · exact .inl (.inl e)
    · exact .inl (.inr (.inl e))
    · have e : v9.ownBlock = some q := e
      rcases hat with e2 | ⟨q', e2, hq'⟩
      · rw [e2] at e; exact .inl (.inr (.inr (.inl e)))
      · rw [e2] at e; cases e; exact .inr (Nat.le_trans hW.size hq')
    · exact .inl (.inr (.inr (.inr (.inl e))))
    · exact .inl (.inr (.inr (.inr (.inr e))))
theorem UB.setHand (h : UB D wb vp T p B w) (hD : ¬ D p.tb) (i : Nat) (hi : i < 4) {t : Tr} {a : Option Addr} (ht : ND D w t a) : UB D wb vp { T with hands := T.hands.set i t } { p with hs := p.hs.set i a } B (w.setCell ⟨p.tb, 10 + i, none⟩ (.pointer a)) := by
  have hne := h.ne
  have hs : ∀ q, q ≠ p.tb → (w.setCell ⟨p.tb, 10 + i, none⟩ (.pointer a)).heap[q]? = w.heap[q]? := fun q hq => Below.heap_setCell w ⟨p.tb, 10 + i, none⟩ _ q hq
  have hkp : Keep (fun q => q = p.tb) w (w.setCell ⟨p.tb, 10 + i, none⟩ (.pointer a)) := (Keep.refl (fun q => q = p.tb) w).set (p := ⟨p.tb, 10 + i, none⟩) (.inr rfl) _
  have hDS : ∀ q, D q → ¬ (q = p.tb) := fun q hq e => hD (by rw [← e]; exact hq)
  have hn := blk_set h.node (10 + i) (.pointer a)
  refine ⟨?_, (hs _ (Ne.symm hne.tn)).trans h.nd, R_flat kBg_flat h.rk (fun _ _ => trivial) (fun q hq => hs q (fun e => hne.kt (by rw [← e]; exact hq))), R_flat kPc_flat h.rps (fun _ _ => trivial) (fun q hq => hs q (fun e => hne.pt (by rw [← e]; exact hq))), R_flat kP_flat h.rks (fun _ _ => trivial) (fun q hq => hs q (fun e => hne.st (by rw [← e]; exact hq))), h.al, by show (p.hs.set i a).length = 4; rw [List.length_set]; exact h.sl, h.rl, by show (T.hands.set i t).length = 4; rw [List.length_set]; exact h.hl, fun j h1 h2 => (h.kids j h1 h2).keep (fun _ h => h) hkp hDS, fun j h1 h2 => ?_⟩
  · rw [hn]
    obtain ⟨r0, r1, r2, r3, r4, r5, r6, r7, h0, h1, h2, h3, hr, hh, hc⟩ := h.cells
    rw [hc]; unfold ucells; simp only [hr, hh]
    have : i = 0 ∨ i = 1 ∨ i = 2 ∨ i = 3 := by omega
    rcases this with rfl | rfl | rfl | rfl <;> rfl
  · have h1' : j < T.hands.length := by have : j < (T.hands.set i t).length := h1; rwa [List.length_set] at this
    have h2' : j < p.hs.length := by have : j < (p.hs.set i a).length := h2; rwa [List.length_set] at this
    show ND D _ (T.hands.set i t)[j] (p.hs.set i a)[j]
    rw [List.getElem_set, List.getElem_set]
    by_cases e : i = j
    · rw [if_pos e, if_pos e]; exact ht.keep (fun _ h => h) hkp hDS
    · rw [if_neg e, if_neg e]; exact (h.hands j h1' h2').keep (fun _ h => h) hkp hDS
end
end Go.Proofs.Ytbekjccehhaljaa.H

set_option linter.unusedVariables false
set_option linter.unusedSimpArgs false
namespace Go.Proofs.Ytbekjccehhaljaa.H
open Go.RowKit Go.Hay Go.Proofs.YtbekjccehhaljaaW.PrintWords Go.Proofs.YtbekjccehhaljaaW.PrintLast Go.Proofs.YtbekjccehhaljaaW.PrintMore
set_option maxRecDepth 100000 in
theorem peqN_none (w : World) : (binOp .eql 28 (.pointer none) (.pointer none)).run Try.prog w = .ok (.bool true) w := rfl
set_option maxRecDepth 100000 in
theorem peqN_some (a : Addr) (w : World) : (binOp .eql 28 (.pointer (some a)) (.pointer none)).run Try.prog w = .ok (.bool false) w := rfl
section
variable {D : Nat → Prop} {wb B : Nat} {vp : Value} {T : Tu} {p : Pl} {w : World}
set_option maxRecDepth 100000 in
set_option maxHeartbeats 4000000 in
theorem utouch_nil (h : UB D wb vp T p B w) (hD : ¬ D p.tb) (x : S61) (hb : 0 ≤ x.f2 ∧ x.f2 < 4) (ht : uH T x.f2 = .nil) : Calls Try.prog 86 #[.pointer (some ⟨p.tb, 0, none⟩), xvU x] w (StopPU 0 2 w) := by
  have hpe := peqN_none
  obtain ⟨x0, x1, x2, x3, x4⟩ := x
  try simp only at *
  obtain ⟨b, rfl⟩ : ∃ b : Nat, x2 = b := ⟨x2.toNat, by omega⟩
  obtain ⟨W, hW⟩ : ∃ W, W = w.alloc (.cells #[.int .i64 x0, .int .i64 (x1), .int .i64 (b), .int .i64 (x3), .int .i64 x4] 61) := ⟨_, rfl⟩
  have hb1 : Below w.heap.size w W := by rw [hW]; exact (Below.refl w.heap.size w).alloc (Nat.le_refl _) _
  have hbx : W.heap[w.heap.size]? = some (.cells #[.int .i64 x0, .int .i64 (x1), .int .i64 (b), .int .i64 (x3), .int .i64 x4] 61 (0, 0)) := by rw [hW]; exact alloc_blk w _
  have h1 := h.below hb1
  have c0 := blk_cell hbx 0
  have c1 := blk_cell hbx 1
  have c2 := blk_cell hbx 2
  have c3 := blk_cell hbx 3
  have c4 := blk_cell hbx 4
  have t0 := h1.fix.1
  have H := Aside0.mk (And.intro h1 (And.intro hb1 hD))
  have HWW := Aside0.mk hW
  have hb8 : ((b : Int) < 4) = True := eq_true hb.2
  have r2 := h1.hand b (by omega)
  have ht2 : T.hands.getD b .nil = .nil := ht
  rw [ht2] at r2
  have hnone : p.hs.getD b none = none := by have := r2.2.is; simpa only [IsT] using this
  have r := r2.1
  rw [hnone] at r
  have HBX := Aside0.mk hbx
  clear hb r2 ht ht2 hnone
  unfold xvU
  clear h h1 hb1 hbx hW hD
  go_enter Try.func86, Try.ntmps86
  go_upto_region 1 with (fail)
  rw [← HWW.out]
  refine wp_region_T (fun w' => Drawn0 W w') [] (.takes [0, 1, 2, 3, 4, 5, 6] (.op 7 .done)) (by kernel_rfl) (by kernel_rfl) (by kernel_rfl) (by kernel_rfl) (panic_via (P := Try.prog) (fn := Try.f86) (R := StopPU 0 2 w) (fun _ _ _ => rfl)) ?_
  have hs : Drawn0 W W.drew := (Drawn0.refl W).step 1
  simp only [Turns.takes]
  repeat (
    (first
      | (refine runT_take (v := ?_) (by rfl) (by rfl) (fun w' hS => ?_) hs ?_
         rotate_left
         · (obtain ⟨n, rfl⟩ := hS; go_simp; exact rfl))
      | refine runT_skip (by rfl) (by rfl) hs ?_)
    (try simp only [Act.put, List.setIfInBounds_toArray, List.set_cons_zero, List.set_cons_succ]))
  refine runT_op (by rfl) (by rfl) (fun K hK => ?_)
  go_simp
  refine hK _ _ hs ?_
  clear hK K hs
  (try simp only [Act.put, List.setIfInBounds_toArray, List.set_cons_zero, List.set_cons_succ])
  refine runT_done ?_
  have hbW : Below W.heap.size W W.drew := (Below.refl _ _).drew
  have H := Aside0.mk (And.intro (H.out.1.below hbW) (And.intro (H.out.2.1.trans (hbW.mono H.out.2.1.size)) H.out.2.2))
  have hbx := (hbW.block _ (blk_lt HBX.out)).trans HBX.out
  clear HWW HBX r c0 c1 c2 c3 c4 t0
  clear hbx
  go_wp2_with fail
  refine (ufail_any 2 _).mono ?_
  rintro e w' ⟨rfl, hb⟩
  exact ⟨rfl, rfl, H.out.2.1.trans (hb.mono H.out.2.1.size)⟩
set_option maxRecDepth 100000 in
set_option maxHeartbeats 4000000 in
theorem utouch_bad (h : UB D wb vp T p B w) (hD : ¬ D p.tb) (x : S61) (hb : 0 ≤ x.f2 ∧ x.f2 < 4) (ht : isN (uH T x.f2)) (hf : nf (uH T x.f2) ≠ 0) : Calls Try.prog 86 #[.pointer (some ⟨p.tb, 0, none⟩), xvU x] w (StopPU 0 5 w) := by
  have hpe := peqN_some
  obtain ⟨x0, x1, x2, x3, x4⟩ := x
  try simp only at *
  obtain ⟨b, rfl⟩ : ∃ b : Nat, x2 = b := ⟨x2.toNat, by omega⟩
  obtain ⟨W, hW⟩ : ∃ W, W = w.alloc (.cells #[.int .i64 x0, .int .i64 (x1), .int .i64 (b), .int .i64 (x3), .int .i64 x4] 61) := ⟨_, rfl⟩
  have hb1 : Below w.heap.size w W := by rw [hW]; exact (Below.refl w.heap.size w).alloc (Nat.le_refl _) _
  have hbx : W.heap[w.heap.size]? = some (.cells #[.int .i64 x0, .int .i64 (x1), .int .i64 (b), .int .i64 (x3), .int .i64 x4] 61 (0, 0)) := by rw [hW]; exact alloc_blk w _
  have h1 := h.below hb1
  have c0 := blk_cell hbx 0
  have c1 := blk_cell hbx 1
  have c2 := blk_cell hbx 2
  have c3 := blk_cell hbx 3
  have c4 := blk_cell hbx 4
  have t0 := h1.fix.1
  have H := Aside0.mk (And.intro h1 (And.intro hb1 hD))
  have HWW := Aside0.mk hW
  have hb8 : ((b : Int) < 4) = True := eq_true hb.2
  have r2 := h1.hand b (by omega)
  have ht2 : uH T (b : Int) = T.hands.getD b .nil := rfl
  rw [ht2] at ht hf
  obtain ⟨t, htt⟩ : ∃ t, t = T.hands.getD b .nil := ⟨_, rfl⟩
  rw [← htt] at ht hf r2
  have HND := Aside0.mk r2.2
  obtain ⟨q, hq, g2, g3⟩ := r2.2.cells ht
  have r := r2.1
  rw [hq] at r
  have HBX := Aside0.mk hbx
  have HG := Aside0.mk g3
  have hf1 : (nf t = 0) = False := eq_false hf
  have hf2 : (nf t == 0) = false := by simpa using hf
  clear hb r2 ht ht2 hq htt g2 g3 HND hf
  generalize nf t = f at HG hf1 hf2
  unfold xvU
  clear h h1 hb1 hbx hW hD
  go_enter Try.func86, Try.ntmps86
  go_upto_region 1 with (fail)
  rw [← HWW.out]
  refine wp_region_T (fun w' => Drawn0 W w') [] (.takes [0, 1, 2, 3, 4, 5, 6] (.op 7 .done)) (by kernel_rfl) (by kernel_rfl) (by kernel_rfl) (by kernel_rfl) (panic_via (P := Try.prog) (fn := Try.f86) (R := StopPU 0 5 w) (fun _ _ _ => rfl)) ?_
  have hs : Drawn0 W W.drew := (Drawn0.refl W).step 1
  simp only [Turns.takes]
  repeat (
    (first
      | (refine runT_take (v := ?_) (by rfl) (by rfl) (fun w' hS => ?_) hs ?_
         rotate_left
         · (obtain ⟨n, rfl⟩ := hS; go_simp; exact rfl))
      | refine runT_skip (by rfl) (by rfl) hs ?_)
    (try simp only [Act.put, List.setIfInBounds_toArray, List.set_cons_zero, List.set_cons_succ]))
  refine runT_op (by rfl) (by rfl) (fun K hK => ?_)
  go_simp
  refine hK _ _ hs ?_
  clear hK K hs
  (try simp only [Act.put, List.setIfInBounds_toArray, List.set_cons_zero, List.set_cons_succ])
  refine runT_done ?_
  have hbW : Below W.heap.size W W.drew := (Below.refl _ _).drew
  have H := Aside0.mk (And.intro (H.out.1.below hbW) (And.intro (H.out.2.1.trans (hbW.mono H.out.2.1.size)) H.out.2.2))
  have hbx := (hbW.block _ (blk_lt HBX.out)).trans HBX.out
  clear HWW HBX r c0 c1 c2 c3 c4 t0
  have g3 := (hbW.cell (World.block_lt_of_cell? W _ HG.out)).trans HG.out
  clear hbx
  go_wp2_with fail
  refine (ufail_any 5 _).mono ?_
  rintro e w' ⟨rfl, hb⟩
  exact ⟨rfl, rfl, H.out.2.1.trans (hb.mono H.out.2.1.size)⟩
set_option maxRecDepth 100000 in
set_option maxHeartbeats 4000000 in
theorem utouch_any (h : UB D wb vp T p B w) (hD : ¬ D p.tb) (x : S61) (ha : 0 ≤ x.f1 ∧ x.f1 < 8) (hb : 0 ≤ x.f2 ∧ x.f2 < 4) (ht : isN (uH T x.f2)) (hf : nf (uH T x.f2) = 0) : Calls Try.prog 86 #[.pointer (some ⟨p.tb, 0, none⟩), xvU x] w (GoPU D wb vp (uSet T x.f1 (nv (uH T x.f2))) p B w) := by
  have hpe := peqN_some
  obtain ⟨x0, x1, x2, x3, x4⟩ := x
  try simp only at *
  obtain ⟨a, rfl⟩ : ∃ a : Nat, x1 = a := ⟨x1.toNat, by omega⟩
  obtain ⟨b, rfl⟩ : ∃ b : Nat, x2 = b := ⟨x2.toNat, by omega⟩
  obtain ⟨W, hW⟩ : ∃ W, W = w.alloc (.cells #[.int .i64 x0, .int .i64 (a), .int .i64 (b), .int .i64 (x3), .int .i64 x4] 61) := ⟨_, rfl⟩
  have hb1 : Below w.heap.size w W := by rw [hW]; exact (Below.refl w.heap.size w).alloc (Nat.le_refl _) _
  have hbx : W.heap[w.heap.size]? = some (.cells #[.int .i64 x0, .int .i64 (a), .int .i64 (b), .int .i64 (x3), .int .i64 x4] 61 (0, 0)) := by rw [hW]; exact alloc_blk w _
  have h1 := h.below hb1
  have c0 := blk_cell hbx 0
  have c1 := blk_cell hbx 1
  have c2 := blk_cell hbx 2
  have c3 := blk_cell hbx 3
  have c4 := blk_cell hbx 4
  have t0 := h1.fix.1
  have H := Aside0.mk (And.intro h1 (And.intro hb1 hD))
  have HWW := Aside0.mk hW
  have ha8 : ((a : Int) < 8) = True := eq_true ha.2
  have hb8 : ((b : Int) < 4) = True := eq_true hb.2
  have HA := Aside0.mk ha.2
  have r2 := h1.hand b (by omega)
  have ht2 : uH T (b : Int) = T.hands.getD b .nil := rfl
  rw [ht2] at ht hf ⊢
  obtain ⟨t, htt⟩ : ∃ t, t = T.hands.getD b .nil := ⟨_, rfl⟩
  rw [← htt] at ht hf r2 ⊢
  obtain ⟨q, hq, g2, g3⟩ := r2.2.cells ht
  have r := r2.1
  rw [hq] at r
  rw [hf] at g3
  have HBX := Aside0.mk hbx
  have HG := Aside0.mk (And.intro g2 g3)
  clear ha hb r2 ht ht2 hq htt g2 g3 hf
  generalize nv t = v at HG ⊢
  unfold xvU
  clear h h1 hb1 hbx hW hD
  go_enter Try.func86, Try.ntmps86
  go_upto_region 1 with (fail)
  rw [← HWW.out]
  refine wp_region_T (fun w' => Drawn0 W w') [] (.takes [0, 1, 2, 3, 4, 5, 6] (.op 7 .done)) (by kernel_rfl) (by kernel_rfl) (by kernel_rfl) (by kernel_rfl) (panic_via (P := Try.prog) (fn := Try.f86) (R := GoPU D wb vp (uSet T a v) p B w) (fun _ _ _ => rfl)) ?_
  have hs : Drawn0 W W.drew := (Drawn0.refl W).step 1
  simp only [Turns.takes]
  repeat (
    (first
      | (refine runT_take (v := ?_) (by rfl) (by rfl) (fun w' hS => ?_) hs ?_
         rotate_left
         · (obtain ⟨n, rfl⟩ := hS; go_simp; exact rfl))
      | refine runT_skip (by rfl) (by rfl) hs ?_)
    (try simp only [Act.put, List.setIfInBounds_toArray, List.set_cons_zero, List.set_cons_succ]))
  refine runT_op (by rfl) (by rfl) (fun K hK => ?_)
  go_simp
  refine hK _ _ hs ?_
  clear hK K hs
  (try simp only [Act.put, List.setIfInBounds_toArray, List.set_cons_zero, List.set_cons_succ])
  refine runT_done ?_
  have hbW : Below W.heap.size W W.drew := (Below.refl _ _).drew
  have H := Aside0.mk (And.intro (H.out.1.below hbW) (And.intro (H.out.2.1.trans (hbW.mono H.out.2.1.size)) H.out.2.2))
  have hbx := (hbW.block _ (blk_lt HBX.out)).trans HBX.out
  clear HWW HBX r c0 c1 c2 c3 c4 t0
  have g2 := (hbW.cell (World.block_lt_of_cell? W _ HG.out.1)).trans HG.out.1
  have g3 := (hbW.cell (World.block_lt_of_cell? W _ HG.out.2)).trans HG.out.2
  clear HG hbW
  generalize W.drew = W at H hbx g2 g3 ⊢
  have HG := Aside0.mk (And.intro g2 hbx)
  clear g2 hbx
  go_upto_region 2 with (fail)
  have g2 := HG.out.1
  have c1 := blk_cell HG.out.2 1
  have z := H.out.1.frozen (2 + a)
  have r := H.out.1.reg a (by have := HA.out; omega)
  clear g3
  refine wp_region_T (fun w' => Drawn0 W w') [10] (.takes [0, 1, 2, 3, 4, 5, 6, 7, 8, 9] (.fin 10 .done)) (by kernel_rfl) (by kernel_rfl) (by kernel_rfl) (by kernel_rfl) (panic_via (P := Try.prog) (fn := Try.f86) (R := GoPU D wb vp (uSet T a v) p B w) (fun _ _ _ => rfl)) ?_
  have hs : Drawn0 W W.drew := (Drawn0.refl W).step 1
  simp only [Turns.takes]
  repeat (
    (first
      | (refine runT_take (v := ?_) (by rfl) (by rfl) (fun w' hS => ?_) hs ?_
         rotate_left
         · (obtain ⟨n, rfl⟩ := hS; go_simp; exact rfl))
      | refine runT_skip (by rfl) (by rfl) hs ?_)
    (try simp only [Act.put, List.setIfInBounds_toArray, List.set_cons_zero, List.set_cons_succ]))
  refine runT_fin (by rfl) (by rfl) (fun K hK => ?_)
  go_simp
  refine hK _ _ ?_
  refine runT_done ?_
  clear hK K hs
  go_wp2_with fail
  go_end0
  exact goPU_reg H.out.1 H.out.2.2 H.out.2.1 a HA.out _ _ rfl
end
end Go.Proofs.Ytbekjccehhaljaa.H

set_option linter.unusedVariables false
set_option linter.unusedSimpArgs false
namespace Go.Proofs.Ytbekjccehhaljaa.H
open Go.RowKit Go.Hay Go.Proofs.YtbekjccehhaljaaW.PrintWords Go.Proofs.YtbekjccehhaljaaW.PrintLast Go.Proofs.YtbekjccehhaljaaW.PrintMore
section
variable {D : Nat → Prop} {wb B : Nat} {vp : Value} {T : Tu} {p : Pl} {w : World}
theorem UB.zl (h : UB D wb vp T p B w) : (p.ka.zip (T.kids.map (·.2))).length = T.kids.length := by
  rw [List.length_zip, List.length_map, h.al]; exact Nat.min_self _
theorem UB.kid_at (h : UB D wb vp T p B w) {g n c : Nat} (hv : p.vk = .slice (some ⟨g, 0, none⟩) n c) {j : Nat} (hj : j < T.kids.length) : ∃ ad, w.cell? ⟨g, j * 2, none⟩ = some (.pointer ad) ∧ w.cell? ⟨g, j * 2 + 1, none⟩ = some (.int .i64 T.kids[j].2) ∧ ND D w T.kids[j].1 ad := by
  have hz := h.zl
  have hja : j < p.ka.length := by rw [h.al]; exact hj
  have hR := h.rk
  rw [hv] at hR
  have hq := Kd.R_reads' hR
  obtain ⟨ad, e1, hc⟩ := hq.2.2.2.2 (by omega)
  cases e1
  obtain ⟨cs, h1, h2, h3⟩ := hc j _ (List.getElem?_eq_getElem (by omega))
  obtain rfl := kBg_open h2
  have q0 := h3 0 _ rfl
  have q1 := h3 1 _ rfl
  rw [add_plain] at q0 q1
  have ez : (p.ka.zip (T.kids.map (·.2)))[j]'(by omega) = (p.ka[j], T.kids[j].2) := by rw [List.getElem_zip, List.getElem_map]
  rw [ez] at q0 q1
  exact ⟨p.ka[j], q0, q1, h.kids j hj hja⟩
/-- the kids from a place on. -/
theorem kids_slice {vk : Value} {n : Nat} {A : Option Addr} {c k : Nat} (hn : n ≤ c) (hk : k ≤ n) (hA : 0 < n → ∃ g, A = some ⟨g, 0, none⟩) : ∃ A' c', (∀ w : World, (Instr.slice 123 (.slice A n c) (some (.int .i64 (k : Int))) none none).run Try.prog w = .ok (.slice A' (n - k) c') w) ∧ (k < n → ∃ g, A = some ⟨g, 0, none⟩ ∧ A' = some ⟨g, k * 2, none⟩) := by
  have hel : Try.prog.elem 123 = 196 := by kernel_rfl
  have hsz : ∀ w, (sizeOf 196).run Try.prog w = .ok 2 w := fun _ => by kernel_rfl
  have ht : Try.prog.underlying 123 = some (.slice (Try.prog.elem 123)) := by rw [hel]; exact Try.underlying123
  have hrun : ∀ w : World, (Instr.slice 123 (.slice A n c) (some (.int .i64 (k : Int))) none none).run Try.prog w = .ok (sliced A k n c 2) w := by
    intro w
    rw [run_slice_l w 123 A n c ht .i64 (k : Int) (by omega) (by omega), hel, hsz, Int.toNat_natCast]
    rfl
  cases A with
  | none => exact ⟨none, c - k, fun w => by rw [hrun]; unfold sliced; split <;> rfl, fun h => by obtain ⟨g, e⟩ := hA (by omega); cases e⟩
  | some ad =>
    refine ⟨_, c - k, hrun, fun h => ?_⟩
    obtain ⟨g, e⟩ := hA (by omega)
    cases e
    refine ⟨g, rfl, ?_⟩
    rw [if_neg (by omega)]
    show some (Addr.add _ _) = _
    rw [add_plain]
def SyncPU (D : Nat → Prop) (wb : Nat) (vp : Value) (T : Tu) (p : Pl) (B : Nat) (w : World) (e : Ending) (w' : World) : Prop := (syncBad T = true ∧ StopPU 0 5 w e w') ∨ (syncBad T = false ∧ GoPU D wb vp (syncU T) p B w e w')
def syncToU (T : Tu) (i : Nat) : Tu := { T with regs := ((T.kids.drop T.wait).take i).foldl putK T.regs }
theorem syncToU_next {T : Tu} {i : Nat} (hi : T.wait + i < T.kids.length) : syncToU T (i + 1) = { syncToU T i with regs := putK (syncToU T i).regs T.kids[T.wait + i] } := by
  unfold syncToU
  have e : (T.kids.drop T.wait).take (i + 1) = (T.kids.drop T.wait).take i ++ [T.kids[T.wait + i]] := by
    rw [List.take_add_one, List.getElem?_drop, List.getElem?_eq_getElem hi]; rfl
  rw [e, List.foldl_append]; rfl
theorem syncTo_all (T : Tu) : { syncToU T (T.kids.length - T.wait) with wait := T.kids.length } = syncU T := by
  unfold syncToU syncU
  rw [List.take_of_length_le (by rw [List.length_drop]; exact Nat.le_refl _)]
theorem bad_yes {T : Tu} {i : Nat} (hi : T.wait + i < T.kids.length) (h : nf T.kids[T.wait + i].1 ≠ 0) : syncBad T = true := by
  unfold syncBad
  rw [List.any_eq_true]
  refine ⟨T.kids[T.wait + i], ?_, by simpa using h⟩
  exact List.mem_of_getElem? (i := i) (by rw [List.getElem?_drop, List.getElem?_eq_getElem hi])
theorem bad_no {T : Tu} (h : ∀ i (hi : T.wait + i < T.kids.length), nf T.kids[T.wait + i].1 = 0) : syncBad T = false := by
  unfold syncBad
  rw [List.any_eq_false]
  intro k hk
  obtain ⟨i, hi⟩ := List.mem_iff_getElem?.1 hk
  rw [List.getElem?_drop] at hi
  obtain ⟨hlt, rfl⟩ := List.getElem?_eq_some_iff.1 hi
  simpa using h i hlt
set_option maxRecDepth 100000 in
set_option maxHeartbeats 8000000 in
theorem usync_any (h : UB D wb vp T p B w) (hD : ¬ D p.tb) (x : S61) (hkr : ∀ k ∈ T.kids, (-1 ≤ k.2 ∧ k.2 < 8) ∧ isN k.1) (hwk : T.wait ≤ T.kids.length) (hkl : T.kids.length ≤ 1000000) : Calls Try.prog 84 #[.pointer (some ⟨p.tb, 0, none⟩), xvU x] w (SyncPU D wb vp T p B w) := by
  obtain ⟨x0, x1, x2, x3, x4⟩ := x
  try simp only at *
  have hz := h.zl
  obtain ⟨A, c, hvk⟩ := Kd.R_slice h.rk
  rw [hz] at hvk
  have hR := h.rk
  rw [hvk] at hR
  have hRr := Kd.R_reads' hR
  have hA : 0 < T.kids.length → ∃ g, A = some ⟨g, 0, none⟩ := by
    intro hp
    obtain ⟨g, cp, hv, _⟩ := Kd.R_form hR (by omega)
    injection hv with e _ _
    exact ⟨g, e⟩
  obtain ⟨A', c', hsl, hA'⟩ := kids_slice (vk := p.vk) (k := T.wait) hRr.2.1 hwk hA
  obtain ⟨W, hW⟩ : ∃ W, W = w.alloc (.cells #[.int .i64 x0, .int .i64 x1, .int .i64 x2, .int .i64 x3, .int .i64 x4] 61) := ⟨_, rfl⟩
  have hb1 : Below w.heap.size w W := by rw [hW]; exact (Below.refl w.heap.size w).alloc (Nat.le_refl _) _
  have h1 := h.below hb1
  have t14 := h1.fix.2.2.1
  rw [hvk] at t14
  have t15 := h1.fix.2.2.2.1
  have HWW := Aside0.mk hW
  have H := Aside0.mk (And.intro h1 (And.intro hb1 (And.intro hD (And.intro hvk (And.intro hA' (And.intro hkr (And.intro hwk hkl)))))))
  clear h h1 hb1 hW hD hvk hA' hkr hwk hkl hz hR hRr hA
  obtain ⟨wi, hwi⟩ : ∃ wi : Int, wi = (T.wait : Int) := ⟨_, rfl⟩
  rw [← hwi] at hsl t15
  obtain ⟨m, hm⟩ : ∃ m, m = T.kids.length - T.wait := ⟨_, rfl⟩
  rw [← hm] at hsl
  obtain ⟨n0, hn0⟩ : ∃ n, n = T.kids.length := ⟨_, rfl⟩
  rw [← hn0] at hsl t14
  have HM := Aside0.mk (And.intro hwi (And.intro hm hn0))
  have hm6 : m ≤ 1000000 := by have := H.out.2.2.2.2.2.2.2; omega
  clear hwi hm hn0
  unfold xvU
  go_enter Try.func84, Try.ntmps84
  go_upto_region 1 with (fail)
  rw [← HWW.out]
  have HSL := Aside0.mk hsl
  refine wp_region_T (fun w' => Drawn0 W w') [] (.takes [0, 1, 2, 3, 4, 5, 6, 7, 8, 9, 10] .done) (by kernel_rfl) (by kernel_rfl) (by kernel_rfl) (by kernel_rfl) (panic_via (P := Try.prog) (fn := Try.f84) (R := SyncPU D wb vp T p B w) (fun _ _ _ => rfl)) ?_
  have hs : Drawn0 W W.drew := (Drawn0.refl W).step 1
  simp only [Turns.takes]
  repeat (
    (first
      | (refine runT_take (v := ?_) (by rfl) (by rfl) (fun w' hS => ?_) hs ?_
         rotate_left
         · (obtain ⟨n, rfl⟩ := hS; go_simp; exact rfl))
      | refine runT_skip (by rfl) (by rfl) hs ?_)
    (try simp only [Act.put, List.setIfInBounds_toArray, List.set_cons_zero, List.set_cons_succ]))
  refine runT_done ?_
  clear hs
  have hbW : Below W.heap.size W W.drew := (Below.refl _ _).drew
  have HB := Aside0.mk (And.intro (show UB D wb vp T p B W.drew from H.out.1.below hbW) (And.intro (H.out.2.1.trans (hbW.mono H.out.2.1.size)) (show ∀ j, j < 0 → ∀ hj : T.wait + j < T.kids.length, nf T.kids[T.wait + j].1 = 0 from fun j hj => absurd hj (Nat.not_lt_zero _))))
  generalize W.drew = W1 at HB ⊢
  clear hbW hsl t14 t15 HWW
  go_wp2_with fail
  go_loopw [18] (fun v18 wr => ∃ (i : Nat), v18 = .int .i64 i ∧ i ≤ m ∧ Aside0 (UB D wb vp T p B wr ∧ Below w.heap.size w wr ∧ ∀ j, j < i → ∀ hj : T.wait + j < T.kids.length, nf T.kids[T.wait + j].1 = 0)) (fun v18 _ => m - (intOf v18).toNat)
  case atStart => exact ⟨0, rfl, Nat.zero_le _, HB⟩
  case round =>
    clear HB
    obtain ⟨i, rfl, hi, HB⟩ := hrel
    by_cases hlt : i < m
    · have hwi := HM.out.1
      have hm := HM.out.2.1
      obtain ⟨g, hA, hA'⟩ := H.out.2.2.2.2.1 (by omega)
      have hvk := H.out.2.2.2.1
      rw [hA] at hvk
      have hj : T.wait + i < T.kids.length := by omega
      obtain ⟨ad, p0, p1, hnd⟩ := HB.out.1.kid_at hvk hj
      have hkr := H.out.2.2.2.2.2.1 T.kids[T.wait + i] (List.getElem_mem hj)
      obtain ⟨q, hq, g2, g3⟩ := hnd.cells hkr.2
      subst hq
      rw [Nat.add_mul] at p0 p1
      subst hA'
      obtain ⟨o, ho⟩ : ∃ o, o = T.wait * 2 := ⟨_, rfl⟩
      rw [← ho] at p0 p1 ⊢
      obtain ⟨f, hf⟩ : ∃ f, f = nf T.kids[T.wait + i].1 := ⟨_, rfl⟩
      rw [← hf] at g3
      obtain ⟨y, hy⟩ : ∃ y, y = T.kids[T.wait + i].2 := ⟨_, rfl⟩
      rw [← hy] at p1
      have HF := Aside0.mk (And.intro hf hj)
      obtain ⟨W2, hW2⟩ : ∃ W2, W2 = wr.alloc (.cells #[.pointer (some ⟨q, 0, none⟩), .int .i64 y] 196) := ⟨_, rfl⟩
      have hb2 : Below wr.heap.size wr W2 := by rw [hW2]; exact (Below.refl wr.heap.size wr).alloc (Nat.le_refl _) _
      have hbx2 : W2.heap[wr.heap.size]? = some (.cells #[.pointer (some ⟨q, 0, none⟩), .int .i64 y] 196 (0, 0)) := by rw [hW2]; exact alloc_blk wr _
      have s0 := blk_cell hbx2 0
      have g3 := (hb2.cell (World.block_lt_of_cell? wr _ g3)).trans g3
      have HB2 := Aside0.mk (And.intro (HB.out.1.below hb2) (And.intro (HB.out.2.1.trans (hb2.mono HB.out.2.1.size)) HB.out.2.2))
      have HW2 := Aside0.mk hW2
      clear hwi hm hA hvk hnd hkr g2 ho hf hy hb2 hbx2 hW2 HB
      go_upto_region 4 with (fail)
      rw [← HW2.out]
      by_cases hf0 : f = 0
      · have hf1 : (f = 0) = True := eq_true hf0
        have hf2 : (f == 0) = true := by rw [hf0]; rfl
        have HF0 := Aside0.mk hf0
        clear hf0
        go_wp2_with fail
        go_roundw
        case rel =>
          refine ⟨i + 1, by go_num, by omega, Aside0.mk ⟨HB2.out.1, HB2.out.2.1, fun j hj hj2 => ?_⟩⟩
          by_cases e : j < i
          · exact HB2.out.2.2 j e hj2
          · obtain rfl : j = i := by omega
            rw [← HF.out.1]; exact HF0.out
        case measure => simp [intOf]; omega
      · have hf1 : (f = 0) = False := eq_false hf0
        have hf2 : (f == 0) = false := by simp [hf0]
        have HF0 := Aside0.mk hf0
        clear hf0
        go_wp2_with fail
        refine (ufail_any 5 _).mono ?_
        rintro e w' ⟨rfl, hb⟩
        exact ⟨rfl, .inl ⟨bad_yes HF.out.2 (by rw [← HF.out.1]; exact HF0.out), rfl, HB2.out.2.1.trans (hb.mono HB2.out.2.1.size)⟩⟩
    · have em : m = i := by omega
      subst em
      have hbad : syncBad T = false := bad_no (fun j hj => HB.out.2.2 j (by have := HM.out.2.1; omega) hj)
      have HBAD := Aside0.mk hbad
      clear hbad hlt hi
      go_upto_region 7 with (fail)
      have hsl := HSL.out
      have t14 := HB.out.1.fix.2.2.1
      rw [H.out.2.2.2.1, ← HM.out.2.2] at t14
      have t15 := HB.out.1.fix.2.2.2.1
      rw [← HM.out.1] at t15
      have t0 := HB.out.1.fix.1
      refine wp_region_T (fun w' => Drawn0 wr w') [] (.takes [0, 1, 2, 3, 4, 5, 6, 7, 8, 9, 10] .done) (by kernel_rfl) (by kernel_rfl) (by kernel_rfl) (by kernel_rfl) (panic_via (P := Try.prog) (fn := Try.f84) (R := SyncPU D wb vp T p B w) (fun _ _ _ => rfl)) ?_
      have hs : Drawn0 wr wr.drew := (Drawn0.refl wr).step 1
      simp only [Turns.takes]
      repeat (
        (first
          | (refine runT_take (v := ?_) (by rfl) (by rfl) (fun w' hS => ?_) hs ?_
             rotate_left
             · (obtain ⟨n, rfl⟩ := hS; go_simp; exact rfl))
          | refine runT_skip (by rfl) (by rfl) hs ?_)
        (try simp only [Act.put, List.setIfInBounds_toArray, List.set_cons_zero, List.set_cons_succ]))
      refine runT_done ?_
      clear hs
      have hbW : Below wr.heap.size wr wr.drew := (Below.refl _ _).drew
      have HC := Aside0.mk (And.intro (show UB D wb vp (syncToU T 0) p B wr.drew from HB.out.1.below hbW) (Keep.of_below (HB.out.2.1.trans (hbW.mono HB.out.2.1.size)) (fun q => q = p.tb)))
      generalize wr.drew = W1 at HC ⊢
      clear hbW hsl t14 t15 t0 HB
      go_wp2_with fail
      go_loopw [40] (fun v40 wr => ∃ (i : Nat), v40 = .int .i64 i ∧ i ≤ m ∧ Aside0 (UB D wb vp (syncToU T i) p B wr ∧ Keep (fun q => q = p.tb) w wr)) (fun v40 _ => m - (intOf v40).toNat)
      case atStart => exact ⟨0, rfl, Nat.zero_le _, HC⟩
      case round =>
        clear HC
        obtain ⟨i, rfl, hi, HB⟩ := hrel
        by_cases hlt : i < m
        · have hm := HM.out.2.1
          obtain ⟨g, hA, hA'⟩ := H.out.2.2.2.2.1 (by omega)
          have hvk := H.out.2.2.2.1
          rw [hA] at hvk
          have hj : T.wait + i < T.kids.length := by omega
          obtain ⟨ad, p0, p1, hnd⟩ := HB.out.1.kid_at hvk (j := T.wait + i) hj
          have hkr := H.out.2.2.2.2.2.1 T.kids[T.wait + i] (List.getElem_mem hj)
          obtain ⟨q, hq, g2, g3⟩ := ND.cells (t := T.kids[T.wait + i].1) hnd hkr.2
          subst hq
          rw [Nat.add_mul] at p0 p1
          subst hA'
          have HN := Aside0.mk (syncToU_next hj)
          obtain ⟨o, ho⟩ : ∃ o, o = T.wait * 2 := ⟨_, rfl⟩
          rw [← ho] at p0 p1 ⊢
          obtain ⟨v, hv⟩ : ∃ v, v = nv T.kids[T.wait + i].1 := ⟨_, rfl⟩
          rw [← hv] at g2
          obtain ⟨y, hy⟩ : ∃ y, y = T.kids[T.wait + i].2 := ⟨_, rfl⟩
          replace p1 : wr.cell? ⟨g, o + i * 2 + 1, none⟩ = some (.int .i64 y) := by rw [hy]; exact p1
          rw [← hy] at hkr
          have HF := Aside0.mk (And.intro hv (And.intro hy (And.intro hj hkr)))
          obtain ⟨W2, hW2⟩ : ∃ W2, W2 = wr.alloc (.cells #[.pointer (some ⟨q, 0, none⟩), .int .i64 y] 196) := ⟨_, rfl⟩
          have hb2 : Below wr.heap.size wr W2 := by rw [hW2]; exact (Below.refl wr.heap.size wr).alloc (Nat.le_refl _) _
          have hbx2 : W2.heap[wr.heap.size]? = some (.cells #[.pointer (some ⟨q, 0, none⟩), .int .i64 y] 196 (0, 0)) := by rw [hW2]; exact alloc_blk wr _
          have s0 := blk_cell hbx2 0
          have s1 := blk_cell hbx2 1
          have g2 := (hb2.cell (World.block_lt_of_cell? wr _ g2)).trans g2
          have HB2 := Aside0.mk (And.intro (HB.out.1.below hb2) (HB.out.2.trans (Keep.of_below hb2 _)))
          have HW2 := Aside0.mk hW2
          clear hm hA hvk hnd hkr g3 ho hv hy hb2 hbx2 hW2 HB
          go_upto_region 10 with (fail)
          rw [← HW2.out]
          by_cases hy0 : 0 ≤ y
          · obtain ⟨a, rfl⟩ : ∃ a : Nat, y = a := ⟨y.toNat, by omega⟩
            have hy1 : (0 ≤ (a : Int)) = True := eq_true hy0
            have ha8 : ((a : Int) < 8) = True := eq_true HF.out.2.2.2.1.2
            have z := HB2.out.1.frozen (2 + a)
            have r := HB2.out.1.reg a (by have := HF.out.2.2.2.1.2; omega)
            clear hy0
            go_upto_region 11 with (fail)
            refine wp_region_T (fun w' => Drawn0 W2 w') [11] (.takes [0, 1, 2, 3, 4, 5, 6, 7, 8, 9, 10] (.fin 11 .done)) (by kernel_rfl) (by kernel_rfl) (by kernel_rfl) (by kernel_rfl) (panic_via (P := Try.prog) (fn := Try.f84) (R := SyncPU D wb vp T p B w) (fun _ _ _ => rfl)) ?_
            have hs : Drawn0 W2 W2.drew := (Drawn0.refl W2).step 1
            simp only [Turns.takes]
            repeat (
              (first
                | (refine runT_take (v := ?_) (by rfl) (by rfl) (fun w' hS => ?_) hs ?_
                   rotate_left
                   · (obtain ⟨n, rfl⟩ := hS; go_simp; exact rfl))
                | refine runT_skip (by rfl) (by rfl) hs ?_)
              (try simp only [Act.put, List.setIfInBounds_toArray, List.set_cons_zero, List.set_cons_succ]))
            refine runT_fin (by rfl) (by rfl) (fun K hK => ?_)
            go_simp
            refine hK _ _ ?_
            refine runT_done ?_
            clear hK K hs
            have HB3 := Aside0.mk (show UB D wb vp (syncToU T (i + 1)) p B (W2.drew.setCell ⟨p.tb, 2 + a, none⟩ (.int .i64 v)) ∧ Keep (fun q => q = p.tb) w (W2.drew.setCell ⟨p.tb, 2 + a, none⟩ (.int .i64 v)) from by
              refine ⟨?_, (HB2.out.2.drew).set (p := ⟨p.tb, 2 + a, none⟩) (.inr rfl) _⟩
              have h9 := (HB2.out.1.drewN 1).setReg H.out.2.2.1 a (by have := HF.out.2.2.2.1.2; omega) v
              have e : putK (syncToU T i).regs (T.kids[T.wait + i]'hj) = (syncToU T i).regs.set a v := by
                unfold putK
                have e1 : (T.kids[T.wait + i]'hj).2.toNat = a := by have := HF.out.2.1; omega
                have e2 : nv (T.kids[T.wait + i]'hj).1 = v := HF.out.1.symm
                rw [if_pos (by have := HF.out.2.1; omega), e1, e2]
              rw [HN.out, e]
              exact h9)
            clear HB2 HW2 HN HF s0 s1 z r p0 p1 g2
            go_wp2_with fail
            go_roundw
            case rel => exact ⟨i + 1, by go_num, by omega, HB3⟩
            case measure => simp [intOf]; omega
          · have hy1 : (0 ≤ y) = False := eq_false hy0
            have HB3 := Aside0.mk (show UB D wb vp (syncToU T (i + 1)) p B W2 ∧ Keep (fun q => q = p.tb) w W2 from by
              refine ⟨?_, HB2.out.2⟩
              have e : putK (syncToU T i).regs (T.kids[T.wait + i]'hj) = (syncToU T i).regs := by
                unfold putK
                rw [if_neg (by have := HF.out.2.1; omega)]
              rw [HN.out, e]
              exact HB2.out.1)
            clear hy0 HB2 HW2 HN HF
            go_wp2_with fail
            go_roundw
            case rel => exact ⟨i + 1, by go_num, by omega, HB3⟩
            case measure => simp [intOf]; omega
        · have em : m = i := by omega
          subst em
          have z := HB.out.1.frozen 15
          have t14 := HB.out.1.fix.2.2.1
          rw [H.out.2.2.2.1, ← HM.out.2.2] at t14
          have t15 := HB.out.1.fix.2.2.2.1
          have t0 := HB.out.1.fix.1
          clear hlt hi
          go_wp2_with fail
          go_end0
          have h9 := HB.out.1.setWait H.out.2.2.1 T.kids.length (n0 : Int) (by rw [HM.out.2.2])
          have e := syncTo_all T
          rw [← HM.out.2.1] at e
          rw [e] at h9
          exact .inr ⟨HBAD.out, rfl, h9, HB.out.2.set (p := ⟨p.tb, 15, none⟩) (.inr rfl) _⟩
end
end Go.Proofs.Ytbekjccehhaljaa.H

set_option linter.unusedVariables false
set_option linter.unusedSimpArgs false
namespace Go.Proofs.Ytbekjccehhaljaa.H
open Go.RowKit Go.Hay Go.Proofs.YtbekjccehhaljaaW.PrintWords Go.Proofs.YtbekjccehhaljaaW.PrintLast Go.Proofs.YtbekjccehhaljaaW.PrintMore
theorem not_own {α : Type} {d : Kd α} {e B : Nat} {w : World} {ok : Nat → Prop} {v : Value} {xs : List α} (h : d.R e w B ok v xs) {q t : Nat} {cs : Array Value} (hq : w.heap[q]? = some (.cells cs t (0, 0))) (ht : t ≠ e) : v.ownBlock ≠ some q := by
  intro e2
  obtain ⟨cs', h2⟩ := Kd.R_typed h q e2
  rw [hq] at h2; cases h2; exact ht rfl
section
variable {c : Cu} {l : List S64} {D : Nat → Prop} {G : Gu} {ents : List Ent} {vl vp : Value} {w : World} {T : Tu} {p : Pl}
/-- a task's rows are turned: what is left. -/
theorem ST.rows {T' : Tu} {p' : Pl} {w1 : World} (h : ST c l D G ents vl vp T p w) (h1 : UB D c.wb vp T' p' c.B w1) (hk : Keep (QU p) w w1) (ht : p'.tb = p.tb) (hn : p'.nb = p.nb) (hkb : p'.kb = p'.ka) (hq : ∀ q, QU p' q → QU p q ∨ w.heap.size ≤ q) : ST c l D G ents vl vp T' p' w1 :=
  ⟨h.us.keep hk (fun q hq e => h.ap q hq e) (fun q hq e => h.qd q e hq) (fun q cs hq e => h.ub.notPath q cs hq e) (fun q hq e => by have := h.qLo q e; omega), h1, fun q hq2 hd => (hq q hq2).elim (fun e => h.qd q e hd) (fun e => by have := h.us.dl q hd; omega), by rw [ht]; exact h.tlo, by rw [hn]; exact h.nlo, hkb⟩
set_option maxRecDepth 100000 in
set_option maxHeartbeats 4000000 in
theorem uemit_any (h : ST c l D G ents vl vp T p w) (x : S61) (ha : 0 ≤ x.f1 ∧ x.f1 < 8) (hpl : T.ps.length ≤ 1000000) (htl : T.told ≤ 1000000) : Calls Try.prog 87 #[.pointer (some ⟨p.tb, 0, none⟩), xvU x] w (StepPU c l p.tb p.nb vp (PU c.wb vl) (QU p) D (.go { T with ps := T.ps ++ [⟨false, uR T x.f1⟩], told := T.told + 1 } G) w) := by
  obtain ⟨x0, x1, x2, x3, x4⟩ := x
  try simp only at *
  obtain ⟨a, rfl⟩ : ∃ a : Nat, x1 = a := ⟨x1.toNat, by omega⟩
  have hrg : uR T (a : Int) = T.regs.getD a 0 := rfl
  obtain ⟨Ap, cp, hvps⟩ := Kd.R_slice h.ub.rps
  obtain ⟨W, hW⟩ : ∃ W, W = w.alloc (.cells #[.int .i64 x0, .int .i64 a, .int .i64 x2, .int .i64 x3, .int .i64 x4] 61) := ⟨_, rfl⟩
  have hb1 : Below w.heap.size w W := by rw [hW]; exact (Below.refl w.heap.size w).alloc (Nat.le_refl _) _
  have hbx : W.heap[w.heap.size]? = some (.cells #[.int .i64 x0, .int .i64 a, .int .i64 x2, .int .i64 x3, .int .i64 x4] 61 (0, 0)) := by rw [hW]; exact alloc_blk w _
  have h1 := h.below hb1
  have ha8 : ((a : Int) < 8) = True := eq_true ha.2
  have r := h1.ub.reg a (by omega)
  rw [hrg]
  generalize T.regs.getD a 0 = y at r
  have t0 := h1.ub.fix.2.2.2.2.2.2.2
  have q0 := blk_cell h1.ub.nd 0
  have q0 : W.cell? ⟨p.nb, 0, none⟩ = some (.slice Ap T.ps.length cp) := by rw [← hvps]; exact q0
  have HWW := Aside0.mk hW
  have H := Aside0.mk (And.intro h1 (And.intro hb1 (And.intro hvps (And.intro hpl htl))))
  have HG := Aside0.mk (And.intro r (And.intro t0 (And.intro hbx q0)))
  clear h h1 hb1 hbx hW ha hrg hvps hpl htl r t0 q0
  unfold xvU
  go_enter Try.func87, Try.ntmps87
  go_upto_region 1 with (fail)
  rw [← HWW.out]
  refine wp_region_T (fun w' => w'.heap[p.tb]? = W.heap[p.tb]? ∧ w'.heap[p.nb]? = W.heap[p.nb]? ∧ w'.heap[w.heap.size]? = W.heap[w.heap.size]?) [23] (.takes [0, 1, 2, 3, 4, 5, 6, 7, 8, 9, 10, 11, 12, 13, 14, 15, 16, 17, 18] (.op 19 (.op 20 (.op 21 (.op 22 (.fin 23 .done)))))) (by kernel_rfl) (by kernel_rfl) (by kernel_rfl) (by kernel_rfl) (panic_via (P := Try.prog) (fn := Try.f87) (R := StepPU c l p.tb p.nb vp (PU c.wb vl) (QU p) D (.go { T with ps := T.ps ++ [⟨false, y⟩], told := T.told + 1 } G) w) (fun _ _ _ => rfl)) ?_
  have hs : W.drew.heap[p.tb]? = W.heap[p.tb]? ∧ W.drew.heap[p.nb]? = W.heap[p.nb]? ∧ W.drew.heap[w.heap.size]? = W.heap[w.heap.size]? := ⟨rfl, rfl, rfl⟩
  simp only [Turns.takes]
  repeat (
    (first
      | (refine runT_take (v := ?_) (by rfl) (by rfl) (fun w' hS => ?_) hs ?_
         rotate_left
         · (have t0 := (World.cell?_of_block (w := W) (a := ⟨p.tb, 19, none⟩) hS.1).trans HG.out.2.1; have r := (World.cell?_of_block (w := W) (a := ⟨p.tb, 2 + a, none⟩) hS.1).trans HG.out.1; have c1 := (World.cell?_of_block (w := W) (a := ⟨w.heap.size, 1, none⟩) hS.2.2).trans (blk_cell HG.out.2.2.1 1); have q0 := (World.cell?_of_block (w := W) (a := ⟨p.nb, 0, none⟩) hS.2.1).trans HG.out.2.2.2; go_simp; exact rfl))
      | refine runT_skip (by rfl) (by rfl) hs ?_)
    (try simp only [Act.put, List.setIfInBounds_toArray, List.set_cons_zero, List.set_cons_succ]))
  refine runT_op (by rfl) (by rfl) (fun K hK => ?_)
  go_simp
  have hb2 : Below W.heap.size W (W.drew.alloc (.cells #[.bool false, .int .i64 y] 86)) := (Below.refl _ _).drew.alloc (by exact Nat.le_refl _) _
  refine hK _ _ ⟨hb2.block _ (blk_lt H.out.1.ub.node), hb2.block _ (blk_lt H.out.1.ub.nd), hb2.block _ (blk_lt HG.out.2.2.1)⟩ ?_
  clear hK K
  (try simp only [Act.put, List.setIfInBounds_toArray, List.set_cons_zero, List.set_cons_succ])
  refine runT_op (by rfl) (by rfl) (fun K hK => ?_)
  have hrow := (H.out.1.ub.below hb2).rps
  have hvps := H.out.2.2.1
  have hpl := H.out.2.2.2.1
  have hBs : c.B ≤ (W.drew.alloc (.cells #[.bool false, .int .i64 y] 86)).heap.size := Nat.le_trans (Nat.le_trans H.out.1.us.eg.lo (Nat.le_of_lt (blk_lt H.out.1.us.eg.node))) hb2.size
  refine wp_append_rows kPc (Rr := kPc.M (W.drew.alloc (.cells #[.bool false, .int .i64 y] 86)) c.B (fun _ => False)) c.B rfl (.tmp 14) (.tmp 23) 67 86 (.agg #[.bool false, .int .i64 0]) 16 rfl Try.underlying67 infoU86 rfl (by decide) (by decide) (.slice Ap T.ps.length cp) T.ps [⟨false, y⟩] _ _ _ (fun _ => True) (fun _ => False) rfl rfl (by rw [← hvps]; exact hrow) (reads_one (alloc_blk _ _) (kPc_mkM _ _ _ ⟨false, y⟩)) (fun _ _ h => h) (fun _ h => h.elim) (fun _ _ => trivial) hBs (by omega) ?_
  intro v9 w9 hR9 hbw hgr hat
  rw [← hvps] at hgr hat
  have hP := H.out.1.ub.pushPs H.out.1.qd hb2 hR9 hgr hat
  have hE9 : w9.heap[p.tb]? = W.heap[p.tb]? ∧ w9.heap[p.nb]? = W.heap[p.nb]? ∧ w9.heap[w.heap.size]? = W.heap[w.heap.size]? := ⟨hP.2.2.2 _ (blk_lt H.out.1.ub.node) H.out.1.ub.ne.pt, hP.2.2.2 _ (blk_lt H.out.1.ub.nd) H.out.1.ub.ne.pn, hP.2.2.2 _ (blk_lt HG.out.2.2.1) (not_own H.out.1.ub.rps HG.out.2.2.1 (by decide))⟩
  obtain ⟨A9, c9, rfl⟩ := Kd.R_slice hR9
  have q0 := (World.cell?_of_block (a := ⟨p.nb, 0, none⟩) hE9.2.1).trans (blk_cell H.out.1.ub.nd 0)
  have z0 := blk_frozen (hE9.2.1.trans H.out.1.ub.nd) 0
  generalize (T.ps ++ [({ f0 := false, f1 := y } : Pc)]).length = L9 at hP ⊢
  have HP := Aside0.mk hP
  clear hP hR9 hbw hgr hat hrow hvps hb2 hs hpl hBs
  refine hK _ _ hE9 ?_
  clear hK K
  (try simp only [Act.put, List.setIfInBounds_toArray, List.set_cons_zero, List.set_cons_succ])
  refine runT_op (by rfl) (by rfl) (fun K hK => ?_)
  go_simp
  refine hK _ _ hE9 ?_
  clear hK K
  (try simp only [Act.put, List.setIfInBounds_toArray, List.set_cons_zero, List.set_cons_succ])
  refine runT_op (by rfl) (by rfl) (fun K hK => ?_)
  go_simp
  refine hK _ _ hE9 ?_
  clear hK K
  (try simp only [Act.put, List.setIfInBounds_toArray, List.set_cons_zero, List.set_cons_succ])
  refine runT_fin (by rfl) (by rfl) (fun K hK => ?_)
  go_simp
  refine hK _ _ ?_
  refine runT_done ?_
  clear hK K hE9 z0 q0
  obtain ⟨W2, hW2⟩ : ∃ W2, W2 = w9.setCell ⟨p.nb, 0, none⟩ (.slice A9 L9 c9) := ⟨_, rfl⟩
  have hP := HP.out
  rw [← hW2] at hP ⊢
  have hS2 := H.out.1.rows hP.1 hP.2.1 rfl rfl H.out.1.kb hP.2.2.1
  have t18 := hS2.ub.fix.2.2.2.2.2.2.1
  have t18 : W2.cell? ⟨p.tb, 18, none⟩ = some (.int .i64 T.told) := t18
  have z18 : W2.frozen? ⟨p.tb, 18, none⟩ = false := hS2.ub.frozen 18
  have hw1 : IntKind.i64.wrap ((T.told : Int) + 1) = (T.told : Int) + 1 := IntWalk.i64_in _ (by have := H.out.2.2.2.2; omega)
  have HS := Aside0.mk (And.intro hS2 (And.intro hP.2.1 hP.2.2.1))
  clear hW2 hP hS2 HP
  go_wp2_with fail
  go_end0
  obtain ⟨hS2, hk2, hq2⟩ := HS.out
  have hT := hS2.ub.setTold (fun hd => hS2.qd _ (.inl rfl) hd) (T.told + 1) ((T.told : Int) + 1) (by omega)
  have hkt : Keep (fun q => q = p.tb) W2 (W2.setCell ⟨p.tb, 18, none⟩ (.int .i64 ((T.told : Int) + 1))) := (Keep.refl (fun q => q = p.tb) W2).set (p := ⟨p.tb, 18, none⟩) (.inr rfl) _
  have hF := hS2.task hT hkt
  refine ⟨rfl, hF.left (p0 := p) (((Keep.of_below H.out.2.1 _).trans (hk2.mono (fun q _ e => .inr e))).trans (hkt.mono (fun q _ e => .inr (.inl e)))) rfl rfl (fun q hq => .inl hq) (fun q hq => ?_) (fun q hq => hq) (fun q hq => .inl hq)⟩
  rcases hq2 q hq with e | e
  · exact .inl e
  · exact .inr (Nat.le_trans H.out.2.1.size e)
end
end Go.Proofs.Ytbekjccehhaljaa.H

set_option linter.unusedVariables false
set_option linter.unusedSimpArgs false
namespace Go.Proofs.Ytbekjccehhaljaa.H
open Go.RowKit Go.Hay Go.Proofs.YtbekjccehhaljaaW.PrintWords Go.Proofs.YtbekjccehhaljaaW.PrintLast Go.Proofs.YtbekjccehhaljaaW.PrintMore
theorem infoC2 : (Try.prog.info? 2).map (fun i => (i.zero, i.size, i.bytes)) = some (some (.int .i64 0), 1, 8) := by kernel_rfl
theorem infoC3 : (Try.prog.info? 3).map (fun i => (i.zero, i.size, i.bytes)) = some (some (.int .i64 0), 1, 8) := by kernel_rfl
set_option maxRecDepth 100000 in
set_option maxHeartbeats 4000000 in
theorem clonei_any (A : Option Addr) (c : Nat) (xs : List Int) (w : World) (hC : (Kd.int .i64).C w A xs.length xs) (hc : A = none → c = 0 ∧ xs = []) (hl : xs.length ≤ 1000) :
    Calls Try.prog 50 #[.slice A xs.length c] w fun e w' => ∃ v, e = .returned v ∧ (Kd.int .i64).R 3 w' w.heap.size (fun _ => True) v xs ∧ Below w.heap.size w w' := by
  cases A with
  | none =>
    obtain ⟨rfl, rfl⟩ := hc rfl
    have HB := Aside0.mk (Below.refl w.heap.size w)
    have he : ∀ w : World, (binOp .eql 52 (.slice none 0 0) (.slice none 0 0)).run Try.prog w = .ok (.bool true) w := fun _ => rfl
    clear hC
    go_enter Try.func50, Try.ntmps50
    go_wp2_with fail
    go_ret
    exact ⟨_, rfl, Kd.R_nil _ _ _ _ _, HB.out⟩
  | some ad =>
    have HC := Aside0.mk hC
    have HB := Aside0.mk (Below.refl w.heap.size w)
    have he : ∀ w : World, (binOp .eql 52 (.slice (some ad) xs.length c) (.slice none 0 0)).run Try.prog w = .ok (.bool false) w := fun _ => rfl
    have hl8 : (0 + xs.length) * 8 ≤ 140737488355328 := by omega
    clear hC
    go_enter Try.func50, Try.ntmps50
    have hnew : (Kd.int .i64).R 3 (w.alloc (.cells #[] 3)) w.heap.size (fun _ => True) (.slice (some ⟨w.heap.size, 0, none⟩) 0 0) [] :=
      ⟨fun _ _ => trivial, [], ⟨rfl, .inr ⟨w.heap.size, 0, #[], rfl, Nat.le_refl _, alloc_blk _ _, Nat.le_refl _, by decide, rfl, rfl⟩⟩, Reps.none _ _⟩
    go_wp2_with (first | ((with_reducible refine gate_builtin (b := .append) (xs := #[.tmp 5, .tmp 6]) rfl ?_); refine Kd.R_append_rows (Kd.int .i64) (w0 := w) w.heap.size rfl (.tmp 5) (.tmp 6) 52 3 (.int .i64 0) 8 rfl Try.underlying52 infoC3 rfl (by decide) (by omega) _ [] xs _ _ _ (fun _ => True) (fun _ => False) rfl rfl ?aO ?aR (fun _ _ h => h) (fun _ h => h.elim) ?aF ?aB ?aS ?aL ?_))
    case aO => exact hnew
    case aR => exact Kd.C_alloc HC.out _
    case aF => exact fun _ _ => trivial
    case aB => exact HB.out.alloc (Nat.le_refl _) _
    case aS => simp
    case aL => simpa using hl8
    intro v1 w1 hR hb1 _ _
    have HR1 := Aside0.mk hR
    have HB1 := Aside0.mk hb1
    clear hR hb1 hnew
    go_wp2_with fail
    go_ret
    exact ⟨v1, rfl, HR1.out, HB1.out⟩
set_option maxRecDepth 100000 in
set_option maxHeartbeats 4000000 in
theorem clone64_any (A : Option Addr) (c : Nat) (xs : List Int) (w : World) (hC : (Kd.int .i64).C w A xs.length xs) (hc : A = none → c = 0 ∧ xs = []) (hl : xs.length ≤ 1000) :
    Calls Try.prog 116 #[.slice A xs.length c] w fun e w' => ∃ v, e = .returned v ∧ (Kd.int .i64).R 2 w' w.heap.size (fun _ => True) v xs ∧ Below w.heap.size w w' := by
  cases A with
  | none =>
    obtain ⟨rfl, rfl⟩ := hc rfl
    have HB := Aside0.mk (Below.refl w.heap.size w)
    have he : ∀ w : World, (binOp .eql 23 (.slice none 0 0) (.slice none 0 0)).run Try.prog w = .ok (.bool true) w := fun _ => rfl
    clear hC
    go_enter Try.func116, Try.ntmps116
    go_wp2_with fail
    go_ret
    exact ⟨_, rfl, Kd.R_nil _ _ _ _ _, HB.out⟩
  | some ad =>
    have HC := Aside0.mk hC
    have HB := Aside0.mk (Below.refl w.heap.size w)
    have he : ∀ w : World, (binOp .eql 23 (.slice (some ad) xs.length c) (.slice none 0 0)).run Try.prog w = .ok (.bool false) w := fun _ => rfl
    have hl8 : (0 + xs.length) * 8 ≤ 140737488355328 := by omega
    clear hC
    go_enter Try.func116, Try.ntmps116
    have hnew : (Kd.int .i64).R 2 (w.alloc (.cells #[] 2)) w.heap.size (fun _ => True) (.slice (some ⟨w.heap.size, 0, none⟩) 0 0) [] :=
      ⟨fun _ _ => trivial, [], ⟨rfl, .inr ⟨w.heap.size, 0, #[], rfl, Nat.le_refl _, alloc_blk _ _, Nat.le_refl _, by decide, rfl, rfl⟩⟩, Reps.none _ _⟩
    go_wp2_with (first | ((with_reducible refine gate_builtin (b := .append) (xs := #[.tmp 5, .tmp 6]) rfl ?_); refine Kd.R_append_rows (Kd.int .i64) (w0 := w) w.heap.size rfl (.tmp 5) (.tmp 6) 23 2 (.int .i64 0) 8 rfl Try.underlying23 infoC2 rfl (by decide) (by omega) _ [] xs _ _ _ (fun _ => True) (fun _ => False) rfl rfl ?aO ?aR (fun _ _ h => h) (fun _ h => h.elim) ?aF ?aB ?aS ?aL ?_))
    case aO => exact hnew
    case aR => exact Kd.C_alloc HC.out _
    case aF => exact fun _ _ => trivial
    case aB => exact HB.out.alloc (Nat.le_refl _) _
    case aS => simp
    case aL => simpa using hl8
    intro v1 w1 hR hb1 _ _
    have HR1 := Aside0.mk hR
    have HB1 := Aside0.mk hb1
    clear hR hb1 hnew
    go_wp2_with fail
    go_ret
    exact ⟨v1, rfl, HR1.out, HB1.out⟩
end Go.Proofs.Ytbekjccehhaljaa.H

set_option linter.unusedVariables false
set_option linter.unusedSimpArgs false
namespace Go.Proofs.Ytbekjccehhaljaa.H
open Go.RowKit Go.Hay Go.Proofs.YtbekjccehhaljaaW.PrintWords Go.Proofs.YtbekjccehhaljaaW.PrintLast Go.Proofs.YtbekjccehhaljaaW.PrintMore
theorem numsU_at {k : IntKind} {e B g n cap : Nat} {ok : Nat → Prop} {W : World} {xs : List Int} (h : (Kd.int k).R e W B ok (.slice (some ⟨g, 0, none⟩) n cap) xs) {i : Nat} (hi : i < xs.length) : W.cell? ⟨g, i, none⟩ = some (.int k xs[i]) ∧ W.frozen? ⟨g, i, none⟩ = false := by
  have hq := Kd.R_reads' h
  obtain ⟨ad, e1, hc⟩ := hq.2.2.2.2 (by omega)
  cases e1
  obtain ⟨cs, h1, h2, h3⟩ := hc i _ (List.getElem?_eq_getElem hi)
  have h2 : cs = [.int k xs[i]] := h2
  subst h2
  have q0 := h3 0 _ rfl
  rw [add_plain] at q0
  obtain ⟨g', cp, hv, _, _, C, hC⟩ := Kd.R_form h (by omega)
  injection hv with hA _ _
  cases hA
  have q1 : W.cell? ⟨g, i * 1, none⟩ = some (.int k xs[i]) := q0
  rw [Nat.mul_one] at q1
  exact ⟨q1, blk_frozen hC _⟩
theorem PathAt.ofR {w : World} {base n cap : Nat} {ok : Nat → Prop} {A : Option Addr} {xs : List Int} (h : (Kd.int .i64).R 3 w base ok (.slice A n cap) xs) (hx : 0 < xs.length) : PathAt w A xs ∧ A ≠ none ∧ n = xs.length ∧ xs.length ≤ cap := by
  obtain ⟨g, cp, hv, _, _, C, hC⟩ := Kd.R_form h hx
  injection hv with hA hn hc
  subst hA
  have hq := Kd.R_reads' h
  refine ⟨.inr ⟨g, C, rfl, hC, ?_⟩, by simp, hq.1, by have := hq.2.1; omega⟩
  have hlen : xs.length ≤ C.toList.length := by
    have h1 := (numsU_at h (i := xs.length - 1) (by omega)).1
    rw [blk_cell hC] at h1
    have := (Array.getElem?_eq_some_iff.1 h1).1
    have e2 := Array.length_toList (xs := C)
    omega
  apply List.ext_getElem
  · rw [List.length_take, List.length_map]; omega
  · intro i h1 h2
    have hi : i < xs.length := by simpa using h2
    have h3 := (numsU_at h hi).1
    rw [blk_cell hC] at h3
    obtain ⟨hlt, h4⟩ := Array.getElem?_eq_some_iff.1 h3
    rw [List.getElem_take, List.getElem_map, Array.getElem_toList]
    exact h4
theorem kP_mkM (w : World) (base : Nat) (ok : Nat → Prop) (a : Option Addr) : kP.M w base ok a [.pointer a] := rfl
/-- what beginning a task comes to. -/
def BegUC (c : Cu) (l : List S64) (k : Nat) : Prop :=
  ∀ (M : Nat) (D : Nat → Prop) (G : Gu) (ents : List Ent) (vl : Value) (w : World) (f : Nat) (A : Option Addr) (cpath : Nat) (path : List Int) (Aa : Option Addr) (ca : Nat) (args : List Int) (hands : List Tr) (hs : List (Option Addr)),
    US c l D G ents vl w → GUI M c.budget G → G.log.length + 1 + G.left ≤ M → M ≤ 1000000 → f < l.length → PathAt w A path → path.length ≤ cpath → (A = none → cpath = 0) → (path.length : Int) ≤ c.depth → args.length ≤ 8 →
    (Kd.int .i64).C w Aa args.length args → args.length ≤ ca → hands.length = 4 → hs.length = 4 → (∀ j (h : j < hands.length) (h' : j < hs.length), ND D w hands[j] hs[j]) → G.left < k →
    Calls Try.prog 26 #[.pointer (some ⟨c.wb, 0, none⟩), .int .i64 f, .slice A path.length cpath, .slice Aa args.length ca, .agg (hs.map Value.pointer).toArray] w
      (BegPU c l (PU c.wb vl) D (beginU l c.budget c.depth k G f path args hands) w)
def kidT (T : Tu) (t : Tr) (r : Int) : Tu := { T with kids := T.kids ++ [(t, r)], ps := T.ps ++ [⟨true, (T.kids.length : Int)⟩] }
def KidPU (c : Cu) (l : List S64) (vp vl : Value) (p : Pl) (D : Nat → Prop) (T : Tu) (rg : Int) (r : Option (Tr × Gu)) (w : World) (e : Ending) (w' : World) : Prop :=
  match r with
  | none => longCh e ∧ Keep (PQ c vl p) w w'
  | some (t, G2) => ∃ a, e = .returned (.pointer a) ∧ Keep (PQ c vl p) w w' ∧ ∃ D' ents' vl' p', ST c l D' G2 ents' vl' vp (kidT T t rg) p' w' ∧ ND D' w' t a ∧ p'.tb = p.tb ∧ p'.nb = p.nb ∧ ((∀ q, PU c.wb vl' q → PU c.wb vl q ∨ w.heap.size ≤ q) ∧ ∀ q, QU p' q → QU p q ∨ w.heap.size ≤ q) ∧ (∀ q, D q → D' q) ∧ (∀ q, D' q → D q ∨ w.heap.size ≤ q)
theorem slice_regsU (tb b ar : Nat) (hb : b < 8) (har : b + ar ≤ 8) (w : World) : (Instr.sliceAt 122 (.pointer (some ⟨tb, 2, none⟩)) (some (.int .i64 (b : Int))) (some (.int .i64 ((b : Int) + (ar : Int)))) none).run Try.prog w = .ok (.slice (some ⟨tb, 2 + b, none⟩) ar (8 - b)) w := by
  have hal : Try.prog.arrayLen 122 = 8 := by kernel_rfl
  have hel : Try.prog.elem 122 = 2 := by kernel_rfl
  have hsz : ∀ w, (sizeOf 2).run Try.prog w = .ok 1 w := fun _ => by kernel_rfl
  have ht : Try.prog.underlying 122 = some (.array (Try.prog.arrayLen 122) (Try.prog.elem 122)) := by rw [hal, hel]; exact Try.underlying122
  rw [run_sliceAt_array_lh w 122 ⟨tb, 2, none⟩ ht .i64 .i64 (b : Int) ((b : Int) + (ar : Int)) (by omega) (by omega) (by rw [hal]; omega), hel, hsz, hal]
  show Result.ok (slicedAt _ _ _ _ _) w = _
  have e1 : ((b : Int) + (ar : Int)).toNat = b + ar := by omega
  unfold slicedAt
  rw [e1, Int.toNat_natCast, if_neg (by omega), Nat.add_sub_cancel_left, Nat.mul_one]
  by_cases hb0 : b = 0
  · subst hb0; rfl
  · unfold Addr.add; simp [hb0]
section
variable {c : Cu} {l : List S64} {D : Nat → Prop} {G : Gu} {ents : List Ent} {vl vp : Value} {w : World} {T : Tu} {p : Pl}
theorem UB.argsC {wb B : Nat} (h : UB D wb vp T p B w) (b ar : Nat) (hb : b + ar ≤ 8) : ((T.regs.drop b).take ar).length = ar ∧ (Kd.int .i64).C w (some ⟨p.tb, 2 + b, none⟩) ((T.regs.drop b).take ar).length ((T.regs.drop b).take ar) := by
  have hl : ((T.regs.drop b).take ar).length = ar := by rw [List.length_take, List.length_drop, h.rl]; omega
  refine ⟨hl, rfl, by omega, fun _ => ⟨_, rfl, fun j q hj => ⟨[.int .i64 q], rfl, rfl, fun i u hu => ?_⟩⟩⟩
  have hlt := (List.getElem?_eq_some_iff.1 hj).1
  match i, hu with
  | 0, hu =>
    cases hu
    have e : (⟨p.tb, 2 + b, none⟩ : Addr).add (j * (Kd.int .i64).sz + 0) = ⟨p.tb, 2 + (b + j), none⟩ := by
      have e2 : j * (Kd.int .i64).sz + 0 = j := Nat.mul_one j
      rw [e2]
      unfold Addr.add
      by_cases hj0 : j = 0
      · subst hj0; simp
      · simp [hj0]; omega
    rw [e, h.reg (b + j) (by omega)]
    rw [List.getElem?_take_of_lt (by omega), List.getElem?_drop] at hj
    rw [List.getD_eq_getElem?_getD, hj]; rfl
theorem UB.hand4 {wb B : Nat} (h : UB D wb vp T p B w) : ∃ h0 h1 h2 h3, p.hs = [h0, h1, h2, h3] ∧ w.cell? ⟨p.tb, 10, none⟩ = some (.pointer h0) ∧ w.cell? ⟨p.tb, 11, none⟩ = some (.pointer h1) ∧ w.cell? ⟨p.tb, 12, none⟩ = some (.pointer h2) ∧ w.cell? ⟨p.tb, 13, none⟩ = some (.pointer h3) := by
  obtain ⟨r0, r1, r2, r3, r4, r5, r6, r7, h0, h1, h2, h3, hr, hh, hc⟩ := h.cells
  have hn := h.node
  rw [hc] at hn
  exact ⟨h0, h1, h2, h3, hh, blk_cell hn 10, blk_cell hn 11, blk_cell hn 12, blk_cell hn 13⟩
/-- the kid is appended to the task's. -/
theorem wpList_pushK {ops : Array Oper} {rest : List Oper} {o : Oper} {a : Act} {Q : Exit → Act → World → Prop} (hgd : o.guard = none) (s x : Operand)
    (ho : o.op = .call { callee := .builtin .append, args := #[s, x], argTypes := #[123, 123] })
    {W3 : World} (h : ST c l D G ents vl vp T p w) (hb : Below w.heap.size w W3) {A : Option Addr} {c0 m : Nat} (hvk : p.vk = .slice A T.kids.length c0) {t : Tr} {ad : Option Addr} {r : Int} (ht : ND D w t ad) (hl : T.kids.length ≤ 1000000)
    (hs : a.eval s = .slice A T.kids.length c0) (hx : a.eval x = .slice (some ⟨W3.heap.size, 0, none⟩) 1 m)
    (hK : ∀ A9 L9 c9 w9, (UB D c.wb vp { T with kids := T.kids ++ [(t, r)] } { p with vk := .slice A9 L9 c9, ka := p.ka ++ [ad] } c.B (w9.setCell ⟨p.tb, 14, none⟩ (.slice A9 L9 c9)) ∧ Keep (QU p) w (w9.setCell ⟨p.tb, 14, none⟩ (.slice A9 L9 c9)) ∧ (∀ q, QU { p with vk := .slice A9 L9 c9, ka := p.ka ++ [ad] } q → QU p q ∨ w.heap.size ≤ q) ∧ (∀ q, q < w.heap.size → p.vk.ownBlock ≠ some q → w9.heap[q]? = w.heap[q]?)) → wpList Try.prog ops Q rest (a.put o.dst (.slice A9 L9 c9)) w9) :
    wpList Try.prog ops Q (o :: rest) a (W3.alloc (.cells #[.pointer ad, .int .i64 r] 196)) := by
  have hba : Below W3.heap.size W3 (W3.alloc (.cells #[.pointer ad, .int .i64 r] 196)) := (Below.refl _ _).alloc (Nat.le_refl _) _
  have hrow := ((h.ub.below hb).below hba).rk
  rw [hvk] at hrow
  have hbase : c.B ≤ (W3.alloc (.cells #[.pointer ad, .int .i64 r] 196)).heap.size := Nat.le_trans (Nat.le_trans (Nat.le_trans h.us.eg.lo (Nat.le_of_lt (blk_lt h.us.eg.node))) hb.size) hba.size
  refine wpList_plain hgd (fun K hK2 => ?_)
  refine wp_append_rows kBg (Rr := kBg.M (W3.alloc (.cells #[.pointer ad, .int .i64 r] 196)) c.B (fun _ => False)) c.B hgd s x 123 196 (.agg #[(.pointer none), (.int .i64 0)]) 16 ho Try.underlying123 infoU196 rfl (by decide) (by decide) (.slice A T.kids.length c0) (p.ka.zip (T.kids.map (·.2))) [(ad, r)] _ _ _ (fun _ => True) (fun _ => False) hs hx hrow (reads_one (alloc_blk _ _) (kBg_mkM _ _ _ (ad, r))) (fun _ _ h => h) (fun _ h => h.elim) (fun _ _ => trivial) hbase (by rw [h.ub.zl]; omega) ?_
  intro v9 w9 hR9 hbw hgr hat
  rw [← hvk] at hgr hat
  have HN := h.ub.pushK h.qd (hb.alloc hb.size _) ht hR9 hgr hat
  obtain ⟨A9, c9, rfl⟩ := Kd.R_slice hR9
  exact hK2 _ _ (hK A9 _ c9 w9 HN)
set_option maxRecDepth 100000 in
set_option maxHeartbeats 8000000 in
theorem ukid_no {A : Option Addr} {cp : Nat} {path : List Int} (h : ST c l D G ents vl (.slice A path.length cp) T p w) (x : S61) (rg : Int) (hd : (path.length : Int) = c.depth) :
    Calls Try.prog 112 #[.pointer (some ⟨p.tb, 0, none⟩), xvU x, .int .i64 rg] w (StopPU 0 4 w) := by
  obtain ⟨x0, x1, x2, x3, x4⟩ := x
  try simp only at *
  obtain ⟨W, hW⟩ : ∃ W, W = w.alloc (.cells #[.int .i64 x0, .int .i64 (x1), .int .i64 (x2), .int .i64 (x3), .int .i64 x4] 61) := ⟨_, rfl⟩
  have hb1 : Below w.heap.size w W := by rw [hW]; exact (Below.refl w.heap.size w).alloc (Nat.le_refl _) _
  have hbx : W.heap[w.heap.size]? = some (.cells #[.int .i64 x0, .int .i64 (x1), .int .i64 (x2), .int .i64 (x3), .int .i64 x4] 61 (0, 0)) := by rw [hW]; exact alloc_blk w _
  have h1 := h.below hb1
  have c0 := blk_cell hbx 0
  have c1 := blk_cell hbx 1
  have c2 := blk_cell hbx 2
  have c3 := blk_cell hbx 3
  have c4 := blk_cell hbx 4
  have t0 := h1.ub.fix.1
  have t1 := h1.ub.fix.2.1
  have q2 := blk_cell h1.us.eg.node 2
  have HBX := Aside0.mk hbx
  have HWW := Aside0.mk hW
  have hdd : ((path.length : Int) == c.depth) = true := by simpa using hd
  have hdd2 : ((path.length : Int) = c.depth) = True := eq_true hd
  have H := Aside0.mk hb1
  clear h h1 hb1 hbx hd hW
  unfold xvU
  go_enter Try.func112, Try.ntmps112
  go_upto_region 1 with (fail)
  rw [← HWW.out]
  go_quiet (fail)
  go_wp2_with fail
  refine (ufail_any 4 _).mono ?_
  rintro e w' ⟨rfl, hb⟩
  exact ⟨rfl, rfl, (pw_below_drewN H.out _).trans (hb.mono (pw_below_drewN H.out _).size)⟩
set_option maxRecDepth 100000 in
set_option maxHeartbeats 16000000 in
theorem ukid_any {M k : Nat} {A : Option Addr} {cp : Nat} {path : List Int} {lc : Nat} (hl : POk l) (hB : BegUC c l k) (h : ST c l D G ents vl (.slice A path.length cp) T p w) (hgi : GUI M c.budget G) (hleft : G.log.length + 1 + G.left ≤ M) (hti : TU0 c.depth c.budget path T) (hM : M ≤ 1000000) (hdp : c.depth ≤ 900) (hbu : c.budget ≤ 100000)
    (hp : PathAt w A path) (hcp : path.length ≤ cp) (hcn : A = none → cp = 0) (x : S61) (hx : IOk l lc x) (hop : x.f0 = 11 ∨ x.f0 = 13) (hk : G.left < k) (hd : (path.length : Int) ≠ c.depth) (rg : Int) :
    Calls Try.prog 112 #[.pointer (some ⟨p.tb, 0, none⟩), xvU x, .int .i64 rg] w (KidPU c l (.slice A path.length cp) vl p D T rg (beginU l c.budget c.depth k G x.f3 (path ++ [(T.kids.length : Int)]) (argsU l x T) T.hands) w) := by
  have hxb := hx.b (.inr hop)
  have hxf := hx.cf hop
  obtain ⟨x0, x1, x2, x3, x4⟩ := x
  try simp only at *
  obtain ⟨b, rfl⟩ : ∃ b : Nat, x2 = b := ⟨x2.toNat, by omega⟩
  obtain ⟨f, rfl⟩ : ∃ f : Nat, x3 = f := ⟨x3.toNat, by omega⟩
  obtain ⟨W, hW⟩ : ∃ W, W = w.alloc (.cells #[.int .i64 x0, .int .i64 (x1), .int .i64 (b), .int .i64 (f), .int .i64 x4] 61) := ⟨_, rfl⟩
  have hb1 : Below w.heap.size w W := by rw [hW]; exact (Below.refl w.heap.size w).alloc (Nat.le_refl _) _
  have hbx : W.heap[w.heap.size]? = some (.cells #[.int .i64 x0, .int .i64 (x1), .int .i64 (b), .int .i64 (f), .int .i64 x4] 61 (0, 0)) := by rw [hW]; exact alloc_blk w _
  have h1 := h.below hb1
  have c0 := blk_cell hbx 0
  have c1 := blk_cell hbx 1
  have c2 := blk_cell hbx 2
  have c3 := blk_cell hbx 3
  have c4 := blk_cell hbx 4
  have t0 := h1.ub.fix.1
  have t1 := h1.ub.fix.2.1
  have q2 := blk_cell h1.us.eg.node 2
  have HBX := Aside0.mk hbx
  have HWW := Aside0.mk hW
  have hpl := hti.path_
  have hdd : ((path.length : Int) == c.depth) = false := by simpa using hd
  have hdd2 : ((path.length : Int) = c.depth) = False := eq_false hd
  obtain ⟨Ak, ck, hvk⟩ := Kd.R_slice h.ub.rk
  rw [h.ub.zl] at hvk
  have H := Aside0.mk (And.intro h1 hb1)
  have HG := Aside0.mk (And.intro hgi (And.intro hleft (And.intro hti (And.intro hM (And.intro hk (And.intro hvk hbu))))))
  have HP := Aside0.mk (And.intro (hp.below hb1) (And.intro hcp (And.intro hcn (And.intro hpl hd))))
  have HX := Aside0.mk (And.intro hxb hxf)
  obtain ⟨r, hr⟩ : ∃ r, r = beginU l c.budget c.depth k G (f : Int) (path ++ [(T.kids.length : Int)]) (argsU l ⟨x0, x1, b, f, x4⟩ T) T.hands := ⟨_, rfl⟩
  rw [← hr]
  have HR := Aside0.mk hr
  clear h h1 hb1 hbx hW hgi hleft hti hM hk hvk hp hcp hcn hpl hd hx hxb hxf hop hr hbu
  unfold xvU
  go_enter Try.func112, Try.ntmps112
  go_upto_region 1 with (fail)
  rw [← HWW.out]
  go_quiet (fail)
  clear hdd hdd2 q2
  have hs0 : Below W.heap.size W (W.drewN nq) := pw_below_drewN (Below.refl _ _) _
  obtain ⟨W1, hW1⟩ : ∃ W1, W1 = W.drewN nq := ⟨_, rfl⟩
  rw [← hW1] at hs0 ⊢
  have H1 := Aside0.mk (And.intro (H.out.1.below hs0) (And.intro (H.out.2.trans (hs0.mono H.out.2.size)) (And.intro ((hs0.block _ (blk_lt HBX.out)).trans HBX.out) (HP.out.1.below hs0))))
  have t0 := H1.out.1.ub.fix.1
  have t14 := H1.out.1.ub.fix.2.2.1
  rw [HG.out.2.2.2.2.2.1] at t14
  clear t1 c0 c1 c2 c3 c4 hs0 hW1
  go_upto_region 4 with (fail)
  have hfl : f < l.length := by have := HX.out.2; omega
  have hrd : rd_T64 l (f : Int) = l[f] := by simp [rd_T64, hfl]
  have har := (hl.fn f hfl).1
  have harb := HX.out.2.2.2
  rw [hrd] at harb
  have hargs : argsU l ⟨x0, x1, b, f, x4⟩ T = (T.regs.drop b).take l[f].f0.toNat := by unfold argsU; simp only [hrd]; rfl
  obtain ⟨ar, har2⟩ : ∃ ar : Nat, l[f].f0 = ar := ⟨l[f].f0.toNat, by omega⟩
  rw [har2, Int.toNat_natCast] at hargs
  have HAR := Aside0.mk (And.intro hargs (And.intro har2 (And.intro hfl har)))
  obtain ⟨adp, Ai, ci, hap, p0, p1, hci, hCi⟩ := at_T64 H1.out.1.us.code (f : Int) (by omega) (by omega)
  rw [hrd, Int.toNat_natCast] at p0
  rw [har2] at p0 harb
  have hb8 : b < 8 := by have := HX.out.1; omega
  have q0 := blk_cell H1.out.1.us.eg.node 0
  rw [hap] at q0
  have hfl2 : ((f : Int) < (l.length : Int)) = True := eq_true (by omega)
  have hsl := slice_regsU p.tb b ar hb8 (by omega)
  have hwr : IntKind.i64.wrap ((b : Int) + (ar : Int)) = (b : Int) + (ar : Int) := IntWalk.i64_in _ (by omega)
  have HMV := Aside0.mk (And.intro t0 (And.intro (blk_cell H1.out.2.2.1 2) (And.intro (blk_cell H1.out.2.2.1 3) (And.intro q0 p0))))
  have HB8 := Aside0.mk (And.intro hb8 (show b + ar ≤ 8 by omega))
  clear hargs har har2 harb hrd hap p1 hci hCi q0 p0 t0 t14 hb8
  refine wp_region_T (fun w' => Below W1.heap.size W1 w') [] (.takes [0, 1, 2, 3, 4, 5, 6, 7, 8, 9, 10, 11, 12, 13, 14, 15, 16, 17, 18, 19, 20] (.op 21 (.op 22 .done))) (by kernel_rfl) (by kernel_rfl) (by kernel_rfl) (by kernel_rfl) (panic_via (P := Try.prog) (fn := Try.f112) (R := KidPU c l (.slice A path.length cp) vl p D T rg r w) (fun _ _ _ => rfl)) ?_
  have hs : Below W1.heap.size W1 W1.drew := (Below.refl _ _).drew
  have hmv : ∀ {w' : World} {p : Addr} {v : Value}, Below W1.heap.size W1 w' → W1.cell? p = some v → w'.cell? p = some v := fun hS hq => (hS.cell (World.block_lt_of_cell? W1 _ hq)).trans hq
  simp only [Turns.takes]
  repeat (
    (first
      | (refine runT_take (v := ?_) (by rfl) (by rfl) (fun w' hS => ?_) hs ?_
         rotate_left
         · (have u0 := hmv hS HMV.out.1; have u2 := hmv hS HMV.out.2.1; have u3 := hmv hS HMV.out.2.2.1; have u4 := hmv hS HMV.out.2.2.2.1; have u5 := hmv hS HMV.out.2.2.2.2; go_simp; exact rfl))
      | refine runT_skip (by rfl) (by rfl) hs ?_)
    (try simp only [Act.put, List.setIfInBounds_toArray, List.set_cons_zero, List.set_cons_succ]))
  clear hsl hwr hfl2
  refine runT_op (by rfl) (by rfl) (fun K hK => ?_)
  go_simp
  obtain ⟨xs, hxs⟩ : ∃ xs, xs = (T.regs.drop b).take ar := ⟨_, rfl⟩
  have hT1 := H1.out.1.ub.below hs
  have hxl : xs.length = ar := by rw [hxs]; exact (hT1.argsC b ar HB8.out.2).1
  have hC5 : (Kd.int .i64).C W1.drew (some ⟨p.tb, 2 + b, none⟩) xs.length xs := by rw [hxs]; exact (hT1.argsC b ar HB8.out.2).2
  have hcl := clone64_any (some ⟨p.tb, 2 + b, none⟩) (8 - b) xs W1.drew hC5 (fun e => by cases e) (by have := HB8.out.2; omega)
  rw [hxl] at hcl
  refine hcl.mono ?_
  rintro e w6 ⟨v, rfl, hR6, hb6⟩
  have hs6 := hs.trans (hb6.mono hs.size)
  obtain ⟨Aa, ca, rfl⟩ := Kd.R_slice hR6
  obtain ⟨_, hca, hCa⟩ := Kd.R_reads' hR6
  have HXS := Aside0.mk (And.intro hxl (And.intro hxs (And.intro hca hCa)))
  refine hK _ _ hs6 ?_
  clear hK K hcl hC5 hT1 hR6 hb6 hs hmv hxs hca hCa
  (try simp only [Act.put, List.setIfInBounds_toArray, List.set_cons_zero, List.set_cons_succ])
  refine runT_op (by rfl) (by rfl) (fun K hK => ?_)
  go_simp
  refine hK _ _ hs6 ?_
  clear hK K
  (try simp only [Act.put, List.setIfInBounds_toArray, List.set_cons_zero, List.set_cons_succ])
  refine runT_done ?_
  have H2 := Aside0.mk (And.intro (H1.out.1.below hs6) (And.intro (H1.out.2.1.trans (hs6.mono H1.out.2.1.size)) (And.intro ((hs6.block _ (blk_lt H1.out.2.2.1)).trans H1.out.2.2.1) (H1.out.2.2.2.below hs6))))
  clear hs6
  go_upto_region 5 with (fail)
  have t0 := H2.out.1.ub.fix.1
  have t1 := H2.out.1.ub.fix.2.1
  have c3 := blk_cell H2.out.2.2.1 3
  obtain ⟨h0, h1, h2, h3, hh, q10, q11, q12, q13⟩ := H2.out.1.ub.hand4
  have HMV := Aside0.mk (And.intro t0 (And.intro t1 (And.intro c3 (And.intro q10 (And.intro q11 (And.intro q12 q13))))))
  have HH := Aside0.mk hh
  clear t0 t1 c3 q10 q11 q12 q13 hh
  refine wp_region_seq2 (fun w' => Below w6.heap.size w6 w') [19, 20] [.take 0, .take 1, .take 2, .take 3, .take 4, .take 5, .take 6, .take 7, .take 8, .take 9, .take 11, .take 14, .take 15, .take 16, .take 17, .take 18, .pair 10 12, .op 13, .fin 19, .fin 20] (by kernel_rfl) (by kernel_rfl) rfl (by kernel_rfl) (panic_via (P := Try.prog) (fn := Try.f112) (R := KidPU c l (.slice A path.length cp) vl p D T rg r w) (fun _ _ _ => rfl)) ?_
  have hs : Below w6.heap.size w6 w6.drew := (Below.refl _ _).drew
  have hmv : ∀ {w' : World} {p : Addr} {v : Value}, Below w6.heap.size w6 w' → w6.cell? p = some v → w'.cell? p = some v := fun hS hq => (hS.cell (World.block_lt_of_cell? w6 _ hq)).trans hq
  repeat (
    (first
      | (refine runSeq2_take (v := ?_) (by rfl) (by rfl) (fun w' hS => ?_) hs ?_
         rotate_left
         · (have u0 := hmv hS HMV.out.1; have u1 := hmv hS HMV.out.2.1; have u3 := hmv hS HMV.out.2.2.1; have u10 := hmv hS HMV.out.2.2.2.1; have u11 := hmv hS HMV.out.2.2.2.2.1; have u12 := hmv hS HMV.out.2.2.2.2.2.1; have u13 := hmv hS HMV.out.2.2.2.2.2.2; go_simp; exact rfl))
      | refine runSeq2_skip (by rfl) (by rfl) hs ?_)
    (try simp only [Act.put, List.setIfInBounds_toArray, List.set_cons_zero, List.set_cons_succ]))
  have hlen : path.length ≤ 1000 := by have := HP.out.2.2.2.1; omega
  have hCp := fun {w' : World} (hb : Below w6.heap.size w6 w') => H2.out.2.2.2.below hb
  clear hmv
  refine runSeq2_pairM (di := 62) (dj := 64) (fun v u w' => (Kd.int .i64).R 3 w' w6.heap.size (fun _ => True) v path ∧ ∃ bl, u = .slice (some ⟨bl, 0, none⟩) 1 1 ∧ w'.heap[bl]? = some (.cells #[.int .i64 (T.kids.length : Int)] 3 (0, 0))) (by decide) ?_ ?_ ?_
  · refine wpOp_at (by rfl) (by rfl) (fun K hK => ?_)
    go_simp
    refine (clonei_any A cp path _ ((hCp hs).C hlen) (fun e => by have h1 := HP.out.2.2.1 e; have h2 := HP.out.2.1; exact ⟨h1, List.eq_nil_of_length_eq_zero (by omega)⟩) hlen).mono ?_
    rintro e w1 ⟨v, rfl, hR, hb⟩
    have hs1 := hs.trans (hb.mono hs.size)
    refine hK _ _ ⟨v, rfl, hs1, ?_⟩
    clear hK K
    refine wpOp_at (by rfl) (by rfl) (fun K hK => ?_)
    go_simp
    exact hK _ _ ⟨_, rfl, hs1.alloc hs1.size _, Kd.R_lower (Kd.R_alloc hR _) hs.size, _, rfl, alloc_blk _ _⟩
  · refine wpOp_at (by rfl) (by rfl) (fun K hK => ?_)
    go_simp
    have hs1 := hs.alloc hs.size (.cells #[.int .i64 (T.kids.length : Int)] 3)
    refine hK _ _ ⟨_, rfl, hs1, ?_⟩
    clear hK K
    refine wpOp_at (by rfl) (by rfl) (fun K hK => ?_)
    go_simp
    refine (clonei_any A cp path _ ((hCp hs1).C hlen) (fun e => by have h1 := HP.out.2.2.1 e; have h2 := HP.out.2.1; exact ⟨h1, List.eq_nil_of_length_eq_zero (by omega)⟩) hlen).mono ?_
    rintro e w1 ⟨v, rfl, hR, hb⟩
    have ha := alloc_blk w6.drew (.cells #[.int .i64 (T.kids.length : Int)] 3)
    exact hK _ _ ⟨v, rfl, hs1.trans (hb.mono hs1.size), Kd.R_lower hR hs1.size, _, rfl, (hb.block _ (blk_lt ha)).trans ha⟩
  · rintro vv uu w3 hs3 ⟨hR3, bl, rfl, hbl⟩
    (try simp only [Act.put, List.setIfInBounds_toArray, List.set_cons_zero, List.set_cons_succ])
    refine runSeq2_op (by rfl) (by rfl) (fun K hK => ?_)
    refine wp_append_nums .i64 w6.heap.size rfl (.tmp 62) (.tmp 64) 52 3 8 rfl Try.underlying52 infoC3 (by decide) vv path [(T.kids.length : Int)] (some ⟨bl, 0, none⟩) 1 1 rfl rfl hR3 (reads_nums [(T.kids.length : Int)] hbl (by simp)) hs3.size (by omega) ?_
    intro v1 W3 hR4 hb4 hg4 hat4
    have hs4 := hs3.trans hb4
    refine hK _ _ hs4 ?_
    clear hK K hR3 hbl hs3 hb4 hg4 hat4 hs w3
    (try simp only [Act.put, List.setIfInBounds_toArray, List.set_cons_zero, List.set_cons_succ])
    obtain ⟨A', c', rfl⟩ := Kd.R_slice hR4
    have hpp := PathAt.ofR hR4 (by simp)
    have hsz : w.heap.size ≤ W3.heap.size := Nat.le_trans H2.out.2.1.size hs4.size
    have hcall := hB (M - 0) D G ents vl W3 f A' c' (path ++ [(T.kids.length : Int)]) Aa ca xs T.hands p.hs (H2.out.1.us.below hs4) HG.out.1 HG.out.2.1 HG.out.2.2.2.1 HAR.out.2.2.1 hpp.1 hpp.2.2.2 (fun e => absurd e hpp.2.1) (by have h9 := HP.out.2.2.2.1; have h8 := HP.out.2.2.2.2; rw [List.length_append]; simp; omega) (by have h1 := HXS.out.1; have h2 := HB8.out.2; omega) (Kd.C_below HXS.out.2.2.2 hs4) HXS.out.2.2.1 HG.out.2.2.1.hl H2.out.1.ub.sl (fun j h1 h2 => (H2.out.1.ub.hands j h1 h2).below hs4) HG.out.2.2.2.2.1
    rw [HXS.out.2.1, ← HAR.out.1, ← HR.out, HAR.out.1, ← HXS.out.2.1, HXS.out.1, List.length_append, show [(T.kids.length : Int)].length = 1 from rfl, HH.out] at hcall
    rw [List.length_append, show [(T.kids.length : Int)].length = 1 from rfl]
    have HC := Aside0.mk hcall
    have H3 := Aside0.mk (And.intro (H2.out.1.below hs4) (And.intro (H2.out.2.1.trans (hs4.mono H2.out.2.1.size)) ((hs4.block _ (blk_lt H2.out.2.2.1)).trans H2.out.2.2.1)))
    clear hcall hs4 hR4 hpp hCp hlen hsz
    refine runSeq2_fin (by rfl) (by rfl) (fun K hK => ?_)
    go_simp
    refine HC.out.mono ?_
    intro e w7 hpost
    clear HC HR
    cases r with
    | none =>
      obtain ⟨⟨rr, he, hrr⟩, hk7⟩ := hpost
      subst he
      exact ⟨rfl, ⟨rr, rfl, hrr⟩, ((Keep.of_below H3.out.2.1 _).trans (hk7.mono (fun q _ h => .inl h)))⟩
    | some tg =>
      obtain ⟨t, G2⟩ := tg
      obtain ⟨a, D', ents', vl', he, hk7, hU7, hN7, hq7, hD1, hD2⟩ := hpost
      subst he
      refine hK _ _ ?_
      clear hK K
      (try simp only [Act.put, List.setIfInBounds_toArray, List.set_cons_zero, List.set_cons_succ])
      refine runSeq2_fin (by rfl) (by rfl) (fun K hK => ?_)
      go_simp
      refine hK _ _ ?_
      clear hK K
      (try simp only [Act.put, List.setIfInBounds_toArray, List.set_cons_zero, List.set_cons_succ])
      refine runSeq2_nil ?_
      have hub7 := H3.out.1.ub.keep hk7 (fun q hq e => H3.out.1.ap q e hq) (fun q hq e => H3.out.1.us.dp q e hq) hD1
      have hST7 : ST c l D' G2 ents' vl' (.slice A path.length cp) T p w7 := ⟨hU7, hub7, fun q hq hd => (hD2 q hd).elim (fun e => H3.out.1.qd q hq e) (fun e => by have := H3.out.1.ub.lt q hq; omega), H3.out.1.tlo, H3.out.1.nlo, H3.out.1.kb⟩
      have hk07 : Keep (PQ c vl p) w w7 := (Keep.of_below H3.out.2.1 _).trans (hk7.mono (fun q _ h => .inl h))
      have H7 := Aside0.mk (And.intro hST7 (And.intro hN7 (And.intro hk07 (And.intro (show ∀ q, PU c.wb vl' q → PU c.wb vl q ∨ w.heap.size ≤ q from fun q hq => (hq7 q hq).imp id (fun e => Nat.le_trans H3.out.2.1.size e)) (And.intro hD1 (show ∀ q, D' q → D q ∨ w.heap.size ≤ q from fun q hq => (hD2 q hq).imp id (fun e => Nat.le_trans H3.out.2.1.size e)))))))
      have t14 := hST7.ub.fix.2.2.1
      rw [HG.out.2.2.2.2.2.1] at t14
      have hkl : T.kids.length ≤ 1000000 := by have h1 := HG.out.2.2.1.kt; have h2 := HG.out.2.2.1.steps; have h3 := HG.out.2.2.2.2.2.2; omega
      have HKL := Aside0.mk hkl
      clear hk7 hU7 hN7 hq7 hD1 hD2 hub7 hST7 hk07 hkl
      have z14 := H7.out.1.ub.frozen 14
      go_upto_region 7 with (at_builtin; refine wpList_pushK (m := 1) (by rfl) (.tmp 76) (.tmp 80) (by rfl) H7.out.1 (Below.refl _ _) HG.out.2.2.2.2.2.1 (r := rg) H7.out.2.1 HKL.out (by rfl) (by rfl) ?_; intro A9 L9 c9 w9 HN; have HN := Aside0.mk HN; have t14 := (World.cell?_of_block (a := ⟨p.tb, 14, none⟩) (HN.out.2.2.2 _ (blk_lt H7.out.1.ub.node) H7.out.1.ub.ne.kt)).trans t14; have z14 := blk_frozen ((HN.out.2.2.2 _ (blk_lt H7.out.1.ub.node) H7.out.1.ub.ne.kt).trans H7.out.1.ub.node) 14)
      obtain ⟨p1, hp1⟩ : ∃ p1 : Pl, p1 = { p with vk := .slice A9 L9 c9, ka := p.ka ++ [a] } := ⟨_, rfl⟩
      obtain ⟨W7, hW7⟩ : ∃ W7, W7 = w9.setCell ⟨p.tb, 14, none⟩ (.slice A9 L9 c9) := ⟨_, rfl⟩
      have hN := HN.out
      rw [← hW7, ← hp1] at hN
      rw [← hW7]
      obtain ⟨hub1, hk1, hq1, _⟩ := hN
      have hus1 : US c l D' G2 ents' vl' W7 := H7.out.1.us.keep hk1 (fun q hq e => H7.out.1.ap q hq e) (fun q hq e => H7.out.1.qd q e hq) (fun q cs hq e => H7.out.1.ub.notPath q cs hq e) (fun q hq e => by have := H7.out.1.qLo q e; omega)
      have hqd1 : ∀ q, QU p1 q → ¬ D' q := fun q hq hd => (hq1 q hq).elim (fun e => H7.out.1.qd q e hd) (fun e => by have := H7.out.1.us.dl q hd; omega)
      have htb1 : p1.tb = p.tb := by rw [hp1]
      have hnb1 : p1.nb = p.nb := by rw [hp1]
      have hkb1 : p1.kb = p.ka := by rw [hp1]; exact H7.out.1.kb
      have hka1 : p1.ka = p.ka ++ [a] := by rw [hp1]
      obtain ⟨As, cs, hvks⟩ := Kd.R_slice hub1.rks
      have hkbl : p1.kb.length = T.kids.length := by rw [hkb1]; exact H7.out.1.ub.al
      have hal0 := H7.out.1.ub.al
      have H8 := Aside0.mk (And.intro hub1 (And.intro hus1 (And.intro hqd1 (And.intro (And.intro htb1 hnb1) (And.intro (And.intro hkb1 hka1) (And.intro hvks (And.intro hkbl (And.intro (H7.out.2.2.1.then hk1 (fun q hq hp => .inr hp)) (And.intro hq1 hk1)))))))))
      have t19 := hub1.fix.2.2.2.2.2.2.2
      have q1 := blk_cell hub1.nd 1
      rw [hvks] at q1
      rw [htb1, hnb1] at t19
      rw [hnb1] at q1
      have HMV := Aside0.mk (And.intro t19 q1)
      clear hp1 hW7 HN t14 z14 hub1 hk1 hq1 hus1 hqd1 htb1 hnb1 hkb1 hka1 hvks hkbl t19 q1 hal0
      refine wp_region_T (fun w' => w'.heap[p.tb]? = W7.heap[p.tb]? ∧ w'.heap[p.nb]? = W7.heap[p.nb]?) [16] (.takes [0, 1, 2, 3, 4, 5, 6, 7, 8, 9, 10, 11] (.op 12 (.op 13 (.op 14 (.op 15 (.fin 16 .done)))))) (by kernel_rfl) (by kernel_rfl) (by kernel_rfl) (by kernel_rfl) (panic_via (P := Try.prog) (fn := Try.f112) (R := KidPU c l (.slice A path.length cp) vl p D T rg (some (t, G2)) w) (fun _ _ _ => rfl)) ?_
      have hs : W7.drew.heap[p.tb]? = W7.heap[p.tb]? ∧ W7.drew.heap[p.nb]? = W7.heap[p.nb]? := ⟨rfl, rfl⟩
      simp only [Turns.takes]
      repeat (
        (first
          | (refine runT_take (v := ?_) (by rfl) (by rfl) (fun w' hS => ?_) hs ?_
             rotate_left
             · (have t19 := (World.cell?_of_block (w := W7) (a := ⟨p.tb, 19, none⟩) hS.1).trans HMV.out.1; have q1 := (World.cell?_of_block (w := W7) (a := ⟨p.nb, 1, none⟩) hS.2).trans HMV.out.2; go_simp; exact rfl))
          | refine runT_skip (by rfl) (by rfl) hs ?_)
        (try simp only [Act.put, List.setIfInBounds_toArray, List.set_cons_zero, List.set_cons_succ]))
      refine runT_op (by rfl) (by rfl) (fun K hK => ?_)
      go_simp
      have hb2 : Below W7.heap.size W7 (W7.drew.alloc (.cells #[.pointer a] 28)) := (Below.refl _ _).drew.alloc (by exact Nat.le_refl _) _
      have hnd1 : W7.heap[p.nb]? = _ := H8.out.2.2.2.1.2 ▸ H8.out.1.nd
      have htd1 : W7.heap[p.tb]? = _ := H8.out.2.2.2.1.1 ▸ H8.out.1.node
      refine hK _ _ ⟨hb2.block _ (blk_lt htd1), hb2.block _ (blk_lt hnd1)⟩ ?_
      clear hK K
      (try simp only [Act.put, List.setIfInBounds_toArray, List.set_cons_zero, List.set_cons_succ])
      refine runT_op (by rfl) (by rfl) (fun K hK => ?_)
      have hrow := (H8.out.1.below hb2).rks
      have hvks := H8.out.2.2.2.2.2.1
      have hkl := HKL.out
      have hkbl := H8.out.2.2.2.2.2.2.1
      have hBs : c.B ≤ (W7.drew.alloc (.cells #[.pointer a] 28)).heap.size := Nat.le_trans (Nat.le_trans H8.out.2.1.eg.lo (Nat.le_of_lt (blk_lt H8.out.2.1.eg.node))) hb2.size
      refine wp_append_rows kP (Rr := kP.M (W7.drew.alloc (.cells #[.pointer a] 28)) c.B (fun _ => False)) c.B rfl (.tmp 94) (.tmp 96) 68 28 (.pointer none) 8 rfl Try.underlying68 infoU28 rfl (by decide) (by decide) (.slice As p1.kb.length cs) p1.kb [a] _ _ _ (fun _ => True) (fun _ => False) rfl rfl (by rw [← hvks]; exact hrow) (reads_one (alloc_blk _ _) (kP_mkM _ _ _ a)) (fun _ _ h => h) (fun _ h => h.elim) (fun _ _ => trivial) hBs (by rw [hkbl]; omega) ?_
      intro v9 w9 hR9 hbw hgr hat
      rw [← hvks] at hgr hat
      have hP := H8.out.1.pushKs H8.out.2.2.1 hb2 hR9 hgr hat
      have hE9 : w9.heap[p.tb]? = W7.heap[p.tb]? ∧ w9.heap[p.nb]? = W7.heap[p.nb]? := by
        have h1 := hP.2.2.2 _ (blk_lt H8.out.1.node) H8.out.1.ne.st
        have h2 := hP.2.2.2 _ (blk_lt H8.out.1.nd) H8.out.1.ne.sn
        rw [H8.out.2.2.2.1.1] at h1
        rw [H8.out.2.2.2.1.2] at h2
        exact ⟨h1, h2⟩
      obtain ⟨A10, c10, rfl⟩ := Kd.R_slice hR9
      have q1 := (World.cell?_of_block (a := ⟨p.nb, 1, none⟩) hE9.2).trans HMV.out.2
      have z1 := blk_frozen (hE9.2.trans hnd1) 1
      generalize (p1.kb ++ [a]).length = L10 at hP ⊢
      have HP2 := Aside0.mk hP
      clear hP hR9 hbw hgr hat hrow hvks hb2 hs hkl hkbl hBs hnd1 htd1
      refine hK _ _ hE9 ?_
      clear hK K
      (try simp only [Act.put, List.setIfInBounds_toArray, List.set_cons_zero, List.set_cons_succ])
      refine runT_op (by rfl) (by rfl) (fun K hK => ?_)
      go_simp
      refine hK _ _ hE9 ?_
      clear hK K
      (try simp only [Act.put, List.setIfInBounds_toArray, List.set_cons_zero, List.set_cons_succ])
      refine runT_op (by rfl) (by rfl) (fun K hK => ?_)
      go_simp
      refine hK _ _ hE9 ?_
      clear hK K
      (try simp only [Act.put, List.setIfInBounds_toArray, List.set_cons_zero, List.set_cons_succ])
      refine runT_fin (by rfl) (by rfl) (fun K hK => ?_)
      go_simp
      refine hK _ _ ?_
      clear hK K hE9 z1 q1
      (try simp only [Act.put, List.setIfInBounds_toArray, List.set_cons_zero, List.set_cons_succ])
      refine runT_done ?_
      obtain ⟨W8, hW8⟩ : ∃ W8, W8 = w9.setCell ⟨p.nb, 1, none⟩ (.slice A10 L10 c10) := ⟨_, rfl⟩
      obtain ⟨p2, hp2⟩ : ∃ p2 : Pl, p2 = { p1 with vks := .slice A10 L10 c10, kb := p1.kb ++ [a] } := ⟨_, rfl⟩
      have hP := HP2.out
      have ew : w9.setCell ⟨p1.nb, 1, none⟩ (.slice A10 L10 c10) = W8 := by rw [H8.out.2.2.2.1.2]; exact hW8.symm
      rw [ew, ← hp2] at hP
      rw [← hW8]
      obtain ⟨hub2, hk2, hq2, _⟩ := hP
      have hq12 : ∀ q, QU p1 q → ¬ PU c.wb vl' q := fun q hq hp => apartU H8.out.2.1.eg H8.out.1 q hp hq
      have hlo1 : ∀ q, QU p1 q → c.w0.heap.size ≤ q := fun q hq => (H8.out.2.2.2.2.2.2.2.2.1 q hq).elim (fun e => H7.out.1.qLo q e) (fun e => by have := H7.out.1.us.bl.size; omega)
      have hus2 : US c l D' G2 ents' vl' W8 := H8.out.2.1.keep hk2 (fun q hq e => hq12 q e hq) (fun q hq e => H8.out.2.2.1 q e hq) (fun q cs hq e => H8.out.1.notPath q cs hq e) (fun q hq e => by have := hlo1 q e; omega)
      have hqd2 : ∀ q, QU p2 q → ¬ D' q := fun q hq hd => (hq2 q hq).elim (fun e => H8.out.2.2.1 q e hd) (fun e => by have := H8.out.2.1.dl q hd; omega)
      have htb2 : p2.tb = p.tb := by rw [hp2]; exact H8.out.2.2.2.1.1
      have hnb2 : p2.nb = p.nb := by rw [hp2]; exact H8.out.2.2.2.1.2
      have hkb2 : p2.kb = p2.ka := by rw [hp2]; show p1.kb ++ [a] = p1.ka; rw [H8.out.2.2.2.2.1.1, H8.out.2.2.2.2.1.2]
      have hST8 : ST c l D' G2 ents' vl' (.slice A path.length cp) { T with kids := T.kids ++ [(t, rg)] } p2 W8 := ⟨hus2, hub2, hqd2, by rw [htb2]; exact H7.out.1.tlo, by rw [hnb2]; exact H7.out.1.nlo, hkb2⟩
      have hqa : ∀ q, QU p2 q → QU p q ∨ w.heap.size ≤ q := fun q hq => (hq2 q hq).elim (fun e => (H8.out.2.2.2.2.2.2.2.2.1 q e).imp id (fun e => Nat.le_trans H7.out.2.2.1.size e)) (fun e => .inr (Nat.le_trans H8.out.2.2.2.2.2.2.2.1.size e))
      have hka : Keep (PQ c vl p) w W8 := H8.out.2.2.2.2.2.2.2.1.then hk2 (fun q hq hp => (H8.out.2.2.2.2.2.2.2.2.1 q hp).elim (fun e => .inr e) (fun e => by have := H7.out.2.2.1.size; omega))
      have hnd8 : ND D' W8 t a := (H7.out.2.1.keep (fun _ h => h) H8.out.2.2.2.2.2.2.2.2.2 (fun q hq e => H7.out.1.qd q e hq)).keep (fun _ h => h) hk2 (fun q hq e => H8.out.2.2.1 q e hq)
      obtain ⟨Ap, cpp, hvps⟩ := Kd.R_slice hub2.rps
      have H9 := Aside0.mk (And.intro hST8 (And.intro (And.intro htb2 hnb2) (And.intro hqa (And.intro hka (And.intro hnd8 hvps)))))
      have t19 := hub2.fix.2.2.2.2.2.2.2
      have q0 := blk_cell hub2.nd 0
      rw [hvps] at q0
      rw [htb2, hnb2] at t19
      rw [hnb2] at q0
      have HMV := Aside0.mk (And.intro t19 q0)
      clear HP2 hW8 hp2 hub2 hk2 hq2 hq12 hlo1 hus2 hqd2 htb2 hnb2 hkb2 hST8 hqa hka hnd8 hvps t19 q0
      go_upto_region 8 with (fail)
      refine wp_region_T (fun w' => w'.heap[p.tb]? = W8.heap[p.tb]? ∧ w'.heap[p.nb]? = W8.heap[p.nb]?) [17] (.takes [0, 1, 2, 3, 4, 5, 6, 7, 8, 9, 10, 11, 12] (.op 13 (.op 14 (.op 15 (.op 16 (.fin 17 .done)))))) (by kernel_rfl) (by kernel_rfl) (by kernel_rfl) (by kernel_rfl) (panic_via (P := Try.prog) (fn := Try.f112) (R := KidPU c l (.slice A path.length cp) vl p D T rg (some (t, G2)) w) (fun _ _ _ => rfl)) ?_
      have hs : W8.drew.heap[p.tb]? = W8.heap[p.tb]? ∧ W8.drew.heap[p.nb]? = W8.heap[p.nb]? := ⟨rfl, rfl⟩
      simp only [Turns.takes]
      repeat (
        (first
          | (refine runT_take (v := ?_) (by rfl) (by rfl) (fun w' hS => ?_) hs ?_
             rotate_left
             · (have t19 := (World.cell?_of_block (w := W8) (a := ⟨p.tb, 19, none⟩) hS.1).trans HMV.out.1; have q0 := (World.cell?_of_block (w := W8) (a := ⟨p.nb, 0, none⟩) hS.2).trans HMV.out.2; go_simp; exact rfl))
          | refine runT_skip (by rfl) (by rfl) hs ?_)
        (try simp only [Act.put, List.setIfInBounds_toArray, List.set_cons_zero, List.set_cons_succ]))
      refine runT_op (by rfl) (by rfl) (fun K hK => ?_)
      go_simp
      have hb2 : Below W8.heap.size W8 (W8.drew.alloc (.cells #[.bool true, .int .i64 (T.kids.length : Int)] 86)) := (Below.refl _ _).drew.alloc (by exact Nat.le_refl _) _
      have hnd1 : W8.heap[p.nb]? = _ := H9.out.2.1.2 ▸ H9.out.1.ub.nd
      have htd1 : W8.heap[p.tb]? = _ := H9.out.2.1.1 ▸ H9.out.1.ub.node
      refine hK _ _ ⟨hb2.block _ (blk_lt htd1), hb2.block _ (blk_lt hnd1)⟩ ?_
      clear hK K
      (try simp only [Act.put, List.setIfInBounds_toArray, List.set_cons_zero, List.set_cons_succ])
      refine runT_op (by rfl) (by rfl) (fun K hK => ?_)
      have hrow := (H9.out.1.ub.below hb2).rps
      have hvps := H9.out.2.2.2.2.2
      have hkl : T.ps.length ≤ 2000000 := by have h1 := HG.out.2.2.1.pl; have h2 := HG.out.2.2.1.kt; have h3 := HG.out.2.2.1.steps; have h4 := HG.out.2.2.2.2.2.2; omega
      have hBs : c.B ≤ (W8.drew.alloc (.cells #[.bool true, .int .i64 (T.kids.length : Int)] 86)).heap.size := Nat.le_trans (Nat.le_trans H9.out.1.us.eg.lo (Nat.le_of_lt (blk_lt H9.out.1.us.eg.node))) hb2.size
      refine wp_append_rows kPc (Rr := kPc.M (W8.drew.alloc (.cells #[.bool true, .int .i64 (T.kids.length : Int)] 86)) c.B (fun _ => False)) c.B rfl (.tmp 110) (.tmp 113) 67 86 (.agg #[.bool false, .int .i64 0]) 16 rfl Try.underlying67 infoU86 rfl (by decide) (by decide) (.slice Ap T.ps.length cpp) T.ps [⟨true, (T.kids.length : Int)⟩] _ _ _ (fun _ => True) (fun _ => False) rfl rfl (by rw [← hvps]; exact hrow) (reads_one (alloc_blk _ _) (kPc_mkM _ _ _ ⟨true, (T.kids.length : Int)⟩)) (fun _ _ h => h) (fun _ h => h.elim) (fun _ _ => trivial) hBs (by omega) ?_
      intro v9 w9 hR9 hbw hgr hat
      rw [← hvps] at hgr hat
      have hP := H9.out.1.ub.pushPs H9.out.1.qd hb2 hR9 hgr hat
      have hE9 : w9.heap[p.tb]? = W8.heap[p.tb]? ∧ w9.heap[p.nb]? = W8.heap[p.nb]? := by
        have h1 := hP.2.2.2 _ (blk_lt H9.out.1.ub.node) H9.out.1.ub.ne.pt
        have h2 := hP.2.2.2 _ (blk_lt H9.out.1.ub.nd) H9.out.1.ub.ne.pn
        rw [H9.out.2.1.1] at h1
        rw [H9.out.2.1.2] at h2
        exact ⟨h1, h2⟩
      obtain ⟨A11, c11, rfl⟩ := Kd.R_slice hR9
      have q0 := (World.cell?_of_block (a := ⟨p.nb, 0, none⟩) hE9.2).trans HMV.out.2
      have z0 := blk_frozen (hE9.2.trans hnd1) 0
      generalize (T.ps ++ [({ f0 := true, f1 := (T.kids.length : Int) } : Pc)]).length = L11 at hP ⊢
      have HP2 := Aside0.mk hP
      clear hP hR9 hbw hgr hat hrow hvps hb2 hs hkl hBs hnd1 htd1
      refine hK _ _ hE9 ?_
      clear hK K
      (try simp only [Act.put, List.setIfInBounds_toArray, List.set_cons_zero, List.set_cons_succ])
      refine runT_op (by rfl) (by rfl) (fun K hK => ?_)
      go_simp
      refine hK _ _ hE9 ?_
      clear hK K
      (try simp only [Act.put, List.setIfInBounds_toArray, List.set_cons_zero, List.set_cons_succ])
      refine runT_op (by rfl) (by rfl) (fun K hK => ?_)
      go_simp
      refine hK _ _ hE9 ?_
      clear hK K
      (try simp only [Act.put, List.setIfInBounds_toArray, List.set_cons_zero, List.set_cons_succ])
      refine runT_fin (by rfl) (by rfl) (fun K hK => ?_)
      go_simp
      refine hK _ _ ?_
      clear hK K hE9 z0 q0
      (try simp only [Act.put, List.setIfInBounds_toArray, List.set_cons_zero, List.set_cons_succ])
      refine runT_done ?_
      go_wp2_with fail
      go_ret
      have hP := HP2.out
      obtain ⟨hub3, hk3, hq3, _⟩ := hP
      have ew : w9.setCell ⟨p2.nb, 0, none⟩ (.slice A11 L11 c11) = w9.setCell ⟨p.nb, 0, none⟩ (.slice A11 L11 c11) := by rw [H9.out.2.1.2]
      rw [ew] at hub3 hk3
      have hS3 := H9.out.1.rows hub3 hk3 rfl rfl H9.out.1.kb hq3
      refine ⟨a, rfl, H9.out.2.2.2.1.then hk3 (fun q hq hp => (H9.out.2.2.1 q hp).elim (fun e => .inr e) (fun e => absurd hq (by omega))), D', ents', vl', _, hS3, H9.out.2.2.2.2.1.keep (fun _ h => h) hk3 (fun q hq e => H9.out.1.qd q e hq), H9.out.2.1.1, H9.out.2.1.2, ⟨H7.out.2.2.2.1, fun q hq => ?_⟩, H7.out.2.2.2.2.1, H7.out.2.2.2.2.2⟩
      rcases hq3 q hq with e | e
      · exact H9.out.2.2.1 q e
      · exact .inr (Nat.le_trans H9.out.2.2.2.1.size e)
end
end Go.Proofs.Ytbekjccehhaljaa.H

set_option linter.unusedVariables false
set_option linter.unusedSimpArgs false
namespace Go.Proofs.Ytbekjccehhaljaa.H
open Go.RowKit Go.Hay Go.Proofs.YtbekjccehhaljaaW.PrintWords Go.Proofs.YtbekjccehhaljaaW.PrintLast Go.Proofs.YtbekjccehhaljaaW.PrintMore
/-- what a task needs that does an instruction. -/
structure KU (c : Cu) (l : List S64) (M k : Nat) (A : Option Addr) (cp : Nat) (path : List Int) (lc : Nat) (T : Tu) (G : Gu) (x : S61) (w : World) : Prop where
  hl : POk l
  hB : BegUC c l k
  hgi : GUI M c.budget G
  hleft : G.log.length + 1 + G.left ≤ M
  hti : TU0 c.depth c.budget path T
  hM : M ≤ 1000000
  hdp : c.depth ≤ 900
  hbu : c.budget ≤ 100000
  hp : PathAt w A path
  hcp : path.length ≤ cp
  hcn : A = none → cp = 0
  hx : IOk l lc x
  hk : G.left < k
/-- what an instruction comes to that begins a task. -/
def kidSU (d : Int) (path : List Int) (x : S61) (T : Tu) (G : Gu) (r : Option (Tr × Gu)) : SU :=
  if (path.length : Int) = d then .stop 0 4 T G else match r with
    | none => .long
    | some (t, G2) => kidGo x T t G2
theorem kidSU_deep {d : Int} {path : List Int} {x : S61} {T : Tu} {G : Gu} {r : Option (Tr × Gu)} (h : (path.length : Int) = d) : kidSU d path x T G r = .stop 0 4 T G := by unfold kidSU; rw [if_pos h]
theorem kidSU_none {d : Int} {path : List Int} {x : S61} {T : Tu} {G : Gu} (h : (path.length : Int) ≠ d) : kidSU d path x T G none = .long := by unfold kidSU; rw [if_neg h]
theorem kidSU_some {d : Int} {path : List Int} {x : S61} {T : Tu} {G : Gu} {t : Tr} {G2 : Gu} (h : (path.length : Int) ≠ d) : kidSU d path x T G (some (t, G2)) = kidGo x T t G2 := by unfold kidSU; rw [if_neg h]
theorem stepU_kid {l : List S64} {b d : Int} {k : Nat} {path : List Int} {x : S61} {T : Tu} {G : Gu} (hop : x.f0 = 11 ∨ x.f0 = 13) : stepU l d (runU l b d k) path x T G = kidSU d path x T G (beginU l b d k G x.f3 (path ++ [(T.kids.length : Int)]) (argsU l x T) T.hands) := by
  unfold stepU beginU kidSU
  rw [if_neg (by omega), if_neg (by omega), if_neg (by omega), if_neg (by omega), if_neg (by omega), if_pos hop]
  by_cases hd : (path.length : Int) = d
  · rw [if_pos hd, if_pos hd]
  · rw [if_neg hd, if_neg hd]
    cases runU l b d k G (path ++ [(T.kids.length : Int)]) (rd_T64 l x.f3).f1 (newTu (argsU l x T) T.hands) with
    | none => rfl
    | some r => obtain ⟨v, f, T2, G2⟩ := r; rfl
section
variable {c : Cu} {l : List S64} {D : Nat → Prop} {G : Gu} {ents : List Ent} {vl vp : Value} {w : World} {T : Tu} {p : Pl} {M k lc cp : Nat} {A : Option Addr} {path : List Int} {x : S61}
theorem KU.below {w1 : World} (h : KU c l M k A cp path lc T G x w) (hb : Below w.heap.size w w1) : KU c l M k A cp path lc T G x w1 := ⟨h.hl, h.hB, h.hgi, h.hleft, h.hti, h.hM, h.hdp, h.hbu, h.hp.below hb, h.hcp, h.hcn, h.hx, h.hk⟩
/-- an instruction's box is apart. -/
theorem box_apart (h : ST c l D G ents vl vp T p w) {q : Nat} {cs : Array Value} (hq : w.heap[q]? = some (.cells cs 61 (0, 0))) : ¬ PQ c vl p q := fun e => e.elim (fun e => h.us.eg.not hq (by decide) e) (fun e => h.ub.not hq (by decide) e)
theorem kid_begun (K : KU c l M k A cp path lc T G x w) (hop : x.f0 = 11 ∨ x.f0 = 13) (h : ST c l D G ents vl (.slice A path.length cp) T p w) (rg : Int) :
    Calls Try.prog 112 #[.pointer (some ⟨p.tb, 0, none⟩), xvU x, .int .i64 rg] w fun e w' =>
      ((path.length : Int) = c.depth ∧ StopPU 0 4 w e w') ∨ ((path.length : Int) ≠ c.depth ∧ KidPU c l (.slice A path.length cp) vl p D T rg (beginU l c.budget c.depth k G x.f3 (path ++ [(T.kids.length : Int)]) (argsU l x T) T.hands) w e w') := by
  by_cases hd : (path.length : Int) = c.depth
  · exact (ukid_no h x rg hd).mono fun _ _ hp => .inl ⟨hd, hp⟩
  · exact (ukid_any K.hl K.hB h K.hgi K.hleft K.hti K.hM K.hdp K.hbu K.hp K.hcp K.hcn x K.hx hop K.hk hd rg).mono fun _ _ hp => .inr ⟨hd, hp⟩
set_option maxRecDepth 100000 in
set_option maxHeartbeats 8000000 in
theorem uspawn_any (K : KU c l M k A cp path lc T G x w) (hop : x.f0 = 11) (h : ST c l D G ents vl (.slice A path.length cp) T p w) :
    Calls Try.prog 83 #[.pointer (some ⟨p.tb, 0, none⟩), xvU x] w (StepPU c l p.tb p.nb (.slice A path.length cp) (PU c.wb vl) (QU p) D (stepU l c.depth (runU l c.budget c.depth k) path x T G) w) := by
  rw [stepU_kid (.inl hop)]
  obtain ⟨x0, x1, x2, x3, x4⟩ := x
  try simp only at *
  obtain ⟨W, hW⟩ : ∃ W, W = w.alloc (.cells #[.int .i64 x0, .int .i64 (x1), .int .i64 (x2), .int .i64 (x3), .int .i64 x4] 61) := ⟨_, rfl⟩
  have hb1 : Below w.heap.size w W := by rw [hW]; exact (Below.refl w.heap.size w).alloc (Nat.le_refl _) _
  have hbx : W.heap[w.heap.size]? = some (.cells #[.int .i64 x0, .int .i64 (x1), .int .i64 (x2), .int .i64 (x3), .int .i64 x4] 61 (0, 0)) := by rw [hW]; exact alloc_blk w _
  have h1 := h.below hb1
  have c0 := blk_cell hbx 0
  have c1 := blk_cell hbx 1
  have c2 := blk_cell hbx 2
  have c3 := blk_cell hbx 3
  have c4 := blk_cell hbx 4
  have t0 := h1.ub.fix.1
  have HBX := Aside0.mk hbx
  have HWW := Aside0.mk hW
  have hkid := kid_begun (K.below hb1) (.inl hop) h1 x1
  obtain ⟨r, hr⟩ : ∃ r, r = beginU l c.budget c.depth k G x3 (path ++ [(T.kids.length : Int)]) (argsU l ⟨x0, x1, x2, x3, x4⟩ T) T.hands := ⟨_, rfl⟩
  rw [← hr] at hkid ⊢
  obtain ⟨R, hRR⟩ : ∃ R : SU, R = kidSU c.depth path ⟨x0, x1, x2, x3, x4⟩ T G r := ⟨_, rfl⟩
  rw [← hRR]
  have HRR := Aside0.mk hRR
  clear hRR
  unfold xvU at hkid
  simp only at hkid
  have HK := Aside0.mk hkid
  have H := Aside0.mk (And.intro h1 (And.intro hb1 hop))
  clear h h1 hb1 hbx hW hop hkid hr K
  unfold xvU
  go_enter Try.func83, Try.ntmps83
  go_upto_region 1 with (fail)
  rw [← HWW.out]
  go_wp2_with fail
  refine HK.out.mono ?_
  intro e w1 hpost
  clear HK HWW c0 c1 c2 c3 c4 t0
  rcases hpost with ⟨hd, he, hb⟩ | ⟨hd, hpost⟩
  · subst he
    rw [HRR.out, kidSU_deep hd]
    exact ⟨rfl, rfl, ((H.out.1.below hb)).left (p0 := p) (Keep.of_below (H.out.2.1.trans (hb.mono H.out.2.1.size)) _) rfl rfl (fun q hq => .inl hq) (fun q hq => .inl hq) (fun q hq => hq) (fun q hq => .inl hq)⟩
  · have HD := Aside0.mk hd
    cases r with
    | none =>
      obtain ⟨⟨rr, he, hrr⟩, hk7⟩ := hpost
      subst he
      rw [HRR.out, kidSU_none hd]
      exact ⟨rfl, ⟨rr, rfl, hrr⟩, (Keep.of_below H.out.2.1 _).trans hk7⟩
    | some tg =>
      obtain ⟨t, G2⟩ := tg
      obtain ⟨a, he, hk7, D', ents', vl', p', hS, hN, ht, hn, hq, hD1, hD2⟩ := hpost
      subst he
      have HF := Aside0.mk (show StepPU c l p.tb p.nb (.slice A path.length cp) (PU c.wb vl) (QU p) D (kidGo ⟨x0, x1, x2, x3, x4⟩ T t G2) w (.returned (.tuple #[])) w1 from by
        unfold kidGo
        rw [if_pos H.out.2.2]
        exact ⟨rfl, (Keep.of_below H.out.2.1 _).trans hk7, D', ents', vl', p', hS, ht, hn, ⟨fun q h9 => (hq.1 q h9).imp id (fun e => Nat.le_trans H.out.2.1.size e), fun q h9 => (hq.2 q h9).imp id (fun e => Nat.le_trans H.out.2.1.size e)⟩, hD1, fun q h9 => (hD2 q h9).imp id (fun e => Nat.le_trans H.out.2.1.size e)⟩)
      clear hk7 hS hN ht hn hq hD1 hD2 hd
      go_wp2_with fail
      go_end0
      rw [HRR.out, kidSU_some HD.out]
      exact HF.out
set_option maxRecDepth 100000 in
set_option maxHeartbeats 8000000 in
theorem ufuture_any (K : KU c l M k A cp path lc T G x w) (hop : x.f0 = 13) (h : ST c l D G ents vl (.slice A path.length cp) T p w) :
    Calls Try.prog 85 #[.pointer (some ⟨p.tb, 0, none⟩), xvU x] w (StepPU c l p.tb p.nb (.slice A path.length cp) (PU c.wb vl) (QU p) D (stepU l c.depth (runU l c.budget c.depth k) path x T G) w) := by
  rw [stepU_kid (.inr hop)]
  have ha := K.hx.a13 hop
  have hini := runU_ok K.hl (budget := c.budget) (depth := c.depth)
  obtain ⟨x0, x1, x2, x3, x4⟩ := x
  try simp only at *
  obtain ⟨a, rfl⟩ : ∃ a : Nat, x1 = a := ⟨x1.toNat, by omega⟩
  obtain ⟨W, hW⟩ : ∃ W, W = w.alloc (.cells #[.int .i64 x0, .int .i64 (a), .int .i64 (x2), .int .i64 (x3), .int .i64 x4] 61) := ⟨_, rfl⟩
  have hb1 : Below w.heap.size w W := by rw [hW]; exact (Below.refl w.heap.size w).alloc (Nat.le_refl _) _
  have hbx : W.heap[w.heap.size]? = some (.cells #[.int .i64 x0, .int .i64 (a), .int .i64 (x2), .int .i64 (x3), .int .i64 x4] 61 (0, 0)) := by rw [hW]; exact alloc_blk w _
  have h1 := h.below hb1
  have c0 := blk_cell hbx 0
  have c1 := blk_cell hbx 1
  have c2 := blk_cell hbx 2
  have c3 := blk_cell hbx 3
  have c4 := blk_cell hbx 4
  have t0 := h1.ub.fix.1
  have HBX := Aside0.mk hbx
  have HWW := Aside0.mk hW
  have hkid := kid_begun (K.below hb1) (.inr hop) h1 (-1)
  have hleft := K.hleft
  have hM := K.hM
  obtain ⟨r, hr⟩ : ∃ r, r = beginU l c.budget c.depth k G x3 (path ++ [(T.kids.length : Int)]) (argsU l ⟨x0, a, x2, x3, x4⟩ T) T.hands := ⟨_, rfl⟩
  have hcell : ∀ t G2, (path.length : Int) ≠ c.depth → r = some (t, G2) → G2.cells ≤ 1000000 := by
    intro t G2 hd hrr
    rw [hr] at hrr
    unfold beginU at hrr
    have hb0 : 0 ≤ c.budget := by have h1 := K.hti.steps; omega
    have hcf := K.hx.cf (.inr hop)
    obtain ⟨f, hf⟩ : ∃ f : Nat, x3 = f := ⟨x3.toNat, by have := hcf.1; show x3 = _; have h2 : (0 : Int) ≤ x3 := this; omega⟩
    have hfl : f < l.length := by have h2 : x3 < l.length := hcf.2.1; omega
    have hrd : rd_T64 l x3 = l[f] := by rw [hf]; simp [rd_T64, hfl]
    have hni := new_inv K.hl hb0 f hfl (path := path ++ [(T.kids.length : Int)]) (depth := c.depth) (by have := K.hti.path_; rw [List.length_append]; simp; omega) (argsU l ⟨x0, a, x2, x3, x4⟩ T) (argsU_len l _ T K.hti.rl) T.hands K.hti.hl
    rw [hrd] at hrr
    cases hq : runU l c.budget c.depth k G (path ++ [(T.kids.length : Int)]) l[f].f1 (newTu (argsU l ⟨x0, a, x2, x3, x4⟩ T) T.hands) with
    | none => rw [hq] at hrr; cases hrr
    | some rr =>
      obtain ⟨v, f', T2, G3⟩ := rr
      rw [hq] at hrr
      obtain ⟨g1, g2, g3, g4⟩ := hini hb0 k M G _ f hfl _ K.hgi hleft hni v f' T2 G3 hq
      cases hrr
      show G3.cells ≤ 1000000
      have := g1.cells
      omega
  rw [← hr] at hkid ⊢
  obtain ⟨R, hRR⟩ : ∃ R : SU, R = kidSU c.depth path ⟨x0, a, x2, x3, x4⟩ T G r := ⟨_, rfl⟩
  rw [← hRR]
  have HRR := Aside0.mk hRR
  clear hRR
  unfold xvU at hkid
  simp only at hkid
  have HK := Aside0.mk (fun {w1 : World} (hb : W = w1) => hkid)
  have H := Aside0.mk (And.intro h1 (And.intro hb1 (And.intro hop (And.intro ha hcell))))
  have HKU := Aside0.mk (K.below hb1)
  have HR := Aside0.mk hr
  have ha8 : ((a : Int) < 4) = True := eq_true ha.2
  clear h h1 hb1 hbx hW hop hkid hr K ha hcell hini hleft hM
  unfold xvU
  go_enter Try.func85, Try.ntmps85
  go_upto_region 1 with (fail)
  rw [← HWW.out]
  clear c0 c1 c2 c3 c4 t0
  refine wp_region_T (fun w' => w'.heap[w.heap.size]? = W.heap[w.heap.size]?) [9] (.takes [0, 1, 2, 3, 4, 6, 7] (.op 5 (.op 8 (.fin 9 .done)))) (by kernel_rfl) (by kernel_rfl) (by kernel_rfl) (by kernel_rfl) (panic_via (P := Try.prog) (fn := Try.f85) (R := StepPU c l p.tb p.nb (.slice A path.length cp) (PU c.wb vl) (QU p) D R w) (fun _ _ _ => rfl)) ?_
  have hs : W.drew.heap[w.heap.size]? = W.heap[w.heap.size]? := rfl
  simp only [Turns.takes]
  repeat (
    (first
      | (refine runT_take (v := ?_) (by rfl) (by rfl) (fun w' hS => ?_) hs ?_
         rotate_left
         · (have hx := hS.trans HBX.out; have c0 := blk_cell hx 0; have c1 := blk_cell hx 1; have c2 := blk_cell hx 2; have c3 := blk_cell hx 3; have c4 := blk_cell hx 4; go_simp; exact rfl))
      | refine runT_skip (by rfl) (by rfl) hs ?_)
    (try simp only [Act.put, List.setIfInBounds_toArray, List.set_cons_zero, List.set_cons_succ]))
  refine runT_op (by rfl) (by rfl) (fun K hK => ?_)
  go_simp
  have hbd : Below W.heap.size W W.drew := (Below.refl _ _).drew
  have hST := H.out.1.below hbd
  have hkid := kid_begun (HKU.out.below hbd) (.inr H.out.2.2.1) hST (-1)
  rw [← HR.out] at hkid
  unfold xvU at hkid
  simp only at hkid
  refine hkid.mono ?_
  clear hkid
  intro e w1 hpost
  have hbx := (hbd.block _ (blk_lt HBX.out)).trans HBX.out
  rcases hpost with ⟨hd, he, hb⟩ | ⟨hd, hpost⟩
  · subst he
    rw [HRR.out, kidSU_deep hd]
    exact ⟨rfl, rfl, (hST.below hb).left (p0 := p) (Keep.of_below ((H.out.2.1.trans (hbd.mono H.out.2.1.size)).trans (hb.mono (hbd.mono H.out.2.1.size |>.size |> fun _ => Nat.le_trans H.out.2.1.size hbd.size))) _) rfl rfl (fun q hq => .inl hq) (fun q hq => .inl hq) (fun q hq => hq) (fun q hq => .inl hq)⟩
  · have HD := Aside0.mk hd
    cases r with
    | none =>
      obtain ⟨⟨rr, he, hrr⟩, hk7⟩ := hpost
      subst he
      rw [HRR.out, kidSU_none hd]
      exact ⟨rfl, ⟨rr, rfl, hrr⟩, ((Keep.of_below (H.out.2.1.trans (hbd.mono H.out.2.1.size)) _).trans hk7)⟩
    | some tg =>
      obtain ⟨t, G2⟩ := tg
      obtain ⟨ad, he, hk7, D', ents', vl', p', hS, hN, ht, hn, hq, hD1, hD2⟩ := hpost
      subst he
      have hs1 : w1.heap[w.heap.size]? = W.heap[w.heap.size]? := (hk7.block _ (Nat.lt_of_lt_of_le (blk_lt HBX.out) hbd.size) (box_apart hST hbx))
      refine hK _ _ hs1 ?_
      clear hK K
      (try simp only [Act.put, List.setIfInBounds_toArray, List.set_cons_zero, List.set_cons_succ])
      have hsz : w.heap.size ≤ W.drew.heap.size := Nat.le_trans H.out.2.1.size hbd.size
      have H1 := Aside0.mk (And.intro hS (And.intro hN (And.intro ht (And.intro hn (And.intro ((Keep.of_below (H.out.2.1.trans (hbd.mono H.out.2.1.size)) (PQ c vl p)).trans hk7) (And.intro (show (∀ q, PU c.wb vl' q → PU c.wb vl q ∨ w.heap.size ≤ q) ∧ ∀ q, QU p' q → QU p q ∨ w.heap.size ≤ q from ⟨fun q h9 => (hq.1 q h9).imp id (fun e => Nat.le_trans hsz e), fun q h9 => (hq.2 q h9).imp id (fun e => Nat.le_trans hsz e)⟩) (And.intro hD1 (show ∀ q, D' q → D q ∨ w.heap.size ≤ q from fun q h9 => (hD2 q h9).imp id (fun e => Nat.le_trans hsz e)))))))))
      have HC := Aside0.mk (H.out.2.2.2.2 t G2 hd rfl)
      have z := hS.ub.frozen (10 + a)
      have t1 := (hS.ub.hand a (by have := H.out.2.2.2.1.2; omega)).1
      rw [ht] at z t1
      clear hS hN ht hn hk7 hq hD1 hD2 hsz hbx hST hbd hd
      refine runT_op (by rfl) (by rfl) (fun K hK => ?_)
      go_simp
      refine hK _ _ hs1 ?_
      clear hK K
      (try simp only [Act.put, List.setIfInBounds_toArray, List.set_cons_zero, List.set_cons_succ])
      refine runT_fin (by rfl) (by rfl) (fun K hK => ?_)
      go_simp
      refine hK _ _ ?_
      clear hK K hs1 z t1
      (try simp only [Act.put, List.setIfInBounds_toArray, List.set_cons_zero, List.set_cons_succ])
      refine runT_done ?_
      have hub2 := H1.out.1.ub.setHand (fun hd => H1.out.1.qd _ (.inl rfl) hd) a (by have := H.out.2.2.2.1.2; omega) H1.out.2.1
      rw [H1.out.2.2.1] at hub2
      obtain ⟨W2, hW2⟩ : ∃ W2, W2 = w1.setCell ⟨p.tb, 10 + a, none⟩ (.pointer ad) := ⟨_, rfl⟩
      have hk2 : Keep (fun q => q = p.tb) w1 W2 := by rw [hW2]; exact (Keep.refl (fun q => q = p.tb) w1).set (p := ⟨p.tb, 10 + a, none⟩) (.inr rfl) _
      rw [← hW2] at hub2 ⊢
      have hQ2 : ∀ q, QU { p' with hs := p'.hs.set a ad } q → QU p' q := fun q hq => hq
      have hS2 : ST c l D' G2 ents' vl' (.slice A path.length cp) { kidT T t (-1) with hands := (kidT T t (-1)).hands.set a t } { p' with hs := p'.hs.set a ad } W2 :=
        ⟨H1.out.1.us.keep hk2 (fun q hq e => H1.out.1.ap q hq (.inl (e.trans H1.out.2.2.1.symm))) (fun q hq e => H1.out.1.qd q (.inl (e.trans H1.out.2.2.1.symm)) hq) (fun q cs hq e => H1.out.1.ub.notPath q cs hq (.inl (e.trans H1.out.2.2.1.symm))) (fun q hq e => by have h8 := H1.out.1.tlo; have h9 := H1.out.2.2.1; omega), by have h9 := hub2; rw [← H1.out.2.2.1] at h9; exact h9, fun q hq => H1.out.1.qd q hq, H1.out.1.tlo, H1.out.1.nlo, H1.out.1.kb⟩
      have t0 : W2.cell? ⟨p.tb, 0, none⟩ = some (.pointer (some ⟨c.wb, 0, none⟩)) := by have h9 := hS2.ub.fix.1; have e9 : ({ p' with hs := p'.hs.set a ad } : Pl).tb = p.tb := H1.out.2.2.1; rw [e9] at h9; exact h9
      have q7 := blk_cell hS2.us.eg.node 7
      have z7 := blk_frozen hS2.us.eg.node 7
      have hw1 : IntKind.i64.wrap ((G2.cells : Int) + 1) = (G2.cells : Int) + 1 := IntWalk.i64_in _ (by have := HC.out; omega)
      have H2 := Aside0.mk (And.intro hS2 hk2)
      clear hub2 hW2 hk2 hQ2 hS2
      go_wp2_with fail
      go_end0
      have hE := H2.out.1.us.eg.setCell 7 (.int .i64 ((G2.cells : Int) + 1)) (G' := { G2 with cells := G2.cells + 1 }) rfl rfl
      have hk3 : Keep (fun q => q = c.wb) W2 (W2.setCell ⟨c.wb, 7, none⟩ (.int .i64 ((G2.cells : Int) + 1))) := (Keep.refl (fun q => q = c.wb) W2).set (p := ⟨c.wb, 7, none⟩) (.inr rfl) _
      have hU := H2.out.1.us.turn hE hk3 (fun q hq e => by have := H2.out.1.us.pLo q (.inl e); omega) (fun q hq e => H2.out.1.us.dp q (.inl e) hq) (fun q hq => .inl hq)
      have hB3 := H2.out.1.ub.keep hk3 (fun q hq e => H2.out.1.ap q (.inl e) hq) (fun q hq e => H2.out.1.us.dp q (.inl e) hq) (fun _ h => h)
      have hF : kidGo ⟨x0, a, x2, x3, x4⟩ T t G2 = .go { kidT T t (-1) with hands := (kidT T t (-1)).hands.set a t } { G2 with cells := G2.cells + 1 } := by
        unfold kidGo
        rw [if_neg (by have := H.out.2.2.1; show ¬ x0 = 11; omega)]
        rfl
      rw [HRR.out, kidSU_some HD.out]
      show StepPU c l p.tb p.nb (.slice A path.length cp) (PU c.wb vl) (QU p) D (kidGo ⟨x0, a, x2, x3, x4⟩ T t G2) w _ _
      rw [hF]
      refine ⟨rfl, ?_, D', ents', vl', { p' with hs := p'.hs.set a ad }, ⟨hU, hB3, H2.out.1.qd, H2.out.1.tlo, H2.out.1.nlo, H2.out.1.kb⟩, H1.out.2.2.1, H1.out.2.2.2.1, ⟨H1.out.2.2.2.2.2.1.1, fun q hq => H1.out.2.2.2.2.2.1.2 q hq⟩, H1.out.2.2.2.2.2.2.1, H1.out.2.2.2.2.2.2.2⟩
      have h4 := H1.out.2.2.2.2.1
      refine (h4.then H2.out.2 (fun q hq e => ?_)).then hk3 (fun q hq e => ?_)
      · rcases H1.out.2.2.2.2.2.1.2 q (.inl (e.trans H1.out.2.2.1.symm)) with h9 | h9
        · exact .inr h9
        · omega
      · rcases H1.out.2.2.2.2.2.1.1 q (.inl e) with h9 | h9
        · exact .inl h9
        · omega
set_option maxRecDepth 100000 in
set_option maxHeartbeats 8000000 in
theorem uret_any (h : ST c l D G ents vl vp T p w) (x : S61) (ha : 0 ≤ x.f1 ∧ x.f1 < 8) (hkr : ∀ k ∈ T.kids, (-1 ≤ k.2 ∧ k.2 < 8) ∧ isN k.1) (hwk : T.wait ≤ T.kids.length) (hkl : T.kids.length ≤ 1000000) :
    Calls Try.prog 89 #[.pointer (some ⟨p.tb, 0, none⟩), xvU x] w (StepPU c l p.tb p.nb vp (PU c.wb vl) (QU p) D (if syncBad T = true then .stop 0 5 T G else .stop (uR (syncU T) x.f1) 0 (syncU T) G) w) := by
  have hu := Try.underlying127
  obtain ⟨x0, x1, x2, x3, x4⟩ := x
  try simp only at *
  obtain ⟨a, rfl⟩ : ∃ a : Nat, x1 = a := ⟨x1.toNat, by omega⟩
  obtain ⟨W, hW⟩ : ∃ W, W = w.alloc (.cells #[.int .i64 x0, .int .i64 (a), .int .i64 (x2), .int .i64 (x3), .int .i64 x4] 61) := ⟨_, rfl⟩
  have hb1 : Below w.heap.size w W := by rw [hW]; exact (Below.refl w.heap.size w).alloc (Nat.le_refl _) _
  have hbx : W.heap[w.heap.size]? = some (.cells #[.int .i64 x0, .int .i64 (a), .int .i64 (x2), .int .i64 (x3), .int .i64 x4] 61 (0, 0)) := by rw [hW]; exact alloc_blk w _
  have h1 := h.below hb1
  have c0 := blk_cell hbx 0
  have c1 := blk_cell hbx 1
  have c2 := blk_cell hbx 2
  have c3 := blk_cell hbx 3
  have c4 := blk_cell hbx 4
  have t0 := h1.ub.fix.1
  have HBX := Aside0.mk hbx
  have HWW := Aside0.mk hW
  have hsy := usync_any h1.ub (fun hd => h1.qd _ (.inl rfl) hd) ⟨x0, a, x2, x3, x4⟩ hkr hwk hkl
  unfold xvU at hsy
  simp only at hsy
  have HS := Aside0.mk hsy
  obtain ⟨R, hRR⟩ : ∃ R : SU, R = (if syncBad T = true then .stop 0 5 T G else .stop (uR (syncU T) (a : Int)) 0 (syncU T) G) := ⟨_, rfl⟩
  rw [← hRR]
  have HRR := Aside0.mk hRR
  clear hRR
  have H := Aside0.mk (And.intro h1 (And.intro hb1 ha))
  have ha8 : ((a : Int) < 8) = True := eq_true ha.2
  clear h h1 hb1 hbx hW ha hsy hkr hwk hkl
  unfold xvU
  go_enter Try.func89, Try.ntmps89
  go_upto_region 1 with (fail)
  rw [← HWW.out]
  go_wp2_with fail
  refine HS.out.mono ?_
  intro e w1 hpost
  clear HS HWW c0 c1 c2 c3 c4 t0
  rcases hpost with ⟨hb, he, hbl⟩ | ⟨hb, he, hub, hk⟩
  · subst he
    have hRR := HRR.out
    rw [if_pos hb] at hRR
    rw [hRR]
    exact ⟨rfl, rfl, (H.out.1.below hbl).left (p0 := p) (Keep.of_below (H.out.2.1.trans (hbl.mono H.out.2.1.size)) _) rfl rfl (fun q hq => .inl hq) (fun q hq => .inl hq) (fun q hq => hq) (fun q hq => .inl hq)⟩
  · subst he
    have hRR := HRR.out
    rw [if_neg (by rw [hb]; decide)] at hRR
    have hST := H.out.1.task hub hk
    have hbx1 := hk.blk HBX.out (fun e => box_apart H.out.1 HBX.out (.inr (.inl e)))
    have r := hub.reg a (by have := H.out.2.2.2; omega)
    have e2 : uR (syncU T) (a : Int) = (syncU T).regs.getD a 0 := rfl
    rw [e2] at hRR
    generalize (syncU T).regs.getD a 0 = v at r hRR
    subst hRR
    clear HRR
    have c1 := blk_cell hbx1 1
    have H1 := Aside0.mk (And.intro hST ((Keep.of_below H.out.2.1 (PQ c vl p)).trans (hk.mono (fun q _ e => .inr (.inl e)))))
    clear hb hub hk hST hbx1 e2
    go_upto_region 2 with (fail)
    refine wp_region_T (fun w' => Drawn0 w1 w') [9] (.takes [0, 1, 2, 3, 4, 5, 6, 7, 8] (.fin 9 .done)) (by kernel_rfl) (by kernel_rfl) (by kernel_rfl) (by kernel_rfl) (panic_via (P := Try.prog) (fn := Try.f89) (R := StepPU c l p.tb p.nb vp (PU c.wb vl) (QU p) D (.stop v 0 (syncU T) G) w) (fun _ _ _ => rfl)) ?_
    have hs : Drawn0 w1 w1.drew := (Drawn0.refl w1).step 1
    simp only [Turns.takes]
    repeat (
      (first
        | (refine runT_take (v := ?_) (by rfl) (by rfl) (fun w' hS => ?_) hs ?_
           rotate_left
           · (obtain ⟨n, rfl⟩ := hS; go_simp; exact rfl))
        | refine runT_skip (by rfl) (by rfl) hs ?_)
      (try simp only [Act.put, List.setIfInBounds_toArray, List.set_cons_zero, List.set_cons_succ]))
    refine runT_fin (by rfl) (by rfl) (fun K hK => ?_)
    go_simp
    have hbd : Below w1.heap.size w1 w1.drew := (Below.refl _ _).drew
    exact ⟨rfl, rfl, (H1.out.1.below hbd).left (p0 := p) (H1.out.2.trans (Keep.of_below hbd _)) rfl rfl (fun q hq => .inl hq) (fun q hq => .inl hq) (fun q hq => hq) (fun q hq => .inl hq)⟩
end
end Go.Proofs.Ytbekjccehhaljaa.H

set_option linter.unusedVariables false
set_option linter.unusedSimpArgs false
namespace Go.Proofs.Ytbekjccehhaljaa.H
open Go.RowKit Go.Hay Go.Proofs.YtbekjccehhaljaaW.PrintWords Go.Proofs.YtbekjccehhaljaaW.PrintLast Go.Proofs.YtbekjccehhaljaaW.PrintMore
section
variable {D : Nat → Prop} {wb B : Nat} {vp : Value} {T : Tu} {p : Pl} {w : World}
set_option maxRecDepth 100000 in
set_option maxHeartbeats 4000000 in
theorem ureckon_add (h : UB D wb vp T p B w) (hD : ¬ D p.tb) (x : S61) (hop : x.f0 = 3) (ha : 0 ≤ x.f1 ∧ x.f1 < 8) (hb : 0 ≤ x.f2 ∧ x.f2 < 8) (hc : 0 ≤ x.f3 ∧ x.f3 < 8) : Calls Try.prog 78 #[.pointer (some ⟨p.tb, 0, none⟩), xvU x] w (GoPU D wb vp (uSet T x.f1 (wrap64 ((uR T x.f2) + (uR T x.f3)))) p B w) := by
  obtain ⟨x0, x1, x2, x3, x4⟩ := x
  try simp only at *
  obtain rfl : x0 = 3 := hop
  obtain ⟨a, rfl⟩ : ∃ a : Nat, x1 = a := ⟨x1.toNat, by omega⟩
  obtain ⟨b, rfl⟩ : ∃ b : Nat, x2 = b := ⟨x2.toNat, by omega⟩
  obtain ⟨c, rfl⟩ : ∃ c : Nat, x3 = c := ⟨x3.toNat, by omega⟩
  obtain ⟨W, hW⟩ : ∃ W, W = w.alloc (.cells #[.int .i64 3, .int .i64 (a), .int .i64 (b), .int .i64 (c), .int .i64 x4] 61) := ⟨_, rfl⟩
  have hb1 : Below w.heap.size w W := by rw [hW]; exact (Below.refl w.heap.size w).alloc (Nat.le_refl _) _
  have hbx : W.heap[w.heap.size]? = some (.cells #[.int .i64 3, .int .i64 (a), .int .i64 (b), .int .i64 (c), .int .i64 x4] 61 (0, 0)) := by rw [hW]; exact alloc_blk w _
  have h1 := h.below hb1
  have c0 := blk_cell hbx 0
  have c1 := blk_cell hbx 1
  have c2 := blk_cell hbx 2
  have c3 := blk_cell hbx 3
  have c4 := blk_cell hbx 4
  have t0 := h1.fix.1
  have H := Aside0.mk (And.intro h1 (And.intro hb1 hD))
  have HWW := Aside0.mk hW
  have ha8 : ((a : Int) < 8) = True := eq_true ha.2
  have hb8 : ((b : Int) < 8) = True := eq_true hb.2
  have hc8 : ((c : Int) < 8) = True := eq_true hc.2
  have r2 := h1.reg b (by omega)
  have r3 := h1.reg c (by omega)
  have e2 : uR T (b : Int) = T.regs.getD b 0 := rfl
  have e3 : uR T (c : Int) = T.regs.getD c 0 := rfl
  obtain ⟨y, hy⟩ : ∃ y, T.regs.getD b 0 = y := ⟨_, rfl⟩
  obtain ⟨u, hu⟩ : ∃ u, T.regs.getD c 0 = u := ⟨_, rfl⟩
  rw [hy] at e2 r2
  rw [hu] at e3 r3
  have HA := Aside0.mk ha.2
  have z := h1.frozen (2 + a)
  have HZ := Aside0.mk z
  have HBX := Aside0.mk hbx
  clear ha hb hc z
  rw [e2, e3]
  clear e2 e3 hy hu
  have hwv : IntKind.i64.wrap (y + u) = wrap64 (y + u) := wrapU_i64 _
  unfold xvU
  clear h h1 hb1 hbx hW hD
  go_enter Try.func78, Try.ntmps78
  go_upto_region 1 with (fail)
  rw [← HWW.out]
  refine wp_region_T (fun w' => Drawn0 W w') [] (.takes [0, 1, 2, 3, 4, 5, 6, 7, 8, 9, 10, 11, 12, 13] (.op 14 (.op 15 .done))) (by kernel_rfl) (by kernel_rfl) (by kernel_rfl) (by kernel_rfl) (panic_via (P := Try.prog) (fn := Try.f78) (R := GoPU D wb vp (uSet T (a : Int) (wrap64 (y + u))) p B w) (fun _ _ _ => rfl)) ?_
  have hs : Drawn0 W W.drew := (Drawn0.refl W).step 1
  simp only [Turns.takes]
  repeat (
    (first
      | (refine runT_take (v := ?_) (by rfl) (by rfl) (fun w' hS => ?_) hs ?_
         rotate_left
         · (obtain ⟨n, rfl⟩ := hS; go_simp; exact rfl))
      | refine runT_skip (by rfl) (by rfl) hs ?_)
    (try simp only [Act.put, List.setIfInBounds_toArray, List.set_cons_zero, List.set_cons_succ]))
  refine runT_op (by rfl) (by rfl) (fun K hK => ?_)
  go_simp
  refine hK _ _ hs ?_
  clear hK K
  (try simp only [Act.put, List.setIfInBounds_toArray, List.set_cons_zero, List.set_cons_succ])
  refine runT_op (by rfl) (by rfl) (fun K hK => ?_)
  go_simp
  refine hK _ _ hs ?_
  clear hK K hs
  (try simp only [Act.put, List.setIfInBounds_toArray, List.set_cons_zero, List.set_cons_succ])
  refine runT_done ?_
  have hbW : Below W.heap.size W W.drew := (Below.refl _ _).drew
  have H := Aside0.mk (And.intro (H.out.1.below hbW) (And.intro (H.out.2.1.trans (hbW.mono H.out.2.1.size)) H.out.2.2))
  have hbx := (hbW.block _ (blk_lt HBX.out)).trans HBX.out
  clear HWW HBX HZ r2 r3 c0 c1 c2 c3 c4 t0 hbW
  generalize W.drew = W at H hbx ⊢
  have c0 := blk_cell hbx 0
  have HBX := Aside0.mk hbx
  clear hbx
  go_upto_region 16 with (fail)
  clear c0
  have c1 := blk_cell HBX.out 1
  have z := H.out.1.frozen (2 + a)
  have r := H.out.1.reg a (by have := HA.out; omega)
  refine wp_region_T (fun w' => Drawn0 W w') [7] (.takes [0, 1, 2, 3, 4, 5, 6] (.fin 7 .done)) (by kernel_rfl) (by kernel_rfl) (by kernel_rfl) (by kernel_rfl) (panic_via (P := Try.prog) (fn := Try.f78) (R := GoPU D wb vp (uSet T a (wrap64 (y + u))) p B w) (fun _ _ _ => rfl)) ?_
  have hs : Drawn0 W W.drew := (Drawn0.refl W).step 1
  simp only [Turns.takes]
  repeat (
    (first
      | (refine runT_take (v := ?_) (by rfl) (by rfl) (fun w' hS => ?_) hs ?_
         rotate_left
         · (obtain ⟨n, rfl⟩ := hS; go_simp; exact rfl))
      | refine runT_skip (by rfl) (by rfl) hs ?_)
    (try simp only [Act.put, List.setIfInBounds_toArray, List.set_cons_zero, List.set_cons_succ]))
  refine runT_fin (by rfl) (by rfl) (fun K hK => ?_)
  go_simp
  refine hK _ _ ?_
  refine runT_done ?_
  clear hK K hs
  go_wp2_with fail
  go_end0
  exact goPU_reg H.out.1 H.out.2.2 H.out.2.1 a HA.out _ _ rfl
set_option maxRecDepth 100000 in
set_option maxHeartbeats 4000000 in
theorem ureckon_sub (h : UB D wb vp T p B w) (hD : ¬ D p.tb) (x : S61) (hop : x.f0 = 4) (ha : 0 ≤ x.f1 ∧ x.f1 < 8) (hb : 0 ≤ x.f2 ∧ x.f2 < 8) (hc : 0 ≤ x.f3 ∧ x.f3 < 8) : Calls Try.prog 78 #[.pointer (some ⟨p.tb, 0, none⟩), xvU x] w (GoPU D wb vp (uSet T x.f1 (wrap64 ((uR T x.f2) - (uR T x.f3)))) p B w) := by
  obtain ⟨x0, x1, x2, x3, x4⟩ := x
  try simp only at *
  obtain rfl : x0 = 4 := hop
  obtain ⟨a, rfl⟩ : ∃ a : Nat, x1 = a := ⟨x1.toNat, by omega⟩
  obtain ⟨b, rfl⟩ : ∃ b : Nat, x2 = b := ⟨x2.toNat, by omega⟩
  obtain ⟨c, rfl⟩ : ∃ c : Nat, x3 = c := ⟨x3.toNat, by omega⟩
  obtain ⟨W, hW⟩ : ∃ W, W = w.alloc (.cells #[.int .i64 4, .int .i64 (a), .int .i64 (b), .int .i64 (c), .int .i64 x4] 61) := ⟨_, rfl⟩
  have hb1 : Below w.heap.size w W := by rw [hW]; exact (Below.refl w.heap.size w).alloc (Nat.le_refl _) _
  have hbx : W.heap[w.heap.size]? = some (.cells #[.int .i64 4, .int .i64 (a), .int .i64 (b), .int .i64 (c), .int .i64 x4] 61 (0, 0)) := by rw [hW]; exact alloc_blk w _
  have h1 := h.below hb1
  have c0 := blk_cell hbx 0
  have c1 := blk_cell hbx 1
  have c2 := blk_cell hbx 2
  have c3 := blk_cell hbx 3
  have c4 := blk_cell hbx 4
  have t0 := h1.fix.1
  have H := Aside0.mk (And.intro h1 (And.intro hb1 hD))
  have HWW := Aside0.mk hW
  have ha8 : ((a : Int) < 8) = True := eq_true ha.2
  have hb8 : ((b : Int) < 8) = True := eq_true hb.2
  have hc8 : ((c : Int) < 8) = True := eq_true hc.2
  have r2 := h1.reg b (by omega)
  have r3 := h1.reg c (by omega)
  have e2 : uR T (b : Int) = T.regs.getD b 0 := rfl
  have e3 : uR T (c : Int) = T.regs.getD c 0 := rfl
  obtain ⟨y, hy⟩ : ∃ y, T.regs.getD b 0 = y := ⟨_, rfl⟩
  obtain ⟨u, hu⟩ : ∃ u, T.regs.getD c 0 = u := ⟨_, rfl⟩
  rw [hy] at e2 r2
  rw [hu] at e3 r3
  have HA := Aside0.mk ha.2
  have z := h1.frozen (2 + a)
  have HZ := Aside0.mk z
  have HBX := Aside0.mk hbx
  clear ha hb hc z
  rw [e2, e3]
  clear e2 e3 hy hu
  have hwv : IntKind.i64.wrap (y - u) = wrap64 (y - u) := wrapU_i64 _
  unfold xvU
  clear h h1 hb1 hbx hW hD
  go_enter Try.func78, Try.ntmps78
  go_upto_region 1 with (fail)
  rw [← HWW.out]
  refine wp_region_T (fun w' => Drawn0 W w') [] (.takes [0, 1, 2, 3, 4, 5, 6, 7, 8, 9, 10, 11, 12, 13] (.op 14 (.op 15 .done))) (by kernel_rfl) (by kernel_rfl) (by kernel_rfl) (by kernel_rfl) (panic_via (P := Try.prog) (fn := Try.f78) (R := GoPU D wb vp (uSet T (a : Int) (wrap64 (y - u))) p B w) (fun _ _ _ => rfl)) ?_
  have hs : Drawn0 W W.drew := (Drawn0.refl W).step 1
  simp only [Turns.takes]
  repeat (
    (first
      | (refine runT_take (v := ?_) (by rfl) (by rfl) (fun w' hS => ?_) hs ?_
         rotate_left
         · (obtain ⟨n, rfl⟩ := hS; go_simp; exact rfl))
      | refine runT_skip (by rfl) (by rfl) hs ?_)
    (try simp only [Act.put, List.setIfInBounds_toArray, List.set_cons_zero, List.set_cons_succ]))
  refine runT_op (by rfl) (by rfl) (fun K hK => ?_)
  go_simp
  refine hK _ _ hs ?_
  clear hK K
  (try simp only [Act.put, List.setIfInBounds_toArray, List.set_cons_zero, List.set_cons_succ])
  refine runT_op (by rfl) (by rfl) (fun K hK => ?_)
  go_simp
  refine hK _ _ hs ?_
  clear hK K hs
  (try simp only [Act.put, List.setIfInBounds_toArray, List.set_cons_zero, List.set_cons_succ])
  refine runT_done ?_
  have hbW : Below W.heap.size W W.drew := (Below.refl _ _).drew
  have H := Aside0.mk (And.intro (H.out.1.below hbW) (And.intro (H.out.2.1.trans (hbW.mono H.out.2.1.size)) H.out.2.2))
  have hbx := (hbW.block _ (blk_lt HBX.out)).trans HBX.out
  clear HWW HBX HZ r2 r3 c0 c1 c2 c3 c4 t0 hbW
  generalize W.drew = W at H hbx ⊢
  have c0 := blk_cell hbx 0
  have HBX := Aside0.mk hbx
  clear hbx
  go_upto_region 16 with (fail)
  clear c0
  have c1 := blk_cell HBX.out 1
  have z := H.out.1.frozen (2 + a)
  have r := H.out.1.reg a (by have := HA.out; omega)
  refine wp_region_T (fun w' => Drawn0 W w') [7] (.takes [0, 1, 2, 3, 4, 5, 6] (.fin 7 .done)) (by kernel_rfl) (by kernel_rfl) (by kernel_rfl) (by kernel_rfl) (panic_via (P := Try.prog) (fn := Try.f78) (R := GoPU D wb vp (uSet T a (wrap64 (y - u))) p B w) (fun _ _ _ => rfl)) ?_
  have hs : Drawn0 W W.drew := (Drawn0.refl W).step 1
  simp only [Turns.takes]
  repeat (
    (first
      | (refine runT_take (v := ?_) (by rfl) (by rfl) (fun w' hS => ?_) hs ?_
         rotate_left
         · (obtain ⟨n, rfl⟩ := hS; go_simp; exact rfl))
      | refine runT_skip (by rfl) (by rfl) hs ?_)
    (try simp only [Act.put, List.setIfInBounds_toArray, List.set_cons_zero, List.set_cons_succ]))
  refine runT_fin (by rfl) (by rfl) (fun K hK => ?_)
  go_simp
  refine hK _ _ ?_
  refine runT_done ?_
  clear hK K hs
  go_wp2_with fail
  go_end0
  exact goPU_reg H.out.1 H.out.2.2 H.out.2.1 a HA.out _ _ rfl
set_option maxRecDepth 100000 in
set_option maxHeartbeats 4000000 in
theorem ureckon_mul (h : UB D wb vp T p B w) (hD : ¬ D p.tb) (x : S61) (hop : x.f0 = 5) (ha : 0 ≤ x.f1 ∧ x.f1 < 8) (hb : 0 ≤ x.f2 ∧ x.f2 < 8) (hc : 0 ≤ x.f3 ∧ x.f3 < 8) : Calls Try.prog 78 #[.pointer (some ⟨p.tb, 0, none⟩), xvU x] w (GoPU D wb vp (uSet T x.f1 (wrap64 ((uR T x.f2) * (uR T x.f3)))) p B w) := by
  obtain ⟨x0, x1, x2, x3, x4⟩ := x
  try simp only at *
  obtain rfl : x0 = 5 := hop
  obtain ⟨a, rfl⟩ : ∃ a : Nat, x1 = a := ⟨x1.toNat, by omega⟩
  obtain ⟨b, rfl⟩ : ∃ b : Nat, x2 = b := ⟨x2.toNat, by omega⟩
  obtain ⟨c, rfl⟩ : ∃ c : Nat, x3 = c := ⟨x3.toNat, by omega⟩
  obtain ⟨W, hW⟩ : ∃ W, W = w.alloc (.cells #[.int .i64 5, .int .i64 (a), .int .i64 (b), .int .i64 (c), .int .i64 x4] 61) := ⟨_, rfl⟩
  have hb1 : Below w.heap.size w W := by rw [hW]; exact (Below.refl w.heap.size w).alloc (Nat.le_refl _) _
  have hbx : W.heap[w.heap.size]? = some (.cells #[.int .i64 5, .int .i64 (a), .int .i64 (b), .int .i64 (c), .int .i64 x4] 61 (0, 0)) := by rw [hW]; exact alloc_blk w _
  have h1 := h.below hb1
  have c0 := blk_cell hbx 0
  have c1 := blk_cell hbx 1
  have c2 := blk_cell hbx 2
  have c3 := blk_cell hbx 3
  have c4 := blk_cell hbx 4
  have t0 := h1.fix.1
  have H := Aside0.mk (And.intro h1 (And.intro hb1 hD))
  have HWW := Aside0.mk hW
  have ha8 : ((a : Int) < 8) = True := eq_true ha.2
  have hb8 : ((b : Int) < 8) = True := eq_true hb.2
  have hc8 : ((c : Int) < 8) = True := eq_true hc.2
  have r2 := h1.reg b (by omega)
  have r3 := h1.reg c (by omega)
  have e2 : uR T (b : Int) = T.regs.getD b 0 := rfl
  have e3 : uR T (c : Int) = T.regs.getD c 0 := rfl
  obtain ⟨y, hy⟩ : ∃ y, T.regs.getD b 0 = y := ⟨_, rfl⟩
  obtain ⟨u, hu⟩ : ∃ u, T.regs.getD c 0 = u := ⟨_, rfl⟩
  rw [hy] at e2 r2
  rw [hu] at e3 r3
  have HA := Aside0.mk ha.2
  have z := h1.frozen (2 + a)
  have HZ := Aside0.mk z
  have HBX := Aside0.mk hbx
  clear ha hb hc z
  rw [e2, e3]
  clear e2 e3 hy hu
  have hwv : IntKind.i64.wrap (y * u) = wrap64 (y * u) := wrapU_i64 _
  unfold xvU
  clear h h1 hb1 hbx hW hD
  go_enter Try.func78, Try.ntmps78
  go_upto_region 1 with (fail)
  rw [← HWW.out]
  refine wp_region_T (fun w' => Drawn0 W w') [] (.takes [0, 1, 2, 3, 4, 5, 6, 7, 8, 9, 10, 11, 12, 13] (.op 14 (.op 15 .done))) (by kernel_rfl) (by kernel_rfl) (by kernel_rfl) (by kernel_rfl) (panic_via (P := Try.prog) (fn := Try.f78) (R := GoPU D wb vp (uSet T (a : Int) (wrap64 (y * u))) p B w) (fun _ _ _ => rfl)) ?_
  have hs : Drawn0 W W.drew := (Drawn0.refl W).step 1
  simp only [Turns.takes]
  repeat (
    (first
      | (refine runT_take (v := ?_) (by rfl) (by rfl) (fun w' hS => ?_) hs ?_
         rotate_left
         · (obtain ⟨n, rfl⟩ := hS; go_simp; exact rfl))
      | refine runT_skip (by rfl) (by rfl) hs ?_)
    (try simp only [Act.put, List.setIfInBounds_toArray, List.set_cons_zero, List.set_cons_succ]))
  refine runT_op (by rfl) (by rfl) (fun K hK => ?_)
  go_simp
  refine hK _ _ hs ?_
  clear hK K
  (try simp only [Act.put, List.setIfInBounds_toArray, List.set_cons_zero, List.set_cons_succ])
  refine runT_op (by rfl) (by rfl) (fun K hK => ?_)
  go_simp
  refine hK _ _ hs ?_
  clear hK K hs
  (try simp only [Act.put, List.setIfInBounds_toArray, List.set_cons_zero, List.set_cons_succ])
  refine runT_done ?_
  have hbW : Below W.heap.size W W.drew := (Below.refl _ _).drew
  have H := Aside0.mk (And.intro (H.out.1.below hbW) (And.intro (H.out.2.1.trans (hbW.mono H.out.2.1.size)) H.out.2.2))
  have hbx := (hbW.block _ (blk_lt HBX.out)).trans HBX.out
  clear HWW HBX HZ r2 r3 c0 c1 c2 c3 c4 t0 hbW
  generalize W.drew = W at H hbx ⊢
  have c0 := blk_cell hbx 0
  have HBX := Aside0.mk hbx
  clear hbx
  go_upto_region 16 with (fail)
  clear c0
  have c1 := blk_cell HBX.out 1
  have z := H.out.1.frozen (2 + a)
  have r := H.out.1.reg a (by have := HA.out; omega)
  refine wp_region_T (fun w' => Drawn0 W w') [7] (.takes [0, 1, 2, 3, 4, 5, 6] (.fin 7 .done)) (by kernel_rfl) (by kernel_rfl) (by kernel_rfl) (by kernel_rfl) (panic_via (P := Try.prog) (fn := Try.f78) (R := GoPU D wb vp (uSet T a (wrap64 (y * u))) p B w) (fun _ _ _ => rfl)) ?_
  have hs : Drawn0 W W.drew := (Drawn0.refl W).step 1
  simp only [Turns.takes]
  repeat (
    (first
      | (refine runT_take (v := ?_) (by rfl) (by rfl) (fun w' hS => ?_) hs ?_
         rotate_left
         · (obtain ⟨n, rfl⟩ := hS; go_simp; exact rfl))
      | refine runT_skip (by rfl) (by rfl) hs ?_)
    (try simp only [Act.put, List.setIfInBounds_toArray, List.set_cons_zero, List.set_cons_succ]))
  refine runT_fin (by rfl) (by rfl) (fun K hK => ?_)
  go_simp
  refine hK _ _ ?_
  refine runT_done ?_
  clear hK K hs
  go_wp2_with fail
  go_end0
  exact goPU_reg H.out.1 H.out.2.2 H.out.2.1 a HA.out _ _ rfl
set_option maxRecDepth 100000 in
set_option maxHeartbeats 4000000 in
theorem ureckon_div (h : UB D wb vp T p B w) (hD : ¬ D p.tb) (x : S61) (hop : x.f0 = 6) (ha : 0 ≤ x.f1 ∧ x.f1 < 8) (hb : 0 ≤ x.f2 ∧ x.f2 < 8) (hc : 0 ≤ x.f3 ∧ x.f3 < 8) (hn : (uR T x.f3) ≠ 0) : Calls Try.prog 78 #[.pointer (some ⟨p.tb, 0, none⟩), xvU x] w (GoPU D wb vp (uSet T x.f1 (wrap64 ((uR T x.f2).tdiv (uR T x.f3)))) p B w) := by
  obtain ⟨x0, x1, x2, x3, x4⟩ := x
  try simp only at *
  obtain rfl : x0 = 6 := hop
  obtain ⟨a, rfl⟩ : ∃ a : Nat, x1 = a := ⟨x1.toNat, by omega⟩
  obtain ⟨b, rfl⟩ : ∃ b : Nat, x2 = b := ⟨x2.toNat, by omega⟩
  obtain ⟨c, rfl⟩ : ∃ c : Nat, x3 = c := ⟨x3.toNat, by omega⟩
  obtain ⟨W, hW⟩ : ∃ W, W = w.alloc (.cells #[.int .i64 6, .int .i64 (a), .int .i64 (b), .int .i64 (c), .int .i64 x4] 61) := ⟨_, rfl⟩
  have hb1 : Below w.heap.size w W := by rw [hW]; exact (Below.refl w.heap.size w).alloc (Nat.le_refl _) _
  have hbx : W.heap[w.heap.size]? = some (.cells #[.int .i64 6, .int .i64 (a), .int .i64 (b), .int .i64 (c), .int .i64 x4] 61 (0, 0)) := by rw [hW]; exact alloc_blk w _
  have h1 := h.below hb1
  have c0 := blk_cell hbx 0
  have c1 := blk_cell hbx 1
  have c2 := blk_cell hbx 2
  have c3 := blk_cell hbx 3
  have c4 := blk_cell hbx 4
  have t0 := h1.fix.1
  have H := Aside0.mk (And.intro h1 (And.intro hb1 hD))
  have HWW := Aside0.mk hW
  have ha8 : ((a : Int) < 8) = True := eq_true ha.2
  have hb8 : ((b : Int) < 8) = True := eq_true hb.2
  have hc8 : ((c : Int) < 8) = True := eq_true hc.2
  have r2 := h1.reg b (by omega)
  have r3 := h1.reg c (by omega)
  have e2 : uR T (b : Int) = T.regs.getD b 0 := rfl
  have e3 : uR T (c : Int) = T.regs.getD c 0 := rfl
  obtain ⟨y, hy⟩ : ∃ y, T.regs.getD b 0 = y := ⟨_, rfl⟩
  obtain ⟨u, hu⟩ : ∃ u, T.regs.getD c 0 = u := ⟨_, rfl⟩
  rw [hy] at e2 r2
  rw [hu] at e3 r3
  have HA := Aside0.mk ha.2
  have z := h1.frozen (2 + a)
  have HZ := Aside0.mk z
  have HBX := Aside0.mk hbx
  clear ha hb hc z
  have hn : uR T (c : Int) ≠ 0 := hn
  rw [e3] at hn
  have hn1 : (u == 0) = false := by simp [hn]
  have hn2 : (u = 0) = False := eq_false hn
  clear hn
  rw [e2, e3]
  clear e2 e3 hy hu
  have hwv : IntKind.i64.wrap (y.tdiv u) = wrap64 (y.tdiv u) := wrapU_i64 _
  unfold xvU
  clear h h1 hb1 hbx hW hD
  go_enter Try.func78, Try.ntmps78
  go_upto_region 1 with (fail)
  rw [← HWW.out]
  refine wp_region_T (fun w' => Drawn0 W w') [] (.takes [0, 1, 2, 3, 4, 5, 6, 7, 8, 9, 10, 11, 12, 13] (.op 14 (.op 15 .done))) (by kernel_rfl) (by kernel_rfl) (by kernel_rfl) (by kernel_rfl) (panic_via (P := Try.prog) (fn := Try.f78) (R := GoPU D wb vp (uSet T (a : Int) (wrap64 (y.tdiv u))) p B w) (fun _ _ _ => rfl)) ?_
  have hs : Drawn0 W W.drew := (Drawn0.refl W).step 1
  simp only [Turns.takes]
  repeat (
    (first
      | (refine runT_take (v := ?_) (by rfl) (by rfl) (fun w' hS => ?_) hs ?_
         rotate_left
         · (obtain ⟨n, rfl⟩ := hS; go_simp; exact rfl))
      | refine runT_skip (by rfl) (by rfl) hs ?_)
    (try simp only [Act.put, List.setIfInBounds_toArray, List.set_cons_zero, List.set_cons_succ]))
  refine runT_op (by rfl) (by rfl) (fun K hK => ?_)
  go_simp
  refine hK _ _ hs ?_
  clear hK K
  (try simp only [Act.put, List.setIfInBounds_toArray, List.set_cons_zero, List.set_cons_succ])
  refine runT_op (by rfl) (by rfl) (fun K hK => ?_)
  go_simp
  refine hK _ _ hs ?_
  clear hK K hs
  (try simp only [Act.put, List.setIfInBounds_toArray, List.set_cons_zero, List.set_cons_succ])
  refine runT_done ?_
  have hbW : Below W.heap.size W W.drew := (Below.refl _ _).drew
  have H := Aside0.mk (And.intro (H.out.1.below hbW) (And.intro (H.out.2.1.trans (hbW.mono H.out.2.1.size)) H.out.2.2))
  have hbx := (hbW.block _ (blk_lt HBX.out)).trans HBX.out
  clear HWW HBX HZ r2 r3 c0 c1 c2 c3 c4 t0 hbW
  generalize W.drew = W at H hbx ⊢
  have c0 := blk_cell hbx 0
  have HBX := Aside0.mk hbx
  clear hbx
  go_upto_region 16 with (fail)
  clear c0
  have c1 := blk_cell HBX.out 1
  have z := H.out.1.frozen (2 + a)
  have r := H.out.1.reg a (by have := HA.out; omega)
  refine wp_region_T (fun w' => Drawn0 W w') [7] (.takes [0, 1, 2, 3, 4, 5, 6] (.fin 7 .done)) (by kernel_rfl) (by kernel_rfl) (by kernel_rfl) (by kernel_rfl) (panic_via (P := Try.prog) (fn := Try.f78) (R := GoPU D wb vp (uSet T a (wrap64 (y.tdiv u))) p B w) (fun _ _ _ => rfl)) ?_
  have hs : Drawn0 W W.drew := (Drawn0.refl W).step 1
  simp only [Turns.takes]
  repeat (
    (first
      | (refine runT_take (v := ?_) (by rfl) (by rfl) (fun w' hS => ?_) hs ?_
         rotate_left
         · (obtain ⟨n, rfl⟩ := hS; go_simp; exact rfl))
      | refine runT_skip (by rfl) (by rfl) hs ?_)
    (try simp only [Act.put, List.setIfInBounds_toArray, List.set_cons_zero, List.set_cons_succ]))
  refine runT_fin (by rfl) (by rfl) (fun K hK => ?_)
  go_simp
  refine hK _ _ ?_
  refine runT_done ?_
  clear hK K hs
  go_wp2_with fail
  go_end0
  exact goPU_reg H.out.1 H.out.2.2 H.out.2.1 a HA.out _ _ rfl
set_option maxRecDepth 100000 in
set_option maxHeartbeats 4000000 in
theorem ureckon_no (h : UB D wb vp T p B w) (hD : ¬ D p.tb) (x : S61) (hop : x.f0 = 6) (ha : 0 ≤ x.f1 ∧ x.f1 < 8) (hb : 0 ≤ x.f2 ∧ x.f2 < 8) (hc : 0 ≤ x.f3 ∧ x.f3 < 8) (hn : (uR T x.f3) = 0) : Calls Try.prog 78 #[.pointer (some ⟨p.tb, 0, none⟩), xvU x] w (StopPU 0 1 w) := by
  obtain ⟨x0, x1, x2, x3, x4⟩ := x
  try simp only at *
  obtain rfl : x0 = 6 := hop
  obtain ⟨a, rfl⟩ : ∃ a : Nat, x1 = a := ⟨x1.toNat, by omega⟩
  obtain ⟨b, rfl⟩ : ∃ b : Nat, x2 = b := ⟨x2.toNat, by omega⟩
  obtain ⟨c, rfl⟩ : ∃ c : Nat, x3 = c := ⟨x3.toNat, by omega⟩
  obtain ⟨W, hW⟩ : ∃ W, W = w.alloc (.cells #[.int .i64 6, .int .i64 (a), .int .i64 (b), .int .i64 (c), .int .i64 x4] 61) := ⟨_, rfl⟩
  have hb1 : Below w.heap.size w W := by rw [hW]; exact (Below.refl w.heap.size w).alloc (Nat.le_refl _) _
  have hbx : W.heap[w.heap.size]? = some (.cells #[.int .i64 6, .int .i64 (a), .int .i64 (b), .int .i64 (c), .int .i64 x4] 61 (0, 0)) := by rw [hW]; exact alloc_blk w _
  have h1 := h.below hb1
  have c0 := blk_cell hbx 0
  have c1 := blk_cell hbx 1
  have c2 := blk_cell hbx 2
  have c3 := blk_cell hbx 3
  have c4 := blk_cell hbx 4
  have t0 := h1.fix.1
  have H := Aside0.mk (And.intro h1 (And.intro hb1 hD))
  have HWW := Aside0.mk hW
  have ha8 : ((a : Int) < 8) = True := eq_true ha.2
  have hb8 : ((b : Int) < 8) = True := eq_true hb.2
  have hc8 : ((c : Int) < 8) = True := eq_true hc.2
  have r2 := h1.reg b (by omega)
  have r3 := h1.reg c (by omega)
  have e2 : uR T (b : Int) = T.regs.getD b 0 := rfl
  have e3 : uR T (c : Int) = T.regs.getD c 0 := rfl
  obtain ⟨y, hy⟩ : ∃ y, T.regs.getD b 0 = y := ⟨_, rfl⟩
  obtain ⟨u, hu⟩ : ∃ u, T.regs.getD c 0 = u := ⟨_, rfl⟩
  rw [hy] at e2 r2
  rw [hu] at e3 r3
  have HA := Aside0.mk ha.2
  have z := h1.frozen (2 + a)
  have HZ := Aside0.mk z
  have HBX := Aside0.mk hbx
  clear ha hb hc z
  have hn : uR T (c : Int) = 0 := hn
  rw [e3] at hn
  have hn1 : (u == 0) = true := by simp [hn]
  clear hn
  clear e2 e3 hy hu
  unfold xvU
  clear h h1 hb1 hbx hW hD
  go_enter Try.func78, Try.ntmps78
  go_upto_region 1 with (fail)
  rw [← HWW.out]
  refine wp_region_T (fun w' => Drawn0 W w') [] (.takes [0, 1, 2, 3, 4, 5, 6, 7, 8, 9, 10, 11, 12, 13] (.op 14 (.op 15 .done))) (by kernel_rfl) (by kernel_rfl) (by kernel_rfl) (by kernel_rfl) (panic_via (P := Try.prog) (fn := Try.f78) (R := StopPU 0 1 w) (fun _ _ _ => rfl)) ?_
  have hs : Drawn0 W W.drew := (Drawn0.refl W).step 1
  simp only [Turns.takes]
  repeat (
    (first
      | (refine runT_take (v := ?_) (by rfl) (by rfl) (fun w' hS => ?_) hs ?_
         rotate_left
         · (obtain ⟨n, rfl⟩ := hS; go_simp; exact rfl))
      | refine runT_skip (by rfl) (by rfl) hs ?_)
    (try simp only [Act.put, List.setIfInBounds_toArray, List.set_cons_zero, List.set_cons_succ]))
  refine runT_op (by rfl) (by rfl) (fun K hK => ?_)
  go_simp
  refine hK _ _ hs ?_
  clear hK K
  (try simp only [Act.put, List.setIfInBounds_toArray, List.set_cons_zero, List.set_cons_succ])
  refine runT_op (by rfl) (by rfl) (fun K hK => ?_)
  go_simp
  refine hK _ _ hs ?_
  clear hK K hs
  (try simp only [Act.put, List.setIfInBounds_toArray, List.set_cons_zero, List.set_cons_succ])
  refine runT_done ?_
  have hbW : Below W.heap.size W W.drew := (Below.refl _ _).drew
  have H := Aside0.mk (And.intro (H.out.1.below hbW) (And.intro (H.out.2.1.trans (hbW.mono H.out.2.1.size)) H.out.2.2))
  have hbx := (hbW.block _ (blk_lt HBX.out)).trans HBX.out
  clear HWW HBX HZ r2 r3 c0 c1 c2 c3 c4 t0 hbW
  generalize W.drew = W at H hbx ⊢
  have c0 := blk_cell hbx 0
  have HBX := Aside0.mk hbx
  clear hbx
  go_wp2_with fail
  refine (ufail_any 1 _).mono ?_
  rintro e w' ⟨rfl, hb⟩
  exact ⟨rfl, rfl, H.out.2.1.trans (hb.mono H.out.2.1.size)⟩
set_option maxRecDepth 100000 in
set_option maxHeartbeats 4000000 in
theorem ureckon_less (h : UB D wb vp T p B w) (hD : ¬ D p.tb) (x : S61) (hop : x.f0 = 7) (ha : 0 ≤ x.f1 ∧ x.f1 < 8) (hb : 0 ≤ x.f2 ∧ x.f2 < 8) (hc : 0 ≤ x.f3 ∧ x.f3 < 8) : Calls Try.prog 78 #[.pointer (some ⟨p.tb, 0, none⟩), xvU x] w (GoPU D wb vp (uSet T x.f1 (lessV (uR T x.f2) (uR T x.f3))) p B w) := by
  obtain ⟨x0, x1, x2, x3, x4⟩ := x
  try simp only at *
  obtain rfl : x0 = 7 := hop
  obtain ⟨a, rfl⟩ : ∃ a : Nat, x1 = a := ⟨x1.toNat, by omega⟩
  obtain ⟨b, rfl⟩ : ∃ b : Nat, x2 = b := ⟨x2.toNat, by omega⟩
  obtain ⟨c, rfl⟩ : ∃ c : Nat, x3 = c := ⟨x3.toNat, by omega⟩
  obtain ⟨W, hW⟩ : ∃ W, W = w.alloc (.cells #[.int .i64 7, .int .i64 (a), .int .i64 (b), .int .i64 (c), .int .i64 x4] 61) := ⟨_, rfl⟩
  have hb1 : Below w.heap.size w W := by rw [hW]; exact (Below.refl w.heap.size w).alloc (Nat.le_refl _) _
  have hbx : W.heap[w.heap.size]? = some (.cells #[.int .i64 7, .int .i64 (a), .int .i64 (b), .int .i64 (c), .int .i64 x4] 61 (0, 0)) := by rw [hW]; exact alloc_blk w _
  have h1 := h.below hb1
  have c0 := blk_cell hbx 0
  have c1 := blk_cell hbx 1
  have c2 := blk_cell hbx 2
  have c3 := blk_cell hbx 3
  have c4 := blk_cell hbx 4
  have t0 := h1.fix.1
  have H := Aside0.mk (And.intro h1 (And.intro hb1 hD))
  have HWW := Aside0.mk hW
  have ha8 : ((a : Int) < 8) = True := eq_true ha.2
  have hb8 : ((b : Int) < 8) = True := eq_true hb.2
  have hc8 : ((c : Int) < 8) = True := eq_true hc.2
  have r2 := h1.reg b (by omega)
  have r3 := h1.reg c (by omega)
  have e2 : uR T (b : Int) = T.regs.getD b 0 := rfl
  have e3 : uR T (c : Int) = T.regs.getD c 0 := rfl
  obtain ⟨y, hy⟩ : ∃ y, T.regs.getD b 0 = y := ⟨_, rfl⟩
  obtain ⟨u, hu⟩ : ∃ u, T.regs.getD c 0 = u := ⟨_, rfl⟩
  rw [hy] at e2 r2
  rw [hu] at e3 r3
  have HA := Aside0.mk ha.2
  have z := h1.frozen (2 + a)
  have HZ := Aside0.mk z
  have HBX := Aside0.mk hbx
  clear ha hb hc z
  rw [e2, e3]
  clear e2 e3 hy hu
  unfold xvU
  clear h h1 hb1 hbx hW hD
  go_enter Try.func78, Try.ntmps78
  go_upto_region 1 with (fail)
  rw [← HWW.out]
  refine wp_region_T (fun w' => Drawn0 W w') [] (.takes [0, 1, 2, 3, 4, 5, 6, 7, 8, 9, 10, 11, 12, 13] (.op 14 (.op 15 .done))) (by kernel_rfl) (by kernel_rfl) (by kernel_rfl) (by kernel_rfl) (panic_via (P := Try.prog) (fn := Try.f78) (R := GoPU D wb vp (uSet T (a : Int) (lessV y u)) p B w) (fun _ _ _ => rfl)) ?_
  have hs : Drawn0 W W.drew := (Drawn0.refl W).step 1
  simp only [Turns.takes]
  repeat (
    (first
      | (refine runT_take (v := ?_) (by rfl) (by rfl) (fun w' hS => ?_) hs ?_
         rotate_left
         · (obtain ⟨n, rfl⟩ := hS; go_simp; exact rfl))
      | refine runT_skip (by rfl) (by rfl) hs ?_)
    (try simp only [Act.put, List.setIfInBounds_toArray, List.set_cons_zero, List.set_cons_succ]))
  refine runT_op (by rfl) (by rfl) (fun K hK => ?_)
  go_simp
  refine hK _ _ hs ?_
  clear hK K
  (try simp only [Act.put, List.setIfInBounds_toArray, List.set_cons_zero, List.set_cons_succ])
  refine runT_op (by rfl) (by rfl) (fun K hK => ?_)
  go_simp
  refine hK _ _ hs ?_
  clear hK K hs
  (try simp only [Act.put, List.setIfInBounds_toArray, List.set_cons_zero, List.set_cons_succ])
  refine runT_done ?_
  have hbW : Below W.heap.size W W.drew := (Below.refl _ _).drew
  have H := Aside0.mk (And.intro (H.out.1.below hbW) (And.intro (H.out.2.1.trans (hbW.mono H.out.2.1.size)) H.out.2.2))
  have hbx := (hbW.block _ (blk_lt HBX.out)).trans HBX.out
  clear HWW HBX HZ r2 r3 c0 c1 c2 c3 c4 t0 hbW
  generalize W.drew = W at H hbx ⊢
  have c0 := blk_cell hbx 0
  have HBX := Aside0.mk hbx
  clear hbx
  go_wp2_with fail
  refine (utruth_any _ _).mono ?_
  rintro e w2 ⟨rfl, rfl⟩
  have hv : utruthV (decide (y < u)) = lessV y u := utruth_less y u
  rw [hv]
  clear hv
  go_upto_region 16 with (fail)
  clear c0
  have c1 := blk_cell HBX.out 1
  have z := H.out.1.frozen (2 + a)
  have r := H.out.1.reg a (by have := HA.out; omega)
  refine wp_region_T (fun w' => Drawn0 W w') [7] (.takes [0, 1, 2, 3, 4, 5, 6] (.fin 7 .done)) (by kernel_rfl) (by kernel_rfl) (by kernel_rfl) (by kernel_rfl) (panic_via (P := Try.prog) (fn := Try.f78) (R := GoPU D wb vp (uSet T a (lessV y u)) p B w) (fun _ _ _ => rfl)) ?_
  have hs : Drawn0 W W.drew := (Drawn0.refl W).step 1
  simp only [Turns.takes]
  repeat (
    (first
      | (refine runT_take (v := ?_) (by rfl) (by rfl) (fun w' hS => ?_) hs ?_
         rotate_left
         · (obtain ⟨n, rfl⟩ := hS; go_simp; exact rfl))
      | refine runT_skip (by rfl) (by rfl) hs ?_)
    (try simp only [Act.put, List.setIfInBounds_toArray, List.set_cons_zero, List.set_cons_succ]))
  refine runT_fin (by rfl) (by rfl) (fun K hK => ?_)
  go_simp
  refine hK _ _ ?_
  refine runT_done ?_
  clear hK K hs
  go_wp2_with fail
  go_end0
  exact goPU_reg H.out.1 H.out.2.2 H.out.2.1 a HA.out _ _ rfl
set_option maxRecDepth 100000 in
set_option maxHeartbeats 4000000 in
theorem ureckon_same (h : UB D wb vp T p B w) (hD : ¬ D p.tb) (x : S61) (hop : x.f0 = 8) (ha : 0 ≤ x.f1 ∧ x.f1 < 8) (hb : 0 ≤ x.f2 ∧ x.f2 < 8) (hc : 0 ≤ x.f3 ∧ x.f3 < 8) : Calls Try.prog 78 #[.pointer (some ⟨p.tb, 0, none⟩), xvU x] w (GoPU D wb vp (uSet T x.f1 (sameV (uR T x.f2) (uR T x.f3))) p B w) := by
  obtain ⟨x0, x1, x2, x3, x4⟩ := x
  try simp only at *
  obtain rfl : x0 = 8 := hop
  obtain ⟨a, rfl⟩ : ∃ a : Nat, x1 = a := ⟨x1.toNat, by omega⟩
  obtain ⟨b, rfl⟩ : ∃ b : Nat, x2 = b := ⟨x2.toNat, by omega⟩
  obtain ⟨c, rfl⟩ : ∃ c : Nat, x3 = c := ⟨x3.toNat, by omega⟩
  obtain ⟨W, hW⟩ : ∃ W, W = w.alloc (.cells #[.int .i64 8, .int .i64 (a), .int .i64 (b), .int .i64 (c), .int .i64 x4] 61) := ⟨_, rfl⟩
  have hb1 : Below w.heap.size w W := by rw [hW]; exact (Below.refl w.heap.size w).alloc (Nat.le_refl _) _
  have hbx : W.heap[w.heap.size]? = some (.cells #[.int .i64 8, .int .i64 (a), .int .i64 (b), .int .i64 (c), .int .i64 x4] 61 (0, 0)) := by rw [hW]; exact alloc_blk w _
  have h1 := h.below hb1
  have c0 := blk_cell hbx 0
  have c1 := blk_cell hbx 1
  have c2 := blk_cell hbx 2
  have c3 := blk_cell hbx 3
  have c4 := blk_cell hbx 4
  have t0 := h1.fix.1
  have H := Aside0.mk (And.intro h1 (And.intro hb1 hD))
  have HWW := Aside0.mk hW
  have ha8 : ((a : Int) < 8) = True := eq_true ha.2
  have hb8 : ((b : Int) < 8) = True := eq_true hb.2
  have hc8 : ((c : Int) < 8) = True := eq_true hc.2
  have r2 := h1.reg b (by omega)
  have r3 := h1.reg c (by omega)
  have e2 : uR T (b : Int) = T.regs.getD b 0 := rfl
  have e3 : uR T (c : Int) = T.regs.getD c 0 := rfl
  obtain ⟨y, hy⟩ : ∃ y, T.regs.getD b 0 = y := ⟨_, rfl⟩
  obtain ⟨u, hu⟩ : ∃ u, T.regs.getD c 0 = u := ⟨_, rfl⟩
  rw [hy] at e2 r2
  rw [hu] at e3 r3
  have HA := Aside0.mk ha.2
  have z := h1.frozen (2 + a)
  have HZ := Aside0.mk z
  have HBX := Aside0.mk hbx
  clear ha hb hc z
  rw [e2, e3]
  clear e2 e3 hy hu
  unfold xvU
  clear h h1 hb1 hbx hW hD
  go_enter Try.func78, Try.ntmps78
  go_upto_region 1 with (fail)
  rw [← HWW.out]
  refine wp_region_T (fun w' => Drawn0 W w') [] (.takes [0, 1, 2, 3, 4, 5, 6, 7, 8, 9, 10, 11, 12, 13] (.op 14 (.op 15 .done))) (by kernel_rfl) (by kernel_rfl) (by kernel_rfl) (by kernel_rfl) (panic_via (P := Try.prog) (fn := Try.f78) (R := GoPU D wb vp (uSet T (a : Int) (sameV y u)) p B w) (fun _ _ _ => rfl)) ?_
  have hs : Drawn0 W W.drew := (Drawn0.refl W).step 1
  simp only [Turns.takes]
  repeat (
    (first
      | (refine runT_take (v := ?_) (by rfl) (by rfl) (fun w' hS => ?_) hs ?_
         rotate_left
         · (obtain ⟨n, rfl⟩ := hS; go_simp; exact rfl))
      | refine runT_skip (by rfl) (by rfl) hs ?_)
    (try simp only [Act.put, List.setIfInBounds_toArray, List.set_cons_zero, List.set_cons_succ]))
  refine runT_op (by rfl) (by rfl) (fun K hK => ?_)
  go_simp
  refine hK _ _ hs ?_
  clear hK K
  (try simp only [Act.put, List.setIfInBounds_toArray, List.set_cons_zero, List.set_cons_succ])
  refine runT_op (by rfl) (by rfl) (fun K hK => ?_)
  go_simp
  refine hK _ _ hs ?_
  clear hK K hs
  (try simp only [Act.put, List.setIfInBounds_toArray, List.set_cons_zero, List.set_cons_succ])
  refine runT_done ?_
  have hbW : Below W.heap.size W W.drew := (Below.refl _ _).drew
  have H := Aside0.mk (And.intro (H.out.1.below hbW) (And.intro (H.out.2.1.trans (hbW.mono H.out.2.1.size)) H.out.2.2))
  have hbx := (hbW.block _ (blk_lt HBX.out)).trans HBX.out
  clear HWW HBX HZ r2 r3 c0 c1 c2 c3 c4 t0 hbW
  generalize W.drew = W at H hbx ⊢
  have c0 := blk_cell hbx 0
  have HBX := Aside0.mk hbx
  clear hbx
  go_wp2_with fail
  refine (utruth_any _ _).mono ?_
  rintro e w2 ⟨rfl, rfl⟩
  have hv : utruthV (y == u) = sameV y u := utruth_same y u
  rw [hv]
  clear hv
  go_upto_region 16 with (fail)
  clear c0
  have c1 := blk_cell HBX.out 1
  have z := H.out.1.frozen (2 + a)
  have r := H.out.1.reg a (by have := HA.out; omega)
  refine wp_region_T (fun w' => Drawn0 W w') [7] (.takes [0, 1, 2, 3, 4, 5, 6] (.fin 7 .done)) (by kernel_rfl) (by kernel_rfl) (by kernel_rfl) (by kernel_rfl) (panic_via (P := Try.prog) (fn := Try.f78) (R := GoPU D wb vp (uSet T a (sameV y u)) p B w) (fun _ _ _ => rfl)) ?_
  have hs : Drawn0 W W.drew := (Drawn0.refl W).step 1
  simp only [Turns.takes]
  repeat (
    (first
      | (refine runT_take (v := ?_) (by rfl) (by rfl) (fun w' hS => ?_) hs ?_
         rotate_left
         · (obtain ⟨n, rfl⟩ := hS; go_simp; exact rfl))
      | refine runT_skip (by rfl) (by rfl) hs ?_)
    (try simp only [Act.put, List.setIfInBounds_toArray, List.set_cons_zero, List.set_cons_succ]))
  refine runT_fin (by rfl) (by rfl) (fun K hK => ?_)
  go_simp
  refine hK _ _ ?_
  refine runT_done ?_
  clear hK K hs
  go_wp2_with fail
  go_end0
  exact goPU_reg H.out.1 H.out.2.2 H.out.2.1 a HA.out _ _ rfl
end
end Go.Proofs.Ytbekjccehhaljaa.H

set_option linter.unusedVariables false
set_option linter.unusedSimpArgs false
namespace Go.Proofs.Ytbekjccehhaljaa.H
open Go.RowKit Go.Hay Go.Maps Go.Proofs.YtbekjccehhaljaaW.PrintWords Go.Proofs.YtbekjccehhaljaaW.PrintLast Go.Proofs.YtbekjccehhaljaaW.PrintMore
def Rfn (v : Value) : Option (DataW Unit × List MemPlace) :=
  match v with
  | .func (.func n) a b => if a = #[] ∧ b = #[] then some (.lit (.int .i64 n), []) else none
  | .nilFunc => some (.lit (.int .i64 (-1)), [])
  | _ => none
theorem Rfn_mk (n : Nat) : Rfn (.func (.func n) #[] #[]) = some (.lit (.int .i64 n), []) := by simp [Rfn]
theorem Rfn_inv {v : Value} {n : Nat} {ps : List MemPlace} (h : Rfn v = some (.lit (.int .i64 n), ps)) : v = .func (.func n) #[] #[] := by
  unfold Rfn at h
  split at h
  · split at h
    · rename_i m a b hab
      obtain ⟨rfl, rfl⟩ := hab
      have h1 := congrArg (fun o : Option (DataW Unit × List MemPlace) => match o with | some (.lit (.int _ x), _) => x | _ => 0) h
      have h2 : (m : Int) = (n : Int) := h1
      have : m = n := Int.ofNat.inj h2
      rw [this]
    · cases h
  · exfalso
    have h1 := congrArg (fun o : Option (DataW Unit × List MemPlace) => match o with | some (.lit (.int _ x), _) => x | _ => 0) h
    have h2 : (-1 : Int) = (n : Int) := h1
    omega
  · cases h
theorem law3 : Keyed Try.prog 3 := int_keyed Try.underlying3
theorem wpList_insert_own {H : Type} {P : Program} (w : World) {ops : Array Oper} {rest : List Oper} {o : Oper} {a : Act} {Q : Exit → Act → World → Prop}
    (hg : o.guard = none) (m x v : Operand) (t : TypeId) (hop : o.op = Op.insert t m x v)
    (k e : TypeId) (K : Keyed P k) (ht : P.underlying t = some (.map k e)) (R : Value → Option (DataW H × List MemPlace)) (b n : Nat) (D : DataW H)
    (hm : a.eval m = .map (some b)) (hown : w.ownsMap P k R b n D) (hn : n < maxLen) (key val : Value) (kl : Lit) (hx : a.eval x = key) (hv : a.eval v = val) (hkey : keyOf P k key = some kl)
    (d : DataW H) (ps : List MemPlace) (hval : R val = some (d, ps))
    (hK : ∀ w', w'.ownsMap P k R b (n + 1) (D.put kl d) → w.grownBy w' (some b) → wpList P ops Q rest (a.put o.dst undef) w') :
    wpList P ops Q (o :: rest) a w := by
  refine wpList_plain hg fun K' hK' => ?_
  obtain ⟨w', hrun, r1, r2⟩ := hown.update K ht hn hkey hval
  unfold Oper.wp
  simp [execOp, hop, hm, hx, hv, hrun, Result.andThen]
  exact hK' _ _ (hK w' r1 r2)
end Go.Proofs.Ytbekjccehhaljaa.H

set_option linter.unusedVariables false
set_option linter.unusedSimpArgs false
namespace Go.Proofs.Ytbekjccehhaljaa.H
open Go.RowKit Go.Hay Go.Maps Go.Proofs.YtbekjccehhaljaaW.PrintWords Go.Proofs.YtbekjccehhaljaaW.PrintLast Go.Proofs.YtbekjccehhaljaaW.PrintMore
/-- which function does an operation. -/
def udeedF (op : Int) : Nat :=
  if op = 1 then 79 else
  if op = 2 then 80 else
  if op = 3 then 78 else
  if op = 4 then 78 else
  if op = 5 then 78 else
  if op = 6 then 78 else
  if op = 7 then 78 else
  if op = 8 then 78 else
  if op = 9 then 81 else
  if op = 10 then 82 else
  if op = 11 then 83 else
  if op = 12 then 84 else
  if op = 13 then 85 else
  if op = 14 then 86 else
  if op = 15 then 87 else
  if op = 16 then 88 else
  89
theorem udeedF_1 : udeedF 1 = 79 := by decide
theorem udeedF_2 : udeedF 2 = 80 := by decide
theorem udeedF_3 : udeedF 3 = 78 := by decide
theorem udeedF_4 : udeedF 4 = 78 := by decide
theorem udeedF_5 : udeedF 5 = 78 := by decide
theorem udeedF_6 : udeedF 6 = 78 := by decide
theorem udeedF_7 : udeedF 7 = 78 := by decide
theorem udeedF_8 : udeedF 8 = 78 := by decide
theorem udeedF_9 : udeedF 9 = 81 := by decide
theorem udeedF_10 : udeedF 10 = 82 := by decide
theorem udeedF_11 : udeedF 11 = 83 := by decide
theorem udeedF_12 : udeedF 12 = 84 := by decide
theorem udeedF_13 : udeedF 13 = 85 := by decide
theorem udeedF_14 : udeedF 14 = 86 := by decide
theorem udeedF_15 : udeedF 15 = 87 := by decide
theorem udeedF_16 : udeedF 16 = 88 := by decide
theorem udeedF_17 : udeedF 17 = 89 := by decide
theorem udeed_zero (w : World) : (zeroValue 156).run Try.prog w = .ok .nilFunc w := by kernel_rfl
def UdeedAt (mb : Nat) (w : World) : Prop := ∃ D : DataW Unit, w.ownsMap Try.prog 3 Rfn mb 17 D ∧ ∀ op : Int, 1 ≤ op → op ≤ 17 → D.atKey (.int .i64 op) (.lit (.int .i64 (-1))) = .lit (.int .i64 (udeedF op))
theorem UdeedAt.heap {mb : Nat} {w w1 : World} (h : UdeedAt mb w) (hk : w1.heap[mb]? = w.heap[mb]?) : UdeedAt mb w1 := by
  obtain ⟨D, ⟨es, clock, h1, h2⟩, h3⟩ := h
  exact ⟨D, ⟨es, clock, hk.trans h1, h2⟩, h3⟩
theorem UdeedAt.notCells {mb : Nat} {w : World} (h : UdeedAt mb w) : ∀ cs t f, w.heap[mb]? ≠ some (.cells cs t f) := by
  obtain ⟨D, ⟨es, clock, h1, h2⟩, h3⟩ := h
  intro cs t f e
  rw [h1] at e; cases e
theorem UdeedAt.lt {mb : Nat} {w : World} (h : UdeedAt mb w) : mb < w.heap.size := by
  obtain ⟨D, hm, _⟩ := h
  exact hm.lt
theorem UdeedAt.look {mb : Nat} {w : World} (h : UdeedAt mb w) (op : Int) (h1 : 1 ≤ op) (h2 : op ≤ 17) : (Instr.lookup 153 (.map (some mb)) (.int .i64 op) false).run Try.prog w = .ok (.func (.func (udeedF op)) #[] #[]) w := by
  obtain ⟨D, hm, hD⟩ := h
  obtain ⟨v, ps, hrun, hv⟩ := hm.lookup law3 Try.underlying153 (udeed_zero w) (zd := .lit (.int .i64 (-1))) (zp := []) rfl (key := .int .i64 op) (kl := .int .i64 op) (keyOf_int_mk Try.underlying3 (WalkArith.wf_i64 (by omega)))
  rw [hD op h1 h2] at hv
  rw [hrun, Rfn_inv hv]
theorem udeed_enter {op : Int} (h : 1 ≤ op ∧ op ≤ 17) (args : Array Value) (w : World) : (callFunc (udeedF op) args).run Try.prog w = .ok (.enter (udeedF op) args) w := by
  have hcases : op = 1 ∨ op = 2 ∨ op = 3 ∨ op = 4 ∨ op = 5 ∨ op = 6 ∨ op = 7 ∨ op = 8 ∨ op = 9 ∨ op = 10 ∨ op = 11 ∨ op = 12 ∨ op = 13 ∨ op = 14 ∨ op = 15 ∨ op = 16 ∨ op = 17 := by omega
  rcases hcases with rfl | rfl | rfl | rfl | rfl | rfl | rfl | rfl | rfl | rfl | rfl | rfl | rfl | rfl | rfl | rfl | rfl
  · rw [udeedF_1]; exact Try.call79 args w
  · rw [udeedF_2]; exact Try.call80 args w
  · rw [udeedF_3]; exact Try.call78 args w
  · rw [udeedF_4]; exact Try.call78 args w
  · rw [udeedF_5]; exact Try.call78 args w
  · rw [udeedF_6]; exact Try.call78 args w
  · rw [udeedF_7]; exact Try.call78 args w
  · rw [udeedF_8]; exact Try.call78 args w
  · rw [udeedF_9]; exact Try.call81 args w
  · rw [udeedF_10]; exact Try.call82 args w
  · rw [udeedF_11]; exact Try.call83 args w
  · rw [udeedF_12]; exact Try.call84 args w
  · rw [udeedF_13]; exact Try.call85 args w
  · rw [udeedF_14]; exact Try.call86 args w
  · rw [udeedF_15]; exact Try.call87 args w
  · rw [udeedF_16]; exact Try.call88 args w
  · rw [udeedF_17]; exact Try.call89 args w
/-- the table as_ it is filled. -/
structure UdeedI (w : World) (mb n : Nat) (w' : World) : Prop where
  map : ∃ D : DataW Unit, w'.ownsMap Try.prog 3 Rfn mb n D ∧ ∀ op : Int, 1 ≤ op → op ≤ n → D.atKey (.int .i64 op) (.lit (.int .i64 (-1))) = .lit (.int .i64 (udeedF op))
  below : Below w.heap.size w w'
  mb_ : mb = w.heap.size
theorem UdeedI.put {w w1 w2 : World} {mb n : Nat} (h : UdeedI w mb n w1) {D : DataW Unit} (hD : ∀ op : Int, 1 ≤ op → op ≤ n → D.atKey (.int .i64 op) (.lit (.int .i64 (-1))) = .lit (.int .i64 (udeedF op))) (hi : IsMap D) (hm : w2.ownsMap Try.prog 3 Rfn mb (n + 1) (D.put (.int .i64 ((n : Int) + 1)) (.lit (.int .i64 (udeedF ((n : Int) + 1)))))) (hg : w1.grownBy w2 (some mb)) : UdeedI w mb (n + 1) w2 := by
  refine ⟨⟨_, hm, fun op h1 h2 => ?_⟩, h.below.grown hg h.below.size (fun j hj => by cases hj; rw [h.mb_]; exact Nat.le_refl _), h.mb_⟩
  by_cases e : (n : Int) + 1 = op
  · subst e
    rw [atKey_put_same hi (by simp [WideAt.IsKeyLit])]
  · rw [atKey_put_other (by simp; exact fun h => e h.symm), hD op h1 (by omega)]
def UdeedP (w : World) (e : Ending) (w' : World) : Prop := e = .returned (.map (some w.heap.size)) ∧ Below w.heap.size w w' ∧ UdeedAt w.heap.size w'
set_option maxRecDepth 100000 in
set_option maxHeartbeats 8000000 in
theorem udeeds_any (w : World) : Calls Try.prog 58 #[] w (UdeedP w) := by
  have hmm := @run_makeMap Try.prog
  have H0 := Aside0.mk (show UdeedI w w.heap.size 0 (w.alloc (.map #[] 0)) from ⟨⟨.map [], World.ownsMap_made _ _ _ _, fun op h1 h2 => by omega⟩, (Below.refl _ _).alloc (Nat.le_refl _) _, rfl⟩)
  go_enter Try.func58, Try.ntmps58
  go_wp2_with (first | (obtain ⟨D, hm, hD⟩ := H0.out.map; refine wpList_insert_own _ rfl (.tmp 2) _ _ 153 rfl 3 156 law3 Try.underlying153 Rfn w.heap.size 0 D rfl hm (by unfold maxLen; decide) (.int .i64 1) (.func (.func 79) #[] #[]) (.int .i64 1) rfl rfl (keyOf_int_mk Try.underlying3 (by decide)) (.lit (.int .i64 79)) [] (Rfn_mk 79) ?_; intro w1 hm1 hg1; have H1 := Aside0.mk (H0.out.put hD hm.isMap (w2 := w1) hm1 hg1); clear hm hD hm1 hg1) | (obtain ⟨D, hm, hD⟩ := H1.out.map; refine wpList_insert_own _ rfl (.tmp 2) _ _ 153 rfl 3 156 law3 Try.underlying153 Rfn w.heap.size 1 D rfl hm (by unfold maxLen; decide) (.int .i64 2) (.func (.func 80) #[] #[]) (.int .i64 2) rfl rfl (keyOf_int_mk Try.underlying3 (by decide)) (.lit (.int .i64 80)) [] (Rfn_mk 80) ?_; intro w2 hm1 hg1; have H2 := Aside0.mk (H1.out.put hD hm.isMap (w2 := w2) hm1 hg1); clear hm hD hm1 hg1) | (obtain ⟨D, hm, hD⟩ := H2.out.map; refine wpList_insert_own _ rfl (.tmp 2) _ _ 153 rfl 3 156 law3 Try.underlying153 Rfn w.heap.size 2 D rfl hm (by unfold maxLen; decide) (.int .i64 3) (.func (.func 78) #[] #[]) (.int .i64 3) rfl rfl (keyOf_int_mk Try.underlying3 (by decide)) (.lit (.int .i64 78)) [] (Rfn_mk 78) ?_; intro w3 hm1 hg1; have H3 := Aside0.mk (H2.out.put hD hm.isMap (w2 := w3) hm1 hg1); clear hm hD hm1 hg1) | (obtain ⟨D, hm, hD⟩ := H3.out.map; refine wpList_insert_own _ rfl (.tmp 2) _ _ 153 rfl 3 156 law3 Try.underlying153 Rfn w.heap.size 3 D rfl hm (by unfold maxLen; decide) (.int .i64 4) (.func (.func 78) #[] #[]) (.int .i64 4) rfl rfl (keyOf_int_mk Try.underlying3 (by decide)) (.lit (.int .i64 78)) [] (Rfn_mk 78) ?_; intro w4 hm1 hg1; have H4 := Aside0.mk (H3.out.put hD hm.isMap (w2 := w4) hm1 hg1); clear hm hD hm1 hg1) | (obtain ⟨D, hm, hD⟩ := H4.out.map; refine wpList_insert_own _ rfl (.tmp 2) _ _ 153 rfl 3 156 law3 Try.underlying153 Rfn w.heap.size 4 D rfl hm (by unfold maxLen; decide) (.int .i64 5) (.func (.func 78) #[] #[]) (.int .i64 5) rfl rfl (keyOf_int_mk Try.underlying3 (by decide)) (.lit (.int .i64 78)) [] (Rfn_mk 78) ?_; intro w5 hm1 hg1; have H5 := Aside0.mk (H4.out.put hD hm.isMap (w2 := w5) hm1 hg1); clear hm hD hm1 hg1) | (obtain ⟨D, hm, hD⟩ := H5.out.map; refine wpList_insert_own _ rfl (.tmp 2) _ _ 153 rfl 3 156 law3 Try.underlying153 Rfn w.heap.size 5 D rfl hm (by unfold maxLen; decide) (.int .i64 6) (.func (.func 78) #[] #[]) (.int .i64 6) rfl rfl (keyOf_int_mk Try.underlying3 (by decide)) (.lit (.int .i64 78)) [] (Rfn_mk 78) ?_; intro w6 hm1 hg1; have H6 := Aside0.mk (H5.out.put hD hm.isMap (w2 := w6) hm1 hg1); clear hm hD hm1 hg1) | (obtain ⟨D, hm, hD⟩ := H6.out.map; refine wpList_insert_own _ rfl (.tmp 2) _ _ 153 rfl 3 156 law3 Try.underlying153 Rfn w.heap.size 6 D rfl hm (by unfold maxLen; decide) (.int .i64 7) (.func (.func 78) #[] #[]) (.int .i64 7) rfl rfl (keyOf_int_mk Try.underlying3 (by decide)) (.lit (.int .i64 78)) [] (Rfn_mk 78) ?_; intro w7 hm1 hg1; have H7 := Aside0.mk (H6.out.put hD hm.isMap (w2 := w7) hm1 hg1); clear hm hD hm1 hg1) | (obtain ⟨D, hm, hD⟩ := H7.out.map; refine wpList_insert_own _ rfl (.tmp 2) _ _ 153 rfl 3 156 law3 Try.underlying153 Rfn w.heap.size 7 D rfl hm (by unfold maxLen; decide) (.int .i64 8) (.func (.func 78) #[] #[]) (.int .i64 8) rfl rfl (keyOf_int_mk Try.underlying3 (by decide)) (.lit (.int .i64 78)) [] (Rfn_mk 78) ?_; intro w8 hm1 hg1; have H8 := Aside0.mk (H7.out.put hD hm.isMap (w2 := w8) hm1 hg1); clear hm hD hm1 hg1) | (obtain ⟨D, hm, hD⟩ := H8.out.map; refine wpList_insert_own _ rfl (.tmp 2) _ _ 153 rfl 3 156 law3 Try.underlying153 Rfn w.heap.size 8 D rfl hm (by unfold maxLen; decide) (.int .i64 9) (.func (.func 81) #[] #[]) (.int .i64 9) rfl rfl (keyOf_int_mk Try.underlying3 (by decide)) (.lit (.int .i64 81)) [] (Rfn_mk 81) ?_; intro w9 hm1 hg1; have H9 := Aside0.mk (H8.out.put hD hm.isMap (w2 := w9) hm1 hg1); clear hm hD hm1 hg1) | (obtain ⟨D, hm, hD⟩ := H9.out.map; refine wpList_insert_own _ rfl (.tmp 2) _ _ 153 rfl 3 156 law3 Try.underlying153 Rfn w.heap.size 9 D rfl hm (by unfold maxLen; decide) (.int .i64 10) (.func (.func 82) #[] #[]) (.int .i64 10) rfl rfl (keyOf_int_mk Try.underlying3 (by decide)) (.lit (.int .i64 82)) [] (Rfn_mk 82) ?_; intro w10 hm1 hg1; have H10 := Aside0.mk (H9.out.put hD hm.isMap (w2 := w10) hm1 hg1); clear hm hD hm1 hg1) | (obtain ⟨D, hm, hD⟩ := H10.out.map; refine wpList_insert_own _ rfl (.tmp 2) _ _ 153 rfl 3 156 law3 Try.underlying153 Rfn w.heap.size 10 D rfl hm (by unfold maxLen; decide) (.int .i64 11) (.func (.func 83) #[] #[]) (.int .i64 11) rfl rfl (keyOf_int_mk Try.underlying3 (by decide)) (.lit (.int .i64 83)) [] (Rfn_mk 83) ?_; intro w11 hm1 hg1; have H11 := Aside0.mk (H10.out.put hD hm.isMap (w2 := w11) hm1 hg1); clear hm hD hm1 hg1) | (obtain ⟨D, hm, hD⟩ := H11.out.map; refine wpList_insert_own _ rfl (.tmp 2) _ _ 153 rfl 3 156 law3 Try.underlying153 Rfn w.heap.size 11 D rfl hm (by unfold maxLen; decide) (.int .i64 12) (.func (.func 84) #[] #[]) (.int .i64 12) rfl rfl (keyOf_int_mk Try.underlying3 (by decide)) (.lit (.int .i64 84)) [] (Rfn_mk 84) ?_; intro w12 hm1 hg1; have H12 := Aside0.mk (H11.out.put hD hm.isMap (w2 := w12) hm1 hg1); clear hm hD hm1 hg1) | (obtain ⟨D, hm, hD⟩ := H12.out.map; refine wpList_insert_own _ rfl (.tmp 2) _ _ 153 rfl 3 156 law3 Try.underlying153 Rfn w.heap.size 12 D rfl hm (by unfold maxLen; decide) (.int .i64 13) (.func (.func 85) #[] #[]) (.int .i64 13) rfl rfl (keyOf_int_mk Try.underlying3 (by decide)) (.lit (.int .i64 85)) [] (Rfn_mk 85) ?_; intro w13 hm1 hg1; have H13 := Aside0.mk (H12.out.put hD hm.isMap (w2 := w13) hm1 hg1); clear hm hD hm1 hg1) | (obtain ⟨D, hm, hD⟩ := H13.out.map; refine wpList_insert_own _ rfl (.tmp 2) _ _ 153 rfl 3 156 law3 Try.underlying153 Rfn w.heap.size 13 D rfl hm (by unfold maxLen; decide) (.int .i64 14) (.func (.func 86) #[] #[]) (.int .i64 14) rfl rfl (keyOf_int_mk Try.underlying3 (by decide)) (.lit (.int .i64 86)) [] (Rfn_mk 86) ?_; intro w14 hm1 hg1; have H14 := Aside0.mk (H13.out.put hD hm.isMap (w2 := w14) hm1 hg1); clear hm hD hm1 hg1) | (obtain ⟨D, hm, hD⟩ := H14.out.map; refine wpList_insert_own _ rfl (.tmp 2) _ _ 153 rfl 3 156 law3 Try.underlying153 Rfn w.heap.size 14 D rfl hm (by unfold maxLen; decide) (.int .i64 15) (.func (.func 87) #[] #[]) (.int .i64 15) rfl rfl (keyOf_int_mk Try.underlying3 (by decide)) (.lit (.int .i64 87)) [] (Rfn_mk 87) ?_; intro w15 hm1 hg1; have H15 := Aside0.mk (H14.out.put hD hm.isMap (w2 := w15) hm1 hg1); clear hm hD hm1 hg1) | (obtain ⟨D, hm, hD⟩ := H15.out.map; refine wpList_insert_own _ rfl (.tmp 2) _ _ 153 rfl 3 156 law3 Try.underlying153 Rfn w.heap.size 15 D rfl hm (by unfold maxLen; decide) (.int .i64 16) (.func (.func 88) #[] #[]) (.int .i64 16) rfl rfl (keyOf_int_mk Try.underlying3 (by decide)) (.lit (.int .i64 88)) [] (Rfn_mk 88) ?_; intro w16 hm1 hg1; have H16 := Aside0.mk (H15.out.put hD hm.isMap (w2 := w16) hm1 hg1); clear hm hD hm1 hg1) | (obtain ⟨D, hm, hD⟩ := H16.out.map; refine wpList_insert_own _ rfl (.tmp 2) _ _ 153 rfl 3 156 law3 Try.underlying153 Rfn w.heap.size 16 D rfl hm (by unfold maxLen; decide) (.int .i64 17) (.func (.func 89) #[] #[]) (.int .i64 17) rfl rfl (keyOf_int_mk Try.underlying3 (by decide)) (.lit (.int .i64 89)) [] (Rfn_mk 89) ?_; intro w17 hm1 hg1; have H17 := Aside0.mk (H16.out.put hD hm.isMap (w2 := w17) hm1 hg1); clear hm hD hm1 hg1))
  go_ret
  obtain ⟨D, hm, hD⟩ := H17.out.map
  exact ⟨rfl, H17.out.below, D, hm, fun op h1 h2 => hD op h1 (by omega)⟩
end Go.Proofs.Ytbekjccehhaljaa.H

set_option linter.unusedVariables false
set_option linter.unusedSimpArgs false
namespace Go.Proofs.Ytbekjccehhaljaa.H
open Go.RowKit Go.Hay Go.Proofs.YtbekjccehhaljaaW.PrintWords Go.Proofs.YtbekjccehhaljaaW.PrintLast Go.Proofs.YtbekjccehhaljaaW.PrintMore
section
variable {c : Cu} {l : List S64} {D : Nat → Prop} {G : Gu} {ents : List Ent} {vl vp : Value} {w : World} {T : Tu} {p : Pl} {M k lc cp : Nat} {A : Option Addr} {path : List Int} {x : S61}
theorem reckonU_6 (a b : Int) : reckonU 6 a b = if b = 0 then none else some (wrap64 (a.tdiv b)) := rfl
theorem StepPU.goes {T' : Tu} {r : SU} (h : ST c l D G ents vl vp T p w) (hr : r = .go T' G) {e : Ending} {w' : World} (hp : GoPU D c.wb vp T' p c.B w e w') : StepPU c l p.tb p.nb vp (PU c.wb vl) (QU p) D r w e w' := by
  subst hr; exact ⟨hp.1, task_goU h hp.2.1 hp.2.2⟩
theorem StepPU.stops {v f : Int} {r : SU} (h : ST c l D G ents vl vp T p w) (hr : r = .stop v f T G) {e : Ending} {w' : World} (hp : StopPU v f w e w') : StepPU c l p.tb p.nb vp (PU c.wb vl) (QU p) D r w e w' := by
  subst hr; exact ⟨hp.1, task_same h hp.2⟩
theorem step_anyU (K : KU c l M k A cp path lc T G x w) (h : ST c l D G ents vl (.slice A path.length cp) T p w) :
    Calls Try.prog (udeedF x.f0) #[.pointer (some ⟨p.tb, 0, none⟩), xvU x] w (StepPU c l p.tb p.nb (.slice A path.length cp) (PU c.wb vl) (QU p) D (stepU l c.depth (runU l c.budget c.depth k) path x T G) w) := by
  have hx := K.hx
  have hop := hx.op
  have hD : ¬ D p.tb := fun hd => h.qd _ (.inl rfl) hd
  have hkl : T.kids.length ≤ 1000000 := by have h1 := K.hti.kt; have h2 := K.hti.steps; have h3 := K.hbu; omega
  have htl : T.told ≤ 1000000 := by have h1 := K.hti.kt; have h2 := K.hti.steps; have h3 := K.hbu; omega
  have hpl : T.ps.length ≤ 1000000 := by have h0 := K.hti.pl; have h1 := K.hti.kt; have h2 := K.hti.steps; have h3 := K.hbu; omega
  have hcases : x.f0 = 1 ∨ x.f0 = 2 ∨ x.f0 = 3 ∨ x.f0 = 4 ∨ x.f0 = 5 ∨ x.f0 = 6 ∨ x.f0 = 7 ∨ x.f0 = 8 ∨ x.f0 = 9 ∨ x.f0 = 10 ∨ x.f0 = 11 ∨ x.f0 = 12 ∨ x.f0 = 13 ∨ x.f0 = 14 ∨ x.f0 = 15 ∨ x.f0 = 16 ∨ x.f0 = 17 := by omega
  rcases hcases with e | e | e | e | e | e | e | e | e | e | e | e | e | e | e | e | e
  · rw [e, udeedF_1]
    exact (uset_any h.ub hD x (hx.a (by omega) (by omega) (by omega) (by omega))).mono fun _ _ hp => .goes h (by unfold stepU; repeat (first | rw [if_pos e] | rw [if_pos (show x.f0 ≤ 8 by omega)] | rw [if_neg (by omega)])) hp
  · rw [e, udeedF_2]
    exact (umove_any h.ub hD x (hx.a (by omega) (by omega) (by omega) (by omega)) (hx.b (.inl (by omega)))).mono fun _ _ hp => .goes h (by unfold stepU; repeat (first | rw [if_pos e] | rw [if_pos (show x.f0 ≤ 8 by omega)] | rw [if_neg (by omega)])) hp
  · rw [e, udeedF_3]
    exact (ureckon_add h.ub hD x e (hx.a (by omega) (by omega) (by omega) (by omega)) (hx.b (.inl (by omega))) (hx.c (by omega))).mono fun _ _ hp => .goes h (by unfold stepU; repeat (first | rw [if_pos e] | rw [if_pos (show x.f0 ≤ 8 by omega)] | rw [if_neg (by omega)]); unfold reckonU; repeat (first | rw [if_pos e] | rw [if_neg (by omega)])) hp
  · rw [e, udeedF_4]
    exact (ureckon_sub h.ub hD x e (hx.a (by omega) (by omega) (by omega) (by omega)) (hx.b (.inl (by omega))) (hx.c (by omega))).mono fun _ _ hp => .goes h (by unfold stepU; repeat (first | rw [if_pos e] | rw [if_pos (show x.f0 ≤ 8 by omega)] | rw [if_neg (by omega)]); unfold reckonU; repeat (first | rw [if_pos e] | rw [if_neg (by omega)])) hp
  · rw [e, udeedF_5]
    exact (ureckon_mul h.ub hD x e (hx.a (by omega) (by omega) (by omega) (by omega)) (hx.b (.inl (by omega))) (hx.c (by omega))).mono fun _ _ hp => .goes h (by unfold stepU; repeat (first | rw [if_pos e] | rw [if_pos (show x.f0 ≤ 8 by omega)] | rw [if_neg (by omega)]); unfold reckonU; repeat (first | rw [if_pos e] | rw [if_neg (by omega)])) hp
  · rw [e, udeedF_6]
    by_cases hz : uR T x.f3 = 0
    · exact (ureckon_no h.ub hD x e (hx.a (by omega) (by omega) (by omega) (by omega)) (hx.b (.inl (by omega))) (hx.c (by omega)) hz).mono fun _ _ hp => .stops h (by unfold stepU; repeat (first | rw [if_pos e] | rw [if_pos (show x.f0 ≤ 8 by omega)] | rw [if_neg (by omega)]); rw [e, reckonU_6, if_pos hz]; rfl) hp
    · exact (ureckon_div h.ub hD x e (hx.a (by omega) (by omega) (by omega) (by omega)) (hx.b (.inl (by omega))) (hx.c (by omega)) hz).mono fun _ _ hp => .goes h (by unfold stepU; repeat (first | rw [if_pos e] | rw [if_pos (show x.f0 ≤ 8 by omega)] | rw [if_neg (by omega)]); rw [e, reckonU_6, if_neg hz]; rfl) hp
  · rw [e, udeedF_7]
    exact (ureckon_less h.ub hD x e (hx.a (by omega) (by omega) (by omega) (by omega)) (hx.b (.inl (by omega))) (hx.c (by omega))).mono fun _ _ hp => .goes h (by unfold stepU; repeat (first | rw [if_pos e] | rw [if_pos (show x.f0 ≤ 8 by omega)] | rw [if_neg (by omega)]); unfold reckonU; repeat (first | rw [if_pos e] | rw [if_neg (by omega)])) hp
  · rw [e, udeedF_8]
    exact (ureckon_same h.ub hD x e (hx.a (by omega) (by omega) (by omega) (by omega)) (hx.b (.inl (by omega))) (hx.c (by omega))).mono fun _ _ hp => .goes h (by unfold stepU; repeat (first | rw [if_pos e] | rw [if_pos (show x.f0 ≤ 8 by omega)] | rw [if_neg (by omega)]); unfold reckonU; repeat (first | rw [if_pos e] | rw [if_neg (by omega)])) hp
  · rw [e, udeedF_9]
    exact (ujump_any h.ub hD x).mono fun _ _ hp => .goes h (by unfold stepU; repeat (first | rw [if_pos e] | rw [if_pos (show x.f0 ≤ 8 by omega)] | rw [if_neg (by omega)])) hp
  · rw [e, udeedF_10]
    exact (uzero_any h.ub hD x (hx.a (by omega) (by omega) (by omega) (by omega))).mono fun _ _ hp => .goes h (by unfold stepU; repeat (first | rw [if_pos e] | rw [if_pos (show x.f0 ≤ 8 by omega)] | rw [if_neg (by omega)])) hp
  · rw [e, udeedF_11]
    exact uspawn_any K e h
  · rw [e, udeedF_12]
    refine (usync_any h.ub hD x K.hti.kr K.hti.wait hkl).mono fun _ _ hp => ?_
    rcases hp with ⟨hb, hp⟩ | ⟨hb, hp⟩
    · exact .stops h (by unfold stepU; rw [if_neg (by omega), if_neg (by omega), if_neg (by omega), if_neg (by omega), if_neg (by omega), if_neg (by omega), if_pos e, if_pos hb]) hp
    · exact .goes h (by unfold stepU; rw [if_neg (by omega), if_neg (by omega), if_neg (by omega), if_neg (by omega), if_neg (by omega), if_neg (by omega), if_pos e, if_neg (by rw [hb]; decide)]) hp
  · rw [e, udeedF_13]
    exact ufuture_any K e h
  · rw [e, udeedF_14]
    cases ht : uH T x.f2 with
    | nil => exact (utouch_nil h.ub hD x (hx.b14 e) ht).mono fun _ _ hp => .stops h (by unfold stepU; rw [if_neg (by omega), if_neg (by omega), if_neg (by omega), if_neg (by omega), if_neg (by omega), if_neg (by omega), if_neg (by omega), if_pos e, ht]) hp
    | node ps ks v f =>
      by_cases hf : f = 0
      · have h9 := utouch_any h.ub hD x (hx.a (by omega) (by omega) (by omega) (by omega)) (hx.b14 e) (by rw [ht]; trivial) (by rw [ht]; exact hf)
        rw [ht] at h9
        exact h9.mono fun _ _ hp => .goes h (by unfold stepU; rw [if_neg (by omega), if_neg (by omega), if_neg (by omega), if_neg (by omega), if_neg (by omega), if_neg (by omega), if_neg (by omega), if_pos e, ht]; exact if_neg (fun h => h hf)) hp
      · exact (utouch_bad h.ub hD x (hx.b14 e) (by rw [ht]; trivial) (by rw [ht]; exact hf)).mono fun _ _ hp => .stops h (by unfold stepU; rw [if_neg (by omega), if_neg (by omega), if_neg (by omega), if_neg (by omega), if_neg (by omega), if_neg (by omega), if_neg (by omega), if_pos e, ht]; exact if_pos hf) hp
  · rw [e, udeedF_15]
    have e9 : stepU l c.depth (runU l c.budget c.depth k) path x T G = .go { T with ps := T.ps ++ [⟨false, uR T x.f1⟩], told := T.told + 1 } G := by unfold stepU; rw [if_neg (by omega), if_neg (by omega), if_neg (by omega), if_neg (by omega), if_neg (by omega), if_neg (by omega), if_neg (by omega), if_neg (by omega), if_pos e]
    rw [e9]
    exact uemit_any h x (hx.a (by omega) (by omega) (by omega) (by omega)) hpl htl
  · rw [e, udeedF_16]
    exact (ugives_any h.ub hD x).mono fun _ _ hp => .stops h (by unfold stepU; rw [if_neg (by omega), if_neg (by omega), if_neg (by omega), if_neg (by omega), if_neg (by omega), if_neg (by omega), if_neg (by omega), if_neg (by omega), if_neg (by omega), if_pos e]) hp
  · rw [e, udeedF_17]
    have e9 : stepU l c.depth (runU l c.budget c.depth k) path x T G = (if syncBad T = true then .stop 0 5 T G else .stop (uR (syncU T) x.f1) 0 (syncU T) G) := by unfold stepU; rw [if_neg (by omega), if_neg (by omega), if_neg (by omega), if_neg (by omega), if_neg (by omega), if_neg (by omega), if_neg (by omega), if_neg (by omega), if_neg (by omega), if_neg (by omega)]
    rw [e9]
    exact uret_any h x (hx.a (by omega) (by omega) (by omega) (by omega)) K.hti.kr K.hti.wait hkl
end
end Go.Proofs.Ytbekjccehhaljaa.H

set_option linter.unusedVariables false
set_option linter.unusedSimpArgs false
namespace Go.Proofs.Ytbekjccehhaljaa.H
open Go.RowKit Go.Hay Go.Proofs.YtbekjccehhaljaaW.PrintWords Go.Proofs.YtbekjccehhaljaaW.PrintLast Go.Proofs.YtbekjccehhaljaaW.PrintMore
theorem results_cells1 {fn : Func} {x : Nat} {t : TypeId} (hr : fn.results = #[.cell x t]) {tmps tmps' : Array Value} (h1 : tmps'.getD x undef = tmps.getD x undef) : results fn tmps' = results fn tmps := by
  simp only [Array.getD_eq_getD_getElem?] at h1
  simp [results, hr, h1]
theorem panic_put1 {P : Program} {fn : Func} {R : Ending → World → Prop} {x : Nat} {t : TypeId} (hr : fn.results = #[.cell x t]) {ops : Array Oper}
    (hk : (ops.toList.all fun o => !(o.dst == some x)) = true) :
    ∀ o ∈ ops.toList, ∀ c a v w, bodyPostD P fn R (.panic c) (a.put o.dst v) w → bodyPostD P fn R (.panic c) a w := by
  intro o ho c a v w h
  have h1 := List.all_eq_true.1 hk o ho
  simp only [Bool.not_eq_true', beq_eq_false_iff_ne] at h1
  have hd : (a.put o.dst v).defers = a.defers := by cases o.dst <;> rfl
  have e := results_cells1 hr (put_getD (v := v) (a := a) h1)
  have h' : Leaves P fn (a.put o.dst v).tmps R (a.put o.dst v).defers (.panicking c) w := h
  rw [hd] at h'
  exact leaves_congr (fun w => by rw [e]) _ _ _ h'
theorem assertU_ee (v : Value) (w : World) : (Instr.typeAssert (.iface 127 v) 20 127 true).run Try.prog w = .ok (.tuple #[v, .bool true]) w := by kernel_rfl
theorem assertU_le (v : Value) (w : World) : (Instr.typeAssert (.iface 94 v) 20 127 true).run Try.prog w = .ok (.tuple #[.agg #[.int .i64 0, .int .i64 0], .bool false]) w := by kernel_rfl
section
variable {xb : Nat} {w : World} {o0 o1 : Value}
set_option maxRecDepth 100000 in
set_option maxHeartbeats 4000000 in
theorem ucatch_end (v f : Int) (hx : w.heap[xb]? = some (.cells #[o0, o1] 127 (0, 0))) :
    CallsD Try.prog 57 #[.pointer (some ⟨xb, 0, none⟩)] (.panicking [{ v := uendV v f, recovered := false }]) w fun x u' w' =>
      x = .returned (.tuple #[]) ∧ u' = .panicking [{ v := uendV v f, recovered := true }] ∧ Keep (fun q => q = xb) w w' ∧ w'.heap[xb]? = some (.cells #[.int .i64 v, .int .i64 f] 127 (0, 0)) := by
  have huf := Try.underlying127
  have ha := assertU_ee (.agg #[.int .i64 v, .int .i64 f])
  have s0 := blk_cell hx 0
  have s1 := blk_cell hx 1
  have z0 := blk_frozen hx 0
  have z1 := blk_frozen hx 1
  have HX := Aside0.mk hx
  clear hx
  refine callsD_of_wpS Try.func57 rfl fun c₀ cs hu => ?_
  apply wpS_seq
  apply wpS_region
  simp [wpOpsS, go_sem, recoverD, hu, Try.ntmps57, Exit.thenS]
  refine wpS_body ?_
  simp only [Array.replicate_succ, Array.replicate_zero, List.push_toArray, List.append_toArray, List.nil_append, List.cons_append, List.setIfInBounds_toArray, List.set_cons_zero, List.set_cons_succ, uendV]
  go_wp2_with fail
  go_end0
  have d1 := blk_set (blk_set HX.out 0 (.int .i64 v)) 1 (.int .i64 f)
  exact ⟨rfl, trivial, ((Keep.refl (fun q => q = xb) w).set (p := ⟨xb, 0, none⟩) (.inr rfl) (.int .i64 v)).set (p := ⟨xb, 1, none⟩) (.inr rfl) (.int .i64 f), d1⟩
set_option maxRecDepth 100000 in
set_option maxHeartbeats 4000000 in
theorem ucatch_long (r : List PanicEntry) (hx : w.heap[xb]? = some (.cells #[o0, o1] 127 (0, 0))) :
    CallsD Try.prog 57 #[.pointer (some ⟨xb, 0, none⟩)] (.panicking ({ v := ulongV, recovered := false } :: r)) w fun x u' w' =>
      x = .panicked [{ v := ulongV, recovered := false }] ∧ u' = .panicking ({ v := ulongV, recovered := true } :: r) ∧ Keep (fun q => q = xb) w w' := by
  have huf := Try.underlying127
  have ha := assertU_le (.agg #[])
  have s0 := blk_cell hx 0
  have s1 := blk_cell hx 1
  have z0 := blk_frozen hx 0
  have z1 := blk_frozen hx 1
  have HX := Aside0.mk hx
  clear hx
  refine callsD_of_wpS Try.func57 rfl fun c₀ cs hu => ?_
  apply wpS_seq
  apply wpS_region
  simp [wpOpsS, go_sem, recoverD, hu, Try.ntmps57, Exit.thenS]
  refine wpS_body ?_
  simp only [Array.replicate_succ, Array.replicate_zero, List.push_toArray, List.append_toArray, List.nil_append, List.cons_append, List.setIfInBounds_toArray, List.set_cons_zero, List.set_cons_succ, ulongV]
  go_wp2_with fail
  exact ⟨rfl, rfl, trivial, ((Keep.refl (fun q => q = xb) w).set (p := ⟨xb, 0, none⟩) (.inr rfl) (.int .i64 0)).set (p := ⟨xb, 1, none⟩) (.inr rfl) (.int .i64 0)⟩
end
section
variable {c : Cu} {l : List S64} {D SU1 SQ : Nat → Prop} {G : Gu} {vp : Value} {w w6 w9 : World} {T : Tu} {tb nb xb : Nat}
theorem Left1.box (hL : Left1 c l tb nb vp SU1 SQ D T G w w6) {cs : Array Value} (hbx : w6.heap[xb]? = some (.cells cs 127 (0, 0))) (hx : w.heap.size ≤ xb) (hw : c.w0.heap.size ≤ w.heap.size) (hk : Keep (fun q => q = xb) w6 w9) : Left1 c l tb nb vp SU1 SQ D T G w w9 := by
  obtain ⟨hk0, D', ents', vl', p', hS, ht, hn, hq, h1, h2⟩ := hL
  have hDx : ∀ q, D' q → ¬ q = xb := fun q hq e => by
    subst e
    obtain ⟨cs', t, h9, h8⟩ := hS.us.dt q hq
    rw [hbx] at h9; cases h9
    rcases h8 with e | e | e <;> exact absurd e (by decide)
  have hQx : ∀ q, QU p' q → ¬ q = xb := fun q hq e => by subst e; exact hS.ub.not hbx (by decide) hq
  have hPx : ∀ q, PU c.wb vl' q → ¬ q = xb := fun q hq e => by subst e; exact hS.us.eg.not hbx (by decide) hq
  have hw0 : ∀ q, q < c.w0.heap.size → ¬ q = xb := fun q hq e => by omega
  refine ⟨hk0.then hk (fun q hq e => by omega), D', ents', vl', p', ⟨hS.us.keep hk hPx hDx (fun q cs' hq e => by subst e; rw [hbx] at hq; cases hq) hw0, hS.ub.keep hk hQx hDx (fun _ h => h), hS.qd, hS.tlo, hS.nlo, hS.kb⟩, ht, hn, hq, h1, h2⟩
end
end Go.Proofs.Ytbekjccehhaljaa.H

