/- Spawn and future. -/
import Derived.Test.YtnhipdniceoigaaEvK
set_option linter.unusedVariables false
set_option linter.unusedSimpArgs false
namespace Go.Proofs.Ytnhipdniceoigaa.H
open Go.RowKit Go.Hay Go.Proofs.YtnhipdniceoigaaW.PrintWords Go.Proofs.YtnhipdniceoigaaW.PrintLast Go.Proofs.YtnhipdniceoigaaW.PrintMore
/-- what a task needs that begins another one. -/
structure KidOk (c : Cn) (l : List S58) (M k : Nat) (tb : Nat) (A : Option Addr) (cp : Nat) (path : List Int) (code : List S55) (me : Nat) (T : Ts) (G : Gs) (x : S55) (w : World) : Prop where
  hl : POk l
  hB : BeginC c l M k
  hlo : c.w0.heap.size ≤ tb
  hgi : GInv M c.budget G
  hti : TInv code c.depth path me T G
  hM : M ≤ 1000000
  hdp : c.depth ≤ 900
  hp : PathAt w A path
  hcp : path.length ≤ cp
  hcn : A = none → cp = 0
  hx : IOk l code.length x
  hop : x.f0 = 11 ∨ x.f0 = 13
  hleft : G.log.length + 1 + G.left ≤ M
  hk : G.left < k
section
variable {c : Cn} {l : List S58} {G : Gs} {ents : List Ent} {vt vl vw : Value} {w : World} {T : Ts} {tb me M k : Nat} {A : Option Addr} {cp : Nat} {path : List Int} {code : List S55} {x : S55}
theorem KidOk.below {w1 : World} (h : KidOk c l M k tb A cp path code me T G x w) (hb : Below w.heap.size w w1) : KidOk c l M k tb A cp path code me T G x w1 := ⟨h.hl, h.hB, h.hlo, h.hgi, h.hti, h.hM, h.hdp, h.hp.below hb, h.hcp, h.hcn, h.hx, h.hop, h.hleft, h.hk⟩
theorem kid_all (h : KidOk c l M k tb A cp path code me T G x w) (hg : ES c l G ents vt vl w) (ht : TB tb c.wb (.slice A path.length cp) T vw me c.B w) :
    Calls Try.prog 54 #[.pointer (some ⟨tb, 0, none⟩), xv x] w (KidP c l tb (.slice A path.length cp) vw me (PK c tb vt vl) T (kidR l c.budget c.depth k G path x T) w) := by
  unfold kidR
  by_cases hd : (path.length : Int) = c.depth
  · rw [if_pos hd]; exact kid_no hg ht x hd
  · rw [if_neg hd]; exact kid_any h.hl h.hB hg ht h.hlo h.hgi h.hti h.hM h.hdp h.hp h.hcp h.hcn x h.hx h.hop h.hleft h.hk hd
def spawnT (T : Ts) (a v : Int) : Ts := { T with kids := T.kids + 1, wait := T.wait ++ [(a, v)] }
def futureT (T : Ts) (a v : Int) : Ts := { T with kids := T.kids + 1, hands := T.hands.set a.toNat (true, v) }
def begunR (f : Int → Ts) (r : Out × Gs) : SR :=
  match r with
  | (.val v, G2) => .go (f v) G2
  | (o, G2) => .stop o G2
theorem stepP_spawn (hop : x.f0 = 11) : stepP l c.depth (runP l c.budget c.depth k) path x T G = begunR (spawnT T x.f1) (kidR l c.budget c.depth k G path x T) := by
  unfold stepP kidR beginP
  rw [if_pos (.inl hop)]
  by_cases hd : (path.length : Int) = c.depth
  · rw [if_pos hd, if_pos hd]; rfl
  · rw [if_neg hd, if_neg hd]
    generalize runP l c.budget c.depth k _ _ _ _ _ = r
    obtain ⟨o, G2⟩ := r
    cases o with
    | val v => show SR.go _ _ = SR.go _ _; rw [if_pos hop]; rfl
    | fail why => rfl
    | long => rfl
theorem stepP_future (hop : x.f0 = 13) : stepP l c.depth (runP l c.budget c.depth k) path x T G = begunR (futureT T x.f1) (kidR l c.budget c.depth k G path x T) := by
  unfold stepP kidR beginP
  rw [if_pos (.inr hop)]
  by_cases hd : (path.length : Int) = c.depth
  · rw [if_pos hd, if_pos hd]; rfl
  · rw [if_neg hd, if_neg hd]
    generalize runP l c.budget c.depth k _ _ _ _ _ = r
    obtain ⟨o, G2⟩ := r
    cases o with
    | val v => show SR.go _ _ = SR.go _ _; rw [if_neg (by omega)]; rfl
    | fail why => rfl
    | long => rfl
def SpawnP (c : Cn) (l : List S58) (tb : Nat) (vp : Value) (me : Nat) (PA : Nat → Prop) (f : Int → Ts) (r : Out × Gs) (w : World) (e : Ending) (w' : World) : Prop := StepPost c l tb vp me PA (begunR f r) w e w'
theorem SpawnP.val {vp : Value} {S : Nat → Prop} {f : Int → Ts} {v : Int} {G2 : Gs} {e : Ending} {w' : World} (h : GoesP c l tb vp me S (f v) G2 w e w') : SpawnP c l tb vp me S f (.val v, G2) w e w' := h
theorem SpawnP.stop {vp : Value} {S : Nat → Prop} {f : Int → Ts} {o : Out} {G2 : Gs} {e : Ending} {w' : World} (ho : ∀ v, o ≠ .val v) (h : EndP c l S o G2 w e w') : SpawnP c l tb vp me S f (o, G2) w e w' := by
  unfold SpawnP begunR
  cases o with
  | val v => exact absurd rfl (ho v)
  | fail why => exact h
  | long => exact h

set_option maxRecDepth 100000 in
set_option maxHeartbeats 8000000 in
theorem tspawn_any (hk : KidOk c l M k tb A cp path code me T G x w) (hg : ES c l G ents vt vl w) (h : TB tb c.wb (.slice A path.length cp) T vw me c.B w) :
    Calls Try.prog 48 #[.pointer (some ⟨tb, 0, none⟩), xv x] w (SpawnP c l tb (.slice A path.length cp) me (PA c tb vt vl vw) (spawnT T x.f1) (kidR l c.budget c.depth k G path x T) w) := by
  obtain ⟨r, hr⟩ : ∃ r, r = kidR l c.budget c.depth k G path x T := ⟨_, rfl⟩
  rw [← hr]
  obtain ⟨Aw, cw, rfl⟩ := Kd.R_slice h.wait
  obtain ⟨x0, x1, x2, x3, x4⟩ := x
  try simp only at *
  obtain ⟨W, hW⟩ : ∃ W, W = w.alloc (.cells #[.int .i64 x0, .int .i64 (x1), .int .i64 (x2), .int .i64 (x3), .int .i64 x4] 55) := ⟨_, rfl⟩
  have hb1 : Below w.heap.size w W := by rw [hW]; exact (Below.refl w.heap.size w).alloc (Nat.le_refl _) _
  have hbx : W.heap[w.heap.size]? = some (.cells #[.int .i64 x0, .int .i64 (x1), .int .i64 (x2), .int .i64 (x3), .int .i64 x4] 55 (0, 0)) := by rw [hW]; exact alloc_blk w _
  have h1 := h.below hb1
  have c0 := blk_cell hbx 0
  have c1 := blk_cell hbx 1
  have c2 := blk_cell hbx 2
  have c3 := blk_cell hbx 3
  have c4 := blk_cell hbx 4
  have t0 := h1.fix.1
  have H := Aside0.mk (And.intro h1 hb1)
  have HWW := Aside0.mk hW
  have hkid := fun {w1 : World} (hb : Below w.heap.size w w1) => kid_all (hk.below hb) (hg.below hb) (h.below hb)
  rw [← hr] at hkid
  have HK := Aside0.mk (fun {w1 : World} (hb : Below w.heap.size w w1) => hkid hb)
  have t18 := h1.fix.2.2.1
  have HX := Aside0.mk (And.intro hbx (And.intro hg (And.intro hk t18)))
  have hne : w.heap.size ≠ tb := fun e => by have h2 := h1.node; rw [← e, hbx] at h2; cases h2
  have HNE := Aside0.mk hne
  clear hg hk hkid hr c0 c1 c2 c3 c4 hne
  unfold xv
  clear h h1 hb1 hbx hW
  go_enter Try.func48, Try.ntmps48
  go_wp2_with fail
  rw [← HWW.out]
  refine wp_region_seq2 (fun w' => w'.cell? ⟨tb, 18, none⟩ = some (.slice Aw T.wait.length cw) ∧ w'.heap[w.heap.size]? = some (.cells #[.int .i64 x0, .int .i64 x1, .int .i64 x2, .int .i64 x3, .int .i64 x4] 55 (0, 0))) [15] [.take 0, .take 1, .take 2, .take 3, .take 4, .take 5, .take 6, .take 7, .take 8, .op 9, .op 10, .op 11, .op 12, .op 13, .op 14, .fin 15] (by kernel_rfl) (by kernel_rfl) rfl (by kernel_rfl) (panic_viaE (P := Try.prog) (fn := Try.f48) (R := SpawnP c l tb (.slice A path.length cp) me (PA c tb vt vl (.slice Aw T.wait.length cw)) (spawnT T x1) r w) (fun _ _ _ => rfl)) ?_
  have hs : W.drew.cell? ⟨tb, 18, none⟩ = some (.slice Aw T.wait.length cw) ∧ W.drew.heap[w.heap.size]? = some (.cells #[.int .i64 x0, .int .i64 x1, .int .i64 x2, .int .i64 x3, .int .i64 x4] 55 (0, 0)) := ⟨HX.out.2.2.2, HX.out.1⟩
  clear t18 t0
  repeat (
    (first
      | (refine runSeq2_take (v := ?_) (by rfl) (by rfl) (fun w' hS => ?_) hs ?_
         rotate_left
         · (have u18 := hS.1; have hb9 := hS.2; have c0 := blk_cell hb9 0; have c1 := blk_cell hb9 1; have c2 := blk_cell hb9 2; have c3 := blk_cell hb9 3; have c4 := blk_cell hb9 4; go_simp; exact rfl))
      | refine runSeq2_skip (by rfl) (by rfl) hs ?_)
    (try simp only [Act.put, List.setIfInBounds_toArray, List.set_cons_zero, List.set_cons_succ]))
  clear hs
  have hs : Below W.heap.size W W.drew := (Below.refl _ _).drew
  refine runSeq2_op (by rfl) (by rfl) (fun K hK => ?_)
  go_simp
  refine (HK.out (H.out.2.trans (hs.mono H.out.2.size))).mono ?_
  intro e w1 hkid
  obtain ⟨o, G2⟩ := r
  cases o with
  | val v =>
    obtain ⟨rfl, hk1, ents', vt', vl', hE1, hT1, hq1⟩ := hkid
    have u18 := hT1.fix.2.2.1
    have hbx1 : w1.heap[w.heap.size]? = W.heap[w.heap.size]? := hk1.block _ (by have := blk_lt HX.out.1; simpa using this) (fun hp => hp.elim (fun hp => (HX.out.2.1.below (H.out.2.trans (hs.mono H.out.2.size))).eg.not (show W.drew.heap[w.heap.size]? = _ from HX.out.1) (by decide) hp) HNE.out)
    refine hK _ _ ⟨u18, hbx1.trans HX.out.1⟩ ?_
    clear hK K
    have hz1 := (blk_lt hT1.node)
    refine runSeq2_op (by rfl) (by rfl) (fun K hK => ?_)
    go_simp
    refine hK _ _ ⟨u18, hbx1.trans HX.out.1⟩ ?_
    clear hK K
    refine runSeq2_op (by rfl) (by rfl) (fun K hK => ?_)
    go_simp
    have hb2 : Below w1.heap.size w1 (w1.alloc (.cells #[.int .i64 x1, .int .i64 v] 122)) := (Below.refl _ _).alloc (Nat.le_refl _) _
    have hbx2 := (hb2.block _ (blk_lt (hbx1.trans HX.out.1))).trans (hbx1.trans HX.out.1)
    have u18b := (hT1.below hb2).fix.2.2.1
    refine hK _ _ ⟨u18b, hbx2⟩ ?_
    clear hK K
    refine runSeq2_op (by rfl) (by rfl) (fun K hK => ?_)
    have hB1 : c.B ≤ w1.heap.size := Nat.le_trans hE1.eg.lo (Nat.le_of_lt (blk_lt hE1.eg.node))
    refine wp_append_rows kSt (Rr := kSt.M (w1.alloc (.cells #[.int .i64 x1, .int .i64 v] 122)) c.B (fun _ => False)) c.B rfl (.tmp 8) (.tmp 15) 95 122 (.agg #[(.int .i64 0), (.int .i64 0)]) 16 rfl Try.underlying95 info122 rfl (by decide) (by decide) (.slice Aw T.wait.length cw) T.wait [(x1, v)] _ _ _ (fun _ => True) (fun _ => False) rfl rfl (hT1.below hb2).wait (reads_one (alloc_blk _ _) (kSt_mkM _ _ _ ((x1, v) : Int × Int))) (fun _ _ h => h) (fun _ h => h.elim) (fun _ _ => trivial) (Nat.le_trans hB1 hb2.size) (by have h8 := HX.out.2.2.1.hti.wl; have h9 := HX.out.2.2.1.hti.kids; have h7 := HX.out.2.2.1.hgi.log; have h6 := HX.out.2.2.1.hM; omega) ?_
    intro v9 w9 hR9 hbw hgr hat
    have hn9 : ∀ q, q < w1.heap.size → (Value.slice Aw T.wait.length cw).ownBlock ≠ some q → w9.heap[q]? = w1.heap[q]? := fun q hq hn => (hgr.block q (Nat.lt_of_lt_of_le hq hb2.size) (fun e => hn e.symm)).trans (hb2.block q hq)
    have htb9 := hn9 tb hz1 hT1.new
    have hbx9 : w9.heap[w.heap.size]? = _ := (hn9 _ (blk_lt (hbx1.trans HX.out.1)) (fun e => by
      obtain ⟨cs, h2⟩ := Kd.R_typed hT1.wait _ e
      rw [hbx1.trans HX.out.1] at h2; cases h2)).trans (hbx1.trans HX.out.1)
    have hv9 : v9.ownBlock ≠ some tb := by
      intro e
      rcases hat with h2 | ⟨q', h2, h3⟩
      · rw [h2] at e; exact hT1.new e
      · rw [h2] at e; cases e
        have := hb2.size; omega
    have h9 := hT1.setWait htb9 hR9 hv9
    have hk9 : Keep (PT tb (.slice Aw T.wait.length cw)) w1 (w9.setCell ⟨tb, 18, none⟩ v9) := ((Keep.of_below hb2 _).trans ((Keep.grown hgr).mono (fun q _ h2 => .inr h2.symm))).set (p := ⟨tb, 18, none⟩) (.inr (.inl rfl)) _
    have hp9 : ∀ q, PT tb v9 q → PT tb (.slice Aw T.wait.length cw) q ∨ w1.heap.size ≤ q := by
      intro q hq
      rcases hq with rfl | hq
      · exact .inl (.inl rfl)
      · rcases hat with h2 | ⟨q', h2, h3⟩
        · rw [h2] at hq; exact .inl (.inr hq)
        · rw [h2] at hq; cases hq
          exact .inr (Nat.le_trans hb2.size h3)
    have z18 := blk_frozen (htb9.trans hT1.node) 18
    have u18c := (World.cell?_of_block (a := ⟨tb, 18, none⟩) htb9).trans hT1.fix.2.2.1
    obtain ⟨A9, c9, rfl⟩ := Kd.R_slice hR9
    generalize (T.wait ++ [(x1, v)]).length = L9 at h9 hk9 hp9 ⊢
    have H9 := Aside0.mk (And.intro h9 (And.intro hk9 (And.intro hp9 (And.intro hE1 (And.intro hT1 (And.intro hk1 (And.intro hq1 hs)))))))
    clear h9 hk9 hp9 hE1 hT1 hk1 hq1 hv9 hn9 hR9 hbw hgr hat hb2 hbx2 u18b hB1 hz1 hbx1 u18 hs
    refine hK _ _ ⟨u18c, hbx9⟩ ?_
    clear hK K
    refine runSeq2_op (by rfl) (by rfl) (fun K hK => ?_)
    go_simp
    refine hK _ _ ⟨u18c, hbx9⟩ ?_
    clear hK K
    refine runSeq2_op (by rfl) (by rfl) (fun K hK => ?_)
    go_simp
    refine hK _ _ ⟨u18c, hbx9⟩ ?_
    clear hK K
    refine runSeq2_fin (by rfl) (by rfl) (fun K hK => ?_)
    go_simp
    refine hK _ _ ?_
    refine runSeq2_nil ?_
    clear hK K htb9 hbx9 z18 u18c
    go_wp2_with fail
    go_end0
    obtain ⟨h9, hk9, hp9, hE1, hT1, hk1, hq1, hs⟩ := H9.out
    have hap := apart hE1.eg hT1
    have hlo := HX.out.2.2.1.hlo
    have hE9 := hE1.keep hk9 (fun q hq hp => hap q hq hp) (fun q cs hq hp => hT1.notPath q cs hq hp) (fun q hq hp => by
      rcases hp with rfl | hp
      · omega
      · have h2 := (R_own hT1.wait q hp).2.1; have h3 := hE1.lo; omega)
    have hkk := ((Keep.of_below (H.out.2.trans (hs.mono H.out.2.size)) (PA c tb vt vl (.slice Aw T.wait.length cw))).trans (hk1.mono (fun q _ h8 => h8.elim Or.inl (fun h7 => .inr (.inl h7))))).trans (hk9.mono (fun q _ h8 => .inr h8))
    have hsz : w.heap.size ≤ W.drew.heap.size := Nat.le_trans H.out.2.size hs.size
    refine SpawnP.val ⟨rfl, hkk, ents', vt', vl', _, hE9, h9, fun q hq => ?_⟩
    rcases hq with hq | hq
    · rcases hq1 q hq with h2 | h2
      · exact .inl (h2.elim Or.inl (fun h7 => .inr (.inl h7)))
      · exact .inr (Nat.le_trans hsz h2)
    · rcases hp9 q hq with h2 | h2
      · exact .inl (.inr h2)
      · exact .inr (Nat.le_trans hsz (Nat.le_trans hk1.size h2))
  | fail why =>
    have hend : e = .panicked [{ v := failV why, recovered := false }] := hkid.1
    subst hend
    obtain ⟨_, hk1, ents', vt', vl', hE1, hq1⟩ := hkid
    refine ⟨rfl, ?_⟩
    refine SpawnP.stop (by intro v h9; cases h9) ⟨rfl, (Keep.of_below (H.out.2.trans (hs.mono H.out.2.size)) _).trans (hk1.mono (fun q _ h9 => h9.elim Or.inl (fun h8 => .inr (.inl h8)))), ents', vt', vl', hE1, fun q hq => ?_⟩
    rcases hq1 q hq with h9 | h9
    · exact .inl (h9.elim Or.inl (fun h8 => .inr (.inl h8)))
    · exact .inr (Nat.le_trans (Nat.le_trans H.out.2.size hs.size) h9)
  | long =>
    have hend : e = .panicked [{ v := longV, recovered := false }] := hkid.1
    subst hend
    obtain ⟨_, hk1, ents', vt', vl', hE1, hq1⟩ := hkid
    refine ⟨rfl, ?_⟩
    refine SpawnP.stop (by intro v h9; cases h9) ⟨rfl, (Keep.of_below (H.out.2.trans (hs.mono H.out.2.size)) _).trans (hk1.mono (fun q _ h9 => h9.elim Or.inl (fun h8 => .inr (.inl h8)))), ents', vt', vl', hE1, fun q hq => ?_⟩
    rcases hq1 q hq with h9 | h9
    · exact .inl (h9.elim Or.inl (fun h8 => .inr (.inl h8)))
    · exact .inr (Nat.le_trans (Nat.le_trans H.out.2.size hs.size) h9)
set_option maxRecDepth 100000 in
set_option maxHeartbeats 8000000 in
theorem tfuture_any (ha : 0 ≤ x.f1 ∧ x.f1 < 4) (hk : KidOk c l M k tb A cp path code me T G x w) (hg : ES c l G ents vt vl w) (h : TB tb c.wb (.slice A path.length cp) T vw me c.B w) :
    Calls Try.prog 49 #[.pointer (some ⟨tb, 0, none⟩), xv x] w (SpawnP c l tb (.slice A path.length cp) me (PA c tb vt vl vw) (futureT T x.f1) (kidR l c.budget c.depth k G path x T) w) := by
  obtain ⟨r, hr⟩ : ∃ r, r = kidR l c.budget c.depth k G path x T := ⟨_, rfl⟩
  rw [← hr]
  obtain ⟨Aw, cw, rfl⟩ := Kd.R_slice h.wait
  obtain ⟨x0, x1, x2, x3, x4⟩ := x
  try simp only at *
  obtain ⟨a, rfl⟩ : ∃ a : Nat, x1 = a := ⟨x1.toNat, by omega⟩
  have ha4 : ((a : Int) < 4) = True := eq_true ha.2
  have HA := Aside0.mk ha.2
  clear ha
  obtain ⟨W, hW⟩ : ∃ W, W = w.alloc (.cells #[.int .i64 x0, .int .i64 (a), .int .i64 (x2), .int .i64 (x3), .int .i64 x4] 55) := ⟨_, rfl⟩
  have hb1 : Below w.heap.size w W := by rw [hW]; exact (Below.refl w.heap.size w).alloc (Nat.le_refl _) _
  have hbx : W.heap[w.heap.size]? = some (.cells #[.int .i64 x0, .int .i64 (a), .int .i64 (x2), .int .i64 (x3), .int .i64 x4] 55 (0, 0)) := by rw [hW]; exact alloc_blk w _
  have h1 := h.below hb1
  have c0 := blk_cell hbx 0
  have c1 := blk_cell hbx 1
  have c2 := blk_cell hbx 2
  have c3 := blk_cell hbx 3
  have c4 := blk_cell hbx 4
  have t0 := h1.fix.1
  have H := Aside0.mk (And.intro h1 hb1)
  have HWW := Aside0.mk hW
  have hkid := fun {w1 : World} (hb : Below w.heap.size w w1) => kid_all (hk.below hb) (hg.below hb) (h.below hb)
  rw [← hr] at hkid
  have HK := Aside0.mk (fun {w1 : World} (hb : Below w.heap.size w w1) => hkid hb)
  have t18 := h1.fix.2.2.1
  have HX := Aside0.mk (And.intro hbx (And.intro hg (And.intro hk t18)))
  have hne : w.heap.size ≠ tb := fun e => by have h2 := h1.node; rw [← e, hbx] at h2; cases h2
  have HNE := Aside0.mk hne
  clear hg hk hkid hr c0 c1 c2 c3 c4 hne
  unfold xv
  clear h h1 hb1 hbx hW
  go_enter Try.func49, Try.ntmps49
  go_wp2_with fail
  rw [← HWW.out]
  refine wp_region_seq2 (fun w' => w'.heap[w.heap.size]? = some (.cells #[.int .i64 x0, .int .i64 a, .int .i64 x2, .int .i64 x3, .int .i64 x4] 55 (0, 0))) [10] [.take 0, .take 1, .take 2, .take 3, .take 4, .take 7, .take 8, .op 5, .op 6, .op 9, .fin 10] (by kernel_rfl) (by kernel_rfl) rfl (by kernel_rfl) (panic_viaE (P := Try.prog) (fn := Try.f49) (R := SpawnP c l tb (.slice A path.length cp) me (PA c tb vt vl (.slice Aw T.wait.length cw)) (futureT T a) r w) (fun _ _ _ => rfl)) ?_
  have hs : W.drew.heap[w.heap.size]? = some (.cells #[.int .i64 x0, .int .i64 a, .int .i64 x2, .int .i64 x3, .int .i64 x4] 55 (0, 0)) := HX.out.1
  clear t18 t0
  repeat (
    (first
      | (refine runSeq2_take (v := ?_) (by rfl) (by rfl) (fun w' hS => ?_) hs ?_
         rotate_left
         · (have c0 := blk_cell hS 0; have c1 := blk_cell hS 1; have c2 := blk_cell hS 2; have c3 := blk_cell hS 3; have c4 := blk_cell hS 4; go_simp; exact rfl))
      | refine runSeq2_skip (by rfl) (by rfl) hs ?_)
    (try simp only [Act.put, List.setIfInBounds_toArray, List.set_cons_zero, List.set_cons_succ]))
  clear hs
  have hs : Below W.heap.size W W.drew := (Below.refl _ _).drew
  refine runSeq2_op (by rfl) (by rfl) (fun K hK => ?_)
  go_simp
  refine (HK.out (H.out.2.trans (hs.mono H.out.2.size))).mono ?_
  intro e w1 hkid
  obtain ⟨o, G2⟩ := r
  cases o with
  | val v =>
    obtain ⟨rfl, hk1, ents', vt', vl', hE1, hT1, hq1⟩ := hkid
    have hbx1 : w1.heap[w.heap.size]? = W.heap[w.heap.size]? := hk1.block _ (by have := blk_lt HX.out.1; simpa using this) (fun hp => hp.elim (fun hp => (HX.out.2.1.below (H.out.2.trans (hs.mono H.out.2.size))).eg.not (show W.drew.heap[w.heap.size]? = _ from HX.out.1) (by decide) hp) HNE.out)
    refine hK _ _ (hbx1.trans HX.out.1) ?_
    clear hK K
    refine runSeq2_op (by rfl) (by rfl) (fun K hK => ?_)
    go_simp
    refine hK _ _ (hbx1.trans HX.out.1) ?_
    clear hK K
    refine runSeq2_op (by rfl) (by rfl) (fun K hK => ?_)
    go_simp
    refine hK _ _ (hbx1.trans HX.out.1) ?_
    clear hK K
    have g0 := (hT1.hand a (by have := HA.out; omega)).1
    have g1 := (hT1.hand a (by have := HA.out; omega)).2
    have z0 := hT1.frozen (10 + a * 2)
    have z1 := hT1.frozen (10 + a * 2 + 1)
    have h9 := hT1.setHand a (by have := HA.out; omega) true v
    have hk9 : Keep (fun q => q = tb) w1 ((w1.setCell ⟨tb, 10 + a * 2, none⟩ (.bool true)).setCell ⟨tb, 10 + a * 2 + 1, none⟩ (.int .i64 v)) := ((Keep.refl (fun q => q = tb) w1).set (p := ⟨tb, 10 + a * 2, none⟩) (.inr rfl) _).set (p := ⟨tb, 10 + a * 2 + 1, none⟩) (.inr rfl) _
    have H9 := Aside0.mk (And.intro h9 (And.intro hk9 (And.intro hE1 (And.intro hT1 (And.intro hk1 (And.intro hq1 hs))))))
    clear h9 hk9 hE1 hT1 hk1 hq1 hs hbx1
    refine runSeq2_fin (by rfl) (by rfl) (fun K hK => ?_)
    go_simp
    refine hK _ _ ?_
    refine runSeq2_nil ?_
    clear hK K z0 z1 g0 g1
    go_wp2_with fail
    go_end0
    obtain ⟨h9, hk9, hE1, hT1, hk1, hq1, hs⟩ := H9.out
    have hE9 := hE1.task hT1 HX.out.2.2.1.hlo hk9
    have hkk := ((Keep.of_below (H.out.2.trans (hs.mono H.out.2.size)) (PA c tb vt vl (.slice Aw T.wait.length cw))).trans (hk1.mono (fun q _ h8 => h8.elim Or.inl (fun h7 => .inr (.inl h7))))).trans (hk9.mono (fun q _ h8 => .inr (.inl h8)))
    have hsz : w.heap.size ≤ W.drew.heap.size := Nat.le_trans H.out.2.size hs.size
    refine SpawnP.val ⟨rfl, hkk, ents', vt', vl', _, hE9, h9, fun q hq => ?_⟩
    rcases hq with hq | hq
    · rcases hq1 q hq with h2 | h2
      · exact .inl (h2.elim Or.inl (fun h7 => .inr (.inl h7)))
      · exact .inr (Nat.le_trans hsz h2)
    · exact .inl (.inr hq)
  | fail why =>
    have hend : e = .panicked [{ v := failV why, recovered := false }] := hkid.1
    subst hend
    obtain ⟨_, hk1, ents', vt', vl', hE1, hq1⟩ := hkid
    refine ⟨rfl, ?_⟩
    refine SpawnP.stop (by intro v h9; cases h9) ⟨rfl, (Keep.of_below (H.out.2.trans (hs.mono H.out.2.size)) _).trans (hk1.mono (fun q _ h9 => h9.elim Or.inl (fun h8 => .inr (.inl h8)))), ents', vt', vl', hE1, fun q hq => ?_⟩
    rcases hq1 q hq with h9 | h9
    · exact .inl (h9.elim Or.inl (fun h8 => .inr (.inl h8)))
    · exact .inr (Nat.le_trans (Nat.le_trans H.out.2.size hs.size) h9)
  | long =>
    have hend : e = .panicked [{ v := longV, recovered := false }] := hkid.1
    subst hend
    obtain ⟨_, hk1, ents', vt', vl', hE1, hq1⟩ := hkid
    refine ⟨rfl, ?_⟩
    refine SpawnP.stop (by intro v h9; cases h9) ⟨rfl, (Keep.of_below (H.out.2.trans (hs.mono H.out.2.size)) _).trans (hk1.mono (fun q _ h9 => h9.elim Or.inl (fun h8 => .inr (.inl h8)))), ents', vt', vl', hE1, fun q hq => ?_⟩
    rcases hq1 q hq with h9 | h9
    · exact .inl (h9.elim Or.inl (fun h8 => .inr (.inl h8)))
    · exact .inr (Nat.le_trans (Nat.le_trans H.out.2.size hs.size) h9)
end
end Go.Proofs.Ytnhipdniceoigaa.H
