/- What the proof of FrameNew stands on, part 14: this session's own texts and the words that the kit's print lays, those that are used. -/
import Derived.Test.YtcciejcpijlkfaaZFrameNew13
set_option linter.unusedVariables false
set_option linter.unusedSimpArgs false
namespace Go.Proofs.Ytcciejcpijlkfaa.H
open Go.RowKit Go.Hay Go.Proofs.YtcciejcpijlkfaaW.PrintWords Go.Proofs.YtcciejcpijlkfaaW.PrintLast Go.Proofs.YtcciejcpijlkfaaW.PrintMore
theorem flatMap_piece {β : Type} {s : Nat} (f : β → List Value) : ∀ (ps : List β) (hf : ∀ p ∈ ps, (f p).length = s) (j : Nat) (h : j < ps.length), ((ps.flatMap f).drop (j * s)).take s = f ps[j]
  | p :: ps, hf, 0, _ => by
    rw [Nat.zero_mul, List.drop_zero, List.flatMap_cons]
    have := hf p (List.mem_cons_self ..)
    rw [← this, List.take_left]
    rfl
  | p :: ps, hf, j + 1, h => by
    have h1 := hf p (List.mem_cons_self ..)
    rw [List.flatMap_cons, show (j + 1) * s = (f p).length + j * s by rw [h1, Nat.succ_mul, Nat.add_comm], List.drop_length_add_append]
    exact flatMap_piece f ps (fun q hq => hf q (List.mem_cons_of_mem _ hq)) j (by simpa using h)
theorem reads_flat {α β : Type} {R : α → List Value → Prop} {s : Nat} {W : World} {b : Nat} {t : TypeId} {fr : Nat × Nat} (g : β → α) (f : β → List Value) (ps : List β) (hf : ∀ p ∈ ps, (f p).length = s) (hR : ∀ p ∈ ps, R (g p) (f p)) (h : W.heap[b]? = some (.cells (ps.flatMap f).toArray t fr)) (hm : ps.length ≤ 9223372036854775807) : ReadsRow R s W (some ⟨b, 0, none⟩) ps.length (ps.map g) := by
  have e : ps.length = (ps.map g).length := (List.length_map ..).symm
  rw [e]
  refine reads_cells h ⟨?_, fun j p hj => ?_⟩ (by rw [← e]; exact hm)
  · have e2 : (ps.flatMap f).length = ps.length * s := by
      clear h hm hR e
      induction ps with
      | nil => simp
      | cons p ps ih => rw [List.flatMap_cons, List.length_append, hf p (List.mem_cons_self ..), ih (fun q hq => hf q (List.mem_cons_of_mem _ hq)), List.length_cons, Nat.succ_mul, Nat.add_comm]
    rw [← e]
    exact e2
  · have hlt : j < ps.length := by have := (List.getElem?_eq_some_iff.1 hj).1; simpa using this
    rw [List.getElem?_map, List.getElem?_eq_getElem hlt] at hj
    have hj : g ps[j] = p := Option.some.inj hj
    show R p (((ps.flatMap f).toArray.toList.drop (j * s)).take s)
    rw [← hj]
    have := flatMap_piece f ps hf j hlt
    rw [show (ps.flatMap f).toArray.toList = ps.flatMap f from rfl, this]
    exact hR _ (List.getElem_mem _)
def icells (x : S65) : List Value := [.int .i64 x.f0, .int .i64 x.f1, .int .i64 x.f2, .int .i64 x.f3, .int .i64 x.f4]
theorem code_C {w : World} {b : Nat} {t : TypeId} {fr : Nat × Nat} (code : List S65) (h : w.heap[b]? = some (.cells (code.flatMap icells).toArray t fr)) (hm : code.length ≤ 9223372036854775807) : k65.C w (some ⟨b, 0, none⟩) code.length code := by
  have := reads_flat (R := k65.K w) (s := 5) id icells code (fun _ _ => rfl) (fun x _ => k65_mk w x) h hm
  rwa [List.map_id] at this
def fcells (p : S68 × Option Addr × Nat) : List Value := [.int .i64 p.1.f0, .slice p.2.1 p.1.f1.length p.2.2]
theorem prog_C {w : World} {b : Nat} {t : TypeId} {fr : Nat × Nat} (ps : List (S68 × Option Addr × Nat)) (h : w.heap[b]? = some (.cells (ps.flatMap fcells).toArray t fr)) (hm : ps.length ≤ 9223372036854775807) (hc : ∀ p ∈ ps, k65.C w p.2.1 p.1.f1.length p.1.f1 ∧ p.1.f1.length ≤ p.2.2) : k68.C w (some ⟨b, 0, none⟩) ps.length (ps.map fun p => p.1) :=
  reads_flat (R := k68.K w) (s := 2) (fun p : S68 × Option Addr × Nat => p.1) fcells ps (fun _ _ => rfl) (fun p hp => k68_mk w p.1 (hc p hp).2 (hc p hp).1) h hm
end Go.Proofs.Ytcciejcpijlkfaa.H

set_option linter.unusedVariables false
set_option linter.unusedSimpArgs false
namespace Go.Proofs.Ytcciejcpijlkfaa.H
open Go.RowKit Go.Hay Go.Proofs.YtcciejcpijlkfaaW.PrintWords Go.Proofs.YtcciejcpijlkfaaW.PrintLast Go.Proofs.YtcciejcpijlkfaaW.PrintMore
structure LF (fb : Nat) (F : Fr) (Ap : Option Addr) (cp : Nat) (w : World) : Prop where
  fr : FB fb F (.slice Ap F.path.length cp) w
  pc : F.path.length ≤ cp
  pn : Ap = none → cp = 0
  pne : F.path = [] ∨ ∃ ad, Ap = some ad ∧ ad.block ≠ fb
  pC : (Kd.int .i64).C w Ap F.path.length F.path
  st : -9223372036854775808 ≤ F.steps
section
variable {fb : Nat} {F : Fr} {Ap : Option Addr} {cp : Nat} {w w1 : World}
theorem LF.keepC (h : LF fb F Ap cp w) (hk : Keep (fun q => q = fb) w w1) : (Kd.int .i64).C w1 Ap F.path.length F.path := by
  rcases h.pne with e | ⟨ad, rfl, hne⟩
  · rw [e]; exact ⟨rfl, by simp, fun hp => absurd hp (Nat.lt_irrefl 0)⟩
  · by_cases he : F.path = []
    · rw [he]; exact ⟨rfl, by simp, fun hp => absurd hp (Nat.lt_irrefl 0)⟩
    · refine C_at (fun h => h) h.pC (fun ad' e => ?_)
      cases e
      obtain ⟨ad', e, hx⟩ := h.pC.2.2 (List.length_pos_iff.2 he)
      cases e
      refine hk.block _ ?_ hne
      obtain ⟨p, hp⟩ : ∃ p, F.path[0]? = some p := ⟨_, List.getElem?_eq_getElem (List.length_pos_iff.2 he)⟩
      obtain ⟨cs, h1, h2, h3⟩ := hx 0 p hp
      have h2 : cs = [.int .i64 p] := h2
      subst h2
      have h4 := World.block_lt_of_cell? _ _ (h3 0 _ rfl)
      rwa [add_block] at h4
theorem LF.below (h : LF fb F Ap cp w) (hb : Below w.heap.size w w1) : LF fb F Ap cp w1 := ⟨h.fr.below hb, h.pc, h.pn, h.pne, Kd.C_below h.pC hb, h.st⟩
theorem LF.next (h : LF fb F Ap cp w) {F1 : Fr} (hF : FB fb F1 (.slice Ap F.path.length cp) w1) (hp : F1.path = F.path) (hst : F.steps ≤ F1.steps) (hk : Keep (fun q => q = fb) w w1) : LF fb F1 Ap cp w1 :=
  ⟨by rw [hp]; exact hF, by rw [hp]; exact h.pc, h.pn, by rw [hp]; exact h.pne, by rw [hp]; exact h.keepC hk, Int.le_trans h.st hst⟩
def ProgK (fb : Nat) (w : World) (A : Option Addr) (l : List S68) : Prop := ∀ w', Keep (fun q => q = fb) w w' → k68.C w' A l.length l
theorem ProgK.next {A : Option Addr} {l : List S68} (h : ProgK fb w A l) (hk : Keep (fun q => q = fb) w w1) : ProgK fb w1 A l := fun w' hk' => h w' (hk.trans hk')
theorem ProgK.old {w0 : World} {A : Option Addr} {l : List S68} (h : k68.C w0 A l.length l) (hb : Below w0.heap.size w0 w) (hf : w0.heap.size ≤ fb) : ProgK fb w A l := fun w' hk => Kd.C_below h (hb.trans (hk.below hb.size (fun q hq e => by omega)))
theorem exec_any {A : Option Addr} {c : Nat} {l : List S68} {b d : Int} (hC : ProgK fb w A l) (hc : l.length ≤ c) (h : LF fb F Ap cp w) :
    Calls Try.prog 11 #[.slice A l.length c, .agg #[.int .i64 b, .int .i64 d], .pointer (some ⟨fb, 0, none⟩)] w fun x w' =>
      ∃ Aa ca Ab cb, x = .returned (.tuple #[efV (execP l b d F).1 Aa ca Ab cb, .int .i64 (execP l b d F).2.1]) ∧ EfC w.heap.size w' (execP l b d F).1 Aa ca Ab cb ∧ LF fb (execP l b d F).2.2 Ap cp w' ∧ Keep (fun q => q = fb) w w' := by
  refine (Exec_any (b := b) (d := d) hC hc (fun w' hk => h.keepC hk) h.pc h.pn h.fr h.st).mono ?_
  rintro e w' ⟨Aa, ca, Ab, cb, rfl, hE, hF, hk⟩
  exact ⟨Aa, ca, Ab, cb, rfl, hE, h.next hF (execP_path l b d F).1 (execP_path l b d F).2 hk, hk⟩
theorem NewP.live {F : Fr} {x : Ending} {w' : World} (hst : -9223372036854775808 ≤ F.steps) (h : NewP F w x w') : ∃ fb Ap cp, x = .returned (.pointer (some ⟨fb, 0, none⟩)) ∧ w.heap.size ≤ fb ∧ LF fb F Ap cp w' ∧ Below w.heap.size w w' := by
  obtain ⟨fb, Ap, cp, e, h1, h2, h3, h4, h5, h6, h7⟩ := h
  exact ⟨fb, Ap, cp, e, h1, ⟨h2, h4, h5, h6.imp id (fun ⟨ad, e1, e2, e3⟩ => ⟨ad, e1, by omega⟩), h7, hst⟩, h3⟩
end
end Go.Proofs.Ytcciejcpijlkfaa.H

set_option linter.unusedVariables false
set_option linter.unusedSimpArgs false
namespace Go.Proofs.Ytcciejcpijlkfaa.H
open Go.RowKit Go.Hay Go.Proofs.YtcciejcpijlkfaaW.PrintWords Go.Proofs.YtcciejcpijlkfaaW.PrintLast Go.Proofs.YtcciejcpijlkfaaW.PrintMore
set_option maxRecDepth 100000 in
theorem peq_some (a : Addr) (w : World) : (binOp .eql 31 (.pointer (some a)) (.pointer none)).run Try.prog w = .ok (.bool false) w := rfl
/-- what stays right between two calls of Exec: the program, the limits' box, the frame. -/
structure Liv (w : World) (fb : Nat) (F : Fr) (Ap : Option Addr) (cp : Nat) (A : Option Addr) (l : List S68) (bl : Nat) (b d : Int) (W : World) : Prop where
  below : Below w.heap.size w W
  pg : ProgK fb W A l
  lim : W.heap[bl]? = some (.cells #[.int .i64 b, .int .i64 d] 43 (0, 0))
  blf : bl ≠ fb
  lo : w.heap.size ≤ fb
  lf : LF fb F Ap cp W
section
variable {w W W1 : World} {fb : Nat} {F F1 : Fr} {Ap : Option Addr} {cp : Nat} {A : Option Addr} {l : List S68} {bl : Nat} {b d : Int}
theorem Liv.next (h : Liv w fb F Ap cp A l bl b d W) (hL : LF fb F1 Ap cp W1) (hk : Keep (fun q => q = fb) W W1) : Liv w fb F1 Ap cp A l bl b d W1 :=
  ⟨h.below.trans (hk.below h.below.size (fun q hq e => by have := h.lo; omega)), h.pg.next hk, hk.blk h.lim h.blf, h.blf, h.lo, hL⟩
theorem Liv.below2 (h : Liv w fb F Ap cp A l bl b d W) (hb : Below W.heap.size W W1) : Liv w fb F Ap cp A l bl b d W1 :=
  h.next (h.lf.below hb) (Keep.of_below hb _)
end
theorem calls_at {P : Program} {f : FuncId} {args : Array Value} {w w1 : World} {Q : Ending → World → Prop} (h : Calls P f args w1 Q) (e : w = w1) : Calls P f args w Q := e ▸ h
def exF : List S68 := [⟨0, [⟨1, 1, 0, 0, 7⟩, ⟨15, 1, 0, 0, 0⟩, ⟨17, 1, 0, 0, 0⟩]⟩]
def exF0 : Fr := newFr 0 [] [] [0, 0, 0, 0]
def exF1 : Fr := ⟨0, 1, 1, 0, [], [0, 7, 0, 0, 0, 0, 0, 0], [0, 0, 0, 0]⟩
def exF2 : Fr := ⟨0, 2, 2, 0, [], [0, 7, 0, 0, 0, 0, 0, 0], [0, 0, 0, 0]⟩
def exF3 : Fr := ⟨0, 3, 3, 0, [], [0, 7, 0, 0, 0, 0, 0, 0], [0, 0, 0, 0]⟩
theorem exF_1 : execP exF 9 0 exF0 = (efGoes, 0, exF1) := by kernel_rfl
theorem exF_2 : execP exF 9 0 exF1 = (⟨2, 7, 0, 0, 0, 0, [], []⟩, 0, exF2) := by kernel_rfl
theorem exF_3 : execP exF 9 0 exF2 = (⟨7, 0, 1, 0, 0, 0, [], []⟩, 0, exF3) := by kernel_rfl
/-- a program of one function, newly written. -/
theorem prog1F (w : World) (f : S68) (hf : f.f1.length ≤ 1000) {W : World} (hW : W = (w.alloc (.cells (f.f1.flatMap icells).toArray 65)).alloc (.cells #[.int .i64 f.f0, .slice (some ⟨w.heap.size, 0, none⟩) f.f1.length f.f1.length] 68)) :
    Below w.heap.size w W ∧ k68.C W (some ⟨w.heap.size + 1, 0, none⟩) 1 [f] ∧ W.heap.size = w.heap.size + 1 + 1 := by
  have e1 : (w.alloc (.cells (f.f1.flatMap icells).toArray 65)).heap.size = w.heap.size + 1 := Array.size_push _
  have e2 : ((w.alloc (.cells (f.f1.flatMap icells).toArray 65)).alloc (.cells #[.int .i64 f.f0, .slice (some ⟨w.heap.size, 0, none⟩) f.f1.length f.f1.length] 68)).heap.size = w.heap.size + 1 + 1 := by rw [← e1]; exact Array.size_push _
  have b1 := (Below.refl w.heap.size w).alloc (Nat.le_refl _) (.cells (f.f1.flatMap icells).toArray 65)
  have b2 := b1.alloc b1.size (.cells #[.int .i64 f.f0, .slice (some ⟨w.heap.size, 0, none⟩) f.f1.length f.f1.length] 68)
  have h1 : W.heap[w.heap.size]? = some (.cells (f.f1.flatMap icells).toArray 65 (0, 0)) := by rw [hW]; exact blk_alloc (alloc_blk w _) _
  have h2 : W.heap[w.heap.size + 1]? = some (.cells (([(f, some ⟨w.heap.size, 0, none⟩, f.f1.length)] : List (S68 × Option Addr × Nat)).flatMap fcells).toArray 68 (0, 0)) := by
    have := alloc_blk (w.alloc (.cells (f.f1.flatMap icells).toArray 65)) (.cells #[.int .i64 f.f0, .slice (some ⟨w.heap.size, 0, none⟩) f.f1.length f.f1.length] 68)
    rw [e1] at this
    rw [hW]; exact this
  refine ⟨by rw [hW]; exact b2, prog_C [(f, some ⟨w.heap.size, 0, none⟩, f.f1.length)] h2 (by simp) (fun p hp => ?_), by rw [hW]; exact e2⟩
  obtain rfl := List.mem_singleton.1 hp
  exact ⟨code_C _ h1 (by show f.f1.length ≤ _; omega), Nat.le_refl _⟩
set_option maxRecDepth 100000 in
set_option maxHeartbeats 8000000 in
theorem awake_any (w : World) : Calls Try.prog 16 #[] w fun e w' => e = .returned (.bool true) ∧ Below w.heap.size w w' := by
  have hpe := peq_some
  obtain ⟨W, hW⟩ : ∃ W, W = (w.alloc (.cells (([⟨1, 1, 0, 0, 7⟩, ⟨15, 1, 0, 0, 0⟩, ⟨17, 1, 0, 0, 0⟩] : List S65).flatMap icells).toArray 65)).alloc (.cells #[.int .i64 0, .slice (some ⟨w.heap.size, 0, none⟩) 3 3] 68) := ⟨_, rfl⟩
  obtain ⟨hb1, hP, hsz⟩ := prog1F w ⟨0, [⟨1, 1, 0, 0, 7⟩, ⟨15, 1, 0, 0, 0⟩, ⟨17, 1, 0, 0, 0⟩]⟩ (by decide) hW
  obtain ⟨bl, hbl⟩ : ∃ bl, bl = W.heap.size := ⟨_, rfl⟩
  obtain ⟨W1, hW1⟩ : ∃ W1, W1 = W.alloc (.cells #[.int .i64 9, .int .i64 0] 43) := ⟨_, rfl⟩
  have hb2 : Below W.heap.size W W1 := by rw [hW1]; exact (Below.refl W.heap.size W).alloc (Nat.le_refl _) _
  have hl1 : W1.heap[bl]? = some (.cells #[.int .i64 9, .int .i64 0] 43 (0, 0)) := by rw [hW1, hbl]; exact alloc_blk W _
  have hb12 := hb1.trans (hb2.mono hb1.size)
  have HW := Aside0.mk (And.intro hW (And.intro hW1 (And.intro hbl hsz)))
  have H1 := Aside0.mk (And.intro hb12 (And.intro (Kd.C_below hP hb2) hl1))
  have hnew := New_any 0 none 0 [] none 0 [] 0 0 0 0 W1 (Kd.C_nil _ _) (Nat.le_refl _) (fun _ => rfl) (by simp) (Kd.C_nil _ _) (Nat.le_refl _)
  have HN := Aside0.mk hnew
  clear hW hb1 hP hW1 hbl hb2 hl1 hb12 hsz hnew
  go_enter Try.func16, Try.ntmps16
  go_wp2_with fail
  refine (calls_at HN.out (by rw [HW.out.2.1, HW.out.1]; rfl)).mono ?_
  intro e W2 hp
  obtain ⟨fb, Ap, cp, rfl, hfb, hL, hb3⟩ := hp.live (by decide)
  have HL := Aside0.mk hL
  have HB := Aside0.mk (H1.out.1.trans (hb3.mono H1.out.1.size))
  have hK : ProgK fb W2 (some ⟨w.heap.size + 1, 0, none⟩) exF := ProgK.old H1.out.2.1 hb3 hfb
  have hbx := (hb3.block _ (blk_lt H1.out.2.2)).trans H1.out.2.2
  have hblf : bl ≠ fb := by have := blk_lt H1.out.2.2; omega
  have HV := Aside0.mk (show Liv w fb exF0 Ap cp (some ⟨w.heap.size + 1, 0, none⟩) exF bl 9 0 W2 from ⟨HB.out, hK, hbx, hblf, Nat.le_trans H1.out.1.size hfb, hL⟩)
  have hblw : bl = w.heap.size + 1 + 1 := HW.out.2.2.1.trans HW.out.2.2.2
  subst hblw
  clear hp hL hfb hb3 hK hblf HN
  have y0 := blk_cell hbx 0
  have y1 := blk_cell hbx 1
  clear hbx
  go_wp2_with fail
  refine (exec_any (b := 9) (d := 0) HV.out.pg (Nat.le_refl _) HV.out.lf).mono ?_
  rw [exF_1]
  rintro e w3 ⟨Aa, ca, Ab, cb, rfl, hE, hL, hk⟩
  have HV := Aside0.mk (HV.out.next hL hk)
  have HKK := Aside0.mk hk
  unfold efV
  dsimp only [efGoes, List.length_nil]
  obtain ⟨b1, hbb⟩ : ∃ b1, b1 = w3.heap.size := ⟨_, rfl⟩
  obtain ⟨W4, hW4⟩ : ∃ W4, W4 = w3.alloc (.cells #[.int .i64 1, .int .i64 0, .int .i64 0, .int .i64 0, .int .i64 0, .int .i64 0, .slice Aa 0 ca, .slice Ab 0 cb] 36) := ⟨_, rfl⟩
  have hb4 : Below w3.heap.size w3 W4 := by rw [hW4]; exact (Below.refl w3.heap.size w3).alloc (Nat.le_refl _) _
  have hx4 : W4.heap[b1]? = some (.cells #[.int .i64 1, .int .i64 0, .int .i64 0, .int .i64 0, .int .i64 0, .int .i64 0, .slice Aa 0 ca, .slice Ab 0 cb] 36 (0, 0)) := by rw [hW4, hbb]; exact alloc_blk w3 _
  have HW4 := Aside0.mk (And.intro hW4 hbb)
  have HX1 := Aside0.mk (And.intro hx4 (show b1 ≠ fb by have := HV.out.lf.fr.lt; omega))
  have HB4 := Aside0.mk hb4
  have HV := Aside0.mk (HV.out.below2 hb4)
  clear y0 y1 hE hL hk hW4 hbb hb4 hx4
  go_upto_region 7 with (fail)
  rw [← HW4.out.1, ← HW4.out.2]
  have y0 := blk_cell HV.out.lim 0
  have y1 := blk_cell HV.out.lim 1
  go_wp2_with fail
  refine (exec_any (b := 9) (d := 0) HV.out.pg (Nat.le_refl _) HV.out.lf).mono ?_
  rw [exF_2]
  rintro e w3 ⟨Aa, ca, Ab, cb, rfl, hE, hL, hk⟩
  have HV := Aside0.mk (HV.out.next hL hk)
  have HKK := Aside0.mk hk
  unfold efV
  dsimp only [efGoes, List.length_nil]
  obtain ⟨b2, hbb⟩ : ∃ b2, b2 = w3.heap.size := ⟨_, rfl⟩
  obtain ⟨W4, hW4⟩ : ∃ W4, W4 = w3.alloc (.cells #[.int .i64 2, .int .i64 7, .int .i64 0, .int .i64 0, .int .i64 0, .int .i64 0, .slice Aa 0 ca, .slice Ab 0 cb] 36) := ⟨_, rfl⟩
  have hb4 : Below w3.heap.size w3 W4 := by rw [hW4]; exact (Below.refl w3.heap.size w3).alloc (Nat.le_refl _) _
  have hx4 : W4.heap[b2]? = some (.cells #[.int .i64 2, .int .i64 7, .int .i64 0, .int .i64 0, .int .i64 0, .int .i64 0, .slice Aa 0 ca, .slice Ab 0 cb] 36 (0, 0)) := by rw [hW4, hbb]; exact alloc_blk w3 _
  have HW4 := Aside0.mk (And.intro hW4 hbb)
  have HX2 := Aside0.mk (And.intro hx4 (show b2 ≠ fb by have := HV.out.lf.fr.lt; omega))
  have HB4 := Aside0.mk hb4
  have HV := Aside0.mk (HV.out.below2 hb4)
  clear y0 y1 hE hL hk hW4 hbb hb4 hx4
  go_upto_region 8 with (fail)
  rw [← HW4.out.1, ← HW4.out.2]
  have HX1 := Aside0.mk (And.intro ((HB4.out.block _ (Nat.lt_of_lt_of_le (blk_lt HX1.out.1) HKK.out.size)).trans (HKK.out.blk HX1.out.1 HX1.out.2)) HX1.out.2)
  have y0 := blk_cell HV.out.lim 0
  have y1 := blk_cell HV.out.lim 1
  go_wp2_with fail
  refine (exec_any (b := 9) (d := 0) HV.out.pg (Nat.le_refl _) HV.out.lf).mono ?_
  rw [exF_3]
  rintro e w3 ⟨Aa, ca, Ab, cb, rfl, hE, hL, hk⟩
  have HV := Aside0.mk (HV.out.next hL hk)
  have HKK := Aside0.mk hk
  unfold efV
  dsimp only [efGoes, List.length_nil]
  obtain ⟨b3, hbb⟩ : ∃ b3, b3 = w3.heap.size := ⟨_, rfl⟩
  obtain ⟨W4, hW4⟩ : ∃ W4, W4 = w3.alloc (.cells #[.int .i64 7, .int .i64 0, .int .i64 1, .int .i64 0, .int .i64 0, .int .i64 0, .slice Aa 0 ca, .slice Ab 0 cb] 36) := ⟨_, rfl⟩
  have hb4 : Below w3.heap.size w3 W4 := by rw [hW4]; exact (Below.refl w3.heap.size w3).alloc (Nat.le_refl _) _
  have hx4 : W4.heap[b3]? = some (.cells #[.int .i64 7, .int .i64 0, .int .i64 1, .int .i64 0, .int .i64 0, .int .i64 0, .slice Aa 0 ca, .slice Ab 0 cb] 36 (0, 0)) := by rw [hW4, hbb]; exact alloc_blk w3 _
  have HW4 := Aside0.mk (And.intro hW4 hbb)
  have HX3 := Aside0.mk (And.intro hx4 (show b3 ≠ fb by have := HV.out.lf.fr.lt; omega))
  have HB4 := Aside0.mk hb4
  have HV := Aside0.mk (HV.out.below2 hb4)
  clear y0 y1 hE hL hk hW4 hbb hb4 hx4
  go_upto_region 9 with (fail)
  rw [← HW4.out.1, ← HW4.out.2]
  have HX1 := Aside0.mk ((HB4.out.block _ (Nat.lt_of_lt_of_le (blk_lt HX1.out.1) HKK.out.size)).trans (HKK.out.blk HX1.out.1 HX1.out.2))
  have HX2 := Aside0.mk ((HB4.out.block _ (Nat.lt_of_lt_of_le (blk_lt HX2.out.1) HKK.out.size)).trans (HKK.out.blk HX2.out.1 HX2.out.2))
  have p0 := blk_cell HX1.out 0
  have q0 := blk_cell HX2.out 0
  have q1 := blk_cell HX2.out 1
  have r0 := blk_cell HX3.out.1 0
  have r2 := blk_cell HX3.out.1 2
  have t2 : W4.cell? ⟨fb, 2, none⟩ = some (.int .i64 3) := HV.out.lf.fr.fix.2.2.1
  go_wp2_with fail
  go_ret
  exact ⟨rfl, HV.out.below⟩
end Go.Proofs.Ytcciejcpijlkfaa.H

-- made by this session's gen.py over the kit's print.py; not trusted: Lean checks it
namespace Go.Proofs.Ytcciejcpijlkfaa.H
open Go.RowKit Go.Proofs.YtcciejcpijlkfaaW.PrintWords Go.Proofs.YtcciejcpijlkfaaW.PrintLast Go.Proofs.YtcciejcpijlkfaaW.PrintMore
attribute [local go_sem] max2_int min2_int max_two min_two max_three min_three max_four min_four   -- for this text's walks alone
set_option linter.unusedVariables false
set_option linter.unusedSimpArgs false

/-! ### haymowref05_Compare: function 24 -/
mutual
def haymowref05_Compare.l0 : Nat → List Int → List Int → Int → Option (Int)
  | 0, _, _, _ => none
  | k + 1, x0, x1, x5 => if x5 < (x0.length : Int) then (haymowref05_Compare.j1 k x0 x1 x5 (decide (x5 < (x1.length : Int)))) else (haymowref05_Compare.j1 k x0 x1 x5 false)
def haymowref05_Compare.j1 : Nat → List Int → List Int → Int → Bool → Option (Int)
  | 0, _, _, _, _ => none
  | k + 1, x0, x1, x5, x15 => if x15 = true then (if 0 ≤ x5 then (if x5 < (x0.length : Int) then (if x5 < (x1.length : Int) then (if (rd x0 x5) < (rd x1 x5) then (some (-1)) else (if (rd x0 x5) > (rd x1 x5) then (some 1) else (haymowref05_Compare.l0 k x0 x1 (wrap64 (x5 + 1))))) else (none)) else (none)) else (none)) else (if (x0.length : Int) < (x1.length : Int) then (some (-1)) else (if (x0.length : Int) > (x1.length : Int) then (some 1) else (some 0)))
end
def haymowref05_Compare.f (k : Nat) (l0 : List Int) (l1 : List Int) : Option (Int) := haymowref05_Compare.l0 k l0 l1 0
theorem haymowref05_Compare.mono_l : ∀ k, (∀ y0 y1 y2, LeO (haymowref05_Compare.l0 k y0 y1 y2) (haymowref05_Compare.l0 (k + 1) y0 y1 y2)) ∧ (∀ y0 y1 y2 y3, LeO (haymowref05_Compare.j1 k y0 y1 y2 y3) (haymowref05_Compare.j1 (k + 1) y0 y1 y2 y3))
  | 0 => ⟨fun _ _ _ r h => by simp [haymowref05_Compare.l0] at h, fun _ _ _ _ r h => by simp [haymowref05_Compare.j1] at h⟩
  | k + 1 => by
    obtain ⟨ih0, ih1⟩ := haymowref05_Compare.mono_l k
    refine ⟨?_, ?_⟩
    · intro y0 y1 y2
      unfold haymowref05_Compare.l0
      repeat' first
      | (with_reducible exact ih0 _ _ _)
      | (with_reducible exact ih1 _ _ _ _)
      | (with_reducible exact LeO.refl _)
      | (with_reducible exact LeO.none _)
      | (with_reducible refine LeO.ite ?_ ?_)
      | (with_reducible refine LeO.bind ?_ (fun _ => ?_))
      | exact ih0 _ _ _
      | exact ih1 _ _ _ _
      | exact LeO.none _
      | refine LeO.ite ?_ ?_
      | refine LeO.bind ?_ (fun _ => ?_)
    · intro y0 y1 y2 y3
      unfold haymowref05_Compare.j1
      repeat' first
      | (with_reducible exact ih0 _ _ _)
      | (with_reducible exact ih1 _ _ _ _)
      | (with_reducible exact LeO.refl _)
      | (with_reducible exact LeO.none _)
      | (with_reducible refine LeO.ite ?_ ?_)
      | (with_reducible refine LeO.bind ?_ (fun _ => ?_))
      | exact ih0 _ _ _
      | exact ih1 _ _ _ _
      | exact LeO.none _
      | refine LeO.ite ?_ ?_
      | refine LeO.bind ?_ (fun _ => ?_)
theorem haymowref05_Compare.mono : ∀ a0 a1 k, LeO (haymowref05_Compare.f k a0 a1) (haymowref05_Compare.f (k + 1) a0 a1) := by
  intro a0 a1 k
  obtain ⟨ih0, ih1⟩ := haymowref05_Compare.mono_l k
  unfold haymowref05_Compare.f
  repeat' first
      | (with_reducible exact ih0 _ _ _)
      | (with_reducible exact ih1 _ _ _ _)
      | (with_reducible exact LeO.refl _)
      | (with_reducible exact LeO.none _)
      | (with_reducible refine LeO.ite ?_ ?_)
      | (with_reducible refine LeO.bind ?_ (fun _ => ?_))
      | exact ih0 _ _ _
      | exact ih1 _ _ _ _
      | exact LeO.none _
      | refine LeO.ite ?_ ?_
      | refine LeO.bind ?_ (fun _ => ?_)
set_option maxHeartbeats 8000000 in
set_option maxRecDepth 100000 in
theorem haymowref05_Compare.calls (k : Nat) (A0 : Option Addr) (c0 : Nat) (l0 : List Int) (A1 : Option Addr) (c1 : Nat) (l1 : List Int) (r : Int) (w : World) (hr0 : Kd.C (Kd.int .i64) w A0 l0.length l0) (hc0 : l0.length ≤ c0) (hr1 : Kd.C (Kd.int .i64) w A1 l1.length l1) (hc1 : l1.length ≤ c1) (h : haymowref05_Compare.f k l0 l1 = some r) :
    Calls Try.prog 24 #[.slice A0 l0.length c0, .slice A1 l1.length c1] w fun e w' => e = .returned (.int .i64 r) ∧ Drawn0 w w' := by
  have HR0 := Aside0.mk hr0
  have HC0 := Aside0.mk hc0
  clear hr0 hc0
  have HR1 := Aside0.mk hr1
  have HC1 := Aside0.mk hc1
  clear hr1 hc1
  have H : (haymowref05_Compare.l0 k l0 l1 0) = some r := h
  clear h
  have H' := Aside0.mk H
  clear H
  go_enter Try.func24, Try.ntmps24
  go_wp2
  repeat (go_quiet (fail); try go_wp2)
  go_loopg [5] k (fun kq v5 w' => ∃ (x5_1 : Int), v5 = .int .i64 x5_1 ∧ Aside0 (haymowref05_Compare.l0 kq l0 l1 x5_1 = some r) ∧ Aside0 (kq ≤ k) ∧ Drawn0 w w')
  case atStart => exact ⟨(0), (by first | rfl | (simp; done) | (simp [*]; done)), H', ⟨Nat.le_refl _⟩, by repeat (first | exact Drawn0.refl _ | apply Drawn0.step)⟩
  case round =>
    clear H'
    try clear c1
    try clear c2
    try clear p2
    obtain ⟨x5_1, rfl, HA, HK1, ⟨m1, rfl⟩⟩ := hrel
    cases gk with
    | zero => exact absurd HA.out (by simp [haymowref05_Compare.l0])
    | succ k1 =>
      have H := HA.out
      clear HA
      simp only [haymowref05_Compare.l0] at H
      have HC3 := Aside0.mk H
      clear H
      go_upto_region 2 with (fail)
      repeat (go_quiet (fail); go_upto_region 2 with (fail))
      go_cut [15] (fun v15 wc => ∃ (kq : Nat) (x15_2 : Bool), v15 = .bool x15_2 ∧ Aside0 (haymowref05_Compare.j1 kq l0 l1 x5_1 x15_2 = some r) ∧ Aside0 (kq ≤ k1) ∧ Drawn0 w wc)
      case first =>
        have H := HC3.out
        clear HC3
        by_cases c4 : x5_1 < (l0.length : Int)
        · rw [if_pos c4] at H
          have c4b0 : decide (x5_1 < (l0.length : Int)) = true := decide_eq_true c4
          clear c4
          (first | rw [c4b0] | (simp only [i64_w, i32_w]; rw [c4b0]) | skip)
          have H' := Aside0.mk H
          clear H
          go_wp2
          repeat (go_quiet (fail); try go_wp2)
          go_meet
          case rel => exact ⟨_, (decide (x5_1 < (l1.length : Int))), (by first | rfl | (simp; done) | (simp [*]; done)), H', ⟨by have := HK1.out; first | omega | exact Nat.le_refl _⟩, by repeat (first | exact Drawn0.refl _ | apply Drawn0.step)⟩
        · rw [if_neg c4] at H
          have c4b0 : decide (x5_1 < (l0.length : Int)) = false := decide_eq_false c4
          clear c4
          (first | rw [c4b0] | (simp only [i64_w, i32_w]; rw [c4b0]) | skip)
          have H' := Aside0.mk H
          clear H
          go_wp2
          repeat (go_quiet (fail); try go_wp2)
          go_meet
          case rel => exact ⟨_, (false), (by first | rfl | (simp; done) | (simp [*]; done)), H', ⟨by have := HK1.out; first | omega | exact Nat.le_refl _⟩, by repeat (first | exact Drawn0.refl _ | apply Drawn0.step)⟩
      case rest =>
        clear HC3
        try clear c1
        try clear c2
        try clear p2
        try clear c4
        try clear c4b0
        try clear p2
        obtain ⟨kq, x15_2, rfl, HA, HJ2, ⟨mc2, rfl⟩⟩ := hcut
        cases kq with
        | zero => exact absurd HA.out (by simp [haymowref05_Compare.j1])
        | succ kj2 =>
          have H := HA.out
          clear HA
          simp only [haymowref05_Compare.j1] at H
          by_cases c5 : x15_2 = true
          · subst c5
            have H1 : (if 0 ≤ x5_1 then (if x5_1 < (l0.length : Int) then (if x5_1 < (l1.length : Int) then (if (rd l0 x5_1) < (rd l1 x5_1) then (some (-1)) else (if (rd l0 x5_1) > (rd l1 x5_1) then (some 1) else (haymowref05_Compare.l0 kj2 l0 l1 (wrap64 (x5_1 + 1))))) else (none)) else (none)) else (none)) = some r := by rw [if_pos rfl] at H; exact H
            clear H
            have H := H1
            clear H1
            by_cases c6 : 0 ≤ x5_1
            · rw [if_pos c6] at H
              have c6b0 : decide (0 ≤ x5_1) = true := decide_eq_true c6
              clear c6
              by_cases c7 : x5_1 < (l0.length : Int)
              · rw [if_pos c7] at H
                have c7b0 : decide (x5_1 < (l0.length : Int)) = true := decide_eq_true c7
                clear c7
                by_cases c8 : x5_1 < (l1.length : Int)
                · rw [if_pos c8] at H
                  have c8b0 : decide (x5_1 < (l1.length : Int)) = true := decide_eq_true c8
                  clear c8
                  by_cases c9 : (rd l0 x5_1) < (rd l1 x5_1)
                  · rw [if_pos c9] at H
                    have c9b0 : decide ((rd l0 x5_1) < (rd l1 x5_1)) = true := decide_eq_true c9
                    clear c9
                    obtain rfl := Option.some.inj H
                    have p187 : 0 ≤ (x5_1 : Int) := of_decide_eq_true (by first | (with_reducible assumption) | assumption)
                    have q187 : x5_1 < (l0.length : Int) := of_decide_eq_true (by first | (with_reducible assumption) | assumption)
                    obtain ⟨ad187, e187, hx187_0⟩ := Kd.at_int HR0.out x5_1 p187 q187
                    cases e187
                    replace p187 := eq_true p187
                    replace q187 := eq_true q187
                    have p188 : 0 ≤ (x5_1 : Int) := of_decide_eq_true (by first | (with_reducible assumption) | assumption)
                    have q188 : x5_1 < (l1.length : Int) := of_decide_eq_true (by first | (with_reducible assumption) | assumption)
                    obtain ⟨ad188, e188, hx188_0⟩ := Kd.at_int HR1.out x5_1 p188 q188
                    cases e188
                    replace p188 := eq_true p188
                    replace q188 := eq_true q188
                    go_wp2
                    repeat (go_quiet (fail); try go_wp2)
                    go_ret
                    exact ⟨by first | rfl | (simp; done) | (simp [*]; done), by repeat (first | exact Drawn0.refl _ | apply Drawn0.step)⟩
                  · rw [if_neg c9] at H
                    have c9b0 : decide ((rd l0 x5_1) < (rd l1 x5_1)) = false := decide_eq_false c9
                    clear c9
                    by_cases c10 : (rd l0 x5_1) > (rd l1 x5_1)
                    · rw [if_pos c10] at H
                      have c10b0 : decide ((rd l1 x5_1) < (rd l0 x5_1)) = true := decide_eq_true c10
                      clear c10
                      obtain rfl := Option.some.inj H
                      have p187 : 0 ≤ (x5_1 : Int) := of_decide_eq_true (by first | (with_reducible assumption) | assumption)
                      have q187 : x5_1 < (l0.length : Int) := of_decide_eq_true (by first | (with_reducible assumption) | assumption)
                      obtain ⟨ad187, e187, hx187_0⟩ := Kd.at_int HR0.out x5_1 p187 q187
                      cases e187
                      replace p187 := eq_true p187
                      replace q187 := eq_true q187
                      have p188 : 0 ≤ (x5_1 : Int) := of_decide_eq_true (by first | (with_reducible assumption) | assumption)
                      have q188 : x5_1 < (l1.length : Int) := of_decide_eq_true (by first | (with_reducible assumption) | assumption)
                      obtain ⟨ad188, e188, hx188_0⟩ := Kd.at_int HR1.out x5_1 p188 q188
                      cases e188
                      replace p188 := eq_true p188
                      replace q188 := eq_true q188
                      have p189 : 0 ≤ (x5_1 : Int) := of_decide_eq_true (by first | (with_reducible assumption) | assumption)
                      have q189 : x5_1 < (l0.length : Int) := of_decide_eq_true (by first | (with_reducible assumption) | assumption)
                      obtain ⟨ad189, e189, hx189_0⟩ := Kd.at_int HR0.out x5_1 p189 q189
                      obtain rfl : ad187 = ad189 := (by injection e189)
                      replace p189 := eq_true p189
                      replace q189 := eq_true q189
                      have p190 : 0 ≤ (x5_1 : Int) := of_decide_eq_true (by first | (with_reducible assumption) | assumption)
                      have q190 : x5_1 < (l1.length : Int) := of_decide_eq_true (by first | (with_reducible assumption) | assumption)
                      obtain ⟨ad190, e190, hx190_0⟩ := Kd.at_int HR1.out x5_1 p190 q190
                      obtain rfl : ad188 = ad190 := (by injection e190)
                      replace p190 := eq_true p190
                      replace q190 := eq_true q190
                      go_wp2
                      repeat (go_quiet (fail); try go_wp2)
                      go_ret
                      exact ⟨by first | rfl | (simp; done) | (simp [*]; done), by repeat (first | exact Drawn0.refl _ | apply Drawn0.step)⟩
                    · rw [if_neg c10] at H
                      have c10b0 : decide ((rd l1 x5_1) < (rd l0 x5_1)) = false := decide_eq_false c10
                      clear c10
                      have H' := Aside0.mk H
                      clear H
                      have p187 : 0 ≤ (x5_1 : Int) := of_decide_eq_true (by first | (with_reducible assumption) | assumption)
                      have q187 : x5_1 < (l0.length : Int) := of_decide_eq_true (by first | (with_reducible assumption) | assumption)
                      obtain ⟨ad187, e187, hx187_0⟩ := Kd.at_int HR0.out x5_1 p187 q187
                      cases e187
                      replace p187 := eq_true p187
                      replace q187 := eq_true q187
                      have p188 : 0 ≤ (x5_1 : Int) := of_decide_eq_true (by first | (with_reducible assumption) | assumption)
                      have q188 : x5_1 < (l1.length : Int) := of_decide_eq_true (by first | (with_reducible assumption) | assumption)
                      obtain ⟨ad188, e188, hx188_0⟩ := Kd.at_int HR1.out x5_1 p188 q188
                      cases e188
                      replace p188 := eq_true p188
                      replace q188 := eq_true q188
                      have p189 : 0 ≤ (x5_1 : Int) := of_decide_eq_true (by first | (with_reducible assumption) | assumption)
                      have q189 : x5_1 < (l0.length : Int) := of_decide_eq_true (by first | (with_reducible assumption) | assumption)
                      obtain ⟨ad189, e189, hx189_0⟩ := Kd.at_int HR0.out x5_1 p189 q189
                      obtain rfl : ad187 = ad189 := (by injection e189)
                      replace p189 := eq_true p189
                      replace q189 := eq_true q189
                      have p190 : 0 ≤ (x5_1 : Int) := of_decide_eq_true (by first | (with_reducible assumption) | assumption)
                      have q190 : x5_1 < (l1.length : Int) := of_decide_eq_true (by first | (with_reducible assumption) | assumption)
                      obtain ⟨ad190, e190, hx190_0⟩ := Kd.at_int HR1.out x5_1 p190 q190
                      obtain rfl : ad188 = ad190 := (by injection e190)
                      replace p190 := eq_true p190
                      replace q190 := eq_true q190
                      go_wp2
                      repeat (go_quiet (fail); try go_wp2)
                      go_roundg kj2
                      case measure => have := HK1.out; have := HJ2.out; omega
                      case rel => exact ⟨(wrap64 (x5_1 + 1)), (by first | rfl | (simp; done) | (simp [*]; done)), H', ⟨by have := HK1.out; have := HJ2.out; omega⟩, by repeat (first | exact Drawn0.refl _ | apply Drawn0.step)⟩
                · rw [if_neg c8] at H
                  exact absurd H (by simp)
              · rw [if_neg c7] at H
                exact absurd H (by simp)
            · rw [if_neg c6] at H
              exact absurd H (by simp)
          · replace c5 := Bool.eq_false_iff.mpr c5
            subst c5
            have H1 : (if (l0.length : Int) < (l1.length : Int) then (some (-1)) else (if (l0.length : Int) > (l1.length : Int) then (some 1) else (some 0))) = some r := by rw [if_neg (show ¬ (false = true) by decide)] at H; exact H
            clear H
            have H := H1
            clear H1
            by_cases c11 : (l0.length : Int) < (l1.length : Int)
            · rw [if_pos c11] at H
              have c11b0 : decide ((l0.length : Int) < (l1.length : Int)) = true := decide_eq_true c11
              have c11b1 : decide (l0.length < l1.length) = true := decide_eq_true (Int.ofNat_lt.mp c11)
              clear c11
              obtain rfl := Option.some.inj H
              go_wp2
              repeat (go_quiet (fail); try go_wp2)
              go_ret
              exact ⟨by first | rfl | (simp; done) | (simp [*]; done), by repeat (first | exact Drawn0.refl _ | apply Drawn0.step)⟩
            · rw [if_neg c11] at H
              have c11b0 : decide ((l0.length : Int) < (l1.length : Int)) = false := decide_eq_false c11
              have c11b1 : decide (l0.length < l1.length) = false := decide_eq_false (fun h => c11 (Int.ofNat_lt.mpr h))
              clear c11
              by_cases c12 : (l0.length : Int) > (l1.length : Int)
              · rw [if_pos c12] at H
                have c12b0 : decide ((l1.length : Int) < (l0.length : Int)) = true := decide_eq_true c12
                have c12b1 : decide (l1.length < l0.length) = true := decide_eq_true (Int.ofNat_lt.mp c12)
                clear c12
                obtain rfl := Option.some.inj H
                go_wp2
                repeat (go_quiet (fail); try go_wp2)
                go_ret
                exact ⟨by first | rfl | (simp; done) | (simp [*]; done), by repeat (first | exact Drawn0.refl _ | apply Drawn0.step)⟩
              · rw [if_neg c12] at H
                have c12b0 : decide ((l1.length : Int) < (l0.length : Int)) = false := decide_eq_false c12
                have c12b1 : decide (l1.length < l0.length) = false := decide_eq_false (fun h => c12 (Int.ofNat_lt.mpr h))
                clear c12
                obtain rfl := Option.some.inj H
                go_wp2
                repeat (go_quiet (fail); try go_wp2)
                go_ret
                exact ⟨by first | rfl | (simp; done) | (simp [*]; done), by repeat (first | exact Drawn0.refl _ | apply Drawn0.step)⟩

end Go.Proofs.Ytcciejcpijlkfaa.H

-- made by this session's gen.py over the kit's print.py; not trusted: Lean checks it
namespace Go.Proofs.Ytcciejcpijlkfaa.H
open Go.RowKit Go.Proofs.YtcciejcpijlkfaaW.PrintWords Go.Proofs.YtcciejcpijlkfaaW.PrintLast Go.Proofs.YtcciejcpijlkfaaW.PrintMore
attribute [local go_sem] max2_int min2_int max_two min_two max_three min_three max_four min_four   -- for this text's walks alone
set_option linter.unusedVariables false
set_option linter.unusedSimpArgs false

/-! ### haymowlaw12_light: function 9 -/
def haymowlaw12_light.l0 : Nat → List (S52) → Int → Option (Bool)
  | 0, _, _ => none
  | k + 1, x0, x3 => if x3 < (x0.length : Int) then (if 0 ≤ x3 then (if (((rd_T52 x0 x3).f1).length : Int) > 70 then (some false) else (haymowlaw12_light.l0 k x0 (wrap64 (x3 + 1)))) else (none)) else (some true)
def haymowlaw12_light.f (k : Nat) (l0 : List (S52)) : Option (Bool) := if (l0.length : Int) > 20 then (some false) else (haymowlaw12_light.l0 k l0 0)
theorem haymowlaw12_light.mono_l : ∀ k, (∀ y0 y1, LeO (haymowlaw12_light.l0 k y0 y1) (haymowlaw12_light.l0 (k + 1) y0 y1))
  | 0 => fun _ _ r h => by simp [haymowlaw12_light.l0] at h
  | k + 1 => by
    have ih0 := haymowlaw12_light.mono_l k
    · intro y0 y1
      unfold haymowlaw12_light.l0
      repeat' first
      | (with_reducible exact ih0 _ _)
      | (with_reducible exact LeO.refl _)
      | (with_reducible exact LeO.none _)
      | (with_reducible refine LeO.ite ?_ ?_)
      | (with_reducible refine LeO.bind ?_ (fun _ => ?_))
      | exact ih0 _ _
      | exact LeO.none _
      | refine LeO.ite ?_ ?_
      | refine LeO.bind ?_ (fun _ => ?_)
theorem haymowlaw12_light.mono : ∀ a0 k, LeO (haymowlaw12_light.f k a0) (haymowlaw12_light.f (k + 1) a0) := by
  intro a0 k
  have ih0 := haymowlaw12_light.mono_l k
  unfold haymowlaw12_light.f
  repeat' first
      | (with_reducible exact ih0 _ _)
      | (with_reducible exact LeO.refl _)
      | (with_reducible exact LeO.none _)
      | (with_reducible refine LeO.ite ?_ ?_)
      | (with_reducible refine LeO.bind ?_ (fun _ => ?_))
      | exact ih0 _ _
      | exact LeO.none _
      | refine LeO.ite ?_ ?_
      | refine LeO.bind ?_ (fun _ => ?_)
set_option maxHeartbeats 8000000 in
set_option maxRecDepth 100000 in
theorem haymowlaw12_light.calls (k : Nat) (A0 : Option Addr) (c0 : Nat) (l0 : List (S52)) (r : Bool) (w : World) (hr0 : Kd.C k52 w A0 l0.length l0) (hc0 : l0.length ≤ c0) (h : haymowlaw12_light.f k l0 = some r) :
    Calls Try.prog 9 #[.slice A0 l0.length c0] w fun e w' => e = .returned (.bool r) ∧ Drawn0 w w' := by
  have HR0 := Aside0.mk hr0
  have HC0 := Aside0.mk hc0
  clear hr0 hc0
  have H : (if (l0.length : Int) > 20 then (some false) else (haymowlaw12_light.l0 k l0 0)) = some r := h
  clear h
  by_cases c2 : (l0.length : Int) > 20
  · rw [if_pos c2] at H
    have c2b0 : decide (20 < (l0.length : Int)) = true := decide_eq_true c2
    have c2b1 : decide (20 < l0.length) = true := decide_eq_true (by omega)
    clear c2
    obtain rfl := Option.some.inj H
    go_enter Try.func9, Try.ntmps9
    go_wp2
    go_ret
    exact ⟨by first | rfl | (simp; done) | (simp [*]; done), by repeat (first | exact Drawn0.refl _ | apply Drawn0.step)⟩
  · rw [if_neg c2] at H
    have c2b0 : decide (20 < (l0.length : Int)) = false := decide_eq_false c2
    have c2b1 : decide (20 < l0.length) = false := decide_eq_false (by omega)
    clear c2
    have H' := Aside0.mk H
    clear H
    go_enter Try.func9, Try.ntmps9
    go_wp2
    go_loopg [3] k (fun kq v3 w' => ∃ (x3_1 : Int), v3 = .int .i64 x3_1 ∧ Aside0 (haymowlaw12_light.l0 kq l0 x3_1 = some r) ∧ Aside0 (kq ≤ k) ∧ Drawn0 w w')
    case atStart => exact ⟨(0), (by first | rfl | (simp; done) | (simp [*]; done)), H', ⟨Nat.le_refl _⟩, by repeat (first | exact Drawn0.refl _ | apply Drawn0.step)⟩
    case round =>
      clear H'
      try clear c2
      try clear c2b0
      try clear c2b1
      try clear p2
      obtain ⟨x3_1, rfl, HA, HK1, ⟨m1, rfl⟩⟩ := hrel
      cases gk with
      | zero => exact absurd HA.out (by simp [haymowlaw12_light.l0])
      | succ k1 =>
        have H := HA.out
        clear HA
        simp only [haymowlaw12_light.l0] at H
        by_cases c3 : x3_1 < (l0.length : Int)
        · rw [if_pos c3] at H
          have c3b0 : decide (x3_1 < (l0.length : Int)) = true := decide_eq_true c3
          clear c3
          by_cases c4 : 0 ≤ x3_1
          · rw [if_pos c4] at H
            have c4b0 : decide (0 ≤ x3_1) = true := decide_eq_true c4
            clear c4
            by_cases c5 : (((rd_T52 l0 x3_1).f1).length : Int) > 70
            · rw [if_pos c5] at H
              have c5b0 : decide (70 < (((rd_T52 l0 x3_1).f1).length : Int)) = true := decide_eq_true c5
              have c5b1 : decide (70 < ((rd_T52 l0 x3_1).f1).length) = true := decide_eq_true (by omega)
              clear c5
              obtain rfl := Option.some.inj H
              have p101 : 0 ≤ (x3_1 : Int) := of_decide_eq_true (by first | (with_reducible assumption) | assumption)
              have q101 : x3_1 < (l0.length : Int) := of_decide_eq_true (by first | (with_reducible assumption) | assumption)
              obtain ⟨ad101, A101_1, c101_1, e101, hx101_0, hx101_1, hl101_1, hi101_1⟩ := at_T52 HR0.out x3_1 p101 q101
              cases e101
              have HR101_1 := Aside0.mk hi101_1
              have HC101_1 := Aside0.mk hl101_1
              clear hi101_1 hl101_1
              replace p101 := eq_true p101
              replace q101 := eq_true q101
              go_wp2
              go_ret
              exact ⟨by first | rfl | (simp; done) | (simp [*]; done), by repeat (first | exact Drawn0.refl _ | apply Drawn0.step)⟩
            · rw [if_neg c5] at H
              have c5b0 : decide (70 < (((rd_T52 l0 x3_1).f1).length : Int)) = false := decide_eq_false c5
              have c5b1 : decide (70 < ((rd_T52 l0 x3_1).f1).length) = false := decide_eq_false (by omega)
              clear c5
              have H' := Aside0.mk H
              clear H
              have p101 : 0 ≤ (x3_1 : Int) := of_decide_eq_true (by first | (with_reducible assumption) | assumption)
              have q101 : x3_1 < (l0.length : Int) := of_decide_eq_true (by first | (with_reducible assumption) | assumption)
              obtain ⟨ad101, A101_1, c101_1, e101, hx101_0, hx101_1, hl101_1, hi101_1⟩ := at_T52 HR0.out x3_1 p101 q101
              cases e101
              have HR101_1 := Aside0.mk hi101_1
              have HC101_1 := Aside0.mk hl101_1
              clear hi101_1 hl101_1
              replace p101 := eq_true p101
              replace q101 := eq_true q101
              go_wp2
              go_roundg k1
              case measure => have := HK1.out; omega
              case rel => exact ⟨(wrap64 (x3_1 + 1)), (by first | rfl | (simp; done) | (simp [*]; done)), H', ⟨by have := HK1.out; omega⟩, by repeat (first | exact Drawn0.refl _ | apply Drawn0.step)⟩
          · rw [if_neg c4] at H
            exact absurd H (by simp)
        · rw [if_neg c3] at H
          have c3b0 : decide (x3_1 < (l0.length : Int)) = false := decide_eq_false c3
          clear c3
          obtain rfl := Option.some.inj H
          go_wp2
          go_ret
          exact ⟨by first | rfl | (simp; done) | (simp [*]; done), by repeat (first | exact Drawn0.refl _ | apply Drawn0.step)⟩

end Go.Proofs.Ytcciejcpijlkfaa.H

