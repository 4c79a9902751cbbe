/- What the proof of EvalEnough stands on, part 4: this session's own texts and the words that the kit's print lays, those that are used. -/
import Derived.Test.YtnhipdniceoigaaZEvalEnough3
set_option linter.unusedVariables false
set_option linter.unusedSimpArgs false
namespace Go.Proofs.Ytnhipdniceoigaa.H
open Go.RowKit Go.Hay Go.Proofs.YtnhipdniceoigaaW.PrintWords Go.Proofs.YtnhipdniceoigaaW.PrintLast Go.Proofs.YtnhipdniceoigaaW.PrintMore
theorem blk_farC {w : World} {g : Nat} {o : Obj} {p : Addr} (h : w.heap[g]? = some o) (hne : g ≠ p.block) (v : Value) : (w.setCell p v).heap[g]? = some o := (Below.heap_setCell w p v g hne).trans h
theorem assert_wrong (v : Value) (w : World) : (Instr.typeAssert (.iface 101 v) 20 101 true).run Try.prog w = .ok (.tuple #[v, .bool true]) w := by kernel_rfl
set_option maxRecDepth 100000 in
set_option maxHeartbeats 4000000 in
theorem ccatch_panicking (B : Nat) (f at_ e : Int) (w : World) (v1 v2 v3 : Value) (h1 : w.heap[B]? = some (.cells #[v1] 3 (0, 0))) (h2 : w.heap[B + 1]? = some (.cells #[v2] 3 (0, 0))) (h3 : w.heap[B + 1 + 1]? = some (.cells #[v3] 31 (0, 0))) :
    CallsD Try.prog 29 #[.pointer (some ⟨B, 0, none⟩), .pointer (some ⟨B + 1, 0, none⟩), .pointer (some ⟨B + 1 + 1, 0, none⟩)] (.panicking [{ v := wrongV f at_ e, recovered := false }]) w fun x u' w' =>
      x = .returned (.tuple #[]) ∧ u' = .panicking [{ v := wrongV f at_ e, recovered := true }] ∧ Below B w w' ∧ w'.heap[B]? = some (.cells #[.int .i64 f] 3 (0, 0)) ∧ w'.heap[B + 1]? = some (.cells #[.int .i64 at_] 3 (0, 0)) ∧ w'.heap[B + 1 + 1]? = some (.cells #[.int .i64 e] 31 (0, 0)) := by
  have hu101 := Try.underlying101
  have ha := assert_wrong (.agg #[.int .i64 f, .int .i64 at_, .int .i64 e])
  have H1 := Aside0.mk h1
  have H2 := Aside0.mk h2
  have H3 := Aside0.mk h3
  clear h1 h2 h3
  refine callsD_of_wpS Try.func29 rfl fun c₀ cs hu => ?_
  apply wpS_seq
  apply wpS_region
  simp [wpOpsS, go_sem, recoverD, hu, Try.ntmps29, Exit.thenS]
  refine wpS_body ?_
  simp only [Array.replicate_succ, Array.replicate_zero, List.push_toArray, List.append_toArray, List.nil_append, List.cons_append, List.setIfInBounds_toArray, List.set_cons_zero, List.set_cons_succ, wrongV]
  go_wp2_with fail
  have hg := alloc_blk w (.cells #[.int .i64 f, .int .i64 at_, .int .i64 e] 101)
  have g1 := blk_alloc H1.out (.cells #[.int .i64 f, .int .i64 at_, .int .i64 e] 101)
  have g2 := blk_alloc H2.out (.cells #[.int .i64 f, .int .i64 at_, .int .i64 e] 101)
  have g3 := blk_alloc H3.out (.cells #[.int .i64 f, .int .i64 at_, .int .i64 e] 101)
  have hz := blk_lt H3.out
  have hb : Below B w (w.alloc (.cells #[.int .i64 f, .int .i64 at_, .int .i64 e] 101)) := (Below.refl _ _).alloc (by omega) _
  clear H1 H2 H3
  have GS := Aside0.mk (And.intro hg (And.intro g1 (And.intro g2 (And.intro g3 (And.intro hz hb)))))
  clear hg g1 g2 g3 hz hb
  refine wp_region_seq (fun w' => w'.heap[w.heap.size]? = some (.cells #[.int .i64 f, .int .i64 at_, .int .i64 e] 101 (0, 0))) [] [.take 0, .take 1, .take 2, .take 3, .take 4, .take 5, .op 6, .op 7, .op 8] (by kernel_rfl) (by kernel_rfl) rfl (by kernel_rfl) (panic_via (P := Try.prog) (fn := Try.f29) (fun _ _ _ => rfl)) ?_
  have hs : (w.alloc (.cells #[.int .i64 f, .int .i64 at_, .int .i64 e] 101)).drew.heap[w.heap.size]? = some (.cells #[.int .i64 f, .int .i64 at_, .int .i64 e] 101 (0, 0)) := GS.out.1
  repeat (
    (first
      | (refine runSeq_take (v := ?_) (by rfl) (by rfl) (fun w' hS => ?_) hs ?_
         rotate_left
         · (have d0 := blk_cell hS 0; have d1 := blk_cell hS 1; have d2 := blk_cell hS 2; go_simp; exact rfl))
      | refine runSeq_skip (by rfl) (by rfl) hs ?_)
    (try simp only [Act.put, List.setIfInBounds_toArray, List.set_cons_zero, List.set_cons_succ]))
  obtain ⟨hg, g1, g2, g3, hz, hb⟩ := GS.out
  clear GS hs
  have hg : (w.alloc (.cells #[.int .i64 f, .int .i64 at_, .int .i64 e] 101)).drew.heap[w.heap.size]? = _ := hg
  have g1 : (w.alloc (.cells #[.int .i64 f, .int .i64 at_, .int .i64 e] 101)).drew.heap[B]? = _ := g1
  have g2 : (w.alloc (.cells #[.int .i64 f, .int .i64 at_, .int .i64 e] 101)).drew.heap[B + 1]? = _ := g2
  have g3 : (w.alloc (.cells #[.int .i64 f, .int .i64 at_, .int .i64 e] 101)).drew.heap[B + 1 + 1]? = _ := g3
  have hb := hb.drew
  generalize (w.alloc (.cells #[.int .i64 f, .int .i64 at_, .int .i64 e] 101)).drew = wa at hg g1 g2 g3 hb ⊢
  have c := blk_cell g1 0
  have fz := blk_frozen g1 0
  refine runSeq_op (by rfl) (by rfl) (fun K hK => ?_)
  go_simp
  have hg := blk_farC (p := ⟨B, 0, none⟩) hg (show w.heap.size ≠ B by omega) (.int .i64 f)
  refine hK _ _ hg ?_
  clear hK K c fz
  have n1 := g1
  have q1 := g1
  have q2 := g2
  have q3 := g3
  clear g1 g2 g3
  have g1 : (wa.setCell ⟨B, 0, none⟩ (.int .i64 f)).heap[B]? = some (.cells #[.int .i64 f] 3 (0, 0)) := by first | exact blk_farC (p := ⟨B, 0, none⟩) q1 (show B ≠ B by omega) (.int .i64 f) | exact blk_set q1 0 _
  have g2 : (wa.setCell ⟨B, 0, none⟩ (.int .i64 f)).heap[B + 1]? = some (.cells #[v2] 3 (0, 0)) := by first | exact blk_farC (p := ⟨B, 0, none⟩) q2 (show B + 1 ≠ B by omega) (.int .i64 f) | exact blk_set q2 0 _
  have g3 : (wa.setCell ⟨B, 0, none⟩ (.int .i64 f)).heap[B + 1 + 1]? = some (.cells #[v3] 31 (0, 0)) := by first | exact blk_farC (p := ⟨B, 0, none⟩) q3 (show B + 1 + 1 ≠ B by omega) (.int .i64 f) | exact blk_set q3 0 _
  have hb := Below.setCell (p := ⟨B, 0, none⟩) hb (show B ≤ B by omega) (.int .i64 f)
  clear q1 q2 q3 n1
  generalize wa.setCell ⟨B, 0, none⟩ (.int .i64 f) = wa at hg g1 g2 g3 hb ⊢
  have c := blk_cell g2 0
  have fz := blk_frozen g2 0
  refine runSeq_op (by rfl) (by rfl) (fun K hK => ?_)
  go_simp
  have hg := blk_farC (p := ⟨B + 1, 0, none⟩) hg (show w.heap.size ≠ B + 1 by omega) (.int .i64 at_)
  refine hK _ _ hg ?_
  clear hK K c fz
  have n1 := g2
  have q1 := g1
  have q2 := g2
  have q3 := g3
  clear g1 g2 g3
  have g1 : (wa.setCell ⟨B + 1, 0, none⟩ (.int .i64 at_)).heap[B]? = some (.cells #[.int .i64 f] 3 (0, 0)) := by first | exact blk_farC (p := ⟨B + 1, 0, none⟩) q1 (show B ≠ B + 1 by omega) (.int .i64 at_) | exact blk_set q1 0 _
  have g2 : (wa.setCell ⟨B + 1, 0, none⟩ (.int .i64 at_)).heap[B + 1]? = some (.cells #[.int .i64 at_] 3 (0, 0)) := by first | exact blk_farC (p := ⟨B + 1, 0, none⟩) q2 (show B + 1 ≠ B + 1 by omega) (.int .i64 at_) | exact blk_set q2 0 _
  have g3 : (wa.setCell ⟨B + 1, 0, none⟩ (.int .i64 at_)).heap[B + 1 + 1]? = some (.cells #[v3] 31 (0, 0)) := by first | exact blk_farC (p := ⟨B + 1, 0, none⟩) q3 (show B + 1 + 1 ≠ B + 1 by omega) (.int .i64 at_) | exact blk_set q3 0 _
  have hb := Below.setCell (p := ⟨B + 1, 0, none⟩) hb (show B ≤ B + 1 by omega) (.int .i64 at_)
  clear q1 q2 q3 n1
  generalize wa.setCell ⟨B + 1, 0, none⟩ (.int .i64 at_) = wa at hg g1 g2 g3 hb ⊢
  have c := blk_cell g3 0
  have fz := blk_frozen g3 0
  refine runSeq_op (by rfl) (by rfl) (fun K hK => ?_)
  go_simp
  have hg := blk_farC (p := ⟨B + 1 + 1, 0, none⟩) hg (show w.heap.size ≠ B + 1 + 1 by omega) (.int .i64 e)
  refine hK _ _ hg ?_
  clear hK K c fz
  have n1 := g3
  have q1 := g1
  have q2 := g2
  have q3 := g3
  clear g1 g2 g3
  have g1 : (wa.setCell ⟨B + 1 + 1, 0, none⟩ (.int .i64 e)).heap[B]? = some (.cells #[.int .i64 f] 3 (0, 0)) := by first | exact blk_farC (p := ⟨B + 1 + 1, 0, none⟩) q1 (show B ≠ B + 1 + 1 by omega) (.int .i64 e) | exact blk_set q1 0 _
  have g2 : (wa.setCell ⟨B + 1 + 1, 0, none⟩ (.int .i64 e)).heap[B + 1]? = some (.cells #[.int .i64 at_] 3 (0, 0)) := by first | exact blk_farC (p := ⟨B + 1 + 1, 0, none⟩) q2 (show B + 1 ≠ B + 1 + 1 by omega) (.int .i64 e) | exact blk_set q2 0 _
  have g3 : (wa.setCell ⟨B + 1 + 1, 0, none⟩ (.int .i64 e)).heap[B + 1 + 1]? = some (.cells #[.int .i64 e] 31 (0, 0)) := by first | exact blk_farC (p := ⟨B + 1 + 1, 0, none⟩) q3 (show B + 1 + 1 ≠ B + 1 + 1 by omega) (.int .i64 e) | exact blk_set q3 0 _
  have hb := Below.setCell (p := ⟨B + 1 + 1, 0, none⟩) hb (show B ≤ B + 1 + 1 by omega) (.int .i64 e)
  clear q1 q2 q3 n1
  generalize wa.setCell ⟨B + 1 + 1, 0, none⟩ (.int .i64 e) = wa at hg g1 g2 g3 hb ⊢
  refine runSeq_nil ?_
  have GS := Aside0.mk (And.intro g1 (And.intro g2 (And.intro g3 hb)))
  clear hg g1 g2 g3 hb
  go_wp2_with fail
  go_end0
  exact ⟨rfl, trivial, GS.out.2.2.2, GS.out.1, GS.out.2.1, GS.out.2.2.1⟩
theorem ccatch_idle (p q r : Addr) (w : World) :
    CallsD Try.prog 29 #[.pointer (some p), .pointer (some q), .pointer (some r)] .returning w fun x u' w' =>
      x = .returned (.tuple #[]) ∧ u' = .returning ∧ w = w' := by
  refine callsD_of_wpS Try.func29 rfl fun c₀ cs hu => ?_
  apply wpS_seq
  apply wpS_region
  simp [wpOpsS, go_sem, recoverD, hu, Try.ntmps29, Exit.thenS]
  refine wpS_body_same hu ?_
  simp only [Array.replicate_succ, Array.replicate_zero, List.push_toArray, List.append_toArray, List.nil_append, List.cons_append, List.setIfInBounds_toArray, List.set_cons_zero, List.set_cons_succ]
  go_wp2
  go_end0
  exact ⟨rfl, trivial, rfl⟩

structure CkW (w w' : World) : Prop where
  below : Below w.heap.size w w'
  c0 : w'.heap[w.heap.size]? = some (.cells #[.int .i64 0] 3 (0, 0))
  c1 : w'.heap[w.heap.size + 1]? = some (.cells #[.int .i64 0] 3 (0, 0))
  c2 : w'.heap[w.heap.size + 1 + 1]? = some (.cells #[.int .i64 0] 31 (0, 0))
theorem CkW.size {w w' : World} (h : CkW w w') : w.heap.size + 3 ≤ w'.heap.size := by
  have := blk_lt h.c2; omega
theorem CkW.keep {w w' w'' : World} (h : CkW w w') (k : Below (w.heap.size + 3) w' w'') : CkW w w'' :=
  ⟨h.below.trans (k.mono (by omega)), (k.block _ (by omega)).trans h.c0, (k.block _ (by omega)).trans h.c1, (k.block _ (by omega)).trans h.c2⟩
theorem CkW.start (w : World) : CkW w (((w.alloc (.cells #[.int .i64 0] 3)).alloc (.cells #[.int .i64 0] 3)).alloc (.cells #[.int .i64 0] 31)) := by
  have e1 : (w.alloc (.cells #[.int .i64 0] 3)).heap.size = w.heap.size + 1 := Array.size_push _
  have e2 : ((w.alloc (.cells #[.int .i64 0] 3)).alloc (.cells #[.int .i64 0] 3)).heap.size = w.heap.size + 1 + 1 := by
    rw [← e1]; exact Array.size_push _
  have b1 := (Below.refl w.heap.size w).alloc (Nat.le_refl _) (.cells #[.int .i64 0] 3)
  have b2 := b1.alloc b1.size (.cells #[.int .i64 0] 3)
  refine ⟨b2.alloc b2.size _, blk_alloc (blk_alloc (alloc_blk w _) _) _, ?_, ?_⟩
  · have := alloc_blk (w.alloc (.cells #[.int .i64 0] 3)) (.cells #[.int .i64 0] 3)
    rw [e1] at this
    exact blk_alloc this _
  · have := alloc_blk ((w.alloc (.cells #[.int .i64 0] 3)).alloc (.cells #[.int .i64 0] 3)) (.cells #[.int .i64 0] 31)
    rw [e2] at this
    exact this
def ckPost (w : World) (l : List S58) (e : Ending) (w' : World) : Prop :=
  e = .returned (.tuple #[.int .i64 (checkP l).1, .int .i64 (checkP l).2.1, .int .i64 (checkP l).2.2]) ∧ Below w.heap.size w w'
theorem check_panics (l : List S58) (f at_ e : Int) (w w' : World) (tmps : Array Value) (hno : checkP l = (f, at_, e)) (H : CkW w w')
    (t2 : tmps.getD 2 undef = .pointer (some ⟨w.heap.size, 0, none⟩)) (t3 : tmps.getD 3 undef = .pointer (some ⟨w.heap.size + 1, 0, none⟩)) (t4 : tmps.getD 4 undef = .pointer (some ⟨w.heap.size + 1 + 1, 0, none⟩)) :
    bodyPostD Try.prog Try.f25 (ckPost w l) (.panic [{ v := wrongV f at_ e, recovered := false }])
      { tmps := tmps, defers := [{ target := Target.fn (Fn.func 29) #[.pointer (some ⟨w.heap.size, 0, none⟩), .pointer (some ⟨w.heap.size + 1, 0, none⟩), .pointer (some ⟨w.heap.size + 1 + 1, 0, none⟩)], args := #[] }] } w' := by
  refine leaves_cons (f := 29) (args := #[.pointer (some ⟨w.heap.size, 0, none⟩), .pointer (some ⟨w.heap.size + 1, 0, none⟩), .pointer (some ⟨w.heap.size + 1 + 1, 0, none⟩)]) (by simp) (by simp [go_sem]) ?_
  refine (ccatch_panicking w.heap.size f at_ e w' _ _ _ H.c0 H.c1 H.c2).mono ?_
  rintro x u' w2 ⟨rfl, rfl, hb2, c0, c1, c2⟩
  have q0 := blk_cell c0 0
  have q1 := blk_cell c1 0
  have q2 := blk_cell c2 0
  simp only [Array.getD_eq_getD_getElem?] at t2 t3 t4
  refine ⟨.tuple #[.int .i64 f, .int .i64 at_, .int .i64 e], by simp [results, Try.results25, go_sem, t2, t3, t4, q0, q1, q2], ?_⟩
  exact ⟨by rw [hno], H.below.trans hb2⟩
theorem check_stop {l : List S58} {i : Nat} {g : S58} {e : Int × Int} (hb : 1 ≤ l.length ∧ l.length ≤ 16) (hF : funcsE l 0 l = funcsE l i (l.drop i)) (hg : ∃ h : i < l.length, l[i] = g) (he : funcE l g = some e) : checkP l = ((i : Int), e.1, e.2) := by
  obtain ⟨hi, hg⟩ := hg
  unfold checkP
  rw [if_pos hb, hF, List.drop_eq_getElem_cons hi, hg]
  simp only [funcsE, he]
  rfl
theorem check_step {l : List S58} {i : Nat} {g : S58} (hF : funcsE l 0 l = funcsE l i (l.drop i)) (hg : ∃ h : i < l.length, l[i] = g) (he : funcE l g = none) : funcsE l 0 l = funcsE l (i + 1) (l.drop (i + 1)) := by
  obtain ⟨hi, hg⟩ := hg
  rw [hF, List.drop_eq_getElem_cons hi, hg]
  simp only [funcsE, he]
structure FW (w : World) (A : Option Addr) (n c : Nat) (i at_ : Int) (g6 : S58) (A1 : Option Addr) (c1 g : Nat) (w' : World) : Prop where
  ck : CkW w w'
  h6 : w'.heap[g]? = some (.cells #[.int .i64 g6.f0, .slice A1 g6.f1.length c1] 58 (0, 0))
  h7 : w'.heap[g + 1]? = some (.cells #[.slice A n c, .int .i64 i, .int .i64 at_] 104 (0, 0))
  lg : w.heap.size + 3 ≤ g
theorem FW.keep {w : World} {A : Option Addr} {n c : Nat} {i at_ : Int} {g6 : S58} {A1 : Option Addr} {c1 g : Nat} {w' w'' : World} (h : FW w A n c i at_ g6 A1 c1 g w') (k : Below w'.heap.size w' w'') : FW w A n c i at_ g6 A1 c1 g w'' :=
  ⟨h.ck.keep (k.mono h.ck.size), (k.block _ (blk_lt h.h6)).trans h.h6, (k.block _ (blk_lt h.h7)).trans h.h7, h.lg⟩
theorem FW.put {w : World} {A : Option Addr} {n c : Nat} {i at_ : Int} {g6 : S58} {A1 : Option Addr} {c1 g : Nat} {w' : World} (h : FW w A n c i at_ g6 A1 c1 g w') (k : Int) : FW w A n c i k g6 A1 c1 g (w'.setCell ⟨g + 1, 2, none⟩ (.int .i64 k)) :=
  ⟨h.ck.keep (Below.setCell (p := ⟨g + 1, 2, none⟩) (Below.refl _ _) (show w.heap.size + 3 ≤ g + 1 by have := h.lg; omega) _), blk_farC (p := ⟨g + 1, 2, none⟩) h.h6 (show g ≠ g + 1 by omega) _, blk_set h.h7 2 _, h.lg⟩
theorem FW.start {w : World} {A : Option Addr} {n c : Nat} {i : Int} {g6 : S58} {A1 : Option Addr} {c1 : Nat} {w' : World} (h : CkW w w') : FW w A n c i 0 g6 A1 c1 w'.heap.size ((w'.alloc (.cells #[.int .i64 g6.f0, .slice A1 g6.f1.length c1] 58)).alloc (.cells #[.slice A n c, .int .i64 i, .int .i64 0] 104)) := by
  have e1 : (w'.alloc (.cells #[.int .i64 g6.f0, .slice A1 g6.f1.length c1] 58)).heap.size = w'.heap.size + 1 := Array.size_push _
  have b1 := (Below.refl w'.heap.size w').alloc (Nat.le_refl _) (.cells #[.int .i64 g6.f0, .slice A1 g6.f1.length c1] 58)
  have b2 := b1.alloc b1.size (.cells #[.slice A n c, .int .i64 i, .int .i64 0] 104)
  refine ⟨h.keep (b2.mono h.size), blk_alloc (alloc_blk w' _) _, ?_, h.size⟩
  have := alloc_blk (w'.alloc (.cells #[.int .i64 g6.f0, .slice A1 g6.f1.length c1] 58)) (.cells #[.slice A n c, .int .i64 i, .int .i64 0] 104)
  rw [e1] at this
  exact this
set_option maxRecDepth 100000 in
set_option maxHeartbeats 8000000 in
theorem check_walk (A : Option Addr) (c : Nat) (l : List S58) (w : World) (hC : k58.C w A l.length l) (hc : l.length ≤ c) : Calls Try.prog 25 #[.slice A l.length c] w (ckPost w l) := by
  have hmf : ∀ (fn : Fn) (first cap : Array Value) (w : World), (Instr.makeFunc fn first cap).run Try.prog w = .ok (.func fn first cap) w := fun _ _ _ _ => rfl
  have HC := Aside0.mk hC
  have HS := Aside0.mk (CkW.start w)
  clear hC hc
  by_cases hl1 : 1 ≤ l.length
  · have hl1' : (1 ≤ (l.length : Int)) = True := eq_true (by omega)
    have HL1 := Aside0.mk hl1
    clear hl1
    go_enter_defers Try.func25, Try.ntmps25
    go_wp2_with fail
    refine (need_any none 0 0 0 0 3 _ _).mono ?_
    rintro e w2 ⟨hb, he⟩
    have hs2 := HS.out.keep (hb.mono HS.out.size)
    clear HS hb
    have HS := Aside0.mk hs2
    clear hs2
    by_cases hl2 : l.length ≤ 16
    · rw [if_pos (decide_eq_true (by omega))] at he
      subst he
      have HLL := Aside0.mk (And.intro HL1.out hl2)
      clear HL1 hl2 hl1'
      go_wp2_with fail
      go_loopw [24] (fun v24 wr => ∃ i : Nat, v24 = .int .i64 i ∧ i ≤ l.length ∧ Aside0 (funcsE l 0 l = funcsE l i (l.drop i)) ∧ Aside0 (CkW w wr)) (fun v24 _ => l.length - (intOf v24).toNat)
      case atStart => exact ⟨0, rfl, Nat.zero_le _, ⟨rfl⟩, HS⟩
      case round =>
        clear HS w2
        obtain ⟨i, rfl, hi, HF, HS⟩ := hrel
        by_cases hlt : i < l.length
        · have p1 : (0 : Int) ≤ (i : Int) := by omega
          have q1 : (i : Int) < (l.length : Nat) := by omega
          obtain ⟨ad, A1, c1, rfl, hx0, hx1, hl1, hi1⟩ := at_T58 HC.out i p1 q1
          replace hx0 := (HS.out.below.cell (World.block_lt_of_cell? w _ hx0)).trans hx0
          replace hx1 := (HS.out.below.cell (World.block_lt_of_cell? w _ hx1)).trans hx1
          simp only [Int.toNat_natCast] at hx0 hx1
          have hfi : rd_T58 l (i : Int) = l[i] := by simp [rd_T58, hlt]
          rw [hfi] at hx0 hx1 hl1 hi1
          clear hfi
          generalize hfj : l[i] = fi at hx0 hx1 hl1 hi1
          have HFI := Aside0.mk (show ∃ h : i < l.length, l[i] = fi from ⟨hlt, hfj⟩)
          have HR1 := Aside0.mk hi1
          have HIA := Aside0.mk (fun (at_ : Int) (x : S55) (w' : World) (h : k58.C w' (some ad) l.length l) => instr_any (some ad) c l i at_ x w' h hlt)
          rw [hfj] at HIA
          clear hi1 hl1 hfj
          have hu58 := Try.underlying58
          go_upto_region 7 with (fail)
          have hfw := FW.start (A := some ad) (n := l.length) (c := c) (i := (i : Int)) (g6 := fi) (A1 := A1) (c1 := c1) HS.out
          clear HS hx0 hx1 hu58
          generalize hgg : wr.heap.size = g at hfw ⊢
          clear hgg
          generalize (wr.alloc (.cells #[.int .i64 fi.f0, .slice A1 fi.f1.length c1] 58)).alloc (.cells #[.slice (some ad) l.length c, .int .i64 (i : Int), .int .i64 0] 104) = w3 at hfw ⊢
          have HW := Aside0.mk hfw
          have b60 := blk_cell hfw.h6 0
          have b70 := blk_cell hfw.h7 0
          have b71 := blk_cell hfw.h7 1
          have b72 := blk_cell hfw.h7 2
          have HLT := Aside0.mk hlt
          clear hfw wr p1 q1 hi hlt
          by_cases ha0 : 0 ≤ fi.f0
          · have ha0' : (0 ≤ fi.f0) = True := eq_true ha0
            have HA0 := Aside0.mk ha0
            clear ha0
            go_wp2_with fail
            clear b60 b70 b71 b72 ha0'
            refine (need_any (some ad) l.length c i 0 6 _ _).mono ?_
            rintro e w4 ⟨hb, he⟩
            have hfw := HW.out.keep hb
            clear HW hb
            by_cases ha1 : fi.f0 ≤ 4
            · rw [if_pos (decide_eq_true ha1)] at he
              subst he
              have HW := Aside0.mk hfw
              have HA := Aside0.mk (And.intro HA0.out ha1)
              have b61 := blk_cell hfw.h6 1
              have b70 := blk_cell hfw.h7 0
              have b71 := blk_cell hfw.h7 1
              have b72 := blk_cell hfw.h7 2
              clear hfw ha1 HA0 w3
              by_cases hb0 : 1 ≤ fi.f1.length
              · have hb0' : (1 ≤ (fi.f1.length : Int)) = True := eq_true (by omega)
                have HB0 := Aside0.mk hb0
                clear hb0
                go_wp2_with fail
                clear b61 b70 b71 b72 hb0'
                refine (need_any (some ad) l.length c i 0 3 _ _).mono ?_
                rintro e w5 ⟨hb, he⟩
                have hfw := HW.out.keep hb
                clear HW hb
                by_cases hb1 : fi.f1.length ≤ 64
                · rw [if_pos (decide_eq_true (by omega))] at he
                  subst he
                  have HW := Aside0.mk hfw
                  have HB := Aside0.mk (And.intro HB0.out hb1)
                  have b61 := blk_cell hfw.h6 1
                  clear hfw hb1 HB0 w4
                  go_wp2_with fail
                  clear b61
                  go_loopw [57] (fun v57 wr => ∃ (k : Nat) (at_ : Int), v57 = .int .i64 k ∧ k ≤ fi.f1.length ∧ Aside0 (instrsE fi.f1.length l 0 fi.f1 = instrsE fi.f1.length l k (fi.f1.drop k)) ∧ Aside0 (k = 0 ∨ at_ = (k : Int) - 1) ∧ Aside0 (FW w (some ad) l.length c i at_ fi A1 c1 g wr)) (fun v57 _ => fi.f1.length - (intOf v57).toNat)
                  case atStart => exact ⟨0, 0, rfl, Nat.zero_le _, ⟨rfl⟩, ⟨.inl rfl⟩, HW⟩
                  case round =>
                    clear HW w5
                    obtain ⟨k, at_, rfl, hk, HI, HAT, HW⟩ := hrel
                    by_cases hlk : k < fi.f1.length
                    · have p1 : (0 : Int) ≤ (k : Int) := by omega
                      have q1 : (k : Int) < (fi.f1.length : Nat) := by omega
                      obtain ⟨ad2, rfl, hx0, hx1, hx2, hx3, hx4⟩ := at_T55 HR1.out k p1 q1
                      replace hx0 := (HW.out.ck.below.cell (World.block_lt_of_cell? w _ hx0)).trans hx0
                      replace hx1 := (HW.out.ck.below.cell (World.block_lt_of_cell? w _ hx1)).trans hx1
                      replace hx2 := (HW.out.ck.below.cell (World.block_lt_of_cell? w _ hx2)).trans hx2
                      replace hx3 := (HW.out.ck.below.cell (World.block_lt_of_cell? w _ hx3)).trans hx3
                      replace hx4 := (HW.out.ck.below.cell (World.block_lt_of_cell? w _ hx4)).trans hx4
                      simp only [Int.toNat_natCast] at hx0 hx1 hx2 hx3 hx4
                      have hgi : rd_T55 fi.f1 (k : Int) = fi.f1[k] := by simp [rd_T55, hlk]
                      rw [hgi] at hx0 hx1 hx2 hx3 hx4
                      clear hgi
                      generalize hgj : fi.f1[k] = gi at hx0 hx1 hx2 hx3 hx4
                      have HGI := Aside0.mk (show ∃ h : k < fi.f1.length, fi.f1[k] = gi from ⟨hlk, hgj⟩)
                      clear hgj
                      have hu55 := Try.underlying55
                      go_upto_region 12 with (fail)
                      have hfw := HW.out.keep ((Below.refl _ _).alloc (Nat.le_refl _) (.cells #[.int .i64 gi.f0, .int .i64 gi.f1, .int .i64 gi.f2, .int .i64 gi.f3, .int .i64 gi.f4] 55))
                      have hbg := alloc_blk wr (.cells #[.int .i64 gi.f0, .int .i64 gi.f1, .int .i64 gi.f2, .int .i64 gi.f3, .int .i64 gi.f4] 55)
                      have hne : wr.heap.size ≠ g + 1 := by have := blk_lt HW.out.h7; omega
                      clear hx0 hx1 hx2 hx3 hx4 hu55 p1 q1 HW HAT
                      generalize wr.heap.size = b9 at hbg hne ⊢
                      generalize wr.alloc (.cells #[.int .i64 gi.f0, .int .i64 gi.f1, .int .i64 gi.f2, .int .i64 gi.f3, .int .i64 gi.f4] 55) = w6 at hfw hbg ⊢
                      clear wr
                      have hfp := hfw.put (k : Int)
                      have hbp := blk_farC (p := ⟨g + 1, 2, none⟩) hbg hne (.int .i64 (k : Int))
                      have HW := Aside0.mk (And.intro hfp hbp)
                      have c7 := blk_cell hfw.h7 2
                      have f7 := blk_frozen hfw.h7 2
                      have hu104 := Try.underlying104
                      clear hfp hbp hfw hbg hne
                      go_upto_region 13 with (fail)
                      clear c7 f7 hu104
                      obtain ⟨hfw, hbg⟩ := HW.out
                      clear HW
                      generalize w6.setCell ⟨g + 1, 2, none⟩ (.int .i64 (k : Int)) = w7 at hfw hbg ⊢
                      clear w6
                      have b70 := blk_cell hfw.h7 0
                      have b71 := blk_cell hfw.h7 1
                      have b72 := blk_cell hfw.h7 2
                      have x0 := blk_cell hbg 0
                      have x1 := blk_cell hbg 1
                      have x2 := blk_cell hbg 2
                      have x3 := blk_cell hbg 3
                      have x4 := blk_cell hbg 4
                      have HW := Aside0.mk hfw
                      have hu104 := Try.underlying104
                      have hu55 := Try.underlying55
                      clear hfw hbg
                      go_wp2_with fail
                      clear b70 b71 b72 x0 x1 x2 x3 x4 hu104 hu55
                      refine (HIA.out k gi w7 (Kd.C_below HC.out HW.out.ck.below)).mono ?_
                      rintro e w8 ⟨hb, he⟩
                      have hfw := HW.out.keep hb
                      clear HW hb
                      cases hE : instrE fi.f1.length l gi with
                      | some q =>
                        rw [hE] at he
                        subst he
                        exact check_panics l i k q w w8 _ (check_stop HLL.out HF.out HFI.out (e := ((k : Int), q)) (by
                          obtain ⟨h1, h2⟩ := HGI.out
                          unfold funcE; rw [if_pos HA.out, if_pos HB.out, HI.out, List.drop_eq_getElem_cons h1, h2]
                          simp only [instrsE, hE]; rfl)) hfw.ck rfl rfl rfl
                      | none =>
                      rw [hE] at he
                      subst he
                      have hin : instrsE fi.f1.length l 0 fi.f1 = instrsE fi.f1.length l (k + 1) (fi.f1.drop (k + 1)) := by
                        obtain ⟨h1, h2⟩ := HGI.out
                        rw [HI.out, List.drop_eq_getElem_cons h1, h2]
                        simp only [instrsE, hE]
                      have HIN := Aside0.mk hin
                      have HW := Aside0.mk hfw
                      have hB64 := HB.out.2
                      clear hin hfw hE
                      go_wp2_with fail
                      go_roundw
                      case rel => exact ⟨k + 1, k, by go_num, by omega, HIN, ⟨.inr (by omega)⟩, HW⟩
                      case measure => simp [intOf]; omega
                    · obtain rfl : k = fi.f1.length := by omega
                      have hB1 := HB.out.1
                      have hB64 := HB.out.2
                      have hin : instrsE fi.f1.length l 0 fi.f1 = none := by
                        have := HI.out
                        rw [List.drop_length] at this
                        exact this
                      have hat : at_ = (fi.f1.length : Int) - 1 := HAT.out.resolve_left (by omega)
                      subst hat
                      obtain ⟨ad2, rfl, hx0, hx1, hx2, hx3, hx4⟩ := at_T55 HR1.out ((fi.f1.length : Int) - 1) (by omega) (by omega)
                      replace hx0 := (HW.out.ck.below.cell (World.block_lt_of_cell? w _ hx0)).trans hx0
                      rw [show ((fi.f1.length : Int) - 1).toNat = fi.f1.length - 1 by omega] at hx0
                      have hFE : funcE l fi = lastE fi := by
                        unfold funcE; rw [if_pos HA.out, if_pos HB.out, hin]; rfl
                      have hLE : lastE fi = if (rd_T55 fi.f1 ((fi.f1.length : Int) - 1)).f0 = 9 ∨ (rd_T55 fi.f1 ((fi.f1.length : Int) - 1)).f0 = 16 ∨ (rd_T55 fi.f1 ((fi.f1.length : Int) - 1)).f0 = 17 then none else some ((fi.f1.length : Int) - 1, 11) := rfl
                      rw [hLE] at hFE
                      generalize (rd_T55 fi.f1 ((fi.f1.length : Int) - 1)).f0 = o at hx0 hFE
                      have hwl : IntKind.i64.wrap ((fi.f1.length : Int) - 1) = (fi.f1.length : Int) - 1 := (i64_w _).trans (by unfold wrap64; omega)
                      have hlo : (0 ≤ (fi.f1.length : Int) - 1) = True := eq_true (by omega)
                      have hhi : ((fi.f1.length : Int) - 1 < (fi.f1.length : Int)) = True := eq_true (by omega)
                      have hB1i : (1 ≤ (fi.f1.length : Int)) = True := eq_true (by omega)
                      have HFE := Aside0.mk hFE
                      have HW' := Aside0.mk HW.out.ck
                      have b61 := blk_cell HW.out.h6 1
                      clear hx1 hx2 hx3 hx4 hFE hLE hin HAT HI hB1 hB64 hk hlk
                      go_upto_region 16 with (fail)
                      clear hx0 b61 hwl hlo hhi hB1i
                      have b70 := blk_cell HW.out.h7 0
                      have b71 := blk_cell HW.out.h7 1
                      have b72 := blk_cell HW.out.h7 2
                      have hu104 := Try.underlying104
                      by_cases ho9 : o = 9
                      · have HN := Aside0.mk (HFE.out.trans (if_pos (.inl ho9)))
                        have e9 : (o == 9) = true := by rw [ho9]; rfl
                        clear ho9
                        go_wp2_with fail
                        clear b70 b71 b72 hu104
                        refine (need_ok (some ad) l.length c i ((fi.f1.length : Int) - 1) 11 _).mono ?_
                        rintro e w9 ⟨rfl, hb⟩
                        have hck := (HW.out.keep hb).ck
                        have hst := check_step HF.out HFI.out HN.out
                        have hl16 := HLL.out.2
                        have hil := HLT.out
                        have HFN := Aside0.mk hst
                        have HCN := Aside0.mk hck
                        clear hst hck hb HF HW
                        go_wp2_with fail
                        go_roundw
                        case rel => exact ⟨i + 1, by go_num, by omega, HFN, HCN⟩
                        case measure => simp [intOf]; omega
                      · have e9 : (o == 9) = false := by simp [ho9]
                        by_cases ho16 : o = 16
                        · have HN := Aside0.mk (HFE.out.trans (if_pos (.inr (.inl ho16))))
                          have e16 : (o == 16) = true := by rw [ho16]; rfl
                          clear ho16 ho9
                          go_wp2_with fail
                          clear b70 b71 b72 hu104
                          refine (need_ok (some ad) l.length c i ((fi.f1.length : Int) - 1) 11 _).mono ?_
                          rintro e w9 ⟨rfl, hb⟩
                          have hck := (HW.out.keep hb).ck
                          have hst := check_step HF.out HFI.out HN.out
                          have hl16 := HLL.out.2
                          have hil := HLT.out
                          have HFN := Aside0.mk hst
                          have HCN := Aside0.mk hck
                          clear hst hck hb HF HW
                          go_wp2_with fail
                          go_roundw
                          case rel => exact ⟨i + 1, by go_num, by omega, HFN, HCN⟩
                          case measure => simp [intOf]; omega
                        · have e16 : (o == 16) = false := by simp [ho16]
                          by_cases ho17 : o = 17
                          · have HN := Aside0.mk (HFE.out.trans (if_pos (.inr (.inr ho17))))
                            have e17 : (o == 17) = true := by rw [ho17]; rfl
                            clear ho17 ho16 ho9
                            go_wp2_with fail
                            clear b70 b71 b72 hu104
                            refine (need_ok (some ad) l.length c i ((fi.f1.length : Int) - 1) 11 _).mono ?_
                            rintro e w9 ⟨rfl, hb⟩
                            have hck := (HW.out.keep hb).ck
                            have hst := check_step HF.out HFI.out HN.out
                            have hl16 := HLL.out.2
                            have hil := HLT.out
                            have HFN := Aside0.mk hst
                            have HCN := Aside0.mk hck
                            clear hst hck hb HF HW
                            go_wp2_with fail
                            go_roundw
                            case rel => exact ⟨i + 1, by go_num, by omega, HFN, HCN⟩
                            case measure => simp [intOf]; omega
                          · have e17 : (o == 17) = false := by simp [ho17]
                            have HN := Aside0.mk (HFE.out.trans (if_neg (by omega)))
                            clear ho17 ho16 ho9
                            go_wp2_with fail
                            refine (need_no (some ad) l.length c i ((fi.f1.length : Int) - 1) 11 _).mono ?_
                            rintro e w9 ⟨rfl, hb⟩
                            exact check_panics l i ((fi.f1.length : Int) - 1) 11 w w9 _ (check_stop HLL.out HF.out HFI.out HN.out) (HW.out.keep hb).ck rfl rfl rfl
                · rw [if_neg (fun h => hb1 (by have := of_decide_eq_true h; omega))] at he
                  subst he
                  exact check_panics l i 0 3 w w5 _ (check_stop HLL.out HF.out HFI.out (e := (0, 3)) (by unfold funcE; rw [if_pos HA.out, if_neg (by omega)])) hfw.ck rfl rfl rfl
              · have hb0' : (1 ≤ (fi.f1.length : Int)) = False := eq_false (by omega)
                have HB0 := Aside0.mk hb0
                clear hb0
                go_wp2_with fail
                refine (need_no (some ad) l.length c i 0 3 _).mono ?_
                rintro e w5 ⟨rfl, hb⟩
                exact check_panics l i 0 3 w w5 _ (check_stop HLL.out HF.out HFI.out (e := (0, 3)) (by unfold funcE; rw [if_pos HA.out, if_neg (by have := HB0.out; omega)])) (HW.out.keep hb).ck rfl rfl rfl
            · rw [if_neg (fun h => ha1 (of_decide_eq_true h))] at he
              subst he
              exact check_panics l i 0 6 w w4 _ (check_stop HLL.out HF.out HFI.out (e := (0, 6)) (by unfold funcE; rw [if_neg (by omega)])) hfw.ck rfl rfl rfl
          · have ha0' : (0 ≤ fi.f0) = False := eq_false ha0
            have HA0 := Aside0.mk ha0
            clear ha0
            go_wp2_with fail
            refine (need_no (some ad) l.length c i 0 6 _).mono ?_
            rintro e w4 ⟨rfl, hb⟩
            exact check_panics l i 0 6 w w4 _ (check_stop HLL.out HF.out HFI.out (e := (0, 6)) (by unfold funcE; rw [if_neg (by have := HA0.out; omega)])) (HW.out.keep hb).ck rfl rfl rfl
        · obtain rfl : i = l.length := by omega
          clear hlt hi
          have hck : checkP l = (0, 0, 0) := by
            have := HF.out
            rw [List.drop_length] at this
            unfold checkP; rw [if_pos HLL.out, this]; rfl
          have c0 := blk_cell HS.out.c0 0
          have c1 := blk_cell HS.out.c1 0
          have c2 := blk_cell HS.out.c2 0
          have f0 := blk_frozen HS.out.c0 0
          have f1 := blk_frozen HS.out.c1 0
          have f2 := blk_frozen HS.out.c2 0
          have HCK := Aside0.mk hck
          clear hck
          go_wp2_with fail
          have d0 := blk_farC (p := ⟨w.heap.size + 1 + 1, 0, none⟩) (blk_farC (p := ⟨w.heap.size + 1, 0, none⟩) (blk_set HS.out.c0 0 (.int .i64 0)) (by simp) (.int .i64 0)) (by simp; omega) (.int .i64 0)
          have d1 := blk_farC (p := ⟨w.heap.size + 1 + 1, 0, none⟩) (blk_set (blk_farC (p := ⟨w.heap.size, 0, none⟩) HS.out.c1 (by simp) (.int .i64 0)) 0 (.int .i64 0)) (by simp) (.int .i64 0)
          have d2 := blk_set (blk_farC (p := ⟨w.heap.size + 1, 0, none⟩) (blk_farC (p := ⟨w.heap.size, 0, none⟩) HS.out.c2 (by simp; omega) (.int .i64 0)) (by simp) (.int .i64 0)) 0 (.int .i64 0)
          have dB := Below.setCell (p := ⟨w.heap.size + 1 + 1, 0, none⟩) (Below.setCell (p := ⟨w.heap.size + 1, 0, none⟩) (Below.setCell (p := ⟨w.heap.size, 0, none⟩) HS.out.below (Nat.le_refl _) (.int .i64 0)) (show w.heap.size ≤ w.heap.size + 1 by omega) (.int .i64 0)) (show w.heap.size ≤ w.heap.size + 1 + 1 by omega) (.int .i64 0)
          have r0 := blk_cell d0 0
          have r1 := blk_cell d1 0
          have r2 := blk_cell d2 0
          refine leaves_cons (f := 29) (args := #[.pointer (some ⟨w.heap.size, 0, none⟩), .pointer (some ⟨w.heap.size + 1, 0, none⟩), .pointer (some ⟨w.heap.size + 1 + 1, 0, none⟩)]) (by simp) (by simp [go_sem]) ?_
          refine (ccatch_idle _ _ _ _).mono ?_
          rintro e u' w2 ⟨rfl, rfl, rfl⟩
          refine ⟨.tuple #[.int .i64 0, .int .i64 0, .int .i64 0], ?_, ?_⟩
          · simp [results, Try.results25, go_sem, r0, r1, r2]
          · exact ⟨by rw [HCK.out], dB⟩
    · rw [if_neg (fun h => hl2 (by have := of_decide_eq_true h; omega))] at he
      subst he
      exact check_panics l 0 0 3 w w2 _ (by unfold checkP; rw [if_neg (by omega)]) HS.out rfl rfl rfl
  · have hl1' : (1 ≤ (l.length : Int)) = False := eq_false (by omega)
    have HL1 := Aside0.mk hl1
    clear hl1
    go_enter_defers Try.func25, Try.ntmps25
    go_wp2_with fail
    refine (need_no none 0 0 0 0 3 _).mono ?_
    rintro e w2 ⟨rfl, hb⟩
    have hs2 := HS.out.keep (hb.mono HS.out.size)
    exact check_panics l 0 0 3 w w2 _ (by unfold checkP; rw [if_neg (by have := HL1.out; omega)]) hs2 rfl rfl rfl
theorem valid_Check.calls (A0 : Option Addr) (c0 : Nat) (l0 : List S58) (r1 r2 r3 : Int) (w : World) (hr0 : k58.C w A0 l0.length l0) (hc0 : l0.length ≤ c0) (h : valid_Check.f l0 = some (r1, r2, r3)) :
    Calls Try.prog 25 #[.slice A0 l0.length c0] w fun e w' => e = .returned (.tuple #[.int .i64 r1, .int .i64 r2, .int .i64 r3]) ∧ Below w.heap.size w w' := by
  have hq : checkP l0 = (r1, r2, r3) := Option.some.inj h
  refine (check_walk A0 c0 l0 w hr0 hc0).mono ?_
  rintro e w' ⟨he, hb⟩
  rw [hq] at he
  exact ⟨he, hb⟩
end Go.Proofs.Ytnhipdniceoigaa.H

-- made by this session's gen.py over the kit's print.py; not trusted: Lean checks it
namespace Go.Proofs.Ytnhipdniceoigaa.H
open Go.RowKit Go.Proofs.YtnhipdniceoigaaW.PrintWords Go.Proofs.YtnhipdniceoigaaW.PrintLast Go.Proofs.YtnhipdniceoigaaW.PrintMore
attribute [local go_sem] max2_int min2_int max_two min_two max_three min_three max_four min_four   -- for this text's walks alone
set_option linter.unusedVariables false
set_option linter.unusedSimpArgs false

/-! ### eval_Right: function 16 -/
def eval_Right.f (l0 : List (S58)) (l1 : List Int) (a2_0 : Int) (a2_1 : Int) : Option (Bool) := (valid_Check.f l0).bind fun bt114 => (if bt114.2.2 = 0 then (if a2_0 < 1 then (some false) else (if a2_0 > 10000 then (some false) else (if a2_1 < 0 then (some false) else (if a2_1 > 30 then (some false) else (if 0 < (l0.length : Int) then (some ((l1.length : Int) == ((rd_T58 l0 0).f0))) else (none)))))) else (some false))
set_option maxHeartbeats 8000000 in
set_option maxRecDepth 100000 in
theorem eval_Right.calls (A0 : Option Addr) (c0 : Nat) (l0 : List (S58)) (A1 : Option Addr) (c1 : Nat) (l1 : List Int) (a2_0 : Int) (a2_1 : Int) (r : Bool) (w : World) (hr0 : Kd.C k58 w A0 l0.length l0) (hc0 : l0.length ≤ c0) (hr1 : Kd.C (Kd.int .i64) w A1 l1.length l1) (hc1 : l1.length ≤ c1) (h : eval_Right.f l0 l1 a2_0 a2_1 = some r) :
    Calls Try.prog 16 #[.slice A0 l0.length c0, .slice A1 l1.length c1, .agg #[.int .i64 a2_0, .int .i64 a2_1]] w fun e w' => e = .returned (.bool r) ∧ Below w.heap.size w w' := by
  have hu37 := Try.underlying37
  have HR0 := Aside0.mk hr0
  have HC0 := Aside0.mk hc0
  clear hr0 hc0
  have HR1 := Aside0.mk hr1
  have HC1 := Aside0.mk hc1
  clear hr1 hc1
  have HB := Aside0.mk (Below.refl w.heap.size w)
  have H : ((valid_Check.f l0).bind fun bt114 => (if bt114.2.2 = 0 then (if a2_0 < 1 then (some false) else (if a2_0 > 10000 then (some false) else (if a2_1 < 0 then (some false) else (if a2_1 > 30 then (some false) else (if 0 < (l0.length : Int) then (some ((l1.length : Int) == ((rd_T58 l0 0).f0))) else (none)))))) else (some false))) = some r := h
  clear h
  replace H := Option.bind_eq_some_iff.mp H
  obtain ⟨⟨t114, t115, t116⟩, A40, H⟩ := H
  replace H : (if t116 = 0 then (if a2_0 < 1 then (some false) else (if a2_0 > 10000 then (some false) else (if a2_1 < 0 then (some false) else (if a2_1 > 30 then (some false) else (if 0 < (l0.length : Int) then (some ((l1.length : Int) == ((rd_T58 l0 0).f0))) else (none)))))) else (some false)) = some r := H
  have A4 := Aside0.mk A40
  clear A40
  by_cases c5 : t116 = 0
  · rw [if_pos c5] at H
    have c5b0 : (t116 == 0) = true := beq_iff_eq.mpr c5
    have c5b1 : (t116 != 0) = false := bne_eq_false_iff_eq.mpr c5
    clear c5
    by_cases c6 : a2_0 < 1
    · rw [if_pos c6] at H
      have c6b0 : decide (a2_0 < 1) = true := decide_eq_true c6
      clear c6
      obtain rfl := Option.some.inj H
      go_enter Try.func16, Try.ntmps16
      go_wp2_with (first | ((with_reducible refine gate_dst (N := 5) rfl ?_); refine box_event ?hg (N := 5) ?hd (cs := #[.int .i64 a2_0, .int .i64 a2_1]) (t := 37) ?hr ?_; (case hd => rfl); (case hg => rfl); (case hr => first | (go_simp; done) | (go_simp; rfl)); intro gb113 hg w7 hbox hb; have n0_ := Aside0.mk (below_step (by repeat (first | (with_reducible first | exact HB.out | apply below_alloc | apply pw_below_drewN | apply below_drew1) | exact HB.out)) hb); have n1_ := Aside0.mk (hbox); have n2_ := Aside0.mk ((by rw [hg]; exact (below_size (by repeat (first | (with_reducible first | exact HB.out | apply below_alloc | apply pw_below_drewN | apply below_drew1) | exact HB.out))) : w.heap.size ≤ gb113)); have n3_ := Aside0.mk ((by rw [hg]; exact (below_size (by repeat (first | (with_reducible first | exact HB.out | apply below_alloc | apply pw_below_drewN | apply below_drew1) | exact HB.out))) : w.heap.size ≤ gb113)); clear HB; have HB := n0_; have BK113 := n1_; have GW113 := n2_; have GE113 := n3_; clear n0_ n1_ n2_ n3_; clear hb hbox hg) | ((with_reducible refine gate_callee (f := 25) rfl ?_); refine goesL_ (some 12) rfl rfl Try.func25 (by kernel_rfl) rfl #[.slice A0 l0.length c0] rfl (by (try simp only [List.map_toArray, List.map_cons, List.map_nil]); first | done | rfl | (simp only [List.length_drop, List.length_take]; rfl)) ?_; (with_reducible refine (valid_Check.calls _ _ l0 t114 t115 t116 _ ?side1 ?side2 A4.out).mono ?_); (case side1 => repeat (first | exact (Kd.C_below HR0.out HB.out) | (with_reducible refine Kd.C_alloc ?_ _) | (with_reducible refine Kd.C_drewN ?_ _) | (with_reducible refine Kd.C_drew ?_))); (case side2 => exact HC0.out); rintro e w8 ⟨rfl, hb⟩; refine ⟨_, rfl, ?_⟩; have n0_ := Aside0.mk (blk_below (g := gb113) (o := .cells #[.int .i64 a2_0, .int .i64 a2_1] 37 (0, 0)) (by (with_reducible repeat (first | refine blk_drewN ?_ _ | refine blk_drew ?_ | refine blk_alloc ?_ _)); exact BK113.out) hb); have n1_ := Aside0.mk (below_step (by repeat (first | (with_reducible first | exact HB.out | apply below_alloc | apply pw_below_drewN | apply below_drew1 | refine below_set ?_ GE113.out) | exact HB.out)) hb); clear BK113; clear HB; have BK113 := n0_; have HB := n1_; clear n0_ n1_; (try clear hb); (try clear hb2); (try clear hk); (try clear hi); have hcz9_0 : w8.cell? ⟨gb113, 0, none⟩ = some (.int .i64 a2_0) := (blk_cell BK113.out 0).trans rfl; have hcz9_1 : w8.cell? ⟨gb113, 1, none⟩ = some (.int .i64 a2_1) := (blk_cell BK113.out 1).trans rfl; have hfz9_0 := blk_frozen BK113.out 0; have hfz9_1 := blk_frozen BK113.out 1))
      go_ret
      exact ⟨by first | rfl | (simp [errW_none, errW_some] <;> rfl) | (simp [*, errW_none, errW_some] <;> rfl), by repeat (first | (with_reducible first | exact HB.out | apply below_alloc | apply pw_below_drewN | apply below_drew1 | refine below_set ?_ GE113.out) | exact HB.out)⟩
    · rw [if_neg c6] at H
      have c6b0 : decide (a2_0 < 1) = false := decide_eq_false c6
      clear c6
      by_cases c10 : a2_0 > 10000
      · rw [if_pos c10] at H
        have c10b0 : decide (10000 < a2_0) = true := decide_eq_true c10
        clear c10
        obtain rfl := Option.some.inj H
        go_enter Try.func16, Try.ntmps16
        go_wp2_with (first | ((with_reducible refine gate_dst (N := 5) rfl ?_); refine box_event ?hg (N := 5) ?hd (cs := #[.int .i64 a2_0, .int .i64 a2_1]) (t := 37) ?hr ?_; (case hd => rfl); (case hg => rfl); (case hr => first | (go_simp; done) | (go_simp; rfl)); intro gb113 hg w11 hbox hb; have n0_ := Aside0.mk (below_step (by repeat (first | (with_reducible first | exact HB.out | apply below_alloc | apply pw_below_drewN | apply below_drew1) | exact HB.out)) hb); have n1_ := Aside0.mk (hbox); have n2_ := Aside0.mk ((by rw [hg]; exact (below_size (by repeat (first | (with_reducible first | exact HB.out | apply below_alloc | apply pw_below_drewN | apply below_drew1) | exact HB.out))) : w.heap.size ≤ gb113)); have n3_ := Aside0.mk ((by rw [hg]; exact (below_size (by repeat (first | (with_reducible first | exact HB.out | apply below_alloc | apply pw_below_drewN | apply below_drew1) | exact HB.out))) : w.heap.size ≤ gb113)); clear HB; have HB := n0_; have BK113 := n1_; have GW113 := n2_; have GE113 := n3_; clear n0_ n1_ n2_ n3_; clear hb hbox hg) | ((with_reducible refine gate_callee (f := 25) rfl ?_); refine goesL_ (some 12) rfl rfl Try.func25 (by kernel_rfl) rfl #[.slice A0 l0.length c0] rfl (by (try simp only [List.map_toArray, List.map_cons, List.map_nil]); first | done | rfl | (simp only [List.length_drop, List.length_take]; rfl)) ?_; (with_reducible refine (valid_Check.calls _ _ l0 t114 t115 t116 _ ?side1 ?side2 A4.out).mono ?_); (case side1 => repeat (first | exact (Kd.C_below HR0.out HB.out) | (with_reducible refine Kd.C_alloc ?_ _) | (with_reducible refine Kd.C_drewN ?_ _) | (with_reducible refine Kd.C_drew ?_))); (case side2 => exact HC0.out); rintro e w12 ⟨rfl, hb⟩; refine ⟨_, rfl, ?_⟩; have n0_ := Aside0.mk (blk_below (g := gb113) (o := .cells #[.int .i64 a2_0, .int .i64 a2_1] 37 (0, 0)) (by (with_reducible repeat (first | refine blk_drewN ?_ _ | refine blk_drew ?_ | refine blk_alloc ?_ _)); exact BK113.out) hb); have n1_ := Aside0.mk (below_step (by repeat (first | (with_reducible first | exact HB.out | apply below_alloc | apply pw_below_drewN | apply below_drew1 | refine below_set ?_ GE113.out) | exact HB.out)) hb); clear BK113; clear HB; have BK113 := n0_; have HB := n1_; clear n0_ n1_; (try clear hb); (try clear hb2); (try clear hk); (try clear hi); have hcz13_0 : w12.cell? ⟨gb113, 0, none⟩ = some (.int .i64 a2_0) := (blk_cell BK113.out 0).trans rfl; have hcz13_1 : w12.cell? ⟨gb113, 1, none⟩ = some (.int .i64 a2_1) := (blk_cell BK113.out 1).trans rfl; have hfz13_0 := blk_frozen BK113.out 0; have hfz13_1 := blk_frozen BK113.out 1))
        go_ret
        exact ⟨by first | rfl | (simp [errW_none, errW_some] <;> rfl) | (simp [*, errW_none, errW_some] <;> rfl), by repeat (first | (with_reducible first | exact HB.out | apply below_alloc | apply pw_below_drewN | apply below_drew1 | refine below_set ?_ GE113.out) | exact HB.out)⟩
      · rw [if_neg c10] at H
        have c10b0 : decide (10000 < a2_0) = false := decide_eq_false c10
        clear c10
        by_cases c14 : a2_1 < 0
        · rw [if_pos c14] at H
          have c14b0 : decide (a2_1 < 0) = true := decide_eq_true c14
          clear c14
          obtain rfl := Option.some.inj H
          go_enter Try.func16, Try.ntmps16
          go_wp2_with (first | ((with_reducible refine gate_dst (N := 5) rfl ?_); refine box_event ?hg (N := 5) ?hd (cs := #[.int .i64 a2_0, .int .i64 a2_1]) (t := 37) ?hr ?_; (case hd => rfl); (case hg => rfl); (case hr => first | (go_simp; done) | (go_simp; rfl)); intro gb113 hg w15 hbox hb; have n0_ := Aside0.mk (below_step (by repeat (first | (with_reducible first | exact HB.out | apply below_alloc | apply pw_below_drewN | apply below_drew1) | exact HB.out)) hb); have n1_ := Aside0.mk (hbox); have n2_ := Aside0.mk ((by rw [hg]; exact (below_size (by repeat (first | (with_reducible first | exact HB.out | apply below_alloc | apply pw_below_drewN | apply below_drew1) | exact HB.out))) : w.heap.size ≤ gb113)); have n3_ := Aside0.mk ((by rw [hg]; exact (below_size (by repeat (first | (with_reducible first | exact HB.out | apply below_alloc | apply pw_below_drewN | apply below_drew1) | exact HB.out))) : w.heap.size ≤ gb113)); clear HB; have HB := n0_; have BK113 := n1_; have GW113 := n2_; have GE113 := n3_; clear n0_ n1_ n2_ n3_; clear hb hbox hg) | ((with_reducible refine gate_callee (f := 25) rfl ?_); refine goesL_ (some 12) rfl rfl Try.func25 (by kernel_rfl) rfl #[.slice A0 l0.length c0] rfl (by (try simp only [List.map_toArray, List.map_cons, List.map_nil]); first | done | rfl | (simp only [List.length_drop, List.length_take]; rfl)) ?_; (with_reducible refine (valid_Check.calls _ _ l0 t114 t115 t116 _ ?side1 ?side2 A4.out).mono ?_); (case side1 => repeat (first | exact (Kd.C_below HR0.out HB.out) | (with_reducible refine Kd.C_alloc ?_ _) | (with_reducible refine Kd.C_drewN ?_ _) | (with_reducible refine Kd.C_drew ?_))); (case side2 => exact HC0.out); rintro e w16 ⟨rfl, hb⟩; refine ⟨_, rfl, ?_⟩; have n0_ := Aside0.mk (blk_below (g := gb113) (o := .cells #[.int .i64 a2_0, .int .i64 a2_1] 37 (0, 0)) (by (with_reducible repeat (first | refine blk_drewN ?_ _ | refine blk_drew ?_ | refine blk_alloc ?_ _)); exact BK113.out) hb); have n1_ := Aside0.mk (below_step (by repeat (first | (with_reducible first | exact HB.out | apply below_alloc | apply pw_below_drewN | apply below_drew1 | refine below_set ?_ GE113.out) | exact HB.out)) hb); clear BK113; clear HB; have BK113 := n0_; have HB := n1_; clear n0_ n1_; (try clear hb); (try clear hb2); (try clear hk); (try clear hi); have hcz17_0 : w16.cell? ⟨gb113, 0, none⟩ = some (.int .i64 a2_0) := (blk_cell BK113.out 0).trans rfl; have hcz17_1 : w16.cell? ⟨gb113, 1, none⟩ = some (.int .i64 a2_1) := (blk_cell BK113.out 1).trans rfl; have hfz17_0 := blk_frozen BK113.out 0; have hfz17_1 := blk_frozen BK113.out 1))
          go_ret
          exact ⟨by first | rfl | (simp [errW_none, errW_some] <;> rfl) | (simp [*, errW_none, errW_some] <;> rfl), by repeat (first | (with_reducible first | exact HB.out | apply below_alloc | apply pw_below_drewN | apply below_drew1 | refine below_set ?_ GE113.out) | exact HB.out)⟩
        · rw [if_neg c14] at H
          have c14b0 : decide (a2_1 < 0) = false := decide_eq_false c14
          clear c14
          by_cases c18 : a2_1 > 30
          · rw [if_pos c18] at H
            have c18b0 : decide (30 < a2_1) = true := decide_eq_true c18
            clear c18
            obtain rfl := Option.some.inj H
            go_enter Try.func16, Try.ntmps16
            go_wp2_with (first | ((with_reducible refine gate_dst (N := 5) rfl ?_); refine box_event ?hg (N := 5) ?hd (cs := #[.int .i64 a2_0, .int .i64 a2_1]) (t := 37) ?hr ?_; (case hd => rfl); (case hg => rfl); (case hr => first | (go_simp; done) | (go_simp; rfl)); intro gb113 hg w19 hbox hb; have n0_ := Aside0.mk (below_step (by repeat (first | (with_reducible first | exact HB.out | apply below_alloc | apply pw_below_drewN | apply below_drew1) | exact HB.out)) hb); have n1_ := Aside0.mk (hbox); have n2_ := Aside0.mk ((by rw [hg]; exact (below_size (by repeat (first | (with_reducible first | exact HB.out | apply below_alloc | apply pw_below_drewN | apply below_drew1) | exact HB.out))) : w.heap.size ≤ gb113)); have n3_ := Aside0.mk ((by rw [hg]; exact (below_size (by repeat (first | (with_reducible first | exact HB.out | apply below_alloc | apply pw_below_drewN | apply below_drew1) | exact HB.out))) : w.heap.size ≤ gb113)); clear HB; have HB := n0_; have BK113 := n1_; have GW113 := n2_; have GE113 := n3_; clear n0_ n1_ n2_ n3_; clear hb hbox hg) | ((with_reducible refine gate_callee (f := 25) rfl ?_); refine goesL_ (some 12) rfl rfl Try.func25 (by kernel_rfl) rfl #[.slice A0 l0.length c0] rfl (by (try simp only [List.map_toArray, List.map_cons, List.map_nil]); first | done | rfl | (simp only [List.length_drop, List.length_take]; rfl)) ?_; (with_reducible refine (valid_Check.calls _ _ l0 t114 t115 t116 _ ?side1 ?side2 A4.out).mono ?_); (case side1 => repeat (first | exact (Kd.C_below HR0.out HB.out) | (with_reducible refine Kd.C_alloc ?_ _) | (with_reducible refine Kd.C_drewN ?_ _) | (with_reducible refine Kd.C_drew ?_))); (case side2 => exact HC0.out); rintro e w20 ⟨rfl, hb⟩; refine ⟨_, rfl, ?_⟩; have n0_ := Aside0.mk (blk_below (g := gb113) (o := .cells #[.int .i64 a2_0, .int .i64 a2_1] 37 (0, 0)) (by (with_reducible repeat (first | refine blk_drewN ?_ _ | refine blk_drew ?_ | refine blk_alloc ?_ _)); exact BK113.out) hb); have n1_ := Aside0.mk (below_step (by repeat (first | (with_reducible first | exact HB.out | apply below_alloc | apply pw_below_drewN | apply below_drew1 | refine below_set ?_ GE113.out) | exact HB.out)) hb); clear BK113; clear HB; have BK113 := n0_; have HB := n1_; clear n0_ n1_; (try clear hb); (try clear hb2); (try clear hk); (try clear hi); have hcz21_0 : w20.cell? ⟨gb113, 0, none⟩ = some (.int .i64 a2_0) := (blk_cell BK113.out 0).trans rfl; have hcz21_1 : w20.cell? ⟨gb113, 1, none⟩ = some (.int .i64 a2_1) := (blk_cell BK113.out 1).trans rfl; have hfz21_0 := blk_frozen BK113.out 0; have hfz21_1 := blk_frozen BK113.out 1))
            go_ret
            exact ⟨by first | rfl | (simp [errW_none, errW_some] <;> rfl) | (simp [*, errW_none, errW_some] <;> rfl), by repeat (first | (with_reducible first | exact HB.out | apply below_alloc | apply pw_below_drewN | apply below_drew1 | refine below_set ?_ GE113.out) | exact HB.out)⟩
          · rw [if_neg c18] at H
            have c18b0 : decide (30 < a2_1) = false := decide_eq_false c18
            clear c18
            by_cases c22 : 0 < (l0.length : Int)
            · rw [if_pos c22] at H
              have c22b0 : decide (0 < (l0.length : Int)) = true := decide_eq_true c22
              have c22b1 : decide (0 < l0.length) = true := decide_eq_true (by omega)
              clear c22
              obtain rfl := Option.some.inj H
              go_enter Try.func16, Try.ntmps16
              go_wp2_with (first | ((with_reducible refine gate_dst (N := 5) rfl ?_); refine box_event ?hg (N := 5) ?hd (cs := #[.int .i64 a2_0, .int .i64 a2_1]) (t := 37) ?hr ?_; (case hd => rfl); (case hg => rfl); (case hr => first | (go_simp; done) | (go_simp; rfl)); intro gb113 hg w23 hbox hb; have n0_ := Aside0.mk (below_step (by repeat (first | (with_reducible first | exact HB.out | apply below_alloc | apply pw_below_drewN | apply below_drew1) | exact HB.out)) hb); have n1_ := Aside0.mk (hbox); have n2_ := Aside0.mk ((by rw [hg]; exact (below_size (by repeat (first | (with_reducible first | exact HB.out | apply below_alloc | apply pw_below_drewN | apply below_drew1) | exact HB.out))) : w.heap.size ≤ gb113)); have n3_ := Aside0.mk ((by rw [hg]; exact (below_size (by repeat (first | (with_reducible first | exact HB.out | apply below_alloc | apply pw_below_drewN | apply below_drew1) | exact HB.out))) : w.heap.size ≤ gb113)); clear HB; have HB := n0_; have BK113 := n1_; have GW113 := n2_; have GE113 := n3_; clear n0_ n1_ n2_ n3_; clear hb hbox hg) | ((with_reducible refine gate_callee (f := 25) rfl ?_); refine goesL_ (some 12) rfl rfl Try.func25 (by kernel_rfl) rfl #[.slice A0 l0.length c0] rfl (by (try simp only [List.map_toArray, List.map_cons, List.map_nil]); first | done | rfl | (simp only [List.length_drop, List.length_take]; rfl)) ?_; (with_reducible refine (valid_Check.calls _ _ l0 t114 t115 t116 _ ?side1 ?side2 A4.out).mono ?_); (case side1 => repeat (first | exact (Kd.C_below HR0.out HB.out) | (with_reducible refine Kd.C_alloc ?_ _) | (with_reducible refine Kd.C_drewN ?_ _) | (with_reducible refine Kd.C_drew ?_))); (case side2 => exact HC0.out); rintro e w24 ⟨rfl, hb⟩; refine ⟨_, rfl, ?_⟩; have n0_ := Aside0.mk (blk_below (g := gb113) (o := .cells #[.int .i64 a2_0, .int .i64 a2_1] 37 (0, 0)) (by (with_reducible repeat (first | refine blk_drewN ?_ _ | refine blk_drew ?_ | refine blk_alloc ?_ _)); exact BK113.out) hb); have n1_ := Aside0.mk (below_step (by repeat (first | (with_reducible first | exact HB.out | apply below_alloc | apply pw_below_drewN | apply below_drew1 | refine below_set ?_ GE113.out) | exact HB.out)) hb); clear BK113; clear HB; have BK113 := n0_; have HB := n1_; clear n0_ n1_; (try clear hb); (try clear hb2); (try clear hk); (try clear hi); have hcz25_0 : w24.cell? ⟨gb113, 0, none⟩ = some (.int .i64 a2_0) := (blk_cell BK113.out 0).trans rfl; have hcz25_1 : w24.cell? ⟨gb113, 1, none⟩ = some (.int .i64 a2_1) := (blk_cell BK113.out 1).trans rfl; have hfz25_0 := blk_frozen BK113.out 0; have hfz25_1 := blk_frozen BK113.out 1; have p117 : 0 ≤ (0 : Int) := (by omega); have q117 : 0 < (l0.length : Int) := of_decide_eq_true (by first | (with_reducible assumption) | assumption); obtain ⟨ad117, A117_1, c117_1, e117, hx117_0, hx117_1, hl117_1, hi117_1⟩ := at_T58 HR0.out 0 p117 q117; cases e117; have qi117 : (0 < l0.length) = True := eq_true (by omega); (try rw [show ((0 : Int)).toNat = 0 from rfl] at hx117_0); (try rw [show 0 * 2 = 0 from rfl] at hx117_0); (try rw [Addr.add_zero'] at hx117_0); (try rw [show ((0 : Int)).toNat = 0 from rfl] at hx117_1); (try rw [show 0 * 2 = 0 from rfl] at hx117_1); (try rw [Addr.add_zero'] at hx117_1); replace hx117_0 := (HB.out.cell (World.block_lt_of_cell? w _ hx117_0)).trans hx117_0; replace hx117_1 := (HB.out.cell (World.block_lt_of_cell? w _ hx117_1)).trans hx117_1; have HR117_1 := Aside0.mk hi117_1; have HC117_1 := Aside0.mk hl117_1; clear hi117_1 hl117_1; replace p117 := eq_true p117; replace q117 := eq_true q117))
              go_ret
              exact ⟨by first | rfl | (simp [errW_none, errW_some] <;> rfl) | (simp [*, errW_none, errW_some] <;> rfl), by repeat (first | (with_reducible first | exact HB.out | apply below_alloc | apply pw_below_drewN | apply below_drew1 | refine below_set ?_ GE113.out) | exact HB.out)⟩
            · rw [if_neg c22] at H
              exact absurd H (by simp)
  · rw [if_neg c5] at H
    have c5b0 : (t116 == 0) = false := beq_eq_false_iff_ne.mpr c5
    have c5b1 : (t116 != 0) = true := bne_iff_ne.mpr c5
    obtain rfl := Option.some.inj H
    go_enter Try.func16, Try.ntmps16
    go_wp2_with (first | ((with_reducible refine gate_dst (N := 5) rfl ?_); refine box_event ?hg (N := 5) ?hd (cs := #[.int .i64 a2_0, .int .i64 a2_1]) (t := 37) ?hr ?_; (case hd => rfl); (case hg => rfl); (case hr => first | (go_simp; done) | (go_simp; rfl)); intro gb113 hg w26 hbox hb; have n0_ := Aside0.mk (below_step (by repeat (first | (with_reducible first | exact HB.out | apply below_alloc | apply pw_below_drewN | apply below_drew1) | exact HB.out)) hb); have n1_ := Aside0.mk (hbox); have n2_ := Aside0.mk ((by rw [hg]; exact (below_size (by repeat (first | (with_reducible first | exact HB.out | apply below_alloc | apply pw_below_drewN | apply below_drew1) | exact HB.out))) : w.heap.size ≤ gb113)); have n3_ := Aside0.mk ((by rw [hg]; exact (below_size (by repeat (first | (with_reducible first | exact HB.out | apply below_alloc | apply pw_below_drewN | apply below_drew1) | exact HB.out))) : w.heap.size ≤ gb113)); clear HB; have HB := n0_; have BK113 := n1_; have GW113 := n2_; have GE113 := n3_; clear n0_ n1_ n2_ n3_; clear hb hbox hg) | ((with_reducible refine gate_callee (f := 25) rfl ?_); refine goesL_ (some 12) rfl rfl Try.func25 (by kernel_rfl) rfl #[.slice A0 l0.length c0] rfl (by (try simp only [List.map_toArray, List.map_cons, List.map_nil]); first | done | rfl | (simp only [List.length_drop, List.length_take]; rfl)) ?_; (with_reducible refine (valid_Check.calls _ _ l0 t114 t115 t116 _ ?side1 ?side2 A4.out).mono ?_); (case side1 => repeat (first | exact (Kd.C_below HR0.out HB.out) | (with_reducible refine Kd.C_alloc ?_ _) | (with_reducible refine Kd.C_drewN ?_ _) | (with_reducible refine Kd.C_drew ?_))); (case side2 => exact HC0.out); rintro e w27 ⟨rfl, hb⟩; refine ⟨_, rfl, ?_⟩; have n0_ := Aside0.mk (blk_below (g := gb113) (o := .cells #[.int .i64 a2_0, .int .i64 a2_1] 37 (0, 0)) (by (with_reducible repeat (first | refine blk_drewN ?_ _ | refine blk_drew ?_ | refine blk_alloc ?_ _)); exact BK113.out) hb); have n1_ := Aside0.mk (below_step (by repeat (first | (with_reducible first | exact HB.out | apply below_alloc | apply pw_below_drewN | apply below_drew1 | refine below_set ?_ GE113.out) | exact HB.out)) hb); clear BK113; clear HB; have BK113 := n0_; have HB := n1_; clear n0_ n1_; (try clear hb); (try clear hb2); (try clear hk); (try clear hi)))
    go_ret
    exact ⟨by first | rfl | (simp [errW_none, errW_some] <;> rfl) | (simp [*, errW_none, errW_some] <;> rfl), by repeat (first | (with_reducible first | exact HB.out | apply below_alloc | apply pw_below_drewN | apply below_drew1 | refine below_set ?_ GE113.out) | exact HB.out)⟩

end Go.Proofs.Ytnhipdniceoigaa.H

set_option linter.unusedVariables false
set_option linter.unusedSimpArgs false
namespace Go.Proofs.Ytnhipdniceoigaa.H
open Go.RowKit Go.Hay Go.Proofs.YtnhipdniceoigaaW.PrintWords Go.Proofs.YtnhipdniceoigaaW.PrintLast Go.Proofs.YtnhipdniceoigaaW.PrintMore
theorem assert_ff (v : Value) (w : World) : (Instr.typeAssert (.iface 73 v) 20 73 true).run Try.prog w = .ok (.tuple #[v, .bool true]) w := by kernel_rfl
theorem assert_lf (v : Value) (w : World) : (Instr.typeAssert (.iface 75 v) 20 73 true).run Try.prog w = .ok (.tuple #[.agg #[.int .i64 0], .bool false]) w := by kernel_rfl
theorem assert_ll (v : Value) (w : World) : (Instr.typeAssert (.iface 75 v) 20 75 true).run Try.prog w = .ok (.tuple #[v, .bool true]) w := by kernel_rfl
section
variable {pb wb ob eb nt ct nl cl : Nat} {At Al : Option Addr} {w : World} {c0 c1 c2 c3 v0 v1 o0 o1 o2 o3 ev : Value}
set_option maxRecDepth 100000 in
set_option maxHeartbeats 4000000 in
theorem ecatch_fail (why : Int) (hp : w.heap[pb]? = some (.cells #[.pointer (some ⟨wb, 0, none⟩)] 69 (0, 0))) (hw : w.heap[wb]? = some (.cells #[c0, c1, c2, c3, v0, v1, .slice At nt ct, .slice Al nl cl] 71 (0, 0))) (ho : w.heap[ob]? = some (.cells #[o0, o1, o2, o3] 30 (0, 0))) (he : w.heap[eb]? = some (.cells #[ev] 31 (0, 0))) :
    CallsD Try.prog 22 #[.pointer (some ⟨pb, 0, none⟩), .pointer (some ⟨ob, 0, none⟩), .pointer (some ⟨eb, 0, none⟩)] (.panicking [{ v := failV why, recovered := false }]) w fun x u' w' =>
      x = .returned (.tuple #[]) ∧ u' = .panicking [{ v := failV why, recovered := true }] ∧ Keep (fun q => q = wb ∨ q = ob ∨ q = eb) w w' ∧ w'.heap[ob]? = some (.cells #[.int .i64 0, .int .i64 why, .slice At nt ct, .slice Al nl cl] 30 (0, 0)) ∧ w'.heap[eb]? = some (.cells #[.int .i64 0] 31 (0, 0)) := by
  have huf := Try.underlying73
  have ha := assert_ff (.agg #[.int .i64 why])
  have n1 : ob ≠ wb := fun e => by rw [e, hw] at ho; cases ho
  have n2 : eb ≠ wb := fun e => by rw [e, hw] at he; cases he
  have n3 : eb ≠ ob := fun e => by rw [e, ho] at he; cases he
  obtain ⟨W1, hW1⟩ : ∃ W1, W1 = w.alloc (.cells #[.int .i64 why] 73) := ⟨_, rfl⟩
  have hb1 : Below w.heap.size w W1 := by rw [hW1]; exact (Below.refl w.heap.size w).alloc (Nat.le_refl _) _
  have hbx : W1.heap[w.heap.size]? = some (.cells #[.int .i64 why] 73 (0, 0)) := by rw [hW1]; exact alloc_blk w _
  have hp1 := (hb1.block _ (blk_lt hp)).trans hp
  have hw1 := (hb1.block _ (blk_lt hw)).trans hw
  have ho1 := (hb1.block _ (blk_lt ho)).trans ho
  have he1 := (hb1.block _ (blk_lt he)).trans he
  have H1 := Aside0.mk (And.intro hb1 (And.intro hp1 (And.intro hw1 (And.intro ho1 he1))))
  have HN := Aside0.mk (And.intro n1 (And.intro n2 n3))
  have HW1 := Aside0.mk hW1
  have HBX := Aside0.mk hbx
  clear hb1 hp1 hw1 ho1 he1 n1 n2 n3 hW1 hp hw ho he hbx
  refine callsD_of_wpS Try.func22 rfl fun c₀ cs hu => ?_
  apply wpS_seq
  apply wpS_region
  simp [wpOpsS, go_sem, recoverD, hu, Try.ntmps22, Exit.thenS]
  refine wpS_body ?_
  simp only [Array.replicate_succ, Array.replicate_zero, List.push_toArray, List.append_toArray, List.nil_append, List.cons_append, List.setIfInBounds_toArray, List.set_cons_zero, List.set_cons_succ, failV]
  go_upto_region 7 with (fail)
  rw [← HW1.out]
  have p0 := blk_cell H1.out.2.1 0
  have x0 := blk_cell HBX.out 0
  have z5 := blk_frozen H1.out.2.2.1 5
  have z4 := blk_frozen H1.out.2.2.1 4
  have y5 := blk_cell H1.out.2.2.1 5
  have y4 := blk_cell H1.out.2.2.1 4
  go_upto_region 8 with (fail)
  obtain ⟨W2, hW2⟩ : ∃ W2, W2 = (W1.setCell ⟨wb, 5, none⟩ (.int .i64 why)).setCell ⟨wb, 4, none⟩ (.int .i64 0) := ⟨_, rfl⟩
  rw [← hW2]
  have hk2 : Keep (fun q => q = wb) W1 W2 := by rw [hW2]; exact ((Keep.refl (fun q => q = wb) W1).set (p := ⟨wb, 5, none⟩) (.inr rfl) _).set (p := ⟨wb, 4, none⟩) (.inr rfl) _
  have hn2 : W2.heap[wb]? = some (.cells #[c0, c1, c2, c3, .int .i64 0, .int .i64 why, .slice At nt ct, .slice Al nl cl] 71 (0, 0)) := by rw [hW2]; exact blk_set (blk_set H1.out.2.2.1 5 _) 4 _
  have hpw : pb ≠ wb := fun e => by have h1 := H1.out.2.1; have h2 := H1.out.2.2.1; rw [e, h2] at h1; cases h1
  have hp2 := hk2.blk H1.out.2.1 hpw
  have ho2 := hk2.blk H1.out.2.2.2.1 HN.out.1
  have he2 := hk2.blk H1.out.2.2.2.2 HN.out.2.1
  have H2 := Aside0.mk (And.intro hk2 (And.intro hn2 (And.intro hp2 (And.intro ho2 he2))))
  clear p0 x0 z5 z4 y5 y4 hpw hW2
  have p0 := blk_cell hp2 0
  have r4 := blk_cell hn2 4
  have r5 := blk_cell hn2 5
  have r6 := blk_cell hn2 6
  have r7 := blk_cell hn2 7
  have s0 := blk_cell ho2 0
  have s1 := blk_cell ho2 1
  have s2 := blk_cell ho2 2
  have s3 := blk_cell ho2 3
  have z0 := blk_frozen ho2 0
  have z1 := blk_frozen ho2 1
  have z2 := blk_frozen ho2 2
  have z3 := blk_frozen ho2 3
  have e0 := blk_cell he2 0
  have f0 := blk_frozen he2 0
  clear hk2 hn2 hp2 ho2 he2
  have n3 := HN.out.2.2
  go_wp2_with fail
  go_end0
  have d1 := blk_set (blk_set (blk_set (blk_set H2.out.2.2.2.1 0 (.int .i64 0)) 1 (.int .i64 why)) 2 (.slice At nt ct)) 3 (.slice Al nl cl)
  have e1 := H2.out.2.2.2.2
  have e2 := blk_set (blk_farC (p := ⟨ob, 3, none⟩) (blk_farC (p := ⟨ob, 2, none⟩) (blk_farC (p := ⟨ob, 1, none⟩) (blk_farC (p := ⟨ob, 0, none⟩) e1 n3 (.int .i64 0)) n3 (.int .i64 why)) n3 (.slice At nt ct)) n3 (.slice Al nl cl)) 0 (.int .i64 0)
  have d2 := blk_farC (p := ⟨eb, 0, none⟩) d1 (Ne.symm n3) (.int .i64 0)
  have hk9 := (((((Keep.refl (fun q => q = wb ∨ q = ob ∨ q = eb) W2).set (p := ⟨ob, 0, none⟩) (.inr (.inr (.inl rfl))) (.int .i64 0)).set (p := ⟨ob, 1, none⟩) (.inr (.inr (.inl rfl))) (.int .i64 why)).set (p := ⟨ob, 2, none⟩) (.inr (.inr (.inl rfl))) (.slice At nt ct)).set (p := ⟨ob, 3, none⟩) (.inr (.inr (.inl rfl))) (.slice Al nl cl)).set (p := ⟨eb, 0, none⟩) (.inr (.inr (.inr rfl))) (.int .i64 0)
  exact ⟨rfl, trivial, ((Keep.of_below H1.out.1 _).trans (H2.out.1.mono (fun q _ e => .inl e))).trans hk9, d2, e2⟩
set_option maxRecDepth 100000 in
set_option maxHeartbeats 4000000 in
theorem ecatch_long (hp : w.heap[pb]? = some (.cells #[.pointer (some ⟨wb, 0, none⟩)] 69 (0, 0))) (ho : w.heap[ob]? = some (.cells #[o0, o1, o2, o3] 30 (0, 0))) (he : w.heap[eb]? = some (.cells #[ev] 31 (0, 0))) :
    CallsD Try.prog 22 #[.pointer (some ⟨pb, 0, none⟩), .pointer (some ⟨ob, 0, none⟩), .pointer (some ⟨eb, 0, none⟩)] (.panicking [{ v := longV, recovered := false }]) w fun x u' w' =>
      x = .returned (.tuple #[]) ∧ u' = .panicking [{ v := longV, recovered := true }] ∧ Keep (fun q => q = ob ∨ q = eb) w w' ∧ w'.heap[ob]? = some (.cells #[.int .i64 0, .int .i64 0, .slice none 0 0, .slice none 0 0] 30 (0, 0)) ∧ w'.heap[eb]? = some (.cells #[.int .i64 3] 31 (0, 0)) := by
  have hul := Try.underlying75
  have ha := assert_lf (.agg #[])
  have ha2 := assert_ll (.agg #[])
  have n3 : eb ≠ ob := fun e => by rw [e, ho] at he; cases he
  obtain ⟨W1, hW1⟩ : ∃ W1, W1 = w.alloc (.cells #[] 75) := ⟨_, rfl⟩
  have hb1 : Below w.heap.size w W1 := by rw [hW1]; exact (Below.refl w.heap.size w).alloc (Nat.le_refl _) _
  have ho1 := (hb1.block _ (blk_lt ho)).trans ho
  have he1 := (hb1.block _ (blk_lt he)).trans he
  have H1 := Aside0.mk (And.intro hb1 (And.intro ho1 he1))
  have HN := Aside0.mk n3
  have HW1 := Aside0.mk hW1
  clear hb1 ho1 he1 hW1 hp ho he
  refine callsD_of_wpS Try.func22 rfl fun c₀ cs hu => ?_
  apply wpS_seq
  apply wpS_region
  simp [wpOpsS, go_sem, recoverD, hu, Try.ntmps22, Exit.thenS]
  refine wpS_body ?_
  simp only [Array.replicate_succ, Array.replicate_zero, List.push_toArray, List.append_toArray, List.nil_append, List.cons_append, List.setIfInBounds_toArray, List.set_cons_zero, List.set_cons_succ, longV]
  go_upto_region 11 with (fail)
  rw [← HW1.out]
  have s0 := blk_cell H1.out.2.1 0
  have s1 := blk_cell H1.out.2.1 1
  have s2 := blk_cell H1.out.2.1 2
  have s3 := blk_cell H1.out.2.1 3
  have z0 := blk_frozen H1.out.2.1 0
  have z1 := blk_frozen H1.out.2.1 1
  have z2 := blk_frozen H1.out.2.1 2
  have z3 := blk_frozen H1.out.2.1 3
  have e0 := blk_cell H1.out.2.2 0
  have f0 := blk_frozen H1.out.2.2 0
  go_wp2_with fail
  go_end0
  have d1 := blk_set (blk_set (blk_set (blk_set H1.out.2.1 0 (.int .i64 0)) 1 (.int .i64 0)) 2 (.slice none 0 0)) 3 (.slice none 0 0)
  have e1 := H1.out.2.2
  have e2 := blk_set (blk_farC (p := ⟨ob, 3, none⟩) (blk_farC (p := ⟨ob, 2, none⟩) (blk_farC (p := ⟨ob, 1, none⟩) (blk_farC (p := ⟨ob, 0, none⟩) e1 n3 (.int .i64 0)) n3 (.int .i64 0)) n3 (.slice none 0 0)) n3 (.slice none 0 0)) 0 (.int .i64 3)
  have d2 := blk_farC (p := ⟨eb, 0, none⟩) d1 (Ne.symm n3) (.int .i64 3)
  have hk9 := (((((Keep.refl (fun q => q = ob ∨ q = eb) W1).set (p := ⟨ob, 0, none⟩) (.inr (.inl rfl)) (.int .i64 0)).set (p := ⟨ob, 1, none⟩) (.inr (.inl rfl)) (.int .i64 0)).set (p := ⟨ob, 2, none⟩) (.inr (.inl rfl)) (.slice none 0 0)).set (p := ⟨ob, 3, none⟩) (.inr (.inl rfl)) (.slice none 0 0)).set (p := ⟨eb, 0, none⟩) (.inr (.inr rfl)) (.int .i64 3)
  exact ⟨rfl, trivial, (Keep.of_below H1.out.1 _).trans hk9, d2, e2⟩
theorem ecatch_idle (p q r : Addr) (w : World) :
    CallsD Try.prog 22 #[.pointer (some p), .pointer (some q), .pointer (some r)] .returning w fun x u' w' =>
      x = .returned (.tuple #[]) ∧ u' = .returning ∧ w = w' := by
  refine callsD_of_wpS Try.func22 rfl fun c₀ cs hu => ?_
  apply wpS_seq
  apply wpS_region
  simp [wpOpsS, go_sem, recoverD, hu, Try.ntmps22, Exit.thenS]
  refine wpS_body_same hu ?_
  simp only [Array.replicate_succ, Array.replicate_zero, List.push_toArray, List.append_toArray, List.nil_append, List.cons_append, List.setIfInBounds_toArray, List.set_cons_zero, List.set_cons_succ]
  go_wp2
  go_end0
  exact ⟨rfl, trivial, rfl⟩
end
end Go.Proofs.Ytnhipdniceoigaa.H

set_option linter.unusedVariables false
set_option linter.unusedSimpArgs false
namespace Go.Proofs.Ytnhipdniceoigaa.H
open Go.RowKit Go.Hay Go.Proofs.YtnhipdniceoigaaW.PrintWords Go.Proofs.YtnhipdniceoigaaW.PrintLast Go.Proofs.YtnhipdniceoigaaW.PrintMore
theorem max_most (most : Int) (ats : Array TypeId) (ty : TypeId) : Builtin.max_ ats ty #[.int .i64 most, .int .i64 0] = pure (.int .i64 (most.toNat : Int)) := by
  rw [max_two, max2_int]
  have e : (if most < 0 then (0 : Int) else most) = (most.toNat : Int) := by split <;> omega
  rw [e]
  rfl
/-- may a program run? -/
def evRight (l : List S58) (n : Nat) (b d : Int) : Bool :=
  if (checkP l).2.2 = 0 then (if b < 1 then false else if b > 10000 then false else if d < 0 then false else if d > 30 then false else ((n : Int) == (rd_T58 l 0).f0)) else false
theorem evRight_f (l : List S58) (args : List Int) (b d : Int) : eval_Right.f l args b d = some (evRight l args.length b d) := by
  unfold eval_Right.f evRight valid_Check.f
  simp only [Option.bind_some]
  by_cases h : (checkP l).2.2 = 0
  · have hl := (check_ok h).len
    rw [if_pos h, if_pos h]
    repeat' split
    all_goals first | rfl | (exfalso; omega)
  · rw [if_neg h, if_neg h]
theorem evRight_ok {l : List S58} {n : Nat} {b d : Int} (h : evRight l n b d = true) : POk l ∧ (1 ≤ b ∧ b ≤ 10000) ∧ (0 ≤ d ∧ d ≤ 30) ∧ (n : Int) = (rd_T58 l 0).f0 ∧ n ≤ 4 := by
  unfold evRight at h
  split at h
  · rename_i hc
    have hp := check_ok hc
    repeat' split at h
    all_goals try (exact absurd h (by decide))
    have hn : (n : Int) = (rd_T58 l 0).f0 := by simpa using h
    have hl := hp.len
    have h0 := (hp.fn 0 (by omega)).1
    have e : rd_T58 l 0 = l[0] := by simp [rd_T58, show 0 < l.length by omega]
    rw [e] at hn
    exact ⟨hp, by omega, by omega, by rw [e]; exact hn, by omega⟩
  · exact absurd h (by decide)
/-- what Eval answers. -/
abbrev EvR := (Int × Int × List Int × List (List Int × Int)) × Int
def noR : Int × Int × List Int × List (List Int × Int) := (0, 0, [], [])
def evalR (l : List S58) (args : List Int) (b d : Int) (most : Nat) : EvR :=
  if evRight l args.length b d = true then match evalP l args b d most with
    | some r => (r, 0)
    | none => (noR, 3)
  else (noR, 1)
def endR (q : Out × Gs) : EvR :=
  match q with
  | (.val v, G) => ((v, 0, G.told, G.log), 0)
  | (.fail why, G) => ((0, why, G.told, G.log), 0)
  | (.long, _) => (noR, 3)
def entS (p : List Int × Int) : S49 := ⟨p.1, p.2⟩
/-- a result in memory. -/
structure ResR (w : World) (r : Int × Int × List Int × List (List Int × Int)) (At : Option Addr) (ct : Nat) (Al : Option Addr) (cl : Nat) : Prop where
  told : (Kd.int .i64).C w At r.2.2.1.length r.2.2.1
  toldC : r.2.2.1.length ≤ ct
  log : k49.C w Al r.2.2.2.length (r.2.2.2.map entS)
  logC : r.2.2.2.length ≤ cl
/-- a block of another kind than a result hangs on. -/
def Other (w : World) (q : Nat) : Prop := ∃ cs t, w.heap[q]? = some (.cells cs t (0, 0)) ∧ t ≠ 2 ∧ t ≠ 49 ∧ t ≠ 3
/-- and it stays, whatever is done to blocks of other kinds. -/
structure ResC (w : World) (r : Int × Int × List Int × List (List Int × Int)) (At : Option Addr) (ct : Nat) (Al : Option Addr) (cl : Nat) : Prop extends ResR w r At ct Al cl where
  keep : ∀ (S : Nat → Prop) (w1 : World), Keep S w w1 → (∀ q, q < w.heap.size → S q → Other w q) → ResR w1 r At ct Al cl
theorem keep_two {S T : Nat → Prop} {w w1 w2 : World} (h1 : Keep S w w1) (hS : ∀ q, q < w.heap.size → S q → Other w q) (h2 : Keep T w1 w2) (hT : ∀ q, q < w1.heap.size → T q → Other w1 q) :
    Keep (fun q => q < w.heap.size ∧ (S q ∨ T q)) w w2 ∧ ∀ q, (q < w.heap.size ∧ (S q ∨ T q)) → Other w q := by
  refine ⟨(h1.mono (fun q hq h => ⟨hq, .inl h⟩)).then (T := T) h2 (fun q hq h => ⟨hq, .inr h⟩), fun q hq => ?_⟩
  by_cases hs : S q
  · exact hS q hq.1 hs
  · rcases hq.2 with h | h
    · exact hS q hq.1 h
    · obtain ⟨cs, t, e, ht⟩ := hT q (Nat.lt_of_lt_of_le hq.1 h1.size) h
      exact ⟨cs, t, (h1.block q hq.1 hs).symm.trans e, ht⟩
theorem ResC.step {w w1 : World} {r : Int × Int × List Int × List (List Int × Int)} {At : Option Addr} {ct : Nat} {Al : Option Addr} {cl : Nat} (h : ResC w r At ct Al cl) {S : Nat → Prop} (hk : Keep S w w1) (hS : ∀ q, q < w.heap.size → S q → Other w q) : ResC w1 r At ct Al cl :=
  ⟨h.keep S w1 hk hS, fun T w2 hk2 hT => by
    obtain ⟨k, hq⟩ := keep_two hk hS hk2 hT
    exact h.keep _ w2 k (fun q _ hs => hq q hs)⟩
theorem ResC.below {w w1 : World} {r : Int × Int × List Int × List (List Int × Int)} {At : Option Addr} {ct : Nat} {Al : Option Addr} {cl : Nat} (h : ResC w r At ct Al cl) (hb : Below w.heap.size w w1) : ResC w1 r At ct Al cl :=
  h.step (Keep.of_below hb (fun _ => False)) (fun _ _ h => h.elim)
def resV (r : Int × Int × List Int × List (List Int × Int)) (At : Option Addr) (ct : Nat) (Al : Option Addr) (cl : Nat) : Value := .agg #[.int .i64 r.1, .int .i64 r.2.1, .slice At r.2.2.1.length ct, .slice Al r.2.2.2.length cl]
def EvalPost (w : World) (r : EvR) (e : Ending) (w' : World) : Prop :=
  (∃ At ct Al cl, e = .returned (.tuple #[resV r.1 At ct Al cl, .int .i64 r.2]) ∧ ResC w' r.1 At ct Al cl) ∧ Below w.heap.size w w'
theorem ResR.none (w : World) : ResR w noR Option.none 0 Option.none 0 := ⟨Kd.C_nil _ _, Nat.le_refl _, Kd.C_nil _ _, Nat.le_refl _⟩
theorem ResC.none (w : World) : ResC w noR Option.none 0 Option.none 0 := ⟨ResR.none w, fun _ w1 _ _ => ResR.none w1⟩
/-- the log of an evaluation, read. -/
theorem rows_logC {B : Nat} {Al : Option Addr} {log : List (List Int × Int)} {ents : List Ent} {n cl : Nat} {w : World} (hlog : kEnt.R 49 w B (fun _ => True) (.slice Al n cl) ents) (hok : EntsOk w ents log) : n = log.length ∧ n ≤ cl ∧ k49.C w Al log.length (log.map entS) := by
  have hq := Kd.R_reads' hlog
  have hl := hok.1
  refine ⟨hq.1.trans hl, by have := hq.2.1; omega, by simp, by have h4 := hq.2.2.2.1; rw [hl] at h4; exact h4, fun hp => ?_⟩
  obtain ⟨ad, e1, hc⟩ := hq.2.2.2.2 (by omega)
  refine ⟨ad, e1, fun j p hj => ?_⟩
  rw [List.getElem?_map] at hj
  have hjl : j < log.length := by
    by_cases hlt : j < log.length
    · exact hlt
    · rw [List.getElem?_eq_none (by omega)] at hj; cases hj
  have hje : j < ents.length := by omega
  rw [List.getElem?_eq_getElem hjl] at hj
  have hj : entS log[j] = p := Option.some.inj hj
  subst hj
  obtain ⟨cs, h1, h2, h3⟩ := hc j _ (List.getElem?_eq_getElem hje)
  refine ⟨cs, h1, ?_, h3⟩
  obtain rfl := kEnt_open h2
  obtain ⟨a1, a2, a3, a4, a5⟩ := hok.2 j hje hjl
  have hm := k49_mk w (entS log[j]) (A0 := ents[j].A) (c0 := ents[j].c) (by show log[j].1.length ≤ ents[j].c; omega) (a5.C a4)
  have e : [Value.slice ents[j].A (entS log[j]).f0.length ents[j].c, .int .i64 (entS log[j]).f1] = [.slice ents[j].A ents[j].n ents[j].c, .int .i64 ents[j].s] := by
    rw [a1, a2]; rfl
  rw [← e]
  exact hm
theorem EG.resR {B wb np cp : Nat} {Ap At Al : Option Addr} {budget depth : Int} {G : Gs} {ents : List Ent} {nt ct nl cl : Nat} {w w1 : World} {S : Nat → Prop} (h : EG B wb Ap np cp budget depth G ents (.slice At nt ct) (.slice Al nl cl) w) (hk : Keep S w w1) (hS : ∀ q, S q → ∃ cs t, w.heap[q]? = some (.cells cs t (0, 0)) ∧ t ≠ 2 ∧ t ≠ 49 ∧ t ≠ 3) (v f : Int) : nt = G.told.length ∧ nl = G.log.length ∧ ResR w1 (v, f, G.told, G.log) At ct Al cl := by
  have ht : (Kd.int .i64).R 2 w1 B (fun _ => True) (.slice At nt ct) G.told := nums_flat h.told (fun _ _ => trivial) (fun q hq => hk.block q (nums_own h.told q hq).2.2 (fun hs => by
    obtain ⟨cs, t, h1, h2, _⟩ := hS q hs
    obtain ⟨cs', h3⟩ := Kd.R_typed h.told q hq
    rw [h1] at h3; cases h3; exact h2 rfl))
  have hl : kEnt.R 49 w1 B (fun _ => True) (.slice Al nl cl) ents := R_flat kEnt_flat h.log (fun _ _ => trivial) (fun q hq => hk.block q (R_own h.log q hq).2.2 (fun hs => by
    obtain ⟨cs, t, h1, _, h2, _⟩ := hS q hs
    obtain ⟨cs', h3⟩ := Kd.R_typed h.log q hq
    rw [h1] at h3; cases h3; exact h2 rfl))
  have hok : EntsOk w1 ents G.log := h.ok.keep hk (fun q cs hq hs => by
    obtain ⟨cs', t, h1, _, _, h2⟩ := hS q hs
    rw [hq] at h1; cases h1; exact h2 rfl)
  have hq := Kd.R_reads' ht
  have hl := rows_logC hl hok
  refine ⟨hq.1, hl.1, hq.2.2, by have := hq.2.1; show G.told.length ≤ ct; omega, hl.2.2, by have := hl.2.1; show G.log.length ≤ cl; omega⟩
theorem EG.resC {B wb np cp : Nat} {Ap At Al : Option Addr} {budget depth : Int} {G : Gs} {ents : List Ent} {nt ct nl cl : Nat} {w w1 : World} {S : Nat → Prop} (h : EG B wb Ap np cp budget depth G ents (.slice At nt ct) (.slice Al nl cl) w) (hk : Keep S w w1) (hS : ∀ q, S q → ∃ cs t, w.heap[q]? = some (.cells cs t (0, 0)) ∧ t ≠ 2 ∧ t ≠ 49 ∧ t ≠ 3) (v f : Int) : nt = G.told.length ∧ nl = G.log.length ∧ ResC w1 (v, f, G.told, G.log) At ct Al cl := by
  obtain ⟨h1, h2, h3⟩ := h.resR hk hS v f
  refine ⟨h1, h2, h3, fun T w2 hk2 hT => ?_⟩
  obtain ⟨k, hq⟩ := keep_two hk (fun q _ hs => hS q hs) hk2 hT
  exact (h.resR k hq v f).2.2
structure EvW (w : World) (b d : Int) (W : World) : Prop where
  below : Below w.heap.size w W
  c0 : W.heap[w.heap.size]? = some (.cells #[.int .i64 b, .int .i64 d] 37 (0, 0))
  c1 : W.heap[w.heap.size + 1]? = some (.cells #[.int .i64 0, .int .i64 0, .slice none 0 0, .slice none 0 0] 30 (0, 0))
  c2 : W.heap[w.heap.size + 1 + 1]? = some (.cells #[.int .i64 0] 31 (0, 0))
theorem EvW.size {w W : World} {b d : Int} (h : EvW w b d W) : w.heap.size + 3 ≤ W.heap.size := by
  have := blk_lt h.c2; omega
theorem EvW.keep {w w' w'' : World} {b d : Int} (h : EvW w b d w') (k : Below (w.heap.size + 3) w' w'') : EvW w b d w'' :=
  ⟨h.below.trans (k.mono (by omega)), (k.block _ (by omega)).trans h.c0, (k.block _ (by omega)).trans h.c1, (k.block _ (by omega)).trans h.c2⟩
theorem EvW.start (w : World) (b d : Int) : EvW w b d (((w.alloc (.cells #[.int .i64 b, .int .i64 d] 37)).alloc (.cells #[.int .i64 0, .int .i64 0, .slice none 0 0, .slice none 0 0] 30)).alloc (.cells #[.int .i64 0] 31)) := by
  have e1 : (w.alloc (.cells #[.int .i64 b, .int .i64 d] 37)).heap.size = w.heap.size + 1 := Array.size_push _
  have e2 : ((w.alloc (.cells #[.int .i64 b, .int .i64 d] 37)).alloc (.cells #[.int .i64 0, .int .i64 0, .slice none 0 0, .slice none 0 0] 30)).heap.size = w.heap.size + 1 + 1 := by
    rw [← e1]; exact Array.size_push _
  have b1 := (Below.refl w.heap.size w).alloc (Nat.le_refl _) (.cells #[.int .i64 b, .int .i64 d] 37)
  have b2 := b1.alloc b1.size (.cells #[.int .i64 0, .int .i64 0, .slice none 0 0, .slice none 0 0] 30)
  refine ⟨b2.alloc b2.size _, blk_alloc (blk_alloc (alloc_blk w _) _) _, ?_, ?_⟩
  · have := alloc_blk (w.alloc (.cells #[.int .i64 b, .int .i64 d] 37)) (.cells #[.int .i64 0, .int .i64 0, .slice none 0 0, .slice none 0 0] 30)
    rw [e1] at this
    exact blk_alloc this _
  · have := alloc_blk ((w.alloc (.cells #[.int .i64 b, .int .i64 d] 37)).alloc (.cells #[.int .i64 0, .int .i64 0, .slice none 0 0, .slice none 0 0] 30)) (.cells #[.int .i64 0] 31)
    rw [e2] at this
    exact this
theorem eval_results {tmps : Array Value} {w : World} {h : Nat} {x0 x1 x2 x3 : Value} {e : Int} (t8 : tmps.getD 8 undef = .pointer (some ⟨h + 1, 0, none⟩)) (t9 : tmps.getD 9 undef = .pointer (some ⟨h + 1 + 1, 0, none⟩)) (c1 : w.heap[h + 1]? = some (.cells #[x0, x1, x2, x3] 30 (0, 0))) (c2 : w.heap[h + 1 + 1]? = some (.cells #[.int .i64 e] 31 (0, 0))) :
    (results Try.f12 tmps).run Try.prog w = .ok (.tuple #[.agg #[x0, x1, x2, x3], .int .i64 e]) w := by
  have q0 := blk_cell c1 0
  have q1 := blk_cell c1 1
  have q2 := blk_cell c1 2
  have q3 := blk_cell c1 3
  have p0 := blk_cell c2 0
  simp only [Array.getD_eq_getD_getElem?] at t8 t9
  simp [results, Try.results12, go_sem, t8, t9, q0, q1, q2, q3, p0]
section
variable {A Aa : Option Addr} {c ca : Nat} {l : List S58} {args : List Int} {b d most : Int} {w : World}
set_option maxRecDepth 100000 in
set_option maxHeartbeats 8000000 in
theorem Eval_any (hC : k58.C w A l.length l) (hc : l.length ≤ c) (hCa : (Kd.int .i64).C w Aa args.length args) (hca : args.length ≤ ca) (hmost : most ≤ 900000) :
    Calls Try.prog 12 #[.slice A l.length c, .slice Aa args.length ca, .agg #[.int .i64 b, .int .i64 d], .int .i64 most] w (EvalPost w (evalR l args b d most.toNat)) := by
  obtain ⟨r, hr⟩ : ∃ r, r = evalR l args b d most.toNat := ⟨_, rfl⟩
  rw [← hr]
  obtain ⟨W3, hW3⟩ : ∃ W3, W3 = ((w.alloc (.cells #[.int .i64 b, .int .i64 d] 37)).alloc (.cells #[.int .i64 0, .int .i64 0, .slice none 0 0, .slice none 0 0] 30)).alloc (.cells #[.int .i64 0] 31) := ⟨_, rfl⟩
  have hE3 : EvW w b d W3 := by rw [hW3]; exact EvW.start w b d
  have H0 := Aside0.mk (And.intro hC (And.intro hc (And.intro hCa (And.intro hca (And.intro hmost hr)))))
  have HW3 := Aside0.mk hW3
  have H3 := Aside0.mk hE3
  have y0 := blk_cell hE3.c0 0
  have y1 := blk_cell hE3.c0 1
  clear hW3 hC hc hCa hca hmost hr hE3
  go_enter_defers Try.func12, Try.ntmps12
  go_upto_region 1 with (fail)
  rw [← HW3.out]
  go_wp2_with fail
  refine (eval_Right.calls A c l Aa ca args b d _ W3 (Kd.C_below H0.out.1 H3.out.below) H0.out.2.1 (Kd.C_below H0.out.2.2.1 H3.out.below) H0.out.2.2.2.1 (evRight_f l args b d)).mono ?_
  rintro e w4 ⟨rfl, hb4⟩
  have hE4 := H3.out.keep (hb4.mono H3.out.size)
  have H4 := Aside0.mk hE4
  clear y0 y1 hE4 hb4
  cases hRt : evRight l args.length b d with
  | false =>
    have hr := H0.out.2.2.2.2.2
    unfold evalR at hr
    rw [if_neg (by rw [hRt]; decide)] at hr
    have HR := Aside0.mk hr
    have s0 := blk_cell H4.out.c1 0
    have s1 := blk_cell H4.out.c1 1
    have s2 := blk_cell H4.out.c1 2
    have s3 := blk_cell H4.out.c1 3
    have z0 := blk_frozen H4.out.c1 0
    have z1 := blk_frozen H4.out.c1 1
    have z2 := blk_frozen H4.out.c1 2
    have z3 := blk_frozen H4.out.c1 3
    have e0 := blk_cell H4.out.c2 0
    have f0 := blk_frozen H4.out.c2 0
    clear hr hRt
    go_wp2_with fail
    have n3 : w.heap.size + 1 + 1 ≠ w.heap.size + 1 := by omega
    have d1 := blk_set (blk_set (blk_set (blk_set H4.out.c1 0 (.int .i64 0)) 1 (.int .i64 0)) 2 (.slice none 0 0)) 3 (.slice none 0 0)
    have e2 := blk_set (blk_farC (p := ⟨w.heap.size + 1, 3, none⟩) (blk_farC (p := ⟨w.heap.size + 1, 2, none⟩) (blk_farC (p := ⟨w.heap.size + 1, 1, none⟩) (blk_farC (p := ⟨w.heap.size + 1, 0, none⟩) H4.out.c2 n3 (.int .i64 0)) n3 (.int .i64 0)) n3 (.slice none 0 0)) n3 (.slice none 0 0)) 0 (.int .i64 1)
    have d2 := blk_farC (p := ⟨w.heap.size + 1 + 1, 0, none⟩) d1 (Ne.symm n3) (.int .i64 1)
    have hk9 := ((((((Keep.refl (fun q => q = w.heap.size + 1 ∨ q = w.heap.size + 1 + 1) w4).set (p := ⟨w.heap.size + 1, 0, none⟩) (.inr (.inl rfl)) (.int .i64 0)).set (p := ⟨w.heap.size + 1, 1, none⟩) (.inr (.inl rfl)) (.int .i64 0)).set (p := ⟨w.heap.size + 1, 2, none⟩) (.inr (.inl rfl)) (.slice none 0 0)).set (p := ⟨w.heap.size + 1, 3, none⟩) (.inr (.inl rfl)) (.slice none 0 0)).set (p := ⟨w.heap.size + 1 + 1, 0, none⟩) (.inr (.inr rfl)) (.int .i64 1)).below H4.out.below.size (B := w.heap.size) (fun q hq hp => by omega)
    refine ⟨_, eval_results rfl rfl d2 e2, ⟨none, 0, none, 0, ?_, ?_⟩, H4.out.below.trans hk9⟩
    · rw [HR.out]; rfl
    · rw [HR.out]; exact ResC.none _
  | true =>
    obtain ⟨hl, hb, hd, hn, hn4⟩ := evRight_ok hRt
    have hr := H0.out.2.2.2.2.2
    unfold evalR at hr
    rw [if_pos hRt] at hr
    have HR := Aside0.mk (And.intro hr (And.intro hl (And.intro hb (And.intro hd (And.intro hn hn4)))))
    clear hr hRt hl hb hd hn hn4
    have y0 := blk_cell H4.out.c0 0
    have y1 := blk_cell H4.out.c0 1
    have hmax := max_most most
    obtain ⟨n, hn⟩ : ∃ n, n = most.toNat := ⟨_, rfl⟩
    have HN := Aside0.mk hn
    rw [← hn] at hmax
    clear hn
    obtain ⟨wb, hwb⟩ : ∃ wb, wb = w4.heap.size := ⟨_, rfl⟩
    obtain ⟨W5, hW5⟩ : ∃ W5, W5 = (w4.alloc (.cells #[.slice A l.length c, .int .i64 b, .int .i64 d, .int .i64 n, .int .i64 0, .int .i64 0, .slice none 0 0, .slice none 0 0] 71)).alloc (.cells #[.pointer (some ⟨wb, 0, none⟩)] 69) := ⟨_, rfl⟩
    have hsz : (w4.alloc (.cells #[.slice A l.length c, .int .i64 b, .int .i64 d, .int .i64 n, .int .i64 0, .int .i64 0, .slice none 0 0, .slice none 0 0] 71)).heap.size = wb + 1 := by rw [hwb]; exact Array.size_push _
    have hn5 : W5.heap[wb]? = some (.cells #[.slice A l.length c, .int .i64 b, .int .i64 d, .int .i64 n, .int .i64 0, .int .i64 0, .slice none 0 0, .slice none 0 0] 71 (0, 0)) := by rw [hW5]; exact blk_alloc (by rw [hwb]; exact alloc_blk w4 _) _
    have hp5 : W5.heap[wb + 1]? = some (.cells #[.pointer (some ⟨wb, 0, none⟩)] 69 (0, 0)) := by
      rw [hW5]
      have := alloc_blk (w4.alloc (.cells #[.slice A l.length c, .int .i64 b, .int .i64 d, .int .i64 n, .int .i64 0, .int .i64 0, .slice none 0 0, .slice none 0 0] 71)) (.cells #[.pointer (some ⟨wb, 0, none⟩)] 69)
      rwa [hsz] at this
    have hb5 : Below w4.heap.size w4 W5 := by
      have b1 := (Below.refl w4.heap.size w4).alloc (Nat.le_refl _) (.cells #[.slice A l.length c, .int .i64 b, .int .i64 d, .int .i64 n, .int .i64 0, .int .i64 0, .slice none 0 0, .slice none 0 0] 71)
      rw [hW5]; exact b1.alloc b1.size _
    have HWB := Aside0.mk (And.intro hwb hW5)
    have H5 := Aside0.mk (And.intro hn5 (And.intro hp5 hb5))
    clear hsz hn5 hp5 hb5 hwb hW5
    go_wp2_with fail
    rw [← HWB.out.1, ← HWB.out.2]
    have ES5 := Aside0.mk (show ∀ {w' : World}, Below W5.heap.size W5 w' → ES ⟨w4, wb, wb, A, c, b, d⟩ l ⟨n, [], []⟩ [] (.slice none 0 0) (.slice none 0 0) w' from fun hb => ⟨⟨(hb.block _ (blk_lt H5.out.1)).trans H5.out.1, Kd.R_nil _ _ _ _ _, Kd.R_nil _ _ _ _ _, ⟨rfl, fun j h1 => absurd h1 (Nat.not_lt_zero _)⟩, Nat.le_refl _⟩, H5.out.2.2.trans (hb.mono H5.out.2.2.size), Kd.C_below H0.out.1 H4.out.below, by show w4.heap.size ≤ wb; rw [HWB.out.1]; exact Nat.le_refl _⟩)
    have t10 := blk_cell H5.out.2.1 0
    have HT := Aside0.mk t10
    clear t10
    refine wp_region_seq2 (fun w' => w'.heap[wb + 1]? = W5.heap[wb + 1]?) [] [.take 0, .take 1, .take 2, .op 3, .op 4, .op 5, .op 6, .op 7, .op 8] (by kernel_rfl) (by kernel_rfl) rfl (by kernel_rfl) (panic_put2 rfl (by kernel_rfl)) ?_
    have hs : W5.drew.heap[wb + 1]? = W5.heap[wb + 1]? := rfl
    repeat (
      (first
        | (refine runSeq2_take (v := ?_) (by rfl) (by rfl) (fun w' hS => ?_) hs ?_
           rotate_left
           · (have t10 := blk_cell (hS.trans H5.out.2.1) 0; go_simp; exact rfl))
        | refine runSeq2_skip (by rfl) (by rfl) hs ?_)
      (try simp only [Act.put, List.setIfInBounds_toArray, List.set_cons_zero, List.set_cons_succ]))
    refine runSeq2_op (by rfl) (by rfl) (fun K hK => ?_)
    go_simp
    refine hK _ _ hs ?_
    clear hK K
    have hbeg := begin_all (c := ⟨w4, wb, wb, A, c, b, d⟩) (M := n + 1) HR.out.2.1 (by have := H0.out.2.2.2.2.1; have := HN.out; omega) (by have := HR.out.2.2.2.1; show d ≤ 900; omega) (by have := HR.out.2.2.1; show 0 ≤ b ∧ b ≤ 1000000; omega) (n + 1) ⟨n, [], []⟩ [] (.slice none 0 0) (.slice none 0 0) W5.drew 0 none 0 [] Aa ca args noHands (ES5.out (Below.refl _ _).drew) ⟨by show 0 + n ≤ n + 1; omega, by show 0 + n ≤ n + 1; omega, fun e he => by cases he⟩ (by show 0 + 1 + n ≤ n + 1; omega) (by have := HR.out.2.1.len; omega) (PathAt.nil _) (Nat.le_refl _) (fun _ => rfl) (by have := HR.out.2.2.2.1.1; show ((0 : Nat) : Int) ≤ d; omega) (by have := HR.out.2.2.2.2.2; omega) (Kd.C_below (Kd.C_below H0.out.2.2.1 (H4.out.below.trans (H5.out.2.2.mono H4.out.below.size))) ((Below.refl _ _).drew)) H0.out.2.2.2.1 rfl (by show n < n + 1; omega)
    have HBG := Aside0.mk hbeg
    clear hbeg
    refine runSeq2_op (by rfl) (by rfl) (fun K hK => ?_)
    go_simp
    refine HBG.out.mono ?_
    clear HBG
    intro e w6 hpost
    obtain ⟨q, hq⟩ : ∃ q, q = beginP l b d (n + 1) ⟨n, [], []⟩ ((0 : Nat) : Int) [] args noHands := ⟨_, rfl⟩
    have hq2 : r = endR q := by
      rw [HR.out.1]
      unfold evalP
      have hq' : beginP l b d (most.toNat + 1) ⟨most.toNat, [], []⟩ 0 [] args noHands = q := by rw [← HN.out, hq]; rfl
      rw [hq']
      obtain ⟨o, G⟩ := q
      cases o <;> rfl
    replace hpost : EndP ⟨w4, wb, wb, A, c, b, d⟩ l (PG wb (.slice none 0 0) (.slice none 0 0)) q.1 q.2 W5.drew e w6 := by rw [hq]; exact hpost
    have HQ := Aside0.mk hq2
    clear hq hq2
    obtain ⟨hend, hk6, ents, vt, vl, hE6, hq6⟩ := hpost
    have hpg : ∀ x, PG wb (.slice none 0 0) (.slice none 0 0) x → x = wb := by
      intro x hx
      rcases hx with hx | hx | hx
      · exact hx
      · cases hx
      · cases hx
    have hk6' : Keep (fun x => x = wb) W5.drew w6 := hk6.mono (fun x _ hx => hpg x hx)
    have hb6 : Below w4.heap.size w4 w6 := H5.out.2.2.drew.trans (hk6'.below H5.out.2.2.drew.size (fun x hx e => by rw [HWB.out.1] at e; omega))
    have hE9 := H4.out.keep (hb6.mono H4.out.size)
    have hp6 : w6.heap[wb + 1]? = some (.cells #[.pointer (some ⟨wb, 0, none⟩)] 69 (0, 0)) := hk6'.blk (show W5.drew.heap[wb + 1]? = _ from H5.out.2.1) (by omega)
    obtain ⟨At, ct, rfl⟩ := Kd.R_slice hE6.eg.told
    obtain ⟨Al, cl, rfl⟩ := Kd.R_slice hE6.eg.log
    have H6 := Aside0.mk (And.intro hE6 (And.intro hb6 (And.intro hE9 (And.intro hp6 hk6'))))
    have hnode := hE6.eg.node
    have HND := Aside0.mk hnode
    have y4 := blk_cell hnode 4
    have z4 := blk_frozen hnode 4
    obtain ⟨o, G⟩ := q
    clear hk6 hq6 hpg hk6' hb6 hE9 hE6 hnode hs
    cases o with
    | val v =>
      have he : e = .returned (.int .i64 v) := hend
      clear hend
      subst he
      refine hK _ _ (hp6.trans H5.out.2.1.symm) ?_
      clear hK K
      (try simp only [Act.put, List.setIfInBounds_toArray, List.set_cons_zero, List.set_cons_succ])
      refine runSeq2_op (by rfl) (by rfl) (fun K hK => ?_)
      go_simp
      refine hK _ _ (hp6.trans H5.out.2.1.symm) ?_
      clear hK K
      refine runSeq2_op (by rfl) (by rfl) (fun K hK => ?_)
      go_simp
      refine hK _ _ (hp6.trans H5.out.2.1.symm) ?_
      clear hK K
      refine runSeq2_op (by rfl) (by rfl) (fun K hK => ?_)
      go_simp
      refine hK _ _ (hp6.trans H5.out.2.1.symm) ?_
      clear hK K
      obtain ⟨W7, hW7⟩ : ∃ W7, W7 = w6.setCell ⟨wb, 4, none⟩ (.int .i64 v) := ⟨_, rfl⟩
      have hk7 : Keep (fun x => x = wb) w6 W7 := by rw [hW7]; exact (Keep.refl (fun x => x = wb) w6).set (p := ⟨wb, 4, none⟩) (.inr rfl) _
      have hp7 := hk7.blk hp6 (by omega)
      have hn7 := blk_set HND.out 4 (.int .i64 v)
      rw [← hW7] at hn7
      have HW7 := Aside0.mk hW7
      have hE7 := H6.out.2.2.1.keep ((hk7.below H6.out.2.1.size (fun x hx e => by rw [HWB.out.1] at e; omega)).mono H4.out.size)
      have H7 := Aside0.mk (And.intro hk7 (And.intro hp7 (And.intro hn7 hE7)))
      clear hW7 hp6
      refine runSeq2_op (by rfl) (by rfl) (fun K hK => ?_)
      go_simp
      rw [← HW7.out]
      refine hK _ _ (hp7.trans H5.out.2.1.symm) ?_
      clear hK K y4 z4
      refine runSeq2_nil ?_
      have p0 := blk_cell hp7 0
      have r4 := blk_cell hn7 4
      have r5 := blk_cell hn7 5
      have r6 := blk_cell hn7 6
      have r7 := blk_cell hn7 7
      have s0 := blk_cell hE7.c1 0
      have s1 := blk_cell hE7.c1 1
      have s2 := blk_cell hE7.c1 2
      have s3 := blk_cell hE7.c1 3
      have z0 := blk_frozen hE7.c1 0
      have z1 := blk_frozen hE7.c1 1
      have z2 := blk_frozen hE7.c1 2
      have z3 := blk_frozen hE7.c1 3
      have e0 := blk_cell hE7.c2 0
      have f0 := blk_frozen hE7.c2 0
      clear hk7 hp7 hn7 hE7
      go_wp2_with fail
      have n3 : w.heap.size + 1 + 1 ≠ w.heap.size + 1 := by omega
      have hnw : w.heap.size + 1 ≠ wb := by have h1 := H4.out.size; have h2 := HWB.out.1; omega
      have hnw2 : w.heap.size + 1 + 1 ≠ wb := by have h1 := H4.out.size; have h2 := HWB.out.1; omega
      obtain ⟨hk7, hp7, hn7, hE7⟩ := H7.out
      obtain ⟨hE6, hb6, hE9, hp6, hk6⟩ := H6.out
      have d1 := blk_set (blk_set (blk_set (blk_set hE7.c1 0 (.int .i64 v)) 1 (.int .i64 0)) 2 (.slice At G.told.length ct)) 3 (.slice Al ents.length cl)
      have e2 := blk_set (blk_farC (p := ⟨w.heap.size + 1, 3, none⟩) (blk_farC (p := ⟨w.heap.size + 1, 2, none⟩) (blk_farC (p := ⟨w.heap.size + 1, 1, none⟩) (blk_farC (p := ⟨w.heap.size + 1, 0, none⟩) hE7.c2 n3 (.int .i64 v)) n3 (.int .i64 0)) n3 (.slice At G.told.length ct)) n3 (.slice Al ents.length cl)) 0 (.int .i64 0)
      have d2 := blk_farC (p := ⟨w.heap.size + 1 + 1, 0, none⟩) d1 (Ne.symm n3) (.int .i64 0)
      have hk8 := hk7.mono (T := fun q => q = wb ∨ q = w.heap.size + 1 ∨ q = w.heap.size + 1 + 1) (fun q _ e => .inl e)
      have hk9 := ((((hk8.set (p := ⟨w.heap.size + 1, 0, none⟩) (.inr (.inr (.inl rfl))) (.int .i64 v)).set (p := ⟨w.heap.size + 1, 1, none⟩) (.inr (.inr (.inl rfl))) (.int .i64 0)).set (p := ⟨w.heap.size + 1, 2, none⟩) (.inr (.inr (.inl rfl))) (.slice At G.told.length ct)).set (p := ⟨w.heap.size + 1, 3, none⟩) (.inr (.inr (.inl rfl))) (.slice Al ents.length cl)).set (p := ⟨w.heap.size + 1 + 1, 0, none⟩) (.inr (.inr (.inr rfl))) (.int .i64 0)
      have hrc := hE6.eg.resC hk9 (fun q hq => by
        rcases hq with rfl | rfl | rfl
        · exact ⟨_, _, hE6.eg.node, by decide, by decide, by decide⟩
        · exact ⟨_, _, hE9.c1, by decide, by decide, by decide⟩
        · exact ⟨_, _, hE9.c2, by decide, by decide, by decide⟩) v 0
      have hbw : Below w.heap.size w _ := (H4.out.below.trans (hb6.mono (by have := H4.out.below.size; omega))).trans (hk9.below (B := w.heap.size) (by have h1 := hE9.below.size; omega) (fun q hq hs => by have h1 := H4.out.size; have h2 := HWB.out.1; rcases hs with h3 | h3 | h3 <;> omega))
      refine leaves_cons (f := 22) (args := #[.pointer (some ⟨wb + 1, 0, none⟩), .pointer (some ⟨w.heap.size + 1, 0, none⟩), .pointer (some ⟨w.heap.size + 1 + 1, 0, none⟩)]) (by simp) (by simp [go_sem]) ?_
      refine (ecatch_idle _ _ _ _).mono ?_
      rintro e u' w2 ⟨rfl, rfl, rfl⟩
      refine ⟨_, eval_results rfl rfl d2 e2, ⟨At, ct, Al, cl, ?_, ?_⟩, hbw⟩
      · rw [HQ.out]
        show _ = _
        rw [hrc.2.1]
        rfl
      · rw [HQ.out]; exact hrc.2.2
    | fail why =>
      have he : e = .panicked [{ v := failV why, recovered := false }] := hend
      clear hend
      subst he
      refine leaves_cons (f := 22) (args := #[.pointer (some ⟨wb + 1, 0, none⟩), .pointer (some ⟨w.heap.size + 1, 0, none⟩), .pointer (some ⟨w.heap.size + 1 + 1, 0, none⟩)]) (by simp) (by simp [go_sem]) ?_
      obtain ⟨hE6, hb6, hE9, hp6, hk6⟩ := H6.out
      refine (ecatch_fail why hp6 HND.out hE9.c1 hE9.c2).mono ?_
      rintro e u' w9 ⟨rfl, rfl, hk9, d2, e2⟩
      have hrc := hE6.eg.resC hk9 (fun q hq => by
        rcases hq with rfl | rfl | rfl
        · exact ⟨_, _, hE6.eg.node, by decide, by decide, by decide⟩
        · exact ⟨_, _, hE9.c1, by decide, by decide, by decide⟩
        · exact ⟨_, _, hE9.c2, by decide, by decide, by decide⟩) 0 why
      have hbw : Below w.heap.size w _ := (H4.out.below.trans (hb6.mono (by have := H4.out.below.size; omega))).trans (hk9.below (B := w.heap.size) (by have h1 := hE9.below.size; omega) (fun q hq hs => by have h1 := H4.out.size; have h2 := HWB.out.1; rcases hs with h3 | h3 | h3 <;> omega))
      refine ⟨_, eval_results rfl rfl d2 e2, ⟨At, ct, Al, cl, ?_, ?_⟩, hbw⟩
      · rw [HQ.out]
        show _ = _
        rw [hrc.2.1]
        rfl
      · rw [HQ.out]; exact hrc.2.2
    | long =>
      have he : e = .panicked [{ v := longV, recovered := false }] := hend
      clear hend
      subst he
      refine leaves_cons (f := 22) (args := #[.pointer (some ⟨wb + 1, 0, none⟩), .pointer (some ⟨w.heap.size + 1, 0, none⟩), .pointer (some ⟨w.heap.size + 1 + 1, 0, none⟩)]) (by simp) (by simp [go_sem]) ?_
      obtain ⟨hE6, hb6, hE9, hp6, hk6⟩ := H6.out
      refine (ecatch_long hp6 hE9.c1 hE9.c2).mono ?_
      rintro e u' w9 ⟨rfl, rfl, hk9, d2, e2⟩
      have hbw : Below w.heap.size w _ := (H4.out.below.trans (hb6.mono (by have := H4.out.below.size; omega))).trans (hk9.below (B := w.heap.size) (by have h1 := hE9.below.size; omega) (fun q hq hs => by have h1 := H4.out.size; have h2 := HWB.out.1; rcases hs with h3 | h3 <;> omega))
      refine ⟨_, eval_results rfl rfl d2 e2, ⟨none, 0, none, 0, ?_, ?_⟩, hbw⟩
      · rw [HQ.out]; rfl
      · rw [HQ.out]; exact ResC.none _
end
end Go.Proofs.Ytnhipdniceoigaa.H

set_option linter.unusedVariables false
set_option linter.unusedSimpArgs false
namespace Go.Proofs.Ytnhipdniceoigaa.H
open Go.RowKit Go.Hay Go.Proofs.YtnhipdniceoigaaW.PrintWords Go.Proofs.YtnhipdniceoigaaW.PrintLast Go.Proofs.YtnhipdniceoigaaW.PrintMore
theorem flatMap_piece {β : Type} {s : Nat} (f : β → List Value) : ∀ (ps : List β) (hf : ∀ p ∈ ps, (f p).length = s) (j : Nat) (h : j < ps.length), ((ps.flatMap f).drop (j * s)).take s = f ps[j]
  | p :: ps, hf, 0, _ => by
    rw [Nat.zero_mul, List.drop_zero, List.flatMap_cons]
    have := hf p (List.mem_cons_self ..)
    rw [← this, List.take_left]
    rfl
  | p :: ps, hf, j + 1, h => by
    have h1 := hf p (List.mem_cons_self ..)
    rw [List.flatMap_cons, show (j + 1) * s = (f p).length + j * s by rw [h1, Nat.succ_mul, Nat.add_comm], List.drop_length_add_append]
    exact flatMap_piece f ps (fun q hq => hf q (List.mem_cons_of_mem _ hq)) j (by simpa using h)
theorem reads_flat {α β : Type} {R : α → List Value → Prop} {s : Nat} {W : World} {b : Nat} {t : TypeId} {fr : Nat × Nat} (g : β → α) (f : β → List Value) (ps : List β) (hf : ∀ p ∈ ps, (f p).length = s) (hR : ∀ p ∈ ps, R (g p) (f p)) (h : W.heap[b]? = some (.cells (ps.flatMap f).toArray t fr)) (hm : ps.length ≤ 9223372036854775807) : ReadsRow R s W (some ⟨b, 0, none⟩) ps.length (ps.map g) := by
  have e : ps.length = (ps.map g).length := (List.length_map ..).symm
  rw [e]
  refine reads_cells h ⟨?_, fun j p hj => ?_⟩ (by rw [← e]; exact hm)
  · have e2 : (ps.flatMap f).length = ps.length * s := by
      clear h hm hR e
      induction ps with
      | nil => simp
      | cons p ps ih => rw [List.flatMap_cons, List.length_append, hf p (List.mem_cons_self ..), ih (fun q hq => hf q (List.mem_cons_of_mem _ hq)), List.length_cons, Nat.succ_mul, Nat.add_comm]
    rw [← e]
    exact e2
  · have hlt : j < ps.length := by have := (List.getElem?_eq_some_iff.1 hj).1; simpa using this
    rw [List.getElem?_map, List.getElem?_eq_getElem hlt] at hj
    have hj : g ps[j] = p := Option.some.inj hj
    show R p (((ps.flatMap f).toArray.toList.drop (j * s)).take s)
    rw [← hj]
    have := flatMap_piece f ps hf j hlt
    rw [show (ps.flatMap f).toArray.toList = ps.flatMap f from rfl, this]
    exact hR _ (List.getElem_mem _)
def icells (x : S55) : List Value := [.int .i64 x.f0, .int .i64 x.f1, .int .i64 x.f2, .int .i64 x.f3, .int .i64 x.f4]
theorem code_C {w : World} {b : Nat} {t : TypeId} {fr : Nat × Nat} (code : List S55) (h : w.heap[b]? = some (.cells (code.flatMap icells).toArray t fr)) (hm : code.length ≤ 9223372036854775807) : k55.C w (some ⟨b, 0, none⟩) code.length code := by
  have := reads_flat (R := k55.K w) (s := 5) id icells code (fun _ _ => rfl) (fun x _ => k55_mk w x) h hm
  rwa [List.map_id] at this
def fcells (p : S58 × Option Addr × Nat) : List Value := [.int .i64 p.1.f0, .slice p.2.1 p.1.f1.length p.2.2]
theorem prog_C {w : World} {b : Nat} {t : TypeId} {fr : Nat × Nat} (ps : List (S58 × Option Addr × Nat)) (h : w.heap[b]? = some (.cells (ps.flatMap fcells).toArray t fr)) (hm : ps.length ≤ 9223372036854775807) (hc : ∀ p ∈ ps, k55.C w p.2.1 p.1.f1.length p.1.f1 ∧ p.1.f1.length ≤ p.2.2) : k58.C w (some ⟨b, 0, none⟩) ps.length (ps.map fun p => p.1) :=
  reads_flat (R := k58.K w) (s := 2) (fun p : S58 × Option Addr × Nat => p.1) fcells ps (fun _ _ => rfl) (fun p hp => k58_mk w p.1 (hc p hp).2 (hc p hp).1) h hm
def exP : List S58 := [⟨0, [⟨1, 1, 0, 0, 7⟩, ⟨15, 1, 0, 0, 0⟩, ⟨17, 1, 0, 0, 0⟩]⟩]
theorem exP_ends : evalR exP [] 9 0 9 = ((7, 0, [7], [([], 3)]), 0) := by kernel_rfl
set_option maxRecDepth 100000 in
set_option maxHeartbeats 8000000 in
theorem awake_any (w : World) : Calls Try.prog 17 #[] w fun e w' => e = .returned (.bool true) ∧ Below w.heap.size w w' := by
  obtain ⟨W2, hW2⟩ : ∃ W2, W2 = (w.alloc (.cells (([⟨1, 1, 0, 0, 7⟩, ⟨15, 1, 0, 0, 0⟩, ⟨17, 1, 0, 0, 0⟩] : List S55).flatMap icells).toArray 55)).alloc (.cells #[.int .i64 0, .slice (some ⟨w.heap.size, 0, none⟩) 3 3] 58) := ⟨_, rfl⟩
  have e1 : (w.alloc (.cells (([⟨1, 1, 0, 0, 7⟩, ⟨15, 1, 0, 0, 0⟩, ⟨17, 1, 0, 0, 0⟩] : List S55).flatMap icells).toArray 55)).heap.size = w.heap.size + 1 := Array.size_push _
  have h1 : W2.heap[w.heap.size]? = some (.cells (([⟨1, 1, 0, 0, 7⟩, ⟨15, 1, 0, 0, 0⟩, ⟨17, 1, 0, 0, 0⟩] : List S55).flatMap icells).toArray 55 (0, 0)) := by rw [hW2]; exact blk_alloc (alloc_blk w _) _
  have h2 : W2.heap[w.heap.size + 1]? = some (.cells (([(⟨0, [⟨1, 1, 0, 0, 7⟩, ⟨15, 1, 0, 0, 0⟩, ⟨17, 1, 0, 0, 0⟩]⟩, some ⟨w.heap.size, 0, none⟩, 3)] : List (S58 × Option Addr × Nat)).flatMap fcells).toArray 58 (0, 0)) := by
    rw [hW2, ← e1]
    exact alloc_blk _ _
  have hb2 : Below w.heap.size w W2 := by
    have b1 := (Below.refl w.heap.size w).alloc (Nat.le_refl _) (.cells (([⟨1, 1, 0, 0, 7⟩, ⟨15, 1, 0, 0, 0⟩, ⟨17, 1, 0, 0, 0⟩] : List S55).flatMap icells).toArray 55)
    rw [hW2]; exact b1.alloc b1.size _
  have hP := prog_C _ h2 (by simp) (fun p hp => by
    obtain rfl := List.mem_singleton.1 hp
    exact ⟨code_C _ h1 (by simp), Nat.le_refl _⟩)
  have hev := Eval_any (A := some ⟨w.heap.size + 1, 0, none⟩) (c := 1) (Aa := none) (ca := 0) (l := exP) (args := []) (b := 9) (d := 0) (most := 9) hP (Nat.le_refl _) (Kd.C_nil _ _) (Nat.le_refl _) (by decide)
  rw [show evalR exP [] 9 0 (9 : Int).toNat = ((7, 0, [7], [([], 3)]), 0) from exP_ends] at hev
  have HEV := Aside0.mk hev
  have HB := Aside0.mk hb2
  have HW := Aside0.mk hW2
  clear hW2 e1 h1 h2 hb2 hP hev
  go_enter Try.func17, Try.ntmps17
  go_wp2_with fail
  have hev := HEV.out
  rw [HW.out] at hev
  refine hev.mono ?_
  rintro e w3 ⟨⟨At, ct, Al, cl, rfl, hrc⟩, hb3⟩
  obtain ⟨ad1, e1, hc1⟩ := hrc.told.2.2 (by decide)
  obtain ⟨c1, l1, k1, g1⟩ := hc1 0 7 rfl
  have k1 : c1 = [.int .i64 7] := k1
  subst k1 e1
  have t0 := g1 0 _ rfl
  obtain ⟨ad2, Ap, cp, e2, u0, u1, hcp, hCp⟩ := at_T49 hrc.log 0 (by decide) (by decide)
  subst e2
  obtain ⟨V, hV⟩ : ∃ V, V = resV ((7, 0, [7], [([], 3)]), 0).1 (some ad1) ct (some ad2) cl := ⟨_, rfl⟩
  rw [← hV]
  replace hV : V = .agg #[.int .i64 7, .int .i64 0, .slice (some ad1) 1 ct, .slice (some ad2) 1 cl] := hV
  subst hV
  replace t0 : w3.cell? ad1 = some (.int .i64 7) := t0
  replace u1 : w3.cell? ⟨ad2.block, ad2.off + 1, none⟩ = some (.int .i64 3) := u1
  have hb3' : Below W2.heap.size W2 w3 := by rw [HW.out]; exact hb3
  have HB3 := Aside0.mk (HB.out.trans (hb3'.mono HB.out.size))
  obtain ⟨W4, hW4⟩ : ∃ W4, W4 = w3.alloc (.cells #[.int .i64 7, .int .i64 0, .slice (some ad1) 1 ct, .slice (some ad2) 1 cl] 30) := ⟨_, rfl⟩
  have hb4 : Below w3.heap.size w3 W4 := by rw [hW4]; exact (Below.refl w3.heap.size w3).alloc (Nat.le_refl _) _
  have hx4 : W4.heap[w3.heap.size]? = some (.cells #[.int .i64 7, .int .i64 0, .slice (some ad1) 1 ct, .slice (some ad2) 1 cl] 30 (0, 0)) := by rw [hW4]; exact alloc_blk w3 _
  have t0 := (hb4.cell (World.block_lt_of_cell? _ _ t0)).trans t0
  have u1 := (hb4.cell (World.block_lt_of_cell? _ _ u1)).trans u1
  have x0 := blk_cell hx4 0
  have x1 := blk_cell hx4 1
  have x2 := blk_cell hx4 2
  have x3 := blk_cell hx4 3
  have HW4 := Aside0.mk hW4
  have HB4 := Aside0.mk (HB3.out.trans (hb4.mono HB3.out.size))
  clear hev hrc hc1 g1 u0 hcp hCp hb3 hb3' hW4 hx4 hb4
  go_upto_region 2 with (fail)
  rw [← HW4.out]
  go_wp2_with fail
  go_ret
  exact ⟨rfl, HB4.out⟩
end Go.Proofs.Ytnhipdniceoigaa.H

set_option linter.unusedVariables false
set_option linter.unusedSimpArgs false
namespace Go.Proofs.Ytnhipdniceoigaa.H
open Go.RowKit Go.Hay Go.Proofs.YtnhipdniceoigaaW.PrintWords Go.Proofs.YtnhipdniceoigaaW.PrintLast Go.Proofs.YtnhipdniceoigaaW.PrintMore
theorem evalR_end {l : List S58} {args : List Int} {b d : Int} {most : Nat} (h : evRight l args.length b d = true) : evalR l args b d most = endR (runP l b d (most + 1) ⟨most, [], [([], 0)]⟩ [] (rd_T58 l 0).f1 0 (newTask args noHands)) := by
  unfold evalR evalP
  rw [if_pos h]
  have e : beginP l b d (most + 1) ⟨most, [], []⟩ 0 [] args noHands = runP l b d (most + 1) ⟨most, [], [([], 0)]⟩ [] (rd_T58 l 0).f1 0 (newTask args noHands) := rfl
  rw [e]
  obtain ⟨o, G⟩ := runP l b d (most + 1) ⟨most, [], [([], 0)]⟩ [] (rd_T58 l 0).f1 0 (newTask args noHands)
  cases o <;> rfl
section
variable {l : List S58} {b d : Int} {k n me : Nat} {told : List Int} {log : List (List Int × Int)} {path : List Int} {code : List S55} {T T' : Ts} {x : S55}
/-- what a task that begins another one goes on with. -/
def goOn (x : S55) (T : Ts) (v : Int) : Ts := if x.f0 = 11 then { T with kids := T.kids + 1, wait := T.wait ++ [(x.f1, v)] } else { T with kids := T.kids + 1, hands := T.hands.set x.f1.toNat (true, v) }
end
end Go.Proofs.Ytnhipdniceoigaa.H

-- made by this session's gen.py over the kit's print.py; not trusted: Lean checks it
namespace Go.Proofs.Ytnhipdniceoigaa.H
open Go.RowKit Go.Proofs.YtnhipdniceoigaaW.PrintWords Go.Proofs.YtnhipdniceoigaaW.PrintLast Go.Proofs.YtnhipdniceoigaaW.PrintMore
attribute [local go_sem] max2_int min2_int max_two min_two max_three min_three max_four min_four   -- for this text's walks alone
set_option linter.unusedVariables false
set_option linter.unusedSimpArgs false

/-! ### haymowref05_Compare: function 19 -/
mutual
def haymowref05_Compare.l0 : Nat → List Int → List Int → Int → Option (Int)
  | 0, _, _, _ => none
  | k + 1, x0, x1, x5 => if x5 < (x0.length : Int) then (haymowref05_Compare.j1 k x0 x1 x5 (decide (x5 < (x1.length : Int)))) else (haymowref05_Compare.j1 k x0 x1 x5 false)
def haymowref05_Compare.j1 : Nat → List Int → List Int → Int → Bool → Option (Int)
  | 0, _, _, _, _ => none
  | k + 1, x0, x1, x5, x15 => if x15 = true then (if 0 ≤ x5 then (if x5 < (x0.length : Int) then (if x5 < (x1.length : Int) then (if (rd x0 x5) < (rd x1 x5) then (some (-1)) else (if (rd x0 x5) > (rd x1 x5) then (some 1) else (haymowref05_Compare.l0 k x0 x1 (wrap64 (x5 + 1))))) else (none)) else (none)) else (none)) else (if (x0.length : Int) < (x1.length : Int) then (some (-1)) else (if (x0.length : Int) > (x1.length : Int) then (some 1) else (some 0)))
end
def haymowref05_Compare.f (k : Nat) (l0 : List Int) (l1 : List Int) : Option (Int) := haymowref05_Compare.l0 k l0 l1 0
theorem haymowref05_Compare.mono_l : ∀ k, (∀ y0 y1 y2, LeO (haymowref05_Compare.l0 k y0 y1 y2) (haymowref05_Compare.l0 (k + 1) y0 y1 y2)) ∧ (∀ y0 y1 y2 y3, LeO (haymowref05_Compare.j1 k y0 y1 y2 y3) (haymowref05_Compare.j1 (k + 1) y0 y1 y2 y3))
  | 0 => ⟨fun _ _ _ r h => by simp [haymowref05_Compare.l0] at h, fun _ _ _ _ r h => by simp [haymowref05_Compare.j1] at h⟩
  | k + 1 => by
    obtain ⟨ih0, ih1⟩ := haymowref05_Compare.mono_l k
    refine ⟨?_, ?_⟩
    · intro y0 y1 y2
      unfold haymowref05_Compare.l0
      repeat' first
      | (with_reducible exact ih0 _ _ _)
      | (with_reducible exact ih1 _ _ _ _)
      | (with_reducible exact LeO.refl _)
      | (with_reducible exact LeO.none _)
      | (with_reducible refine LeO.ite ?_ ?_)
      | (with_reducible refine LeO.bind ?_ (fun _ => ?_))
      | exact ih0 _ _ _
      | exact ih1 _ _ _ _
      | exact LeO.none _
      | refine LeO.ite ?_ ?_
      | refine LeO.bind ?_ (fun _ => ?_)
    · intro y0 y1 y2 y3
      unfold haymowref05_Compare.j1
      repeat' first
      | (with_reducible exact ih0 _ _ _)
      | (with_reducible exact ih1 _ _ _ _)
      | (with_reducible exact LeO.refl _)
      | (with_reducible exact LeO.none _)
      | (with_reducible refine LeO.ite ?_ ?_)
      | (with_reducible refine LeO.bind ?_ (fun _ => ?_))
      | exact ih0 _ _ _
      | exact ih1 _ _ _ _
      | exact LeO.none _
      | refine LeO.ite ?_ ?_
      | refine LeO.bind ?_ (fun _ => ?_)
theorem haymowref05_Compare.mono : ∀ a0 a1 k, LeO (haymowref05_Compare.f k a0 a1) (haymowref05_Compare.f (k + 1) a0 a1) := by
  intro a0 a1 k
  obtain ⟨ih0, ih1⟩ := haymowref05_Compare.mono_l k
  unfold haymowref05_Compare.f
  repeat' first
      | (with_reducible exact ih0 _ _ _)
      | (with_reducible exact ih1 _ _ _ _)
      | (with_reducible exact LeO.refl _)
      | (with_reducible exact LeO.none _)
      | (with_reducible refine LeO.ite ?_ ?_)
      | (with_reducible refine LeO.bind ?_ (fun _ => ?_))
      | exact ih0 _ _ _
      | exact ih1 _ _ _ _
      | exact LeO.none _
      | refine LeO.ite ?_ ?_
      | refine LeO.bind ?_ (fun _ => ?_)
set_option maxHeartbeats 8000000 in
set_option maxRecDepth 100000 in
theorem haymowref05_Compare.calls (k : Nat) (A0 : Option Addr) (c0 : Nat) (l0 : List Int) (A1 : Option Addr) (c1 : Nat) (l1 : List Int) (r : Int) (w : World) (hr0 : Kd.C (Kd.int .i64) w A0 l0.length l0) (hc0 : l0.length ≤ c0) (hr1 : Kd.C (Kd.int .i64) w A1 l1.length l1) (hc1 : l1.length ≤ c1) (h : haymowref05_Compare.f k l0 l1 = some r) :
    Calls Try.prog 19 #[.slice A0 l0.length c0, .slice A1 l1.length c1] w fun e w' => e = .returned (.int .i64 r) ∧ Drawn0 w w' := by
  have HR0 := Aside0.mk hr0
  have HC0 := Aside0.mk hc0
  clear hr0 hc0
  have HR1 := Aside0.mk hr1
  have HC1 := Aside0.mk hc1
  clear hr1 hc1
  have H : (haymowref05_Compare.l0 k l0 l1 0) = some r := h
  clear h
  have H' := Aside0.mk H
  clear H
  go_enter Try.func19, Try.ntmps19
  go_wp2
  repeat (go_quiet (fail); try go_wp2)
  go_loopg [5] k (fun kq v5 w' => ∃ (x5_1 : Int), v5 = .int .i64 x5_1 ∧ Aside0 (haymowref05_Compare.l0 kq l0 l1 x5_1 = some r) ∧ Aside0 (kq ≤ k) ∧ Drawn0 w w')
  case atStart => exact ⟨(0), (by first | rfl | (simp; done) | (simp [*]; done)), H', ⟨Nat.le_refl _⟩, by repeat (first | exact Drawn0.refl _ | apply Drawn0.step)⟩
  case round =>
    clear H'
    try clear c1
    try clear p2
    obtain ⟨x5_1, rfl, HA, HK1, ⟨m1, rfl⟩⟩ := hrel
    cases gk with
    | zero => exact absurd HA.out (by simp [haymowref05_Compare.l0])
    | succ k1 =>
      have H := HA.out
      clear HA
      simp only [haymowref05_Compare.l0] at H
      have HC3 := Aside0.mk H
      clear H
      go_upto_region 2 with (fail)
      repeat (go_quiet (fail); go_upto_region 2 with (fail))
      go_cut [15] (fun v15 wc => ∃ (kq : Nat) (x15_2 : Bool), v15 = .bool x15_2 ∧ Aside0 (haymowref05_Compare.j1 kq l0 l1 x5_1 x15_2 = some r) ∧ Aside0 (kq ≤ k1) ∧ Drawn0 w wc)
      case first =>
        have H := HC3.out
        clear HC3
        by_cases c4 : x5_1 < (l0.length : Int)
        · rw [if_pos c4] at H
          have c4b0 : decide (x5_1 < (l0.length : Int)) = true := decide_eq_true c4
          clear c4
          (first | rw [c4b0] | (simp only [i64_w, i32_w]; rw [c4b0]) | skip)
          have H' := Aside0.mk H
          clear H
          go_wp2
          repeat (go_quiet (fail); try go_wp2)
          go_meet
          case rel => exact ⟨_, (decide (x5_1 < (l1.length : Int))), (by first | rfl | (simp; done) | (simp [*]; done)), H', ⟨by have := HK1.out; first | omega | exact Nat.le_refl _⟩, by repeat (first | exact Drawn0.refl _ | apply Drawn0.step)⟩
        · rw [if_neg c4] at H
          have c4b0 : decide (x5_1 < (l0.length : Int)) = false := decide_eq_false c4
          clear c4
          (first | rw [c4b0] | (simp only [i64_w, i32_w]; rw [c4b0]) | skip)
          have H' := Aside0.mk H
          clear H
          go_wp2
          repeat (go_quiet (fail); try go_wp2)
          go_meet
          case rel => exact ⟨_, (false), (by first | rfl | (simp; done) | (simp [*]; done)), H', ⟨by have := HK1.out; first | omega | exact Nat.le_refl _⟩, by repeat (first | exact Drawn0.refl _ | apply Drawn0.step)⟩
      case rest =>
        clear HC3
        try clear c1
        try clear p2
        try clear c4
        try clear c4b0
        try clear p2
        obtain ⟨kq, x15_2, rfl, HA, HJ2, ⟨mc2, rfl⟩⟩ := hcut
        cases kq with
        | zero => exact absurd HA.out (by simp [haymowref05_Compare.j1])
        | succ kj2 =>
          have H := HA.out
          clear HA
          simp only [haymowref05_Compare.j1] at H
          by_cases c5 : x15_2 = true
          · subst c5
            have H1 : (if 0 ≤ x5_1 then (if x5_1 < (l0.length : Int) then (if x5_1 < (l1.length : Int) then (if (rd l0 x5_1) < (rd l1 x5_1) then (some (-1)) else (if (rd l0 x5_1) > (rd l1 x5_1) then (some 1) else (haymowref05_Compare.l0 kj2 l0 l1 (wrap64 (x5_1 + 1))))) else (none)) else (none)) else (none)) = some r := by rw [if_pos rfl] at H; exact H
            clear H
            have H := H1
            clear H1
            by_cases c6 : 0 ≤ x5_1
            · rw [if_pos c6] at H
              have c6b0 : decide (0 ≤ x5_1) = true := decide_eq_true c6
              clear c6
              by_cases c7 : x5_1 < (l0.length : Int)
              · rw [if_pos c7] at H
                have c7b0 : decide (x5_1 < (l0.length : Int)) = true := decide_eq_true c7
                clear c7
                by_cases c8 : x5_1 < (l1.length : Int)
                · rw [if_pos c8] at H
                  have c8b0 : decide (x5_1 < (l1.length : Int)) = true := decide_eq_true c8
                  clear c8
                  by_cases c9 : (rd l0 x5_1) < (rd l1 x5_1)
                  · rw [if_pos c9] at H
                    have c9b0 : decide ((rd l0 x5_1) < (rd l1 x5_1)) = true := decide_eq_true c9
                    clear c9
                    obtain rfl := Option.some.inj H
                    have p172 : 0 ≤ (x5_1 : Int) := of_decide_eq_true (by first | (with_reducible assumption) | assumption)
                    have q172 : x5_1 < (l0.length : Int) := of_decide_eq_true (by first | (with_reducible assumption) | assumption)
                    obtain ⟨ad172, e172, hx172_0⟩ := Kd.at_int HR0.out x5_1 p172 q172
                    cases e172
                    replace p172 := eq_true p172
                    replace q172 := eq_true q172
                    have p173 : 0 ≤ (x5_1 : Int) := of_decide_eq_true (by first | (with_reducible assumption) | assumption)
                    have q173 : x5_1 < (l1.length : Int) := of_decide_eq_true (by first | (with_reducible assumption) | assumption)
                    obtain ⟨ad173, e173, hx173_0⟩ := Kd.at_int HR1.out x5_1 p173 q173
                    cases e173
                    replace p173 := eq_true p173
                    replace q173 := eq_true q173
                    go_wp2
                    repeat (go_quiet (fail); try go_wp2)
                    go_ret
                    exact ⟨by first | rfl | (simp; done) | (simp [*]; done), by repeat (first | exact Drawn0.refl _ | apply Drawn0.step)⟩
                  · rw [if_neg c9] at H
                    have c9b0 : decide ((rd l0 x5_1) < (rd l1 x5_1)) = false := decide_eq_false c9
                    clear c9
                    by_cases c10 : (rd l0 x5_1) > (rd l1 x5_1)
                    · rw [if_pos c10] at H
                      have c10b0 : decide ((rd l1 x5_1) < (rd l0 x5_1)) = true := decide_eq_true c10
                      clear c10
                      obtain rfl := Option.some.inj H
                      have p172 : 0 ≤ (x5_1 : Int) := of_decide_eq_true (by first | (with_reducible assumption) | assumption)
                      have q172 : x5_1 < (l0.length : Int) := of_decide_eq_true (by first | (with_reducible assumption) | assumption)
                      obtain ⟨ad172, e172, hx172_0⟩ := Kd.at_int HR0.out x5_1 p172 q172
                      cases e172
                      replace p172 := eq_true p172
                      replace q172 := eq_true q172
                      have p173 : 0 ≤ (x5_1 : Int) := of_decide_eq_true (by first | (with_reducible assumption) | assumption)
                      have q173 : x5_1 < (l1.length : Int) := of_decide_eq_true (by first | (with_reducible assumption) | assumption)
                      obtain ⟨ad173, e173, hx173_0⟩ := Kd.at_int HR1.out x5_1 p173 q173
                      cases e173
                      replace p173 := eq_true p173
                      replace q173 := eq_true q173
                      have p174 : 0 ≤ (x5_1 : Int) := of_decide_eq_true (by first | (with_reducible assumption) | assumption)
                      have q174 : x5_1 < (l0.length : Int) := of_decide_eq_true (by first | (with_reducible assumption) | assumption)
                      obtain ⟨ad174, e174, hx174_0⟩ := Kd.at_int HR0.out x5_1 p174 q174
                      obtain rfl : ad172 = ad174 := (by injection e174)
                      replace p174 := eq_true p174
                      replace q174 := eq_true q174
                      have p175 : 0 ≤ (x5_1 : Int) := of_decide_eq_true (by first | (with_reducible assumption) | assumption)
                      have q175 : x5_1 < (l1.length : Int) := of_decide_eq_true (by first | (with_reducible assumption) | assumption)
                      obtain ⟨ad175, e175, hx175_0⟩ := Kd.at_int HR1.out x5_1 p175 q175
                      obtain rfl : ad173 = ad175 := (by injection e175)
                      replace p175 := eq_true p175
                      replace q175 := eq_true q175
                      go_wp2
                      repeat (go_quiet (fail); try go_wp2)
                      go_ret
                      exact ⟨by first | rfl | (simp; done) | (simp [*]; done), by repeat (first | exact Drawn0.refl _ | apply Drawn0.step)⟩
                    · rw [if_neg c10] at H
                      have c10b0 : decide ((rd l1 x5_1) < (rd l0 x5_1)) = false := decide_eq_false c10
                      clear c10
                      have H' := Aside0.mk H
                      clear H
                      have p172 : 0 ≤ (x5_1 : Int) := of_decide_eq_true (by first | (with_reducible assumption) | assumption)
                      have q172 : x5_1 < (l0.length : Int) := of_decide_eq_true (by first | (with_reducible assumption) | assumption)
                      obtain ⟨ad172, e172, hx172_0⟩ := Kd.at_int HR0.out x5_1 p172 q172
                      cases e172
                      replace p172 := eq_true p172
                      replace q172 := eq_true q172
                      have p173 : 0 ≤ (x5_1 : Int) := of_decide_eq_true (by first | (with_reducible assumption) | assumption)
                      have q173 : x5_1 < (l1.length : Int) := of_decide_eq_true (by first | (with_reducible assumption) | assumption)
                      obtain ⟨ad173, e173, hx173_0⟩ := Kd.at_int HR1.out x5_1 p173 q173
                      cases e173
                      replace p173 := eq_true p173
                      replace q173 := eq_true q173
                      have p174 : 0 ≤ (x5_1 : Int) := of_decide_eq_true (by first | (with_reducible assumption) | assumption)
                      have q174 : x5_1 < (l0.length : Int) := of_decide_eq_true (by first | (with_reducible assumption) | assumption)
                      obtain ⟨ad174, e174, hx174_0⟩ := Kd.at_int HR0.out x5_1 p174 q174
                      obtain rfl : ad172 = ad174 := (by injection e174)
                      replace p174 := eq_true p174
                      replace q174 := eq_true q174
                      have p175 : 0 ≤ (x5_1 : Int) := of_decide_eq_true (by first | (with_reducible assumption) | assumption)
                      have q175 : x5_1 < (l1.length : Int) := of_decide_eq_true (by first | (with_reducible assumption) | assumption)
                      obtain ⟨ad175, e175, hx175_0⟩ := Kd.at_int HR1.out x5_1 p175 q175
                      obtain rfl : ad173 = ad175 := (by injection e175)
                      replace p175 := eq_true p175
                      replace q175 := eq_true q175
                      go_wp2
                      repeat (go_quiet (fail); try go_wp2)
                      go_roundg kj2
                      case measure => have := HK1.out; have := HJ2.out; omega
                      case rel => exact ⟨(wrap64 (x5_1 + 1)), (by first | rfl | (simp; done) | (simp [*]; done)), H', ⟨by have := HK1.out; have := HJ2.out; omega⟩, by repeat (first | exact Drawn0.refl _ | apply Drawn0.step)⟩
                · rw [if_neg c8] at H
                  exact absurd H (by simp)
              · rw [if_neg c7] at H
                exact absurd H (by simp)
            · rw [if_neg c6] at H
              exact absurd H (by simp)
          · replace c5 := Bool.eq_false_iff.mpr c5
            subst c5
            have H1 : (if (l0.length : Int) < (l1.length : Int) then (some (-1)) else (if (l0.length : Int) > (l1.length : Int) then (some 1) else (some 0))) = some r := by rw [if_neg (show ¬ (false = true) by decide)] at H; exact H
            clear H
            have H := H1
            clear H1
            by_cases c11 : (l0.length : Int) < (l1.length : Int)
            · rw [if_pos c11] at H
              have c11b0 : decide ((l0.length : Int) < (l1.length : Int)) = true := decide_eq_true c11
              have c11b1 : decide (l0.length < l1.length) = true := decide_eq_true (Int.ofNat_lt.mp c11)
              clear c11
              obtain rfl := Option.some.inj H
              go_wp2
              repeat (go_quiet (fail); try go_wp2)
              go_ret
              exact ⟨by first | rfl | (simp; done) | (simp [*]; done), by repeat (first | exact Drawn0.refl _ | apply Drawn0.step)⟩
            · rw [if_neg c11] at H
              have c11b0 : decide ((l0.length : Int) < (l1.length : Int)) = false := decide_eq_false c11
              have c11b1 : decide (l0.length < l1.length) = false := decide_eq_false (fun h => c11 (Int.ofNat_lt.mpr h))
              clear c11
              by_cases c12 : (l0.length : Int) > (l1.length : Int)
              · rw [if_pos c12] at H
                have c12b0 : decide ((l1.length : Int) < (l0.length : Int)) = true := decide_eq_true c12
                have c12b1 : decide (l1.length < l0.length) = true := decide_eq_true (Int.ofNat_lt.mp c12)
                clear c12
                obtain rfl := Option.some.inj H
                go_wp2
                repeat (go_quiet (fail); try go_wp2)
                go_ret
                exact ⟨by first | rfl | (simp; done) | (simp [*]; done), by repeat (first | exact Drawn0.refl _ | apply Drawn0.step)⟩
              · rw [if_neg c12] at H
                have c12b0 : decide ((l1.length : Int) < (l0.length : Int)) = false := decide_eq_false c12
                have c12b1 : decide (l1.length < l0.length) = false := decide_eq_false (fun h => c12 (Int.ofNat_lt.mpr h))
                clear c12
                obtain rfl := Option.some.inj H
                go_wp2
                repeat (go_quiet (fail); try go_wp2)
                go_ret
                exact ⟨by first | rfl | (simp; done) | (simp [*]; done), by repeat (first | exact Drawn0.refl _ | apply Drawn0.step)⟩

end Go.Proofs.Ytnhipdniceoigaa.H

-- made by this session's gen.py over the kit's print.py; not trusted: Lean checks it
namespace Go.Proofs.Ytnhipdniceoigaa.H
open Go.RowKit Go.Proofs.YtnhipdniceoigaaW.PrintWords Go.Proofs.YtnhipdniceoigaaW.PrintLast Go.Proofs.YtnhipdniceoigaaW.PrintMore
attribute [local go_sem] max2_int min2_int max_two min_two max_three min_three max_four min_four   -- for this text's walks alone
set_option linter.unusedVariables false
set_option linter.unusedSimpArgs false

/-! ### haymowlaw06_light: function 11 -/
def haymowlaw06_light.l0 : Nat → List (S68) → Int → Option (Bool)
  | 0, _, _ => none
  | k + 1, x0, x3 => if x3 < (x0.length : Int) then (if 0 ≤ x3 then (if (((rd_T68 x0 x3).f1).length : Int) > 70 then (some false) else (haymowlaw06_light.l0 k x0 (wrap64 (x3 + 1)))) else (none)) else (some true)
def haymowlaw06_light.f (k : Nat) (l0 : List (S68)) : Option (Bool) := if (l0.length : Int) > 20 then (some false) else (haymowlaw06_light.l0 k l0 0)
theorem haymowlaw06_light.mono_l : ∀ k, (∀ y0 y1, LeO (haymowlaw06_light.l0 k y0 y1) (haymowlaw06_light.l0 (k + 1) y0 y1))
  | 0 => fun _ _ r h => by simp [haymowlaw06_light.l0] at h
  | k + 1 => by
    have ih0 := haymowlaw06_light.mono_l k
    · intro y0 y1
      unfold haymowlaw06_light.l0
      repeat' first
      | (with_reducible exact ih0 _ _)
      | (with_reducible exact LeO.refl _)
      | (with_reducible exact LeO.none _)
      | (with_reducible refine LeO.ite ?_ ?_)
      | (with_reducible refine LeO.bind ?_ (fun _ => ?_))
      | exact ih0 _ _
      | exact LeO.none _
      | refine LeO.ite ?_ ?_
      | refine LeO.bind ?_ (fun _ => ?_)
theorem haymowlaw06_light.mono : ∀ a0 k, LeO (haymowlaw06_light.f k a0) (haymowlaw06_light.f (k + 1) a0) := by
  intro a0 k
  have ih0 := haymowlaw06_light.mono_l k
  unfold haymowlaw06_light.f
  repeat' first
      | (with_reducible exact ih0 _ _)
      | (with_reducible exact LeO.refl _)
      | (with_reducible exact LeO.none _)
      | (with_reducible refine LeO.ite ?_ ?_)
      | (with_reducible refine LeO.bind ?_ (fun _ => ?_))
      | exact ih0 _ _
      | exact LeO.none _
      | refine LeO.ite ?_ ?_
      | refine LeO.bind ?_ (fun _ => ?_)
set_option maxHeartbeats 8000000 in
set_option maxRecDepth 100000 in
theorem haymowlaw06_light.calls (k : Nat) (A0 : Option Addr) (c0 : Nat) (l0 : List (S68)) (r : Bool) (w : World) (hr0 : Kd.C k68 w A0 l0.length l0) (hc0 : l0.length ≤ c0) (h : haymowlaw06_light.f k l0 = some r) :
    Calls Try.prog 11 #[.slice A0 l0.length c0] w fun e w' => e = .returned (.bool r) ∧ Drawn0 w w' := by
  have HR0 := Aside0.mk hr0
  have HC0 := Aside0.mk hc0
  clear hr0 hc0
  have H : (if (l0.length : Int) > 20 then (some false) else (haymowlaw06_light.l0 k l0 0)) = some r := h
  clear h
  by_cases c2 : (l0.length : Int) > 20
  · rw [if_pos c2] at H
    have c2b0 : decide (20 < (l0.length : Int)) = true := decide_eq_true c2
    have c2b1 : decide (20 < l0.length) = true := decide_eq_true (by omega)
    clear c2
    obtain rfl := Option.some.inj H
    go_enter Try.func11, Try.ntmps11
    go_wp2
    go_ret
    exact ⟨by first | rfl | (simp; done) | (simp [*]; done), by repeat (first | exact Drawn0.refl _ | apply Drawn0.step)⟩
  · rw [if_neg c2] at H
    have c2b0 : decide (20 < (l0.length : Int)) = false := decide_eq_false c2
    have c2b1 : decide (20 < l0.length) = false := decide_eq_false (by omega)
    clear c2
    have H' := Aside0.mk H
    clear H
    go_enter Try.func11, Try.ntmps11
    go_wp2
    go_loopg [3] k (fun kq v3 w' => ∃ (x3_1 : Int), v3 = .int .i64 x3_1 ∧ Aside0 (haymowlaw06_light.l0 kq l0 x3_1 = some r) ∧ Aside0 (kq ≤ k) ∧ Drawn0 w w')
    case atStart => exact ⟨(0), (by first | rfl | (simp; done) | (simp [*]; done)), H', ⟨Nat.le_refl _⟩, by repeat (first | exact Drawn0.refl _ | apply Drawn0.step)⟩
    case round =>
      clear H'
      try clear c1
      try clear c2
      try clear c2b0
      try clear c2b1
      try clear p2
      obtain ⟨x3_1, rfl, HA, HK1, ⟨m1, rfl⟩⟩ := hrel
      cases gk with
      | zero => exact absurd HA.out (by simp [haymowlaw06_light.l0])
      | succ k1 =>
        have H := HA.out
        clear HA
        simp only [haymowlaw06_light.l0] at H
        by_cases c3 : x3_1 < (l0.length : Int)
        · rw [if_pos c3] at H
          have c3b0 : decide (x3_1 < (l0.length : Int)) = true := decide_eq_true c3
          clear c3
          by_cases c4 : 0 ≤ x3_1
          · rw [if_pos c4] at H
            have c4b0 : decide (0 ≤ x3_1) = true := decide_eq_true c4
            clear c4
            by_cases c5 : (((rd_T68 l0 x3_1).f1).length : Int) > 70
            · rw [if_pos c5] at H
              have c5b0 : decide (70 < (((rd_T68 l0 x3_1).f1).length : Int)) = true := decide_eq_true c5
              have c5b1 : decide (70 < ((rd_T68 l0 x3_1).f1).length) = true := decide_eq_true (by omega)
              clear c5
              obtain rfl := Option.some.inj H
              have p101 : 0 ≤ (x3_1 : Int) := of_decide_eq_true (by first | (with_reducible assumption) | assumption)
              have q101 : x3_1 < (l0.length : Int) := of_decide_eq_true (by first | (with_reducible assumption) | assumption)
              obtain ⟨ad101, A101_1, c101_1, e101, hx101_0, hx101_1, hl101_1, hi101_1⟩ := at_T68 HR0.out x3_1 p101 q101
              cases e101
              have HR101_1 := Aside0.mk hi101_1
              have HC101_1 := Aside0.mk hl101_1
              clear hi101_1 hl101_1
              replace p101 := eq_true p101
              replace q101 := eq_true q101
              go_wp2
              go_ret
              exact ⟨by first | rfl | (simp; done) | (simp [*]; done), by repeat (first | exact Drawn0.refl _ | apply Drawn0.step)⟩
            · rw [if_neg c5] at H
              have c5b0 : decide (70 < (((rd_T68 l0 x3_1).f1).length : Int)) = false := decide_eq_false c5
              have c5b1 : decide (70 < ((rd_T68 l0 x3_1).f1).length) = false := decide_eq_false (by omega)
              clear c5
              have H' := Aside0.mk H
              clear H
              have p101 : 0 ≤ (x3_1 : Int) := of_decide_eq_true (by first | (with_reducible assumption) | assumption)
              have q101 : x3_1 < (l0.length : Int) := of_decide_eq_true (by first | (with_reducible assumption) | assumption)
              obtain ⟨ad101, A101_1, c101_1, e101, hx101_0, hx101_1, hl101_1, hi101_1⟩ := at_T68 HR0.out x3_1 p101 q101
              cases e101
              have HR101_1 := Aside0.mk hi101_1
              have HC101_1 := Aside0.mk hl101_1
              clear hi101_1 hl101_1
              replace p101 := eq_true p101
              replace q101 := eq_true q101
              go_wp2
              go_roundg k1
              case measure => have := HK1.out; omega
              case rel => exact ⟨(wrap64 (x3_1 + 1)), (by first | rfl | (simp; done) | (simp [*]; done)), H', ⟨by have := HK1.out; omega⟩, by repeat (first | exact Drawn0.refl _ | apply Drawn0.step)⟩
          · rw [if_neg c4] at H
            exact absurd H (by simp)
        · rw [if_neg c3] at H
          have c3b0 : decide (x3_1 < (l0.length : Int)) = false := decide_eq_false c3
          clear c3
          obtain rfl := Option.some.inj H
          go_wp2
          go_ret
          exact ⟨by first | rfl | (simp; done) | (simp [*]; done), by repeat (first | exact Drawn0.refl _ | apply Drawn0.step)⟩

end Go.Proofs.Ytnhipdniceoigaa.H

-- made by this session's gen.py over the kit's print.py; not trusted: Lean checks it
namespace Go.Proofs.Ytnhipdniceoigaa.H
open Go.RowKit Go.Proofs.YtnhipdniceoigaaW.PrintWords Go.Proofs.YtnhipdniceoigaaW.PrintLast Go.Proofs.YtnhipdniceoigaaW.PrintMore
attribute [local go_sem] max2_int min2_int max_two min_two max_three min_three max_four min_four   -- for this text's walks alone
set_option linter.unusedVariables false
set_option linter.unusedSimpArgs false

/-! ### haymowlaw06_of: function 13 -/
mutual
def haymowlaw06_of.l0 : Nat → List (S68) → List (S58) → Int → Option ((List (S58)))
  | 0, _, _, _ => none
  | k + 1, x0, x3, x4 => if x4 < (x0.length : Int) then (if 0 ≤ x4 then (haymowlaw06_of.l1 k x0 x3 x4 0 ((rd_T68 x0 x4).f0) ([] : List (S55))) else (none)) else (some x3)
def haymowlaw06_of.l1 : Nat → List (S68) → List (S58) → Int → Int → Int → List (S55) → Option ((List (S58)))
  | 0, _, _, _, _, _, _ => none
  | k + 1, x0, x3, x4, x6, x122000, x122001 => if 0 ≤ x4 then (if x4 < (x0.length : Int) then (if x6 < (((rd_T68 x0 x4).f1).length : Int) then (if 0 ≤ x6 then (if x122001.length < 3518437208883 then (haymowlaw06_of.l1 k x0 x3 x4 (wrap64 (x6 + 1)) x122000 (x122001 ++ [(⟨(rd_T80 ((rd_T68 x0 x4).f1) x6).f0, (rd_T80 ((rd_T68 x0 x4).f1) x6).f1, (rd_T80 ((rd_T68 x0 x4).f1) x6).f2, (rd_T80 ((rd_T68 x0 x4).f1) x6).f3, (rd_T80 ((rd_T68 x0 x4).f1) x6).f4⟩ : S55)])) else (none)) else (none)) else (if x3.length < 4398046511104 then (haymowlaw06_of.l0 k x0 (x3 ++ [(⟨x122000, x122001⟩ : S58)]) (wrap64 (x4 + 1))) else (none))) else (none)) else (none)
end
def haymowlaw06_of.f (k : Nat) (l0 : List (S68)) : Option ((List (S58))) := haymowlaw06_of.l0 k l0 ([] : List (S58)) 0
theorem haymowlaw06_of.mono_l : ∀ k, (∀ y0 y1 y2, LeO (haymowlaw06_of.l0 k y0 y1 y2) (haymowlaw06_of.l0 (k + 1) y0 y1 y2)) ∧ (∀ y0 y1 y2 y3 y4 y5, LeO (haymowlaw06_of.l1 k y0 y1 y2 y3 y4 y5) (haymowlaw06_of.l1 (k + 1) y0 y1 y2 y3 y4 y5))
  | 0 => ⟨fun _ _ _ r h => by simp [haymowlaw06_of.l0] at h, fun _ _ _ _ _ _ r h => by simp [haymowlaw06_of.l1] at h⟩
  | k + 1 => by
    obtain ⟨ih0, ih1⟩ := haymowlaw06_of.mono_l k
    refine ⟨?_, ?_⟩
    · intro y0 y1 y2
      unfold haymowlaw06_of.l0
      repeat' first
      | (with_reducible exact ih0 _ _ _)
      | (with_reducible exact ih1 _ _ _ _ _ _)
      | (with_reducible exact LeO.refl _)
      | (with_reducible exact LeO.none _)
      | (with_reducible refine LeO.ite ?_ ?_)
      | (with_reducible refine LeO.bind ?_ (fun _ => ?_))
      | exact ih0 _ _ _
      | exact ih1 _ _ _ _ _ _
      | exact LeO.none _
      | refine LeO.ite ?_ ?_
      | refine LeO.bind ?_ (fun _ => ?_)
    · intro y0 y1 y2 y3 y4 y5
      unfold haymowlaw06_of.l1
      repeat' first
      | (with_reducible exact ih0 _ _ _)
      | (with_reducible exact ih1 _ _ _ _ _ _)
      | (with_reducible exact LeO.refl _)
      | (with_reducible exact LeO.none _)
      | (with_reducible refine LeO.ite ?_ ?_)
      | (with_reducible refine LeO.bind ?_ (fun _ => ?_))
      | exact ih0 _ _ _
      | exact ih1 _ _ _ _ _ _
      | exact LeO.none _
      | refine LeO.ite ?_ ?_
      | refine LeO.bind ?_ (fun _ => ?_)
theorem haymowlaw06_of.mono : ∀ a0 k, LeO (haymowlaw06_of.f k a0) (haymowlaw06_of.f (k + 1) a0) := by
  intro a0 k
  obtain ⟨ih0, ih1⟩ := haymowlaw06_of.mono_l k
  unfold haymowlaw06_of.f
  repeat' first
      | (with_reducible exact ih0 _ _ _)
      | (with_reducible exact ih1 _ _ _ _ _ _)
      | (with_reducible exact LeO.refl _)
      | (with_reducible exact LeO.none _)
      | (with_reducible refine LeO.ite ?_ ?_)
      | (with_reducible refine LeO.bind ?_ (fun _ => ?_))
      | exact ih0 _ _ _
      | exact ih1 _ _ _ _ _ _
      | exact LeO.none _
      | refine LeO.ite ?_ ?_
      | refine LeO.bind ?_ (fun _ => ?_)
set_option maxHeartbeats 8000000 in
set_option maxRecDepth 100000 in
theorem haymowlaw06_of.calls (k : Nat) (A0 : Option Addr) (c0 : Nat) (l0 : List (S68)) (r : List (S58)) (w : World) (hr0 : Kd.C k68 w A0 l0.length l0) (hc0 : l0.length ≤ c0) (h : haymowlaw06_of.f k l0 = some r) :
    Calls Try.prog 13 #[.slice A0 l0.length c0] w fun e w' => ∃ v0_ : Value, e = .returned (v0_) ∧ Kd.S k58 58 w' w.heap.size (fun _ => True) v0_ r ∧ Below w.heap.size w w' := by
  have hu58 := Try.underlying58
  have hu80 := Try.underlying80
  have hu55 := Try.underlying55
  have HR0 := Aside0.mk hr0
  have HC0 := Aside0.mk hc0
  clear hr0 hc0
  have HB := Aside0.mk (Below.refl w.heap.size w)
  have H : (haymowlaw06_of.l0 k l0 ([] : List (S58)) 0) = some r := h
  clear h
  have H' := Aside0.mk H
  clear H
  go_enter Try.func13, Try.ntmps13
  go_wp2
  go_loopg [3, 4] k (fun kq v3 v4 w' => ∃ (x3_1 : List (S58)) (x4_1 : Int), v4 = .int .i64 x4_1 ∧ Aside0 (haymowlaw06_of.l0 kq l0 x3_1 x4_1 = some r) ∧ Aside0 (kq ≤ k) ∧ Aside0 (Kd.S k58 58 w' w.heap.size (fun _ => True) v3 x3_1) ∧ Aside0 (Below w.heap.size w w'))
  case atStart => exact ⟨(([] : List (S58))), (0), (by first | rfl | (simp; done) | (simp [*]; done)), H', ⟨Nat.le_refl _⟩, ⟨by first | exact Kd.S_nil _ _ _ _ _ | exact Kd.N_nil _ _ _ _ _ | exact Kd.V_nil _ _ _ _ _ | exact Kd.Q_nil _ _ _ _ _ | exact Kd.R_nil _ _ _ _ _⟩, ⟨by repeat (first | (with_reducible first | exact HB.out | apply below_alloc | apply pw_below_drewN | apply below_drew1) | exact HB.out)⟩⟩
  case round =>
    clear H'
    try clear c1
    obtain ⟨x3_1, x4_1, rfl, HA, HK1, HO_3, HB⟩ := hrel
    cases gk with
    | zero => exact absurd HA.out (by simp [haymowlaw06_of.l0])
    | succ k1 =>
      have H := HA.out
      clear HA
      simp only [haymowlaw06_of.l0] at H
      by_cases c2 : x4_1 < (l0.length : Int)
      · rw [if_pos c2] at H
        have c2b0 : decide (x4_1 < (l0.length : Int)) = true := decide_eq_true c2
        clear c2
        by_cases c3 : 0 ≤ x4_1
        · rw [if_pos c3] at H
          have c3b0 : decide (0 ≤ x4_1) = true := decide_eq_true c3
          clear c3
          have H' := Aside0.mk H
          clear H
          have p120 : 0 ≤ (x4_1 : Int) := of_decide_eq_true (by first | (with_reducible assumption) | assumption)
          have q120 : x4_1 < (l0.length : Int) := of_decide_eq_true (by first | (with_reducible assumption) | assumption)
          obtain ⟨ad120, A120_1, c120_1, e120, hx120_0, hx120_1, hl120_1, hi120_1⟩ := at_T68 HR0.out x4_1 p120 q120
          cases e120
          replace hx120_0 := (HB.out.cell (World.block_lt_of_cell? w _ hx120_0)).trans hx120_0
          replace hx120_1 := (HB.out.cell (World.block_lt_of_cell? w _ hx120_1)).trans hx120_1
          have HR120_1 := Aside0.mk hi120_1
          have HC120_1 := Aside0.mk hl120_1
          clear hi120_1 hl120_1
          replace p120 := eq_true p120
          replace q120 := eq_true q120
          go_wp2_with (first | ((with_reducible refine gate_dst (N := 5) rfl ?_); refine box_event ?hg (N := 5) ?hd (cs := #[.int .i64 0, .slice none 0 0]) (t := 58) ?hr ?_; (case hd => rfl); (case hg => rfl); (case hr => first | (go_simp; done) | (go_simp; rfl)); intro gb121 hg w4 hbox hb; have n0_ := Aside0.mk (Kd.S_below (Kd.S_elderB (by (with_reducible repeat (first | apply Kd.S_alloc | apply Kd.S_drewN | apply Kd.S_drew)); exact HO_3.out) gb121 (Nat.le_of_eq hg.symm)) hb); have n1_ := Aside0.mk (below_step (by repeat (first | (with_reducible first | exact HB.out | apply below_alloc | apply pw_below_drewN | apply below_drew1) | exact HB.out)) hb); have n2_ := Aside0.mk (hbox); have n3_ := Aside0.mk ((by rw [hg]; exact (below_size (by repeat (first | (with_reducible first | exact HB.out | apply below_alloc | apply pw_below_drewN | apply below_drew1) | exact HB.out))) : w.heap.size ≤ gb121)); have n4_ := Aside0.mk ((by rw [hg]; exact (below_size (by repeat (first | (with_reducible first | exact HB.out | apply below_alloc | apply pw_below_drewN | apply below_drew1) | exact HB.out))) : w.heap.size ≤ gb121)); clear HO_3; clear HB; have HO_3 := n0_; have HB := n1_; have BK121 := n2_; have GW121 := n3_; have GE121 := n4_; clear n0_ n1_ n2_ n3_ n4_; clear hb hbox hg; have hcz5_0 : w4.cell? ⟨gb121, 0, none⟩ = some (.int .i64 0) := (blk_cell BK121.out 0).trans rfl; have hcz5_1 : w4.cell? ⟨gb121, 1, none⟩ = some (.slice none 0 0) := (blk_cell BK121.out 1).trans rfl; have hfz5_0 := blk_frozen BK121.out 0; have hfz5_1 := blk_frozen BK121.out 1))
          go_loopg [6] k1 (fun kq v6 w' => ∃ (x6_2 : Int) (x122001_2 : List (S55)) (u122001 : Value), v6 = .int .i64 x6_2 ∧ Aside0 (haymowlaw06_of.l1 kq l0 x3_1 x4_1 x6_2 ((rd_T68 l0 x4_1).f0) x122001_2 = some r) ∧ Aside0 (kq ≤ k1) ∧ Aside0 (Kd.S k58 58 w' w.heap.size (fun k_ => some k_ ≠ (u122001 : Value).ownBlock ∧ k_ ≠ gb121) u3 x3_1) ∧ Aside0 (Kd.R k55 55 w' w.heap.size (fun _ => True) u122001 x122001_2) ∧ Aside0 (w'.heap[gb121]? = some (.cells #[.int .i64 ((rd_T68 l0 x4_1).f0), u122001] 58 (0, 0))) ∧ Aside0 (Below w.heap.size w w'))
          case atStart => exact ⟨(0), (([] : List (S55))), (.slice none 0 0), (by first | rfl | (simp; done) | (simp [*]; done)), H', ⟨Nat.le_refl _⟩, ⟨by (with_reducible repeat (first | apply Kd.S_alloc | apply Kd.S_drewN | apply Kd.S_drew)); exact Kd.S_mono (Kd.S_far (p := ⟨gb121, 1, none⟩) (Kd.S_far (p := ⟨gb121, 0, none⟩) (Kd.S_mono HO_3.out (fun k_ hk => (⟨hk, hk.2⟩ : _ ∧ k_ ≠ gb121))) (fun _ hk => hk.2) (.int .i64 ((rd_T68 l0 x4_1).f0))) (fun _ hk => hk.2) (.slice none 0 0)) (fun _ hk => ⟨(by simp [Value.ownBlock]), hk.1.2⟩)⟩, ⟨by first | exact Kd.R_nil _ _ _ _ _ | exact Kd.N_nil _ _ _ _ _ | exact Kd.V_nil _ _ _ _ _ | exact Kd.Q_nil _ _ _ _ _ | exact Kd.S_nil _ _ _ _ _⟩, ⟨by (with_reducible repeat (first | refine blk_drewN ?_ _ | refine blk_drew ?_ | refine blk_alloc ?_ _)); refine blk_put (cs := #[.int .i64 ((rd_T68 l0 x4_1).f0), .slice none 0 0]) ?_ 1 _ rfl; (with_reducible repeat (first | refine blk_drewN ?_ _ | refine blk_drew ?_ | refine blk_alloc ?_ _)); refine blk_put (cs := #[.int .i64 0, .slice none 0 0]) ?_ 0 _ rfl; (with_reducible repeat (first | refine blk_drewN ?_ _ | refine blk_drew ?_ | refine blk_alloc ?_ _)); exact BK121.out⟩, ⟨by repeat (first | (with_reducible first | exact HB.out | apply below_alloc | apply pw_below_drewN | apply below_drew1 | refine below_set ?_ GE121.out) | exact HB.out)⟩⟩
          case round =>
            clear H'
            try clear c1
            try clear p1
            try clear q1
            try clear hx1
            try clear c2
            try clear c2b0
            try clear p2
            try clear c3
            try clear c3b0
            try clear hcz5_0
            try clear hcz5_1
            try clear hfz5_0
            try clear hfz5_1
            try clear hx120_0
            try clear hx120_1
            try clear p120
            try clear q120
            obtain ⟨x6_2, x122001_2, u122001, rfl, HA, HK2, HO_3, HO_122001, BK121, HB⟩ := hrel
            cases gk with
            | zero => exact absurd HA.out (by simp [haymowlaw06_of.l1])
            | succ k2 =>
              have H := HA.out
              clear HA
              simp only [haymowlaw06_of.l1] at H
              by_cases c6 : 0 ≤ x4_1
              · rw [if_pos c6] at H
                have c6b0 : decide (0 ≤ x4_1) = true := decide_eq_true c6
                clear c6
                by_cases c7 : x4_1 < (l0.length : Int)
                · rw [if_pos c7] at H
                  have c7b0 : decide (x4_1 < (l0.length : Int)) = true := decide_eq_true c7
                  clear c7
                  by_cases c8 : x6_2 < (((rd_T68 l0 x4_1).f1).length : Int)
                  · rw [if_pos c8] at H
                    have c8b0 : decide (x6_2 < (((rd_T68 l0 x4_1).f1).length : Int)) = true := decide_eq_true c8
                    clear c8
                    by_cases c9 : 0 ≤ x6_2
                    · rw [if_pos c9] at H
                      have c9b0 : decide (0 ≤ x6_2) = true := decide_eq_true c9
                      clear c9
                      by_cases c10 : x122001_2.length < 3518437208883
                      · rw [if_pos c10] at H
                        have LMc10 := Aside0.mk c10
                        clear c10
                        obtain ⟨y126, hy126⟩ : ∃ y_ : List (S55), y_ = (x122001_2 ++ [(⟨(rd_T80 ((rd_T68 l0 x4_1).f1) x6_2).f0, (rd_T80 ((rd_T68 l0 x4_1).f1) x6_2).f1, (rd_T80 ((rd_T68 l0 x4_1).f1) x6_2).f2, (rd_T80 ((rd_T68 l0 x4_1).f1) x6_2).f3, (rd_T80 ((rd_T68 l0 x4_1).f1) x6_2).f4⟩ : S55)]) := ⟨_, rfl⟩
                        replace H : (haymowlaw06_of.l1 k2 l0 x3_1 x4_1 (wrap64 (x6_2 + 1)) ((rd_T68 l0 x4_1).f0) y126) = some r := by first | (rw [hy126]; with_reducible exact H) | (have H2_ := (Option.bind_some _ _).symm.trans H; rw [hy126]; with_reducible exact H2_) | (have H2_ := (Option.bind_some _ _).symm.trans H; with_reducible exact H2_) | with_reducible exact H | (rw [hy126]; exact H) | exact H
                        have Ny126 := Aside0.mk hy126
                        clear hy126
                        have H' := Aside0.mk H
                        clear H
                        have p122 : 0 ≤ (x4_1 : Int) := of_decide_eq_true (by first | (with_reducible assumption) | assumption)
                        have q122 : x4_1 < (l0.length : Int) := of_decide_eq_true (by first | (with_reducible assumption) | assumption)
                        obtain ⟨ad122, A122_1, c122_1, e122, hx122_0, hx122_1, hl122_1, hi122_1⟩ := at_T68 HR0.out x4_1 p122 q122
                        obtain rfl : ad120 = ad122 := (by injection e122)
                        replace hx122_0 := (HB.out.cell (World.block_lt_of_cell? w _ hx122_0)).trans hx122_0
                        replace hx122_1 := (HB.out.cell (World.block_lt_of_cell? w _ hx122_1)).trans hx122_1
                        have HR122_1 := Aside0.mk hi122_1
                        have HC122_1 := Aside0.mk hl122_1
                        clear hi122_1 hl122_1
                        replace p122 := eq_true p122
                        replace q122 := eq_true q122
                        have p123 : 0 ≤ (x4_1 : Int) := of_decide_eq_true (by first | (with_reducible assumption) | assumption)
                        have q123 : x4_1 < (l0.length : Int) := of_decide_eq_true (by first | (with_reducible assumption) | assumption)
                        obtain ⟨ad123, A123_1, c123_1, e123, hx123_0, hx123_1, hl123_1, hi123_1⟩ := at_T68 HR0.out x4_1 p123 q123
                        obtain rfl : ad120 = ad123 := (by injection e123)
                        replace hx123_0 := (HB.out.cell (World.block_lt_of_cell? w _ hx123_0)).trans hx123_0
                        replace hx123_1 := (HB.out.cell (World.block_lt_of_cell? w _ hx123_1)).trans hx123_1
                        have HR123_1 := Aside0.mk hi123_1
                        have HC123_1 := Aside0.mk hl123_1
                        clear hi123_1 hl123_1
                        replace p123 := eq_true p123
                        replace q123 := eq_true q123
                        have ea_ := Option.some.inj (hx122_1.symm.trans hx123_1)
                        injection ea_ with ea_ en_ ec_
                        subst ea_
                        subst ec_
                        clear en_
                        have p124 : 0 ≤ (x6_2 : Int) := of_decide_eq_true (by first | (with_reducible assumption) | assumption)
                        have q124 : x6_2 < (((rd_T68 l0 x4_1).f1).length : Int) := of_decide_eq_true (by first | (with_reducible assumption) | assumption)
                        obtain ⟨ad124, e124, hx124_0, hx124_1, hx124_2, hx124_3, hx124_4⟩ := at_T80 HR123_1.out x6_2 p124 q124
                        cases e124
                        replace hx124_0 := (HB.out.cell (World.block_lt_of_cell? w _ hx124_0)).trans hx124_0
                        replace hx124_1 := (HB.out.cell (World.block_lt_of_cell? w _ hx124_1)).trans hx124_1
                        replace hx124_2 := (HB.out.cell (World.block_lt_of_cell? w _ hx124_2)).trans hx124_2
                        replace hx124_3 := (HB.out.cell (World.block_lt_of_cell? w _ hx124_3)).trans hx124_3
                        replace hx124_4 := (HB.out.cell (World.block_lt_of_cell? w _ hx124_4)).trans hx124_4
                        replace p124 := eq_true p124
                        replace q124 := eq_true q124
                        go_wp2_with (first | ((with_reducible refine gate_dst (N := 7) rfl ?_); refine box_event ?hg (N := 7) ?hd (cs := #[.int .i64 0, .int .i64 0, .int .i64 0, .int .i64 0, .int .i64 0]) (t := 80) ?hr ?_; (case hd => rfl); (case hg => rfl); (case hr => first | (go_simp; done) | (go_simp; rfl)); intro gb125 hg w11 hbox hb; have n0_ := Aside0.mk (Kd.S_below (by (with_reducible repeat (first | apply Kd.S_alloc | apply Kd.S_drewN | apply Kd.S_drew)); exact HO_3.out) hb); have n1_ := Aside0.mk (Kd.R_below (by (with_reducible repeat (first | apply Kd.R_alloc | apply Kd.R_drewN | apply Kd.R_drew)); exact HO_122001.out) hb); have n2_ := Aside0.mk (blk_below (g := gb121) (o := .cells #[.int .i64 ((rd_T68 l0 x4_1).f0), u122001] 58 (0, 0)) (by (with_reducible repeat (first | refine blk_drewN ?_ _ | refine blk_drew ?_ | refine blk_alloc ?_ _)); exact BK121.out) hb); have n3_ := Aside0.mk (below_step (by repeat (first | (with_reducible first | exact HB.out | apply below_alloc | apply pw_below_drewN | apply below_drew1 | refine below_set ?_ GE121.out) | exact HB.out)) hb); have n4_ := Aside0.mk (hbox); have n5_ := Aside0.mk ((by rw [hg]; exact (below_size (by repeat (first | (with_reducible first | exact HB.out | apply below_alloc | apply pw_below_drewN | apply below_drew1 | refine below_set ?_ GE121.out) | exact HB.out))) : w.heap.size ≤ gb125)); have n6_ := Aside0.mk ((by rw [hg]; exact (below_size (by repeat (first | (with_reducible first | exact HB.out | apply below_alloc | apply pw_below_drewN | apply below_drew1 | refine below_set ?_ GE121.out) | exact HB.out))) : w.heap.size ≤ gb125)); have n7_ := Aside0.mk ((by rw [hg]; exact Nat.ne_of_lt (blk_lt (g := gb121) (o := .cells #[.int .i64 ((rd_T68 l0 x4_1).f0), u122001] 58 (0, 0)) (by (with_reducible repeat (first | refine blk_drewN ?_ _ | refine blk_drew ?_ | refine blk_alloc ?_ _)); exact BK121.out)) : gb121 ≠ gb125)); have n8_ := Aside0.mk ((by rw [hg]; exact Nat.ne_of_gt (blk_lt (g := gb121) (o := .cells #[.int .i64 ((rd_T68 l0 x4_1).f0), u122001] 58 (0, 0)) (by (with_reducible repeat (first | refine blk_drewN ?_ _ | refine blk_drew ?_ | refine blk_alloc ?_ _)); exact BK121.out)) : gb125 ≠ gb121)); clear HO_3; clear HO_122001; clear BK121; clear HB; have HO_3 := n0_; have HO_122001 := n1_; have BK121 := n2_; have HB := n3_; have BK125 := n4_; have GW125 := n5_; have GE125 := n6_; have NB121_125 := n7_; have NB125_121 := n8_; clear n0_ n1_ n2_ n3_ n4_ n5_ n6_ n7_ n8_; clear hb hbox hg; have hnb12 := NB125_121.out; have hnc12 := NB121_125.out; have hcz13_0 : w11.cell? ⟨gb125, 0, none⟩ = some (.int .i64 0) := (blk_cell BK125.out 0).trans rfl; have hcz13_1 : w11.cell? ⟨gb125, 1, none⟩ = some (.int .i64 0) := (blk_cell BK125.out 1).trans rfl; have hcz13_2 : w11.cell? ⟨gb125, 2, none⟩ = some (.int .i64 0) := (blk_cell BK125.out 2).trans rfl; have hcz13_3 : w11.cell? ⟨gb125, 3, none⟩ = some (.int .i64 0) := (blk_cell BK125.out 3).trans rfl; have hcz13_4 : w11.cell? ⟨gb125, 4, none⟩ = some (.int .i64 0) := (blk_cell BK125.out 4).trans rfl; have hfz13_0 := blk_frozen BK125.out 0; have hfz13_1 := blk_frozen BK125.out 1; have hfz13_2 := blk_frozen BK125.out 2; have hfz13_3 := blk_frozen BK125.out 3; have hfz13_4 := blk_frozen BK125.out 4; have hcz14_0 : w11.cell? ⟨gb121, 0, none⟩ = some (.int .i64 ((rd_T68 l0 x4_1).f0)) := (blk_cell BK121.out 0).trans rfl; have hcz14_1 : w11.cell? ⟨gb121, 1, none⟩ = some (u122001) := (blk_cell BK121.out 1).trans rfl; have hfz14_0 := blk_frozen BK121.out 0; have hfz14_1 := blk_frozen BK121.out 1) | ((with_reducible refine gate_builtin (b := .append) (xs := #[.tmp 39, .tmp 51]) rfl ?_); at_builtin; refine Kd.R_append k55 (w0 := w) w.heap.size rfl (.tmp 39) (.tmp 51) 56 55 (.agg #[(.int .i64 0), (.int .i64 0), (.int .i64 0), (.int .i64 0), (.int .i64 0)]) 40 rfl Try.underlying56 info55 rfl (by decide) (by omega) u122001 x122001_2 (⟨(rd_T80 ((rd_T68 l0 x4_1).f1) x6_2).f0, (rd_T80 ((rd_T68 l0 x4_1).f1) x6_2).f1, (rd_T80 ((rd_T68 l0 x4_1).f1) x6_2).f2, (rd_T80 ((rd_T68 l0 x4_1).f1) x6_2).f3, (rd_T80 ((rd_T68 l0 x4_1).f1) x6_2).f4⟩ : S55) [.int .i64 ((rd_T80 ((rd_T68 l0 x4_1).f1) x6_2).f0), .int .i64 ((rd_T80 ((rd_T68 l0 x4_1).f1) x6_2).f1), .int .i64 ((rd_T80 ((rd_T68 l0 x4_1).f1) x6_2).f2), .int .i64 ((rd_T80 ((rd_T68 l0 x4_1).f1) x6_2).f3), .int .i64 ((rd_T80 ((rd_T68 l0 x4_1).f1) x6_2).f4)] (fun _ => True) (fun _ => False) rfl (by first | (go_simp; done) | (go_simp; rfl)) ?aP (fun _ hk => hk.elim) ?aF ?aO ?aB ?aS ?aL ?_; (case aP => exact k55_mkM _ _ _ (⟨(rd_T80 ((rd_T68 l0 x4_1).f1) x6_2).f0, (rd_T80 ((rd_T68 l0 x4_1).f1) x6_2).f1, (rd_T80 ((rd_T68 l0 x4_1).f1) x6_2).f2, (rd_T80 ((rd_T68 l0 x4_1).f1) x6_2).f3, (rd_T80 ((rd_T68 l0 x4_1).f1) x6_2).f4⟩ : S55)); (case aB => exact (by repeat (first | (with_reducible first | exact HB.out | apply below_alloc | apply pw_below_drewN | apply below_drew1 | refine below_set ?_ GE121.out | refine below_set ?_ GE125.out) | exact HB.out))); (case aF => exact (fun _ _ => trivial)); (case aO => exact (by (with_reducible repeat (first | apply Kd.R_alloc | apply Kd.R_drewN | apply Kd.R_drew)); exact Kd.R_mono (Kd.R_far (p := ⟨gb125, 4, none⟩) (Kd.R_far (p := ⟨gb125, 3, none⟩) (Kd.R_far (p := ⟨gb125, 2, none⟩) (Kd.R_far (p := ⟨gb125, 1, none⟩) (Kd.R_far (p := ⟨gb125, 0, none⟩) (Kd.R_types HO_122001.out BK125.out (by decide)) (fun _ hk => hk.2) (.int .i64 ((rd_T80 ((rd_T68 l0 x4_1).f1) x6_2).f0))) (fun _ hk => hk.2) (.int .i64 ((rd_T80 ((rd_T68 l0 x4_1).f1) x6_2).f1))) (fun _ hk => hk.2) (.int .i64 ((rd_T80 ((rd_T68 l0 x4_1).f1) x6_2).f2))) (fun _ hk => hk.2) (.int .i64 ((rd_T80 ((rd_T68 l0 x4_1).f1) x6_2).f3))) (fun _ hk => hk.2) (.int .i64 ((rd_T80 ((rd_T68 l0 x4_1).f1) x6_2).f4))) (fun _ hk => trivial))); (case aS => exact (below_size (by repeat (first | (with_reducible first | exact HB.out | apply below_alloc | apply pw_below_drewN | apply below_drew1 | refine below_set ?_ GE121.out | refine below_set ?_ GE125.out) | exact HB.out)))); (case aL => have := LMc10.out; omega); intro v127 w15 ho hb hg hat; rw [← Ny126.out] at ho; have n0_ := Aside0.mk (Kd.S_after (ok := (fun k_ => k_ ≠ gb121)) (by (with_reducible repeat (first | apply Kd.S_alloc | apply Kd.S_drewN | apply Kd.S_drew)); exact Kd.S_mono (Kd.S_far (p := ⟨gb125, 4, none⟩) (Kd.S_far (p := ⟨gb125, 3, none⟩) (Kd.S_far (p := ⟨gb125, 2, none⟩) (Kd.S_far (p := ⟨gb125, 1, none⟩) (Kd.S_far (p := ⟨gb125, 0, none⟩) (Kd.S_types HO_3.out BK125.out (by decide)) (fun _ hk => hk.2) (.int .i64 ((rd_T80 ((rd_T68 l0 x4_1).f1) x6_2).f0))) (fun _ hk => hk.2) (.int .i64 ((rd_T80 ((rd_T68 l0 x4_1).f1) x6_2).f1))) (fun _ hk => hk.2) (.int .i64 ((rd_T80 ((rd_T68 l0 x4_1).f1) x6_2).f2))) (fun _ hk => hk.2) (.int .i64 ((rd_T80 ((rd_T68 l0 x4_1).f1) x6_2).f3))) (fun _ hk => hk.2) (.int .i64 ((rd_T80 ((rd_T68 l0 x4_1).f1) x6_2).f4))) (fun _ hk => ⟨hk.1.2, hk.1.1⟩)) hg hat); have n1_ := Aside0.mk (blk_grown (g := gb121) (o := .cells #[.int .i64 ((rd_T68 l0 x4_1).f0), u122001] 58 (0, 0)) (by (with_reducible repeat (first | refine blk_drewN ?_ _ | refine blk_drew ?_ | refine blk_alloc ?_ _)); refine blk_far ?_ NB121_125.out _; (with_reducible repeat (first | refine blk_drewN ?_ _ | refine blk_drew ?_ | refine blk_alloc ?_ _)); refine blk_far ?_ NB121_125.out _; (with_reducible repeat (first | refine blk_drewN ?_ _ | refine blk_drew ?_ | refine blk_alloc ?_ _)); refine blk_far ?_ NB121_125.out _; (with_reducible repeat (first | refine blk_drewN ?_ _ | refine blk_drew ?_ | refine blk_alloc ?_ _)); refine blk_far ?_ NB121_125.out _; (with_reducible repeat (first | refine blk_drewN ?_ _ | refine blk_drew ?_ | refine blk_alloc ?_ _)); refine blk_far ?_ NB121_125.out _; (with_reducible repeat (first | refine blk_drewN ?_ _ | refine blk_drew ?_ | refine blk_alloc ?_ _)); exact BK121.out) hg (Kd.R_ne HO_122001.out BK121.out (by decide))); have n2_ := Aside0.mk (blk_grown (g := gb125) (o := .cells #[.int .i64 ((rd_T80 ((rd_T68 l0 x4_1).f1) x6_2).f0), .int .i64 ((rd_T80 ((rd_T68 l0 x4_1).f1) x6_2).f1), .int .i64 ((rd_T80 ((rd_T68 l0 x4_1).f1) x6_2).f2), .int .i64 ((rd_T80 ((rd_T68 l0 x4_1).f1) x6_2).f3), .int .i64 ((rd_T80 ((rd_T68 l0 x4_1).f1) x6_2).f4)] 80 (0, 0)) (by (with_reducible repeat (first | refine blk_drewN ?_ _ | refine blk_drew ?_ | refine blk_alloc ?_ _)); refine blk_put (cs := #[.int .i64 ((rd_T80 ((rd_T68 l0 x4_1).f1) x6_2).f0), .int .i64 ((rd_T80 ((rd_T68 l0 x4_1).f1) x6_2).f1), .int .i64 ((rd_T80 ((rd_T68 l0 x4_1).f1) x6_2).f2), .int .i64 ((rd_T80 ((rd_T68 l0 x4_1).f1) x6_2).f3), .int .i64 0]) ?_ 4 _ rfl; (with_reducible repeat (first | refine blk_drewN ?_ _ | refine blk_drew ?_ | refine blk_alloc ?_ _)); refine blk_put (cs := #[.int .i64 ((rd_T80 ((rd_T68 l0 x4_1).f1) x6_2).f0), .int .i64 ((rd_T80 ((rd_T68 l0 x4_1).f1) x6_2).f1), .int .i64 ((rd_T80 ((rd_T68 l0 x4_1).f1) x6_2).f2), .int .i64 0, .int .i64 0]) ?_ 3 _ rfl; (with_reducible repeat (first | refine blk_drewN ?_ _ | refine blk_drew ?_ | refine blk_alloc ?_ _)); refine blk_put (cs := #[.int .i64 ((rd_T80 ((rd_T68 l0 x4_1).f1) x6_2).f0), .int .i64 ((rd_T80 ((rd_T68 l0 x4_1).f1) x6_2).f1), .int .i64 0, .int .i64 0, .int .i64 0]) ?_ 2 _ rfl; (with_reducible repeat (first | refine blk_drewN ?_ _ | refine blk_drew ?_ | refine blk_alloc ?_ _)); refine blk_put (cs := #[.int .i64 ((rd_T80 ((rd_T68 l0 x4_1).f1) x6_2).f0), .int .i64 0, .int .i64 0, .int .i64 0, .int .i64 0]) ?_ 1 _ rfl; (with_reducible repeat (first | refine blk_drewN ?_ _ | refine blk_drew ?_ | refine blk_alloc ?_ _)); refine blk_put (cs := #[.int .i64 0, .int .i64 0, .int .i64 0, .int .i64 0, .int .i64 0]) ?_ 0 _ rfl; (with_reducible repeat (first | refine blk_drewN ?_ _ | refine blk_drew ?_ | refine blk_alloc ?_ _)); exact BK125.out) hg (Kd.R_ne HO_122001.out BK125.out (by decide))); have n3_ := Aside0.mk (hb); have n4_ := Aside0.mk (ho); clear HO_3; clear BK121; clear BK125; clear HB; clear HO_122001; have HO_3 := n0_; have BK121 := n1_; have BK125 := n2_; have HB := n3_; have HO128 := n4_; clear n0_ n1_ n2_ n3_ n4_; clear ho hb hg hat; obtain ⟨Ao16, co16, eo16⟩ := Kd.R_slice HO128.out; subst eo16; have hcz17_0 : w15.cell? ⟨gb121, 0, none⟩ = some (.int .i64 ((rd_T68 l0 x4_1).f0)) := (blk_cell BK121.out 0).trans rfl; have hcz17_1 : w15.cell? ⟨gb121, 1, none⟩ = some (u122001) := (blk_cell BK121.out 1).trans rfl; have hfz17_0 := blk_frozen BK121.out 0; have hfz17_1 := blk_frozen BK121.out 1))
                        go_roundg k2
                        case measure => have := HK1.out; have := HK2.out; omega
                        case rel => exact ⟨(wrap64 (x6_2 + 1)), (y126), (.slice Ao16 y126.length co16), (by first | rfl | (simp; done) | (simp [*]; done)), H', ⟨by have := HK1.out; have := HK2.out; omega⟩, ⟨by (with_reducible repeat (first | apply Kd.S_alloc | apply Kd.S_drewN | apply Kd.S_drew)); exact Kd.S_mono (Kd.S_far (p := ⟨gb121, 1, none⟩) (Kd.S_mono HO_3.out (fun k_ hk => (⟨hk, hk.1⟩ : _ ∧ k_ ≠ gb121))) (fun _ hk => hk.2) (.slice Ao16 y126.length co16)) (fun _ hk => ⟨hk.1.2, hk.1.1⟩)⟩, ⟨by (with_reducible repeat (first | apply Kd.R_alloc | apply Kd.R_drewN | apply Kd.R_drew)); exact Kd.R_mono (Kd.R_far (p := ⟨gb121, 1, none⟩) (Kd.R_types HO128.out BK121.out (by decide)) (fun _ hk => hk.2) (.slice Ao16 y126.length co16)) (fun _ hk => trivial)⟩, ⟨by (with_reducible repeat (first | refine blk_drewN ?_ _ | refine blk_drew ?_ | refine blk_alloc ?_ _)); refine blk_put (cs := #[.int .i64 ((rd_T68 l0 x4_1).f0), u122001]) ?_ 1 _ rfl; (with_reducible repeat (first | refine blk_drewN ?_ _ | refine blk_drew ?_ | refine blk_alloc ?_ _)); exact BK121.out⟩, ⟨by repeat (first | (with_reducible first | exact HB.out | apply below_alloc | apply pw_below_drewN | apply below_drew1 | refine below_set ?_ GE121.out | refine below_set ?_ GE125.out) | exact HB.out)⟩⟩
                      · rw [if_neg c10] at H
                        exact absurd H (by simp)
                    · rw [if_neg c9] at H
                      exact absurd H (by simp)
                  · rw [if_neg c8] at H
                    have c8b0 : decide (x6_2 < (((rd_T68 l0 x4_1).f1).length : Int)) = false := decide_eq_false c8
                    clear c8
                    by_cases c18 : x3_1.length < 4398046511104
                    · rw [if_pos c18] at H
                      have LMc18 := Aside0.mk c18
                      clear c18
                      obtain ⟨y129, hy129⟩ : ∃ y_ : List (S58), y_ = (x3_1 ++ [(⟨((rd_T68 l0 x4_1).f0), x122001_2⟩ : S58)]) := ⟨_, rfl⟩
                      replace H : (haymowlaw06_of.l0 k2 l0 y129 (wrap64 (x4_1 + 1))) = some r := by first | (rw [hy129]; with_reducible exact H) | (have H2_ := (Option.bind_some _ _).symm.trans H; rw [hy129]; with_reducible exact H2_) | (have H2_ := (Option.bind_some _ _).symm.trans H; with_reducible exact H2_) | with_reducible exact H | (rw [hy129]; exact H) | exact H
                      have Ny129 := Aside0.mk hy129
                      clear hy129
                      have H' := Aside0.mk H
                      clear H
                      have p122 : 0 ≤ (x4_1 : Int) := of_decide_eq_true (by first | (with_reducible assumption) | assumption)
                      have q122 : x4_1 < (l0.length : Int) := of_decide_eq_true (by first | (with_reducible assumption) | assumption)
                      obtain ⟨ad122, A122_1, c122_1, e122, hx122_0, hx122_1, hl122_1, hi122_1⟩ := at_T68 HR0.out x4_1 p122 q122
                      obtain rfl : ad120 = ad122 := (by injection e122)
                      replace hx122_0 := (HB.out.cell (World.block_lt_of_cell? w _ hx122_0)).trans hx122_0
                      replace hx122_1 := (HB.out.cell (World.block_lt_of_cell? w _ hx122_1)).trans hx122_1
                      have HR122_1 := Aside0.mk hi122_1
                      have HC122_1 := Aside0.mk hl122_1
                      clear hi122_1 hl122_1
                      replace p122 := eq_true p122
                      replace q122 := eq_true q122
                      have hcz19_0 : wr.cell? ⟨gb121, 0, none⟩ = some (.int .i64 ((rd_T68 l0 x4_1).f0)) := (blk_cell BK121.out 0).trans rfl
                      have hcz19_1 : wr.cell? ⟨gb121, 1, none⟩ = some (u122001) := (blk_cell BK121.out 1).trans rfl
                      have hfz19_0 := blk_frozen BK121.out 0
                      have hfz19_1 := blk_frozen BK121.out 1
                      obtain ⟨Ao21, co21, eo21⟩ := Kd.R_slice HO_122001.out
                      subst eo21
                      go_wp2_with (first | ((with_reducible refine gate_builtin (b := .append) (xs := #[.tmp 54, .tmp 56]) rfl ?_); at_builtin; refine Kd.S_append k58 (w0 := w) w.heap.size rfl (.tmp 54) (.tmp 56) 34 58 (.agg #[(.int .i64 0), (.slice none 0 0)]) 32 rfl Try.underlying34 info58 rfl (by decide) (by omega) u3 x3_1 (⟨((rd_T68 l0 x4_1).f0), x122001_2⟩ : S58) [.int .i64 ((rd_T68 l0 x4_1).f0), .slice Ao21 x122001_2.length co21] (fun k_ => k_ ≠ gb121) (fun k_ => some k_ = (.slice Ao21 x122001_2.length co21 : Value).ownBlock) rfl rfl ?aP (fun k_ hk_ => ((Kd.R_mono (ok' := fun k_ => ((fun k_ => k_ ≠ gb121)) k_ ∧ some k_ ≠ (u3 : Value).ownBlock) (Kd.R_types (Kd.R_apart' (HO_122001.out) (Kd.S_typed HO_3.out) (by decide)) BK121.out (by decide)) (fun k_ hk => ⟨hk.2, hk.1.2⟩))).1 k_ hk_.symm) ?aF ?aO ?aB ?aS ?aL ?_; (case aP => exact k58_mkM _ _ _ (⟨((rd_T68 l0 x4_1).f0), x122001_2⟩ : S58) (Kd.R_mono (Kd.R_tight rfl (Kd.R_mono (ok' := fun k_ => ((fun k_ => k_ ≠ gb121)) k_ ∧ some k_ ≠ (u3 : Value).ownBlock) (Kd.R_types (Kd.R_apart' (HO_122001.out) (Kd.S_typed HO_3.out) (by decide)) BK121.out (by decide)) (fun k_ hk => ⟨hk.2, hk.1.2⟩))) (fun _ h_ => h_))); (case aB => exact (by repeat (first | (with_reducible first | exact HB.out | apply below_alloc | apply pw_below_drewN | apply below_drew1 | refine below_set ?_ GE121.out) | exact HB.out))); (case aF => exact (fun k_ hk => Kd.freshB (g := gb121) (o := .cells #[.int .i64 ((rd_T68 l0 x4_1).f0), .slice Ao21 x122001_2.length co21] 58 (0, 0)) (by (with_reducible repeat (first | refine blk_drewN ?_ _ | refine blk_drew ?_ | refine blk_alloc ?_ _)); exact BK121.out) k_ hk)); (case aO => exact (by (with_reducible repeat (first | apply Kd.S_alloc | apply Kd.S_drewN | apply Kd.S_drew)); exact Kd.S_mono HO_3.out (fun k_ hk => ⟨hk.2, fun e_ => hk.1 e_⟩))); (case aS => exact (below_size (by repeat (first | (with_reducible first | exact HB.out | apply below_alloc | apply pw_below_drewN | apply below_drew1 | refine below_set ?_ GE121.out) | exact HB.out)))); (case aL => have := LMc18.out; omega); intro v130 w20 ho hb hg hat; rw [← Ny129.out] at ho; have n0_ := Aside0.mk (blk_grown (g := gb121) (o := .cells #[.int .i64 ((rd_T68 l0 x4_1).f0), .slice Ao21 x122001_2.length co21] 58 (0, 0)) (by (with_reducible repeat (first | refine blk_drewN ?_ _ | refine blk_drew ?_ | refine blk_alloc ?_ _)); exact BK121.out) hg (Kd.S_away HO_3.out (fun _ hk => hk.2))); have n1_ := Aside0.mk (hb); have n2_ := Aside0.mk (ho); clear BK121; clear HB; clear HO_3; clear HO_122001; have BK121 := n0_; have HB := n1_; have HO131 := n2_; clear n0_ n1_ n2_; clear ho hb hg hat))
                      go_roundg k2
                      case measure => have := HK1.out; have := HK2.out; omega
                      case rel => exact ⟨(y129), (wrap64 (x4_1 + 1)), (by first | rfl | (simp; done) | (simp [*]; done)), H', ⟨by have := HK1.out; have := HK2.out; omega⟩, ⟨by (with_reducible repeat (first | apply Kd.S_alloc | apply Kd.S_drewN | apply Kd.S_drew)); exact Kd.S_mono HO131.out (fun _ hk => trivial)⟩, ⟨by repeat (first | (with_reducible first | exact HB.out | apply below_alloc | apply pw_below_drewN | apply below_drew1 | refine below_set ?_ GE121.out) | exact HB.out)⟩⟩
                    · rw [if_neg c18] at H
                      exact absurd H (by simp)
                · rw [if_neg c7] at H
                  exact absurd H (by simp)
              · rw [if_neg c6] at H
                exact absurd H (by simp)
        · rw [if_neg c3] at H
          exact absurd H (by simp)
      · rw [if_neg c2] at H
        have c2b0 : decide (x4_1 < (l0.length : Int)) = false := decide_eq_false c2
        clear c2
        obtain rfl := Option.some.inj H
        go_wp2
        go_ret
        exact ⟨_, by first | rfl | (simp [errW_none, errW_some] <;> rfl) | (simp [*, errW_none, errW_some] <;> rfl), by (with_reducible repeat (first | apply Kd.S_alloc | apply Kd.S_drewN | apply Kd.S_drew)); exact HO_3.out, by repeat (first | (with_reducible first | exact HB.out | apply below_alloc | apply pw_below_drewN | apply below_drew1) | exact HB.out)⟩

end Go.Proofs.Ytnhipdniceoigaa.H

namespace Go.Proofs.Ytnhipdniceoigaa.H
open Go.RowKit Go.Proofs.YtnhipdniceoigaaW.PrintWords Go.Proofs.YtnhipdniceoigaaW.PrintLast Go.Proofs.YtnhipdniceoigaaW.PrintMore
set_option linter.unusedVariables false
set_option linter.unusedSimpArgs false

theorem wrap_id {x : Int} (h0 : -9223372036854775808 ≤ x) (h1 : x < 9223372036854775808) : wrap64 x = x := by unfold wrap64; omega
theorem rd50 {l : List S68} {i : Nat} (h : i < l.length) : rd_T68 l (i : Int) = l[i] := by simp [rd_T68, h]
theorem rd58 {l : List S80} {i : Nat} (h : i < l.length) : rd_T80 l (i : Int) = l[i] := by simp [rd_T80, h]
theorem drop_cons {α : Type} {l : List α} {i : Nat} (h : i < l.length) : l.drop i = l[i] :: l.drop (i + 1) := List.drop_eq_getElem_cons h

def ofI (x : S80) : S55 := ⟨x.f0, x.f1, x.f2, x.f3, x.f4⟩
def ofF (f : S68) : S58 := ⟨f.f0, f.f1.map ofI⟩

theorem light_loop (l : List S68) (hl : l.length ≤ 20) : ∀ (d i : Nat), l.length - i = d → i ≤ l.length → ∃ b, Ev (fun k => haymowlaw06_light.l0 k l i) b ∧ (b = true → ∀ f ∈ l.drop i, f.f1.length ≤ 70)
  | 0, i, hd, hi => by
    obtain rfl : i = l.length := by omega
    refine ⟨true, Ev.step (f := fun _ => some true) (fun k => ?_) (Ev.now _), by simp⟩
    simp [haymowlaw06_light.l0]
  | d + 1, i, hd, hi => by
    have hlt : i < l.length := by omega
    by_cases hb : l[i].f1.length > 70
    · refine ⟨false, Ev.step (f := fun _ => some false) (fun k => ?_) (Ev.now _), by simp⟩
      simp only [haymowlaw06_light.l0, rd50 hlt]
      rw [if_pos (by omega), if_pos (by omega), if_pos (by omega)]
    · obtain ⟨b, h1, h2⟩ := light_loop l hl d (i + 1) (by omega) (by omega)
      refine ⟨b, Ev.step (fun k => ?_) h1, fun e f hf => ?_⟩
      · simp only [haymowlaw06_light.l0, rd50 hlt]
        rw [if_pos (by omega), if_pos (by omega), if_neg (by omega), wrap_id (x := (i : Int) + 1) (by omega) (by omega)]
        rfl
      · rw [drop_cons hlt] at hf
        rcases List.mem_cons.1 hf with rfl | hf
        · omega
        · exact h2 e f hf
theorem light_ev (l : List S68) : ∃ b, Ev (fun k => haymowlaw06_light.f k l) b ∧ (b = true → l.length ≤ 20 ∧ ∀ f ∈ l, f.f1.length ≤ 70) := by
  by_cases hl : (l.length : Int) > 20
  · exact ⟨false, Ev.congr (fun k => by unfold haymowlaw06_light.f; rw [if_pos hl]) (Ev.now _), by simp⟩
  · obtain ⟨b, h1, h2⟩ := light_loop l (by omega) l.length 0 (by omega) (by omega)
    refine ⟨b, Ev.congr (fun k => by unfold haymowlaw06_light.f; rw [if_neg hl]; rfl) h1, fun e => ⟨by omega, fun f hf => h2 e f (by simpa using hf)⟩⟩

theorem of_inner (l : List S68) (acc : List S58) (i : Nat) (hi : i < l.length) (hf : l[i].f1.length ≤ 300) (c : Int) (r : List S58)
    (hnext : ∀ cs, cs = l[i].f1.map ofI → Ev (fun k => haymowlaw06_of.l0 k l (acc ++ [⟨c, cs⟩]) ((i : Int) + 1)) r) (ha : acc.length < 4398046511104) (hil : l.length < 9223372036854775807) :
    ∀ (d j : Nat) (cs : List S55), l[i].f1.length - j = d → j ≤ l[i].f1.length → cs = (l[i].f1.take j).map ofI → Ev (fun k => haymowlaw06_of.l1 k l acc i j c cs) r
  | 0, j, cs, hd, hj, hcs => by
    obtain rfl : j = l[i].f1.length := by omega
    rw [List.take_length] at hcs
    refine Ev.step (fun k => ?_) (hnext cs hcs)
    simp only [haymowlaw06_of.l1, rd50 hi]
    rw [if_pos (by omega), if_pos (by omega), if_neg (by omega), if_pos ha, wrap_id (x := (i : Int) + 1) (by omega) (by omega)]
  | d + 1, j, cs, hd, hj, hcs => by
    have hlt : j < l[i].f1.length := by omega
    refine Ev.step (fun k => ?_) (of_inner l acc i hi hf c r hnext ha hil d (j + 1) (cs ++ [ofI l[i].f1[j]]) (by omega) (by omega) (by rw [hcs, List.take_succ_eq_append_getElem hlt, List.map_append]; rfl))
    have hc : cs.length = j := by rw [hcs]; simp; omega
    simp only [haymowlaw06_of.l1, rd50 hi, rd58 hlt]
    rw [if_pos (by omega), if_pos (by omega), if_pos (by omega), if_pos (by omega), if_pos (by omega), wrap_id (x := (j : Int) + 1) (by omega) (by omega)]
    rfl
theorem of_loop (l : List S68) (hl : l.length ≤ 300) (hf : ∀ f ∈ l, f.f1.length ≤ 300) : ∀ (d i : Nat) (acc : List S58), l.length - i = d → i ≤ l.length → acc = (l.take i).map ofF → Ev (fun k => haymowlaw06_of.l0 k l acc i) (l.map ofF)
  | 0, i, acc, hd, hi, ha => by
    obtain rfl : i = l.length := by omega
    rw [List.take_length] at ha
    subst ha
    refine Ev.step (f := fun _ => some (l.map ofF)) (fun k => ?_) (Ev.now _)
    simp [haymowlaw06_of.l0]
  | d + 1, i, acc, hd, hi, ha => by
    have hlt : i < l.length := by omega
    have hal : acc.length = i := by rw [ha]; simp; omega
    refine Ev.step (fun k => ?_) (of_inner l acc i hlt (hf _ (List.getElem_mem hlt)) l[i].f0 (l.map ofF) (fun cs hcs => ?_) (by omega) (by omega) _ 0 [] rfl (by omega) (by simp))
    · simp only [haymowlaw06_of.l0, rd50 hlt]
      rw [if_pos (by omega), if_pos (by omega)]
      rfl
    · have := of_loop l hl hf d (i + 1) (acc ++ [⟨l[i].f0, cs⟩]) (by omega) (by omega) (by rw [ha, hcs, List.take_succ_eq_append_getElem hlt, List.map_append]; rfl)
      simpa using this
theorem of_ev (l : List S68) (hl : l.length ≤ 300) (hf : ∀ f ∈ l, f.f1.length ≤ 300) : Ev (fun k => haymowlaw06_of.f k l) (l.map ofF) := by
  have := of_loop l hl hf l.length 0 [] (by omega) (by omega) (by simp)
  exact this

end Go.Proofs.Ytnhipdniceoigaa.H

set_option linter.unusedVariables false
set_option linter.unusedSimpArgs false
namespace Go.Proofs.Ytnhipdniceoigaa.H
open Go.RowKit Go.Hay Go.Proofs.YtnhipdniceoigaaW.PrintWords Go.Proofs.YtnhipdniceoigaaW.PrintLast Go.Proofs.YtnhipdniceoigaaW.PrintMore
end Go.Proofs.Ytnhipdniceoigaa.H

set_option linter.unusedVariables false
set_option linter.unusedSimpArgs false
namespace Go.Proofs.Ytnhipdniceoigaa.H
open Go.RowKit Go.Hay Go.Proofs.YtnhipdniceoigaaW.PrintWords Go.Proofs.YtnhipdniceoigaaW.PrintLast Go.Proofs.YtnhipdniceoigaaW.PrintMore
/-- a path ahead of another one. -/
def ltP : List Int → List Int → Prop
  | _, [] => False
  | [], _ :: _ => True
  | a :: x, b :: y => a < b ∨ (a = b ∧ ltP x y)
theorem ltP_ext (p : List Int) (c : Int) (r : List Int) : ltP p (p ++ c :: r) := by
  induction p with
  | nil => exact trivial
  | cons a p ih => exact .inr ⟨rfl, ih⟩
theorem ltP_fork (p : List Int) {a b : Int} (h : a < b) (r s : List Int) : ltP (p ++ a :: r) (p ++ b :: s) := by
  induction p with
  | nil => exact .inl h
  | cons c p ih => exact .inr ⟨rfl, ih⟩
def Ext (p : List Int) (i : Nat) (q : List Int) : Prop := ∃ (j : Nat) (r : List Int), i ≤ j ∧ q = p ++ (j : Int) :: r
def tot : List (List Int × Int) → Int
  | [] => 0
  | e :: r => e.2 + tot r
theorem tot_app (x y : List (List Int × Int)) : tot (x ++ y) = tot x + tot y := by
  induction x with
  | nil => simp [tot]
  | cons e r ih => simp only [List.cons_append, tot, ih]; omega
/-- what is noted behind a task's run: its own number turned, others' behind it. -/
structure Ran (b d : Int) (me : Nat) (path : List Int) (i : Nat) (G G' : Gs) (s : Int) (add : List (List Int × Int)) : Prop where
  log : G'.log = G.log.set me ((G.log.getD me ([], 0)).1, s) ++ add
  sb : s ≤ b
  s0 : (G.log.getD me ([], 0)).2 ≤ s
  ext : ∀ e ∈ add, Ext path i e.1 ∧ (e.1.length : Int) ≤ d ∧ e.2 ≤ b ∧ 0 ≤ e.2
  up : add.Pairwise (fun x y => ltP x.1 y.1)
  sum : (G'.left : Int) + s + tot add = G.left + (G.log.getD me ([], 0)).2
def RanP (b d : Int) (me : Nat) (path : List Int) (i : Nat) (G G' : Gs) : Prop := ∃ s add, Ran b d me path i G G' s add
section
variable {b d : Int} {me i : Nat} {path : List Int} {G G' : Gs}
theorem Ran.refl (hme : me < G.log.length) (hb : (G.log.getD me ([], 0)).2 ≤ b) : RanP b d me path i G G := by
  refine ⟨(G.log.getD me ([], 0)).2, [], ?_, hb, Int.le_refl _, fun e he => (by cases he), List.Pairwise.nil, by simp [tot]⟩
  have e : G.log.getD me ([], 0) = G.log[me] := by rw [List.getD_eq_getElem?_getD, List.getElem?_eq_getElem hme]; rfl
  rw [e, List.append_nil]
  exact (List.set_getElem_self hme).symm
theorem bump_getD (log : List (List Int × Int)) (hme : me < log.length) : (bump log me).getD me ([], 0) = ((log.getD me ([], 0)).1, (log.getD me ([], 0)).2 + 1) := by
  rw [List.getD_eq_getElem?_getD, bump, List.getElem?_set_self hme]
  rfl
theorem bump_set (log : List (List Int × Int)) (hme : me < log.length) (s : Int) : (bump log me).set me (((bump log me).getD me ([], 0)).1, s) = log.set me ((log.getD me ([], 0)).1, s) := by
  rw [bump_getD log hme, bump, List.set_set]
theorem Ran.bump {told : List Int} (hme : me < G.log.length) (hl : G.left ≠ 0) (h : RanP b d me path i ⟨G.left - 1, told, Proofs.Ytnhipdniceoigaa.H.bump G.log me⟩ G') : RanP b d me path i G G' := by
  obtain ⟨s, add, h1, h2, h3, h4, h5, h6⟩ := h
  rw [bump_set G.log hme] at h1
  simp only [bump_getD G.log hme] at h3 h6
  refine ⟨s, add, h1, h2, by omega, h4, h5, ?_⟩
  have e : ((G.left - 1 : Nat) : Int) = (G.left : Int) - 1 := by omega
  rw [e] at h6
  omega
/-- a kid's run stands behind. -/
theorem Ran.kid {G1 : Gs} {told : List Int} {left : Nat} (hme : me < G.log.length) (hb : (G.log.getD me ([], 0)).2 ≤ b) (hd : (path.length : Int) + 1 ≤ d) (h1 : RanP b d G.log.length (path ++ [(i : Int)]) 0 ⟨G.left, told, G.log ++ [(path ++ [(i : Int)], 0)]⟩ G1) :
    RanP b d me path i G G1 ∧ me < G1.log.length ∧ (G1.log.getD me ([], 0)).2 ≤ b ∧ (∀ G', RanP b d me path (i + 1) G1 G' → RanP b d me path i G G') := by
  obtain ⟨s, add, a1, a2, a3, a4, a5, a6⟩ := h1
  have hg : (G.log ++ [(path ++ [(i : Int)], (0 : Int))]).getD G.log.length ([], 0) = (path ++ [(i : Int)], 0) := by
    rw [List.getD_eq_getElem?_getD, List.getElem?_append_right (Nat.le_refl _)]; simp
  simp only [hg] at a1 a3 a6
  have hlog : G1.log = G.log ++ (path ++ [(i : Int)], s) :: add := by
    rw [a1, List.set_append_right _ _ (Nat.le_refl _)]
    simp
  have hgm : G1.log.getD me ([], 0) = G.log.getD me ([], 0) := by
    rw [hlog, List.getD_eq_getElem?_getD, List.getElem?_append_left hme, List.getD_eq_getElem?_getD]
  have hself : G.log.set me ((G.log.getD me ([], 0)).1, (G.log.getD me ([], 0)).2) = G.log := by
    have e : G.log.getD me ([], 0) = G.log[me] := by rw [List.getD_eq_getElem?_getD, List.getElem?_eq_getElem hme]; rfl
    rw [e]
    exact List.set_getElem_self hme
  have hext : ∀ e ∈ ((path ++ [(i : Int)], s) :: add), (∃ r, e.1 = path ++ (i : Int) :: r) ∧ (e.1.length : Int) ≤ d ∧ e.2 ≤ b ∧ 0 ≤ e.2 := by
    intro e he
    rcases List.mem_cons.1 he with rfl | he
    · refine ⟨⟨[], rfl⟩, ?_, a2, a3⟩
      show ((path ++ [(i : Int)]).length : Int) ≤ d
      rw [List.length_append, List.length_singleton]; omega
    · obtain ⟨⟨j', r, _, e1⟩, h7⟩ := a4 e he
      exact ⟨⟨(j' : Int) :: r, by rw [e1]; simp⟩, h7⟩
  have hup : ((path ++ [(i : Int)], s) :: add).Pairwise (fun x y => ltP x.1 y.1) := by
    refine List.pairwise_cons.2 ⟨fun e he => ?_, a5⟩
    obtain ⟨⟨j', r, _, e1⟩, _⟩ := a4 e he
    rw [e1]
    exact ltP_ext _ _ _
  refine ⟨⟨(G.log.getD me ([], 0)).2, (path ++ [(i : Int)], s) :: add, by rw [hself]; exact hlog, hb, Int.le_refl _, fun e he => ?_, hup, ?_⟩, ?_, by rw [hgm]; exact hb, fun G' h2 => ?_⟩
  · obtain ⟨⟨r, e1⟩, h7⟩ := hext e he
    exact ⟨⟨i, r, Nat.le_refl _, e1⟩, h7⟩
  · show (G1.left : Int) + (G.log.getD me ([], 0)).2 + (s + tot add) = _
    omega
  · rw [hlog, List.length_append]; omega
  · obtain ⟨s2, add2, b1, b2, b3, b4, b5, b6⟩ := h2
    rw [hgm] at b1 b3 b6
    rw [hlog, List.set_append_left _ _ hme] at b1
    refine ⟨s2, ((path ++ [(i : Int)], s) :: add) ++ add2, by rw [b1, List.append_assoc], b2, b3, fun e he => ?_, List.pairwise_append.2 ⟨hup, b5, fun x hx y hy => ?_⟩, ?_⟩
    · rcases List.mem_append.1 he with he | he
      · obtain ⟨⟨r, e1⟩, h7⟩ := hext e he
        exact ⟨⟨i, r, Nat.le_refl _, e1⟩, h7⟩
      · obtain ⟨⟨j', r, hj, e1⟩, h7⟩ := b4 e he
        exact ⟨⟨j', r, by omega, e1⟩, h7⟩
    · obtain ⟨⟨r, e1⟩, _⟩ := hext x hx
      obtain ⟨⟨j', r', hj, e2⟩, _⟩ := b4 y hy
      rw [e1, e2]
      exact ltP_fork path (by omega) _ _
    · rw [tot_app]
      show (G'.left : Int) + s2 + (s + tot add + tot add2) = _
      omega
end
def kidSR (x : S55) (T : Ts) (G2 : Gs) : Out → SR
  | .val v => .go (goOn x T v) G2
  | .fail w => .stop (.fail w) G2
  | .long => .stop .long G2
theorem step_kid {l : List S58} {b d : Int} {k : Nat} {path : List Int} {x : S55} {T : Ts} {G G2 : Gs} {o : Out} (h3 : x.f0 = 11 ∨ x.f0 = 13) (h4 : (path.length : Int) ≠ d)
    (hq : runP l b d k { G with log := G.log ++ [(path ++ [(T.kids : Int)], 0)] } (path ++ [(T.kids : Int)]) (rd_T58 l x.f3).f1 G.log.length (newTask (argsOf l x T) T.hands) = (o, G2)) :
    stepP l d (runP l b d k) path x T G = kidSR x T G2 o := by
  unfold stepP
  rw [if_pos h3, if_neg h4, hq]
  cases o <;> rfl
theorem simple_kids {x : S55} {T T' : Ts} (h : simple x T = .go T') : T'.kids = T.kids := by
  unfold simple at h
  by_cases e1 : x.f0 = 1
  · rw [if_pos e1] at h
    cases h; rfl
  rw [if_neg e1] at h
  by_cases e2 : x.f0 = 2
  · rw [if_pos e2] at h
    cases h; rfl
  rw [if_neg e2] at h
  by_cases e3 : x.f0 = 3
  · rw [if_pos e3] at h
    cases h; rfl
  rw [if_neg e3] at h
  by_cases e4 : x.f0 = 4
  · rw [if_pos e4] at h
    cases h; rfl
  rw [if_neg e4] at h
  by_cases e5 : x.f0 = 5
  · rw [if_pos e5] at h
    cases h; rfl
  rw [if_neg e5] at h
  by_cases e6 : x.f0 = 6
  · rw [if_pos e6] at h
    by_cases z : rg T x.f3 = 0
    · rw [if_pos z] at h; cases h
    · rw [if_neg z] at h; cases h; rfl
  rw [if_neg e6] at h
  by_cases e7 : x.f0 = 7
  · rw [if_pos e7] at h
    cases h; rfl
  rw [if_neg e7] at h
  by_cases e8 : x.f0 = 8
  · rw [if_pos e8] at h
    cases h; rfl
  rw [if_neg e8] at h
  by_cases e9 : x.f0 = 9
  · rw [if_pos e9] at h
    cases h; rfl
  rw [if_neg e9] at h
  by_cases e10 : x.f0 = 10
  · rw [if_pos e10] at h
    injection h with h; subst h; (split <;> rfl)
  rw [if_neg e10] at h
  by_cases e12 : x.f0 = 12
  · rw [if_pos e12] at h
    cases h; rfl
  rw [if_neg e12] at h
  by_cases e14 : x.f0 = 14
  · rw [if_pos e14] at h
    by_cases z : (hd T x.f2).1 = true
    · rw [if_pos z] at h; cases h; rfl
    · rw [if_neg z] at h; cases h
  rw [if_neg e14] at h
  cases h
/-- every run keeps the book. -/
theorem run_ran (l : List S58) (b d : Int) (hb0 : 0 ≤ b) : ∀ (k : Nat) (G : Gs) (path : List Int) (code : List S55) (me : Nat) (T : Ts), me < G.log.length → (G.log.getD me ([], 0)).2 ≤ b → (path.length : Int) ≤ d → RanP b d me path T.kids G (runP l b d k G path code me T).2 := by
  intro k
  induction k with
  | zero => intro G path code me T hme hb hd; exact Ran.refl hme hb
  | succ k ih =>
    intro G path code me T hme hb hd
    rw [runP.eq_2]
    by_cases h1 : (G.log.getD me ([], 0)).2 = b
    · rw [if_pos h1]; exact Ran.refl hme hb
    rw [if_neg h1]
    by_cases h2 : G.left = 0
    · rw [if_pos h2]; exact Ran.refl hme hb
    rw [if_neg h2]
    have hme' : me < (bump G.log me).length := by rw [bump_len]; exact hme
    have hb' : ((bump G.log me).getD me ([], 0)).2 ≤ b := by rw [bump_getD G.log hme]; show _ + 1 ≤ b; omega
    split
    · exact Ran.bump (told := G.told) hme h2 (Ran.refl hme' hb')
    · obtain ⟨x, hx⟩ : ∃ x, x = rd_T55 code T.at_ := ⟨_, rfl⟩
      rw [← hx]
      by_cases h3 : x.f0 = 11 ∨ x.f0 = 13
      · by_cases h4 : (path.length : Int) = d
        · unfold stepP
          rw [if_pos h3, if_pos h4]
          exact Ran.bump (told := G.told) hme h2 (Ran.refl hme' hb')
        have hk := Ran.kid (G := ⟨G.left - 1, G.told, bump G.log me⟩) (i := T.kids) (told := G.told) (left := G.left - 1) hme' hb' (by omega) (ih ⟨G.left - 1, G.told, bump G.log me ++ [(path ++ [(T.kids : Int)], 0)]⟩ (path ++ [(T.kids : Int)]) (rd_T58 l x.f3).f1 (bump G.log me).length (newTask (argsOf l x { T with at_ := T.at_ + 1 }) T.hands) (by simp) (by
          rw [List.getD_eq_getElem?_getD, List.getElem?_append_right (Nat.le_refl _)]; simpa using hb0) (by rw [List.length_append, List.length_singleton]; omega))
        generalize hq : runP l b d k ⟨G.left - 1, G.told, bump G.log me ++ [(path ++ [(T.kids : Int)], 0)]⟩ (path ++ [(T.kids : Int)]) (rd_T58 l x.f3).f1 (bump G.log me).length (newTask (argsOf l x { T with at_ := T.at_ + 1 }) T.hands) = q at hk
        obtain ⟨o, G2⟩ := q
        obtain ⟨k1, k2, k3, k4⟩ := hk
        rw [step_kid (T := { T with at_ := T.at_ + 1 }) (G := ⟨G.left - 1, G.told, bump G.log me⟩) h3 h4 hq]
        cases o with
        | val v =>
          have e : (goOn x { T with at_ := T.at_ + 1 } v).kids = T.kids + 1 := by unfold goOn; split <;> rfl
          have := ih G2 path code me (goOn x { T with at_ := T.at_ + 1 } v) k2 k3 hd
          rw [e] at this
          exact Ran.bump (told := G.told) hme h2 (k4 _ this)
        | fail why => exact Ran.bump (told := G.told) hme h2 k1
        | long => exact Ran.bump (told := G.told) hme h2 k1
      · unfold stepP
        rw [if_neg h3]
        by_cases h4 : x.f0 = 15
        · rw [if_pos h4]
          exact Ran.bump hme h2 (ih ⟨G.left - 1, G.told ++ [rg { T with at_ := T.at_ + 1 } x.f1], bump G.log me⟩ path code me { T with at_ := T.at_ + 1 } hme' hb' hd)
        rw [if_neg h4]
        cases hs : simple x { T with at_ := T.at_ + 1 } with
        | go T' =>
          have e := simple_kids hs
          have := ih ⟨G.left - 1, G.told, bump G.log me⟩ path code me T' hme' hb' hd
          rw [e] at this
          exact Ran.bump (told := G.told) hme h2 this
        | stop why => exact Ran.bump (told := G.told) hme h2 (Ran.refl hme' hb')
/-! ### how many instructions are needed -/
/-- a run that ends uses so many instructions; with more it is the same, with less it is too long. -/
def Uses (l : List S58) (b d : Int) (G : Gs) (path : List Int) (code : List S55) (me : Nat) (T : Ts) (o : Out) (G' : Gs) (u : Nat) : Prop :=
  G.left = G'.left + u ∧ (∀ k L, u < k → runP l b d k { G with left := L + u } path code me T = (o, { G' with left := L })) ∧ (∀ k L, L < u → L < k → (runP l b d k { G with left := L } path code me T).1 = .long)
theorem uses_now {l : List S58} {b d : Int} {G : Gs} {path : List Int} {code : List S55} {me : Nat} {T : Ts} (h1 : (G.log.getD me ([], 0)).2 = b) : Uses l b d G path code me T (.fail 3) G 0 := by
  refine ⟨rfl, fun k L hk => ?_, fun k L h => absurd h (Nat.not_lt_zero _)⟩
  obtain ⟨k, rfl⟩ : ∃ j, k = j + 1 := ⟨k - 1, by omega⟩
  rw [runP.eq_2]
  exact if_pos h1
theorem uses_step {l : List S58} {b d : Int} {G G' : Gs} {path : List Int} {code : List S55} {me : Nat} {T : Ts} {o : Out} {u : Nat} (h1 : (G.log.getD me ([], 0)).2 ≠ b) (h2 : G.left ≠ 0)
    (hu : G.left - 1 = G'.left + u)
    (hgo : ∀ k L, u < k → (if (rd_T55 code T.at_).f0 = 17 then (.val (rg (syncP { T with at_ := T.at_ + 1 }) (rd_T55 code T.at_).f1), { G with left := L + u, log := bump G.log me })
      else match stepP l d (runP l b d k) path (rd_T55 code T.at_) { T with at_ := T.at_ + 1 } { G with left := L + u, log := bump G.log me } with
        | .go T' G' => runP l b d k G' path code me T'
        | .stop o G' => (o, G')) = (o, { G' with left := L }))
    (hlo : ∀ k L, L < u → L < k → ((if (rd_T55 code T.at_).f0 = 17 then (.val (rg (syncP { T with at_ := T.at_ + 1 }) (rd_T55 code T.at_).f1), { G with left := L, log := bump G.log me })
      else match stepP l d (runP l b d k) path (rd_T55 code T.at_) { T with at_ := T.at_ + 1 } { G with left := L, log := bump G.log me } with
        | .go T' G' => runP l b d k G' path code me T'
        | .stop o G' => (o, G') : Out × Gs)).1 = .long) : Uses l b d G path code me T o G' (u + 1) := by
  refine ⟨by omega, fun k L hk => ?_, fun k L h hk => ?_⟩
  · obtain ⟨k, rfl⟩ : ∃ j, k = j + 1 := ⟨k - 1, by omega⟩
    rw [runP.eq_2, if_neg h1, if_neg (show ¬ (L + (u + 1) = 0) by omega)]
    exact hgo k L (by omega)
  · obtain ⟨k, rfl⟩ : ∃ j, k = j + 1 := ⟨k - 1, by omega⟩
    rw [runP.eq_2, if_neg h1]
    cases L with
    | zero => rw [if_pos rfl]
    | succ L =>
      rw [if_neg (show ¬ (L + 1 = 0) by omega)]
      exact hlo k L (by omega) (by omega)
theorem run_uses (l : List S58) (b d : Int) : ∀ (k : Nat) (G : Gs) (path : List Int) (code : List S55) (me : Nat) (T : Ts) (o : Out) (G' : Gs), runP l b d k G path code me T = (o, G') → o ≠ .long → ∃ u, Uses l b d G path code me T o G' u := by
  intro k
  induction k with
  | zero => intro G path code me T o G' h ho; cases h; exact absurd rfl ho
  | succ k ih =>
    intro G path code me T o G' h ho
    rw [runP.eq_2] at h
    by_cases h1 : (G.log.getD me ([], 0)).2 = b
    · rw [if_pos h1] at h; cases h; exact ⟨0, uses_now h1⟩
    rw [if_neg h1] at h
    by_cases h2 : G.left = 0
    · rw [if_pos h2] at h; cases h; exact absurd rfl ho
    rw [if_neg h2] at h
    by_cases h17 : (rd_T55 code T.at_).f0 = 17
    · rw [if_pos h17] at h
      cases h
      refine ⟨0 + 1, uses_step h1 h2 rfl (fun k L _ => ?_) (fun k L hL => absurd hL (Nat.not_lt_zero _))⟩
      rw [if_pos h17]; rfl
    rw [if_neg h17] at h
    obtain ⟨x, hx⟩ : ∃ x, x = rd_T55 code T.at_ := ⟨_, rfl⟩
    rw [← hx] at h h17
    by_cases h3 : x.f0 = 11 ∨ x.f0 = 13
    · by_cases h4 : (path.length : Int) = d
      · have e : ∀ (k : Nat) (G : Gs), stepP l d (runP l b d k) path x { T with at_ := T.at_ + 1 } G = .stop (.fail 4) G := fun k G => by unfold stepP; rw [if_pos h3, if_pos h4]
        rw [e] at h
        cases h
        refine ⟨0 + 1, uses_step h1 h2 rfl (fun k L _ => ?_) (fun k L hL => absurd hL (Nat.not_lt_zero _))⟩
        rw [← hx, if_neg h17, e]; rfl
      · generalize hq : runP l b d k ⟨G.left - 1, G.told, bump G.log me ++ [(path ++ [(T.kids : Int)], 0)]⟩ (path ++ [(T.kids : Int)]) (rd_T58 l x.f3).f1 (bump G.log me).length (newTask (argsOf l x { T with at_ := T.at_ + 1 }) T.hands) = q at h
        obtain ⟨o1, G1⟩ := q
        rw [step_kid (T := { T with at_ := T.at_ + 1 }) (G := { left := G.left - 1, told := G.told, log := bump G.log me }) h3 h4 hq] at h
        by_cases ho1 : o1 = .long
        · subst ho1; cases h; exact absurd rfl ho
        obtain ⟨u1, e1, g1, l1⟩ := ih _ _ _ _ _ o1 G1 hq ho1
        have e1 : G.left - 1 = G1.left + u1 := e1
        cases o1 with
        | long => exact absurd rfl ho1
        | fail why =>
          cases h
          refine ⟨u1 + 1, uses_step h1 h2 e1 (fun k L hk => ?_) (fun k L hL hk => ?_)⟩
          · rw [← hx, if_neg h17, step_kid (T := { T with at_ := T.at_ + 1 }) (G := { left := L + u1, told := G.told, log := bump G.log me }) h3 h4 (g1 k L hk)]; rfl
          · obtain ⟨q, hq2⟩ : ∃ q, runP l b d k ⟨L, G.told, bump G.log me ++ [(path ++ [(T.kids : Int)], 0)]⟩ (path ++ [(T.kids : Int)]) (rd_T58 l x.f3).f1 (bump G.log me).length (newTask (argsOf l x { T with at_ := T.at_ + 1 }) T.hands) = q := ⟨_, rfl⟩
            have hl := l1 k L hL hk
            rw [show runP l b d k _ _ _ _ _ = q from hq2] at hl
            obtain ⟨o2, G2⟩ := q
            have hl : o2 = .long := hl
            subst hl
            rw [← hx, if_neg h17, step_kid (T := { T with at_ := T.at_ + 1 }) (G := { left := L, told := G.told, log := bump G.log me }) h3 h4 hq2]; rfl
        | val v =>
          obtain ⟨u2, e2, g2, l2⟩ := ih _ _ _ _ _ o G' h ho
          refine ⟨u1 + u2 + 1, uses_step h1 h2 (by omega) (fun k L hk => ?_) (fun k L hL hk => ?_)⟩
          · have g := g1 k (L + u2) (by omega)
            rw [← hx, if_neg h17, show L + (u1 + u2) = L + u2 + u1 by omega, step_kid (T := { T with at_ := T.at_ + 1 }) (G := { left := L + u2 + u1, told := G.told, log := bump G.log me }) h3 h4 g]
            exact g2 k L (by omega)
          · by_cases hL1 : L < u1
            · obtain ⟨q, hq2⟩ : ∃ q, runP l b d k ⟨L, G.told, bump G.log me ++ [(path ++ [(T.kids : Int)], 0)]⟩ (path ++ [(T.kids : Int)]) (rd_T58 l x.f3).f1 (bump G.log me).length (newTask (argsOf l x { T with at_ := T.at_ + 1 }) T.hands) = q := ⟨_, rfl⟩
              have hl := l1 k L hL1 hk
              rw [show runP l b d k _ _ _ _ _ = q from hq2] at hl
              obtain ⟨o2, G2⟩ := q
              have hl : o2 = .long := hl
              subst hl
              rw [← hx, if_neg h17, step_kid (T := { T with at_ := T.at_ + 1 }) (G := { left := L, told := G.told, log := bump G.log me }) h3 h4 hq2]; rfl
            · obtain ⟨L2, rfl⟩ : ∃ L2, L = L2 + u1 := ⟨L - u1, by omega⟩
              have g := g1 k L2 (by omega)
              rw [← hx, if_neg h17, step_kid (T := { T with at_ := T.at_ + 1 }) (G := { left := L2 + u1, told := G.told, log := bump G.log me }) h3 h4 g]
              exact l2 k L2 (by omega) (by omega)
    · by_cases h4 : x.f0 = 15
      · have e : ∀ (k : Nat) (G : Gs), stepP l d (runP l b d k) path x { T with at_ := T.at_ + 1 } G = .go { T with at_ := T.at_ + 1 } { G with told := G.told ++ [rg { T with at_ := T.at_ + 1 } x.f1] } := fun k G => by unfold stepP; rw [if_neg h3, if_pos h4]
        rw [e] at h
        obtain ⟨u, e2, g2, l2⟩ := ih _ _ _ _ _ o G' h ho
        refine ⟨u + 1, uses_step h1 h2 e2 (fun k L hk => ?_) (fun k L hL hk => ?_)⟩
        · rw [← hx, if_neg h17, e]; exact g2 k L hk
        · rw [← hx, if_neg h17, e]; exact l2 k L hL hk
      cases hs : simple x { T with at_ := T.at_ + 1 } with
      | go T' =>
        have e : ∀ (k : Nat) (G : Gs), stepP l d (runP l b d k) path x { T with at_ := T.at_ + 1 } G = .go T' G := fun k G => by unfold stepP; rw [if_neg h3, if_neg h4, hs]
        rw [e] at h
        obtain ⟨u, e2, g2, l2⟩ := ih _ _ _ _ _ o G' h ho
        refine ⟨u + 1, uses_step h1 h2 e2 (fun k L hk => ?_) (fun k L hL hk => ?_)⟩
        · rw [← hx, if_neg h17, e]; exact g2 k L hk
        · rw [← hx, if_neg h17, e]; exact l2 k L hL hk
      | stop why =>
        have e : ∀ (k : Nat) (G : Gs), stepP l d (runP l b d k) path x { T with at_ := T.at_ + 1 } G = .stop (.fail why) G := fun k G => by unfold stepP; rw [if_neg h3, if_neg h4, hs]
        rw [e] at h
        cases h
        refine ⟨0 + 1, uses_step h1 h2 rfl (fun k L _ => ?_) (fun k L hL => absurd hL (Nat.not_lt_zero _))⟩
        rw [← hx, if_neg h17, e]; rfl
/-! ### of a whole program -/
/-- what is noted by an evaluation that ends. -/
structure BookP (b d : Int) (most : Nat) (log : List (List Int × Int)) : Prop where
  ne : ∃ s r, log = ([], s) :: r
  le : ∀ e ∈ log, 0 ≤ e.2 ∧ e.2 ≤ b ∧ (e.1.length : Int) ≤ d
  up : log.Pairwise (fun x y => ltP x.1 y.1)
  sum : tot log ≤ most
theorem evalR_book {l : List S58} {args : List Int} {b d : Int} {most : Nat} {r : Int × Int × List Int × List (List Int × Int)} (h : evalR l args b d most = (r, 0)) :
    evRight l args.length b d = true ∧ (r.2.1 = 0 ∨ r.1 = 0) ∧ BookP b d most r.2.2.2 ∧ 1 ≤ tot r.2.2.2 ∧
    (∀ more : Nat, evalR l args b d ((tot r.2.2.2).toNat + more) = (r, 0)) ∧ evalR l args b d ((tot r.2.2.2).toNat - 1) = (noR, 3) := by
  by_cases hr : evRight l args.length b d = true
  · obtain ⟨hl, hb, hd, hn, hn4⟩ := evRight_ok hr
    have hran := run_ran l b d (by omega) (most + 1) ⟨most, [], [([], 0)]⟩ [] (rd_T58 l 0).f1 0 (newTask args noHands) (Nat.zero_lt_one) (by show (0 : Int) ≤ b; omega) (by show (0 : Int) ≤ d; omega)
    have he := evalR_end (most := most) hr
    have heq := h
    rw [he] at heq
    generalize hq : runP l b d (most + 1) ⟨most, [], [([], 0)]⟩ [] (rd_T58 l 0).f1 0 (newTask args noHands) = q at heq hran
    obtain ⟨o, G⟩ := q
    obtain ⟨s, add, a1, a2, a3, a4, a5, a6⟩ := hran
    have a1 : G.log = ([], s) :: add := a1
    have a3 : 0 ≤ s := a3
    have a6 : (G.left : Int) + s + tot add = most + 0 := a6
    have hlog : ∀ r', endR (o, G) = (r', 0) → r'.2.2.2 = G.log ∧ (r'.2.1 = 0 ∨ r'.1 = 0) ∧ o ≠ .long := by
      intro r' hr'
      cases o with
      | val v => cases hr'; exact ⟨rfl, .inl rfl, fun e => by cases e⟩
      | fail why => cases hr'; exact ⟨rfl, .inr rfl, fun e => by cases e⟩
      | long => cases hr'
    obtain ⟨e1, e2, e3⟩ := hlog r heq
    obtain ⟨u, u1, u2, u3⟩ := run_uses l b d _ _ _ _ _ _ _ _ hq e3
    have u1 : most = G.left + u := u1
    have htot : tot G.log = u := by rw [a1]; show s + tot add = _; omega
    have hu1 : 1 ≤ u := by
      rcases Nat.eq_zero_or_pos u with h0 | h0
      · exfalso
        subst h0
        have h1 := u2 1 0 Nat.zero_lt_one
        rw [runP.eq_2, if_neg (by show ¬ ((0 : Int) = b); omega), if_pos rfl] at h1
        injection h1 with h1 _
        exact e3 h1.symm
      · exact h0
    refine ⟨hr, e2, ⟨⟨s, add, by rw [e1, a1]⟩, ?_, ?_, ?_⟩, by rw [e1, htot]; omega, fun more => ?_, ?_⟩
    · rw [e1, a1]
      intro e he
      rcases List.mem_cons.1 he with rfl | he
      · exact ⟨a3, a2, by show (0 : Int) ≤ d; omega⟩
      · obtain ⟨_, h2, h3, h4⟩ := a4 e he
        exact ⟨h4, h3, h2⟩
    · rw [e1, a1]
      refine List.pairwise_cons.2 ⟨fun e he => ?_, a5⟩
      obtain ⟨⟨j, r', _, e5⟩, _⟩ := a4 e he
      rw [e5]
      exact ltP_ext [] _ _
    · rw [e1, htot]; omega
    · rw [evalR_end hr, e1, htot, Int.toNat_natCast]
      have h1 := u2 (u + more + 1) more (by omega)
      have h2 : runP l b d (u + more + 1) ⟨u + more, [], [([], 0)]⟩ [] (rd_T58 l 0).f1 0 (newTask args noHands) = (o, { G with left := more }) := by
        rw [← h1, Nat.add_comm u more]
      rw [h2, ← heq]
      cases o <;> rfl
    · rw [evalR_end hr, e1, htot, Int.toNat_natCast]
      have h1 := u3 (u - 1 + 1) (u - 1) (by omega) (by omega)
      have h1 : (runP l b d (u - 1 + 1) ⟨u - 1, [], [([], 0)]⟩ [] (rd_T58 l 0).f1 0 (newTask args noHands)).1 = .long := h1
      generalize runP l b d (u - 1 + 1) ⟨u - 1, [], [([], 0)]⟩ [] (rd_T58 l 0).f1 0 (newTask args noHands) = q2 at h1
      obtain ⟨o2, G2⟩ := q2
      have h1 : o2 = .long := h1
      subst h1
      rfl
  · exfalso
    unfold evalR at h
    rw [if_neg hr] at h
    cases h
end Go.Proofs.Ytnhipdniceoigaa.H

set_option linter.unusedVariables false
set_option linter.unusedSimpArgs false
namespace Go.Proofs.Ytnhipdniceoigaa.H
open Go.RowKit Go.Hay Go.Proofs.YtnhipdniceoigaaW.PrintWords Go.Proofs.YtnhipdniceoigaaW.PrintLast Go.Proofs.YtnhipdniceoigaaW.PrintMore
theorem up_lt {k i : Nat} (h : i < k) : k - (intOf (.int .i64 ((i : Int) + 1))).toNat < k - (intOf (.int .i64 (i : Int))).toNat := by simp [intOf]; omega
end Go.Proofs.Ytnhipdniceoigaa.H

