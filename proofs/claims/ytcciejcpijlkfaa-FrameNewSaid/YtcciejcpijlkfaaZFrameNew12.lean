/- What the proof of FrameNew stands on, part 12: this session's own texts and the words that the kit's print lays, those that are used. -/
import Derived.Test.YtcciejcpijlkfaaZFrameNew11
set_option linter.unusedVariables false
set_option linter.unusedSimpArgs false
namespace Go.Proofs.Ytcciejcpijlkfaa.H
open Go.RowKit Go.Hay Go.Proofs.YtcciejcpijlkfaaW.PrintWords Go.Proofs.YtcciejcpijlkfaaW.PrintLast Go.Proofs.YtcciejcpijlkfaaW.PrintMore
theorem blk_farC {w : World} {g : Nat} {o : Obj} {p : Addr} (h : w.heap[g]? = some o) (hne : g ≠ p.block) (v : Value) : (w.setCell p v).heap[g]? = some o := (Below.heap_setCell w p v g hne).trans h
theorem assert_wrong (v : Value) (w : World) : (Instr.typeAssert (.iface 155 v) 20 155 true).run Try.prog w = .ok (.tuple #[v, .bool true]) w := by kernel_rfl
set_option maxRecDepth 100000 in
set_option maxHeartbeats 4000000 in
theorem ccatch_panicking (B : Nat) (f at_ e : Int) (w : World) (v1 v2 v3 : Value) (h1 : w.heap[B]? = some (.cells #[v1] 3 (0, 0))) (h2 : w.heap[B + 1]? = some (.cells #[v2] 3 (0, 0))) (h3 : w.heap[B + 1 + 1]? = some (.cells #[v3] 37 (0, 0))) :
    CallsD Try.prog 59 #[.pointer (some ⟨B, 0, none⟩), .pointer (some ⟨B + 1, 0, none⟩), .pointer (some ⟨B + 1 + 1, 0, none⟩)] (.panicking [{ v := wrongV f at_ e, recovered := false }]) w fun x u' w' =>
      x = .returned (.tuple #[]) ∧ u' = .panicking [{ v := wrongV f at_ e, recovered := true }] ∧ Below B w w' ∧ w'.heap[B]? = some (.cells #[.int .i64 f] 3 (0, 0)) ∧ w'.heap[B + 1]? = some (.cells #[.int .i64 at_] 3 (0, 0)) ∧ w'.heap[B + 1 + 1]? = some (.cells #[.int .i64 e] 37 (0, 0)) := by
  have hu155 := Try.underlying155
  have ha := assert_wrong (.agg #[.int .i64 f, .int .i64 at_, .int .i64 e])
  have H1 := Aside0.mk h1
  have H2 := Aside0.mk h2
  have H3 := Aside0.mk h3
  clear h1 h2 h3
  refine callsD_of_wpS Try.func59 rfl fun c₀ cs hu => ?_
  apply wpS_seq
  apply wpS_region
  simp [wpOpsS, go_sem, recoverD, hu, Try.ntmps59, Exit.thenS]
  refine wpS_body ?_
  simp only [Array.replicate_succ, Array.replicate_zero, List.push_toArray, List.append_toArray, List.nil_append, List.cons_append, List.setIfInBounds_toArray, List.set_cons_zero, List.set_cons_succ, wrongV]
  go_wp2_with fail
  have hg := alloc_blk w (.cells #[.int .i64 f, .int .i64 at_, .int .i64 e] 155)
  have g1 := blk_alloc H1.out (.cells #[.int .i64 f, .int .i64 at_, .int .i64 e] 155)
  have g2 := blk_alloc H2.out (.cells #[.int .i64 f, .int .i64 at_, .int .i64 e] 155)
  have g3 := blk_alloc H3.out (.cells #[.int .i64 f, .int .i64 at_, .int .i64 e] 155)
  have hz := blk_lt H3.out
  have hb : Below B w (w.alloc (.cells #[.int .i64 f, .int .i64 at_, .int .i64 e] 155)) := (Below.refl _ _).alloc (by omega) _
  clear H1 H2 H3
  have GS := Aside0.mk (And.intro hg (And.intro g1 (And.intro g2 (And.intro g3 (And.intro hz hb)))))
  clear hg g1 g2 g3 hz hb
  refine wp_region_seq (fun w' => w'.heap[w.heap.size]? = some (.cells #[.int .i64 f, .int .i64 at_, .int .i64 e] 155 (0, 0))) [] [.take 0, .take 1, .take 2, .take 3, .take 4, .take 5, .op 6, .op 7, .op 8] (by kernel_rfl) (by kernel_rfl) rfl (by kernel_rfl) (panic_via (P := Try.prog) (fn := Try.f59) (fun _ _ _ => rfl)) ?_
  have hs : (w.alloc (.cells #[.int .i64 f, .int .i64 at_, .int .i64 e] 155)).drew.heap[w.heap.size]? = some (.cells #[.int .i64 f, .int .i64 at_, .int .i64 e] 155 (0, 0)) := GS.out.1
  repeat (
    (first
      | (refine runSeq_take (v := ?_) (by rfl) (by rfl) (fun w' hS => ?_) hs ?_
         rotate_left
         · (have d0 := blk_cell hS 0; have d1 := blk_cell hS 1; have d2 := blk_cell hS 2; go_simp; exact rfl))
      | refine runSeq_skip (by rfl) (by rfl) hs ?_)
    (try simp only [Act.put, List.setIfInBounds_toArray, List.set_cons_zero, List.set_cons_succ]))
  obtain ⟨hg, g1, g2, g3, hz, hb⟩ := GS.out
  clear GS hs
  have hg : (w.alloc (.cells #[.int .i64 f, .int .i64 at_, .int .i64 e] 155)).drew.heap[w.heap.size]? = _ := hg
  have g1 : (w.alloc (.cells #[.int .i64 f, .int .i64 at_, .int .i64 e] 155)).drew.heap[B]? = _ := g1
  have g2 : (w.alloc (.cells #[.int .i64 f, .int .i64 at_, .int .i64 e] 155)).drew.heap[B + 1]? = _ := g2
  have g3 : (w.alloc (.cells #[.int .i64 f, .int .i64 at_, .int .i64 e] 155)).drew.heap[B + 1 + 1]? = _ := g3
  have hb := hb.drew
  generalize (w.alloc (.cells #[.int .i64 f, .int .i64 at_, .int .i64 e] 155)).drew = wa at hg g1 g2 g3 hb ⊢
  have c := blk_cell g1 0
  have fz := blk_frozen g1 0
  refine runSeq_op (by rfl) (by rfl) (fun K hK => ?_)
  go_simp
  have hg := blk_farC (p := ⟨B, 0, none⟩) hg (show w.heap.size ≠ B by omega) (.int .i64 f)
  refine hK _ _ hg ?_
  clear hK K c fz
  have n1 := g1
  have q1 := g1
  have q2 := g2
  have q3 := g3
  clear g1 g2 g3
  have g1 : (wa.setCell ⟨B, 0, none⟩ (.int .i64 f)).heap[B]? = some (.cells #[.int .i64 f] 3 (0, 0)) := by first | exact blk_farC (p := ⟨B, 0, none⟩) q1 (show B ≠ B by omega) (.int .i64 f) | exact blk_set q1 0 _
  have g2 : (wa.setCell ⟨B, 0, none⟩ (.int .i64 f)).heap[B + 1]? = some (.cells #[v2] 3 (0, 0)) := by first | exact blk_farC (p := ⟨B, 0, none⟩) q2 (show B + 1 ≠ B by omega) (.int .i64 f) | exact blk_set q2 0 _
  have g3 : (wa.setCell ⟨B, 0, none⟩ (.int .i64 f)).heap[B + 1 + 1]? = some (.cells #[v3] 37 (0, 0)) := by first | exact blk_farC (p := ⟨B, 0, none⟩) q3 (show B + 1 + 1 ≠ B by omega) (.int .i64 f) | exact blk_set q3 0 _
  have hb := Below.setCell (p := ⟨B, 0, none⟩) hb (show B ≤ B by omega) (.int .i64 f)
  clear q1 q2 q3 n1
  generalize wa.setCell ⟨B, 0, none⟩ (.int .i64 f) = wa at hg g1 g2 g3 hb ⊢
  have c := blk_cell g2 0
  have fz := blk_frozen g2 0
  refine runSeq_op (by rfl) (by rfl) (fun K hK => ?_)
  go_simp
  have hg := blk_farC (p := ⟨B + 1, 0, none⟩) hg (show w.heap.size ≠ B + 1 by omega) (.int .i64 at_)
  refine hK _ _ hg ?_
  clear hK K c fz
  have n1 := g2
  have q1 := g1
  have q2 := g2
  have q3 := g3
  clear g1 g2 g3
  have g1 : (wa.setCell ⟨B + 1, 0, none⟩ (.int .i64 at_)).heap[B]? = some (.cells #[.int .i64 f] 3 (0, 0)) := by first | exact blk_farC (p := ⟨B + 1, 0, none⟩) q1 (show B ≠ B + 1 by omega) (.int .i64 at_) | exact blk_set q1 0 _
  have g2 : (wa.setCell ⟨B + 1, 0, none⟩ (.int .i64 at_)).heap[B + 1]? = some (.cells #[.int .i64 at_] 3 (0, 0)) := by first | exact blk_farC (p := ⟨B + 1, 0, none⟩) q2 (show B + 1 ≠ B + 1 by omega) (.int .i64 at_) | exact blk_set q2 0 _
  have g3 : (wa.setCell ⟨B + 1, 0, none⟩ (.int .i64 at_)).heap[B + 1 + 1]? = some (.cells #[v3] 37 (0, 0)) := by first | exact blk_farC (p := ⟨B + 1, 0, none⟩) q3 (show B + 1 + 1 ≠ B + 1 by omega) (.int .i64 at_) | exact blk_set q3 0 _
  have hb := Below.setCell (p := ⟨B + 1, 0, none⟩) hb (show B ≤ B + 1 by omega) (.int .i64 at_)
  clear q1 q2 q3 n1
  generalize wa.setCell ⟨B + 1, 0, none⟩ (.int .i64 at_) = wa at hg g1 g2 g3 hb ⊢
  have c := blk_cell g3 0
  have fz := blk_frozen g3 0
  refine runSeq_op (by rfl) (by rfl) (fun K hK => ?_)
  go_simp
  have hg := blk_farC (p := ⟨B + 1 + 1, 0, none⟩) hg (show w.heap.size ≠ B + 1 + 1 by omega) (.int .i64 e)
  refine hK _ _ hg ?_
  clear hK K c fz
  have n1 := g3
  have q1 := g1
  have q2 := g2
  have q3 := g3
  clear g1 g2 g3
  have g1 : (wa.setCell ⟨B + 1 + 1, 0, none⟩ (.int .i64 e)).heap[B]? = some (.cells #[.int .i64 f] 3 (0, 0)) := by first | exact blk_farC (p := ⟨B + 1 + 1, 0, none⟩) q1 (show B ≠ B + 1 + 1 by omega) (.int .i64 e) | exact blk_set q1 0 _
  have g2 : (wa.setCell ⟨B + 1 + 1, 0, none⟩ (.int .i64 e)).heap[B + 1]? = some (.cells #[.int .i64 at_] 3 (0, 0)) := by first | exact blk_farC (p := ⟨B + 1 + 1, 0, none⟩) q2 (show B + 1 ≠ B + 1 + 1 by omega) (.int .i64 e) | exact blk_set q2 0 _
  have g3 : (wa.setCell ⟨B + 1 + 1, 0, none⟩ (.int .i64 e)).heap[B + 1 + 1]? = some (.cells #[.int .i64 e] 37 (0, 0)) := by first | exact blk_farC (p := ⟨B + 1 + 1, 0, none⟩) q3 (show B + 1 + 1 ≠ B + 1 + 1 by omega) (.int .i64 e) | exact blk_set q3 0 _
  have hb := Below.setCell (p := ⟨B + 1 + 1, 0, none⟩) hb (show B ≤ B + 1 + 1 by omega) (.int .i64 e)
  clear q1 q2 q3 n1
  generalize wa.setCell ⟨B + 1 + 1, 0, none⟩ (.int .i64 e) = wa at hg g1 g2 g3 hb ⊢
  refine runSeq_nil ?_
  have GS := Aside0.mk (And.intro g1 (And.intro g2 (And.intro g3 hb)))
  clear hg g1 g2 g3 hb
  go_wp2_with fail
  go_end0
  exact ⟨rfl, trivial, GS.out.2.2.2, GS.out.1, GS.out.2.1, GS.out.2.2.1⟩
theorem ccatch_idle (p q r : Addr) (w : World) :
    CallsD Try.prog 59 #[.pointer (some p), .pointer (some q), .pointer (some r)] .returning w fun x u' w' =>
      x = .returned (.tuple #[]) ∧ u' = .returning ∧ w = w' := by
  refine callsD_of_wpS Try.func59 rfl fun c₀ cs hu => ?_
  apply wpS_seq
  apply wpS_region
  simp [wpOpsS, go_sem, recoverD, hu, Try.ntmps59, Exit.thenS]
  refine wpS_body_same hu ?_
  simp only [Array.replicate_succ, Array.replicate_zero, List.push_toArray, List.append_toArray, List.nil_append, List.cons_append, List.setIfInBounds_toArray, List.set_cons_zero, List.set_cons_succ]
  go_wp2
  go_end0
  exact ⟨rfl, trivial, rfl⟩

structure CkW (w w' : World) : Prop where
  below : Below w.heap.size w w'
  c0 : w'.heap[w.heap.size]? = some (.cells #[.int .i64 0] 3 (0, 0))
  c1 : w'.heap[w.heap.size + 1]? = some (.cells #[.int .i64 0] 3 (0, 0))
  c2 : w'.heap[w.heap.size + 1 + 1]? = some (.cells #[.int .i64 0] 37 (0, 0))
theorem CkW.size {w w' : World} (h : CkW w w') : w.heap.size + 3 ≤ w'.heap.size := by
  have := blk_lt h.c2; omega
theorem CkW.keep {w w' w'' : World} (h : CkW w w') (k : Below (w.heap.size + 3) w' w'') : CkW w w'' :=
  ⟨h.below.trans (k.mono (by omega)), (k.block _ (by omega)).trans h.c0, (k.block _ (by omega)).trans h.c1, (k.block _ (by omega)).trans h.c2⟩
theorem CkW.start (w : World) : CkW w (((w.alloc (.cells #[.int .i64 0] 3)).alloc (.cells #[.int .i64 0] 3)).alloc (.cells #[.int .i64 0] 37)) := by
  have e1 : (w.alloc (.cells #[.int .i64 0] 3)).heap.size = w.heap.size + 1 := Array.size_push _
  have e2 : ((w.alloc (.cells #[.int .i64 0] 3)).alloc (.cells #[.int .i64 0] 3)).heap.size = w.heap.size + 1 + 1 := by
    rw [← e1]; exact Array.size_push _
  have b1 := (Below.refl w.heap.size w).alloc (Nat.le_refl _) (.cells #[.int .i64 0] 3)
  have b2 := b1.alloc b1.size (.cells #[.int .i64 0] 3)
  refine ⟨b2.alloc b2.size _, blk_alloc (blk_alloc (alloc_blk w _) _) _, ?_, ?_⟩
  · have := alloc_blk (w.alloc (.cells #[.int .i64 0] 3)) (.cells #[.int .i64 0] 3)
    rw [e1] at this
    exact blk_alloc this _
  · have := alloc_blk ((w.alloc (.cells #[.int .i64 0] 3)).alloc (.cells #[.int .i64 0] 3)) (.cells #[.int .i64 0] 37)
    rw [e2] at this
    exact this
def ckPost (w : World) (l : List S68) (e : Ending) (w' : World) : Prop :=
  e = .returned (.tuple #[.int .i64 (checkP l).1, .int .i64 (checkP l).2.1, .int .i64 (checkP l).2.2]) ∧ Below w.heap.size w w'
theorem check_panics (l : List S68) (f at_ e : Int) (w w' : World) (tmps : Array Value) (hno : checkP l = (f, at_, e)) (H : CkW w w')
    (t2 : tmps.getD 2 undef = .pointer (some ⟨w.heap.size, 0, none⟩)) (t3 : tmps.getD 3 undef = .pointer (some ⟨w.heap.size + 1, 0, none⟩)) (t4 : tmps.getD 4 undef = .pointer (some ⟨w.heap.size + 1 + 1, 0, none⟩)) :
    bodyPostD Try.prog Try.f39 (ckPost w l) (.panic [{ v := wrongV f at_ e, recovered := false }])
      { tmps := tmps, defers := [{ target := Target.fn (Fn.func 59) #[.pointer (some ⟨w.heap.size, 0, none⟩), .pointer (some ⟨w.heap.size + 1, 0, none⟩), .pointer (some ⟨w.heap.size + 1 + 1, 0, none⟩)], args := #[] }] } w' := by
  refine leaves_cons (f := 59) (args := #[.pointer (some ⟨w.heap.size, 0, none⟩), .pointer (some ⟨w.heap.size + 1, 0, none⟩), .pointer (some ⟨w.heap.size + 1 + 1, 0, none⟩)]) (by simp) (by simp [go_sem]) ?_
  refine (ccatch_panicking w.heap.size f at_ e w' _ _ _ H.c0 H.c1 H.c2).mono ?_
  rintro x u' w2 ⟨rfl, rfl, hb2, c0, c1, c2⟩
  have q0 := blk_cell c0 0
  have q1 := blk_cell c1 0
  have q2 := blk_cell c2 0
  simp only [Array.getD_eq_getD_getElem?] at t2 t3 t4
  refine ⟨.tuple #[.int .i64 f, .int .i64 at_, .int .i64 e], by simp [results, Try.results39, go_sem, t2, t3, t4, q0, q1, q2], ?_⟩
  exact ⟨by rw [hno], H.below.trans hb2⟩
theorem check_stop {l : List S68} {i : Nat} {g : S68} {e : Int × Int} (hb : 1 ≤ l.length ∧ l.length ≤ 16) (hF : funcsE l 0 l = funcsE l i (l.drop i)) (hg : ∃ h : i < l.length, l[i] = g) (he : funcE l g = some e) : checkP l = ((i : Int), e.1, e.2) := by
  obtain ⟨hi, hg⟩ := hg
  unfold checkP
  rw [if_pos hb, hF, List.drop_eq_getElem_cons hi, hg]
  simp only [funcsE, he]
  rfl
theorem check_step {l : List S68} {i : Nat} {g : S68} (hF : funcsE l 0 l = funcsE l i (l.drop i)) (hg : ∃ h : i < l.length, l[i] = g) (he : funcE l g = none) : funcsE l 0 l = funcsE l (i + 1) (l.drop (i + 1)) := by
  obtain ⟨hi, hg⟩ := hg
  rw [hF, List.drop_eq_getElem_cons hi, hg]
  simp only [funcsE, he]
structure FW (w : World) (A : Option Addr) (n c : Nat) (i at_ : Int) (g6 : S68) (A1 : Option Addr) (c1 g : Nat) (w' : World) : Prop where
  ck : CkW w w'
  h6 : w'.heap[g]? = some (.cells #[.int .i64 g6.f0, .slice A1 g6.f1.length c1] 68 (0, 0))
  h7 : w'.heap[g + 1]? = some (.cells #[.slice A n c, .int .i64 i, .int .i64 at_] 158 (0, 0))
  lg : w.heap.size + 3 ≤ g
theorem FW.keep {w : World} {A : Option Addr} {n c : Nat} {i at_ : Int} {g6 : S68} {A1 : Option Addr} {c1 g : Nat} {w' w'' : World} (h : FW w A n c i at_ g6 A1 c1 g w') (k : Below w'.heap.size w' w'') : FW w A n c i at_ g6 A1 c1 g w'' :=
  ⟨h.ck.keep (k.mono h.ck.size), (k.block _ (blk_lt h.h6)).trans h.h6, (k.block _ (blk_lt h.h7)).trans h.h7, h.lg⟩
theorem FW.put {w : World} {A : Option Addr} {n c : Nat} {i at_ : Int} {g6 : S68} {A1 : Option Addr} {c1 g : Nat} {w' : World} (h : FW w A n c i at_ g6 A1 c1 g w') (k : Int) : FW w A n c i k g6 A1 c1 g (w'.setCell ⟨g + 1, 2, none⟩ (.int .i64 k)) :=
  ⟨h.ck.keep (Below.setCell (p := ⟨g + 1, 2, none⟩) (Below.refl _ _) (show w.heap.size + 3 ≤ g + 1 by have := h.lg; omega) _), blk_farC (p := ⟨g + 1, 2, none⟩) h.h6 (show g ≠ g + 1 by omega) _, blk_set h.h7 2 _, h.lg⟩
theorem FW.start {w : World} {A : Option Addr} {n c : Nat} {i : Int} {g6 : S68} {A1 : Option Addr} {c1 : Nat} {w' : World} (h : CkW w w') : FW w A n c i 0 g6 A1 c1 w'.heap.size ((w'.alloc (.cells #[.int .i64 g6.f0, .slice A1 g6.f1.length c1] 68)).alloc (.cells #[.slice A n c, .int .i64 i, .int .i64 0] 158)) := by
  have e1 : (w'.alloc (.cells #[.int .i64 g6.f0, .slice A1 g6.f1.length c1] 68)).heap.size = w'.heap.size + 1 := Array.size_push _
  have b1 := (Below.refl w'.heap.size w').alloc (Nat.le_refl _) (.cells #[.int .i64 g6.f0, .slice A1 g6.f1.length c1] 68)
  have b2 := b1.alloc b1.size (.cells #[.slice A n c, .int .i64 i, .int .i64 0] 158)
  refine ⟨h.keep (b2.mono h.size), blk_alloc (alloc_blk w' _) _, ?_, h.size⟩
  have := alloc_blk (w'.alloc (.cells #[.int .i64 g6.f0, .slice A1 g6.f1.length c1] 68)) (.cells #[.slice A n c, .int .i64 i, .int .i64 0] 158)
  rw [e1] at this
  exact this
set_option maxRecDepth 100000 in
set_option maxHeartbeats 8000000 in
theorem check_walk (A : Option Addr) (c : Nat) (l : List S68) (w : World) (hC : k68.C w A l.length l) (hc : l.length ≤ c) : Calls Try.prog 39 #[.slice A l.length c] w (ckPost w l) := by
  have hmf : ∀ (fn : Fn) (first cap : Array Value) (w : World), (Instr.makeFunc fn first cap).run Try.prog w = .ok (.func fn first cap) w := fun _ _ _ _ => rfl
  have HC := Aside0.mk hC
  have HS := Aside0.mk (CkW.start w)
  clear hC hc
  by_cases hl1 : 1 ≤ l.length
  · have hl1' : (1 ≤ (l.length : Int)) = True := eq_true (by omega)
    have HL1 := Aside0.mk hl1
    clear hl1
    go_enter_defers Try.func39, Try.ntmps39
    go_wp2_with fail
    refine (need_any none 0 0 0 0 3 _ _).mono ?_
    rintro e w2 ⟨hb, he⟩
    have hs2 := HS.out.keep (hb.mono HS.out.size)
    clear HS hb
    have HS := Aside0.mk hs2
    clear hs2
    by_cases hl2 : l.length ≤ 16
    · rw [if_pos (decide_eq_true (by omega))] at he
      subst he
      have HLL := Aside0.mk (And.intro HL1.out hl2)
      clear HL1 hl2 hl1'
      go_wp2_with fail
      go_loopw [24] (fun v24 wr => ∃ i : Nat, v24 = .int .i64 i ∧ i ≤ l.length ∧ Aside0 (funcsE l 0 l = funcsE l i (l.drop i)) ∧ Aside0 (CkW w wr)) (fun v24 _ => l.length - (intOf v24).toNat)
      case atStart => exact ⟨0, rfl, Nat.zero_le _, ⟨rfl⟩, HS⟩
      case round =>
        clear HS w2
        obtain ⟨i, rfl, hi, HF, HS⟩ := hrel
        by_cases hlt : i < l.length
        · have p1 : (0 : Int) ≤ (i : Int) := by omega
          have q1 : (i : Int) < (l.length : Nat) := by omega
          obtain ⟨ad, A1, c1, rfl, hx0, hx1, hl1, hi1⟩ := at_T68 HC.out i p1 q1
          replace hx0 := (HS.out.below.cell (World.block_lt_of_cell? w _ hx0)).trans hx0
          replace hx1 := (HS.out.below.cell (World.block_lt_of_cell? w _ hx1)).trans hx1
          simp only [Int.toNat_natCast] at hx0 hx1
          have hfi : rd_T68 l (i : Int) = l[i] := by simp [rd_T68, hlt]
          rw [hfi] at hx0 hx1 hl1 hi1
          clear hfi
          generalize hfj : l[i] = fi at hx0 hx1 hl1 hi1
          have HFI := Aside0.mk (show ∃ h : i < l.length, l[i] = fi from ⟨hlt, hfj⟩)
          have HR1 := Aside0.mk hi1
          have HIA := Aside0.mk (fun (at_ : Int) (x : S65) (w' : World) (h : k68.C w' (some ad) l.length l) => instr_any (some ad) c l i at_ x w' h hlt)
          rw [hfj] at HIA
          clear hi1 hl1 hfj
          have hu68 := Try.underlying68
          go_upto_region 7 with (fail)
          have hfw := FW.start (A := some ad) (n := l.length) (c := c) (i := (i : Int)) (g6 := fi) (A1 := A1) (c1 := c1) HS.out
          clear HS hx0 hx1 hu68
          generalize hgg : wr.heap.size = g at hfw ⊢
          clear hgg
          generalize (wr.alloc (.cells #[.int .i64 fi.f0, .slice A1 fi.f1.length c1] 68)).alloc (.cells #[.slice (some ad) l.length c, .int .i64 (i : Int), .int .i64 0] 158) = w3 at hfw ⊢
          have HW := Aside0.mk hfw
          have b60 := blk_cell hfw.h6 0
          have b70 := blk_cell hfw.h7 0
          have b71 := blk_cell hfw.h7 1
          have b72 := blk_cell hfw.h7 2
          have HLT := Aside0.mk hlt
          clear hfw wr p1 q1 hi hlt
          by_cases ha0 : 0 ≤ fi.f0
          · have ha0' : (0 ≤ fi.f0) = True := eq_true ha0
            have HA0 := Aside0.mk ha0
            clear ha0
            go_wp2_with fail
            clear b60 b70 b71 b72 ha0'
            refine (need_any (some ad) l.length c i 0 6 _ _).mono ?_
            rintro e w4 ⟨hb, he⟩
            have hfw := HW.out.keep hb
            clear HW hb
            by_cases ha1 : fi.f0 ≤ 4
            · rw [if_pos (decide_eq_true ha1)] at he
              subst he
              have HW := Aside0.mk hfw
              have HA := Aside0.mk (And.intro HA0.out ha1)
              have b61 := blk_cell hfw.h6 1
              have b70 := blk_cell hfw.h7 0
              have b71 := blk_cell hfw.h7 1
              have b72 := blk_cell hfw.h7 2
              clear hfw ha1 HA0 w3
              by_cases hb0 : 1 ≤ fi.f1.length
              · have hb0' : (1 ≤ (fi.f1.length : Int)) = True := eq_true (by omega)
                have HB0 := Aside0.mk hb0
                clear hb0
                go_wp2_with fail
                clear b61 b70 b71 b72 hb0'
                refine (need_any (some ad) l.length c i 0 3 _ _).mono ?_
                rintro e w5 ⟨hb, he⟩
                have hfw := HW.out.keep hb
                clear HW hb
                by_cases hb1 : fi.f1.length ≤ 64
                · rw [if_pos (decide_eq_true (by omega))] at he
                  subst he
                  have HW := Aside0.mk hfw
                  have HB := Aside0.mk (And.intro HB0.out hb1)
                  have b61 := blk_cell hfw.h6 1
                  clear hfw hb1 HB0 w4
                  go_wp2_with fail
                  clear b61
                  go_loopw [57] (fun v57 wr => ∃ (k : Nat) (at_ : Int), v57 = .int .i64 k ∧ k ≤ fi.f1.length ∧ Aside0 (instrsE fi.f1.length l 0 fi.f1 = instrsE fi.f1.length l k (fi.f1.drop k)) ∧ Aside0 (k = 0 ∨ at_ = (k : Int) - 1) ∧ Aside0 (FW w (some ad) l.length c i at_ fi A1 c1 g wr)) (fun v57 _ => fi.f1.length - (intOf v57).toNat)
                  case atStart => exact ⟨0, 0, rfl, Nat.zero_le _, ⟨rfl⟩, ⟨.inl rfl⟩, HW⟩
                  case round =>
                    clear HW w5
                    obtain ⟨k, at_, rfl, hk, HI, HAT, HW⟩ := hrel
                    by_cases hlk : k < fi.f1.length
                    · have p1 : (0 : Int) ≤ (k : Int) := by omega
                      have q1 : (k : Int) < (fi.f1.length : Nat) := by omega
                      obtain ⟨ad2, rfl, hx0, hx1, hx2, hx3, hx4⟩ := at_T65 HR1.out k p1 q1
                      replace hx0 := (HW.out.ck.below.cell (World.block_lt_of_cell? w _ hx0)).trans hx0
                      replace hx1 := (HW.out.ck.below.cell (World.block_lt_of_cell? w _ hx1)).trans hx1
                      replace hx2 := (HW.out.ck.below.cell (World.block_lt_of_cell? w _ hx2)).trans hx2
                      replace hx3 := (HW.out.ck.below.cell (World.block_lt_of_cell? w _ hx3)).trans hx3
                      replace hx4 := (HW.out.ck.below.cell (World.block_lt_of_cell? w _ hx4)).trans hx4
                      simp only [Int.toNat_natCast] at hx0 hx1 hx2 hx3 hx4
                      have hgi : rd_T65 fi.f1 (k : Int) = fi.f1[k] := by simp [rd_T65, hlk]
                      rw [hgi] at hx0 hx1 hx2 hx3 hx4
                      clear hgi
                      generalize hgj : fi.f1[k] = gi at hx0 hx1 hx2 hx3 hx4
                      have HGI := Aside0.mk (show ∃ h : k < fi.f1.length, fi.f1[k] = gi from ⟨hlk, hgj⟩)
                      clear hgj
                      have hu65 := Try.underlying65
                      go_upto_region 12 with (fail)
                      have hfw := HW.out.keep ((Below.refl _ _).alloc (Nat.le_refl _) (.cells #[.int .i64 gi.f0, .int .i64 gi.f1, .int .i64 gi.f2, .int .i64 gi.f3, .int .i64 gi.f4] 65))
                      have hbg := alloc_blk wr (.cells #[.int .i64 gi.f0, .int .i64 gi.f1, .int .i64 gi.f2, .int .i64 gi.f3, .int .i64 gi.f4] 65)
                      have hne : wr.heap.size ≠ g + 1 := by have := blk_lt HW.out.h7; omega
                      clear hx0 hx1 hx2 hx3 hx4 hu65 p1 q1 HW HAT
                      generalize wr.heap.size = b9 at hbg hne ⊢
                      generalize wr.alloc (.cells #[.int .i64 gi.f0, .int .i64 gi.f1, .int .i64 gi.f2, .int .i64 gi.f3, .int .i64 gi.f4] 65) = w6 at hfw hbg ⊢
                      clear wr
                      have hfp := hfw.put (k : Int)
                      have hbp := blk_farC (p := ⟨g + 1, 2, none⟩) hbg hne (.int .i64 (k : Int))
                      have HW := Aside0.mk (And.intro hfp hbp)
                      have c7 := blk_cell hfw.h7 2
                      have f7 := blk_frozen hfw.h7 2
                      have hu158 := Try.underlying158
                      clear hfp hbp hfw hbg hne
                      go_upto_region 13 with (fail)
                      clear c7 f7 hu158
                      obtain ⟨hfw, hbg⟩ := HW.out
                      clear HW
                      generalize w6.setCell ⟨g + 1, 2, none⟩ (.int .i64 (k : Int)) = w7 at hfw hbg ⊢
                      clear w6
                      have b70 := blk_cell hfw.h7 0
                      have b71 := blk_cell hfw.h7 1
                      have b72 := blk_cell hfw.h7 2
                      have x0 := blk_cell hbg 0
                      have x1 := blk_cell hbg 1
                      have x2 := blk_cell hbg 2
                      have x3 := blk_cell hbg 3
                      have x4 := blk_cell hbg 4
                      have HW := Aside0.mk hfw
                      have hu158 := Try.underlying158
                      have hu65 := Try.underlying65
                      clear hfw hbg
                      go_wp2_with fail
                      clear b70 b71 b72 x0 x1 x2 x3 x4 hu158 hu65
                      refine (HIA.out k gi w7 (Kd.C_below HC.out HW.out.ck.below)).mono ?_
                      rintro e w8 ⟨hb, he⟩
                      have hfw := HW.out.keep hb
                      clear HW hb
                      cases hE : instrE fi.f1.length l gi with
                      | some q =>
                        rw [hE] at he
                        subst he
                        exact check_panics l i k q w w8 _ (check_stop HLL.out HF.out HFI.out (e := ((k : Int), q)) (by
                          obtain ⟨h1, h2⟩ := HGI.out
                          unfold funcE; rw [if_pos HA.out, if_pos HB.out, HI.out, List.drop_eq_getElem_cons h1, h2]
                          simp only [instrsE, hE]; rfl)) hfw.ck rfl rfl rfl
                      | none =>
                      rw [hE] at he
                      subst he
                      have hin : instrsE fi.f1.length l 0 fi.f1 = instrsE fi.f1.length l (k + 1) (fi.f1.drop (k + 1)) := by
                        obtain ⟨h1, h2⟩ := HGI.out
                        rw [HI.out, List.drop_eq_getElem_cons h1, h2]
                        simp only [instrsE, hE]
                      have HIN := Aside0.mk hin
                      have HW := Aside0.mk hfw
                      have hB64 := HB.out.2
                      clear hin hfw hE
                      go_wp2_with fail
                      go_roundw
                      case rel => exact ⟨k + 1, k, by go_num, by omega, HIN, ⟨.inr (by omega)⟩, HW⟩
                      case measure => simp [intOf]; omega
                    · obtain rfl : k = fi.f1.length := by omega
                      have hB1 := HB.out.1
                      have hB64 := HB.out.2
                      have hin : instrsE fi.f1.length l 0 fi.f1 = none := by
                        have := HI.out
                        rw [List.drop_length] at this
                        exact this
                      have hat : at_ = (fi.f1.length : Int) - 1 := HAT.out.resolve_left (by omega)
                      subst hat
                      obtain ⟨ad2, rfl, hx0, hx1, hx2, hx3, hx4⟩ := at_T65 HR1.out ((fi.f1.length : Int) - 1) (by omega) (by omega)
                      replace hx0 := (HW.out.ck.below.cell (World.block_lt_of_cell? w _ hx0)).trans hx0
                      rw [show ((fi.f1.length : Int) - 1).toNat = fi.f1.length - 1 by omega] at hx0
                      have hFE : funcE l fi = lastE fi := by
                        unfold funcE; rw [if_pos HA.out, if_pos HB.out, hin]; rfl
                      have hLE : lastE fi = if (rd_T65 fi.f1 ((fi.f1.length : Int) - 1)).f0 = 9 ∨ (rd_T65 fi.f1 ((fi.f1.length : Int) - 1)).f0 = 16 ∨ (rd_T65 fi.f1 ((fi.f1.length : Int) - 1)).f0 = 17 then none else some ((fi.f1.length : Int) - 1, 11) := rfl
                      rw [hLE] at hFE
                      generalize (rd_T65 fi.f1 ((fi.f1.length : Int) - 1)).f0 = o at hx0 hFE
                      have hwl : IntKind.i64.wrap ((fi.f1.length : Int) - 1) = (fi.f1.length : Int) - 1 := (i64_w _).trans (by unfold wrap64; omega)
                      have hlo : (0 ≤ (fi.f1.length : Int) - 1) = True := eq_true (by omega)
                      have hhi : ((fi.f1.length : Int) - 1 < (fi.f1.length : Int)) = True := eq_true (by omega)
                      have hB1i : (1 ≤ (fi.f1.length : Int)) = True := eq_true (by omega)
                      have HFE := Aside0.mk hFE
                      have HW' := Aside0.mk HW.out.ck
                      have b61 := blk_cell HW.out.h6 1
                      clear hx1 hx2 hx3 hx4 hFE hLE hin HAT HI hB1 hB64 hk hlk
                      go_upto_region 16 with (fail)
                      clear hx0 b61 hwl hlo hhi hB1i
                      have b70 := blk_cell HW.out.h7 0
                      have b71 := blk_cell HW.out.h7 1
                      have b72 := blk_cell HW.out.h7 2
                      have hu158 := Try.underlying158
                      by_cases ho9 : o = 9
                      · have HN := Aside0.mk (HFE.out.trans (if_pos (.inl ho9)))
                        have e9 : (o == 9) = true := by rw [ho9]; rfl
                        clear ho9
                        go_wp2_with fail
                        clear b70 b71 b72 hu158
                        refine (need_ok (some ad) l.length c i ((fi.f1.length : Int) - 1) 11 _).mono ?_
                        rintro e w9 ⟨rfl, hb⟩
                        have hck := (HW.out.keep hb).ck
                        have hst := check_step HF.out HFI.out HN.out
                        have hl16 := HLL.out.2
                        have hil := HLT.out
                        have HFN := Aside0.mk hst
                        have HCN := Aside0.mk hck
                        clear hst hck hb HF HW
                        go_wp2_with fail
                        go_roundw
                        case rel => exact ⟨i + 1, by go_num, by omega, HFN, HCN⟩
                        case measure => simp [intOf]; omega
                      · have e9 : (o == 9) = false := by simp [ho9]
                        by_cases ho16 : o = 16
                        · have HN := Aside0.mk (HFE.out.trans (if_pos (.inr (.inl ho16))))
                          have e16 : (o == 16) = true := by rw [ho16]; rfl
                          clear ho16 ho9
                          go_wp2_with fail
                          clear b70 b71 b72 hu158
                          refine (need_ok (some ad) l.length c i ((fi.f1.length : Int) - 1) 11 _).mono ?_
                          rintro e w9 ⟨rfl, hb⟩
                          have hck := (HW.out.keep hb).ck
                          have hst := check_step HF.out HFI.out HN.out
                          have hl16 := HLL.out.2
                          have hil := HLT.out
                          have HFN := Aside0.mk hst
                          have HCN := Aside0.mk hck
                          clear hst hck hb HF HW
                          go_wp2_with fail
                          go_roundw
                          case rel => exact ⟨i + 1, by go_num, by omega, HFN, HCN⟩
                          case measure => simp [intOf]; omega
                        · have e16 : (o == 16) = false := by simp [ho16]
                          by_cases ho17 : o = 17
                          · have HN := Aside0.mk (HFE.out.trans (if_pos (.inr (.inr ho17))))
                            have e17 : (o == 17) = true := by rw [ho17]; rfl
                            clear ho17 ho16 ho9
                            go_wp2_with fail
                            clear b70 b71 b72 hu158
                            refine (need_ok (some ad) l.length c i ((fi.f1.length : Int) - 1) 11 _).mono ?_
                            rintro e w9 ⟨rfl, hb⟩
                            have hck := (HW.out.keep hb).ck
                            have hst := check_step HF.out HFI.out HN.out
                            have hl16 := HLL.out.2
                            have hil := HLT.out
                            have HFN := Aside0.mk hst
                            have HCN := Aside0.mk hck
                            clear hst hck hb HF HW
                            go_wp2_with fail
                            go_roundw
                            case rel => exact ⟨i + 1, by go_num, by omega, HFN, HCN⟩
                            case measure => simp [intOf]; omega
                          · have e17 : (o == 17) = false := by simp [ho17]
                            have HN := Aside0.mk (HFE.out.trans (if_neg (by omega)))
                            clear ho17 ho16 ho9
                            go_wp2_with fail
                            refine (need_no (some ad) l.length c i ((fi.f1.length : Int) - 1) 11 _).mono ?_
                            rintro e w9 ⟨rfl, hb⟩
                            exact check_panics l i ((fi.f1.length : Int) - 1) 11 w w9 _ (check_stop HLL.out HF.out HFI.out HN.out) (HW.out.keep hb).ck rfl rfl rfl
                · rw [if_neg (fun h => hb1 (by have := of_decide_eq_true h; omega))] at he
                  subst he
                  exact check_panics l i 0 3 w w5 _ (check_stop HLL.out HF.out HFI.out (e := (0, 3)) (by unfold funcE; rw [if_pos HA.out, if_neg (by omega)])) hfw.ck rfl rfl rfl
              · have hb0' : (1 ≤ (fi.f1.length : Int)) = False := eq_false (by omega)
                have HB0 := Aside0.mk hb0
                clear hb0
                go_wp2_with fail
                refine (need_no (some ad) l.length c i 0 3 _).mono ?_
                rintro e w5 ⟨rfl, hb⟩
                exact check_panics l i 0 3 w w5 _ (check_stop HLL.out HF.out HFI.out (e := (0, 3)) (by unfold funcE; rw [if_pos HA.out, if_neg (by have := HB0.out; omega)])) (HW.out.keep hb).ck rfl rfl rfl
            · rw [if_neg (fun h => ha1 (of_decide_eq_true h))] at he
              subst he
              exact check_panics l i 0 6 w w4 _ (check_stop HLL.out HF.out HFI.out (e := (0, 6)) (by unfold funcE; rw [if_neg (by omega)])) hfw.ck rfl rfl rfl
          · have ha0' : (0 ≤ fi.f0) = False := eq_false ha0
            have HA0 := Aside0.mk ha0
            clear ha0
            go_wp2_with fail
            refine (need_no (some ad) l.length c i 0 6 _).mono ?_
            rintro e w4 ⟨rfl, hb⟩
            exact check_panics l i 0 6 w w4 _ (check_stop HLL.out HF.out HFI.out (e := (0, 6)) (by unfold funcE; rw [if_neg (by have := HA0.out; omega)])) (HW.out.keep hb).ck rfl rfl rfl
        · obtain rfl : i = l.length := by omega
          clear hlt hi
          have hck : checkP l = (0, 0, 0) := by
            have := HF.out
            rw [List.drop_length] at this
            unfold checkP; rw [if_pos HLL.out, this]; rfl
          have c0 := blk_cell HS.out.c0 0
          have c1 := blk_cell HS.out.c1 0
          have c2 := blk_cell HS.out.c2 0
          have f0 := blk_frozen HS.out.c0 0
          have f1 := blk_frozen HS.out.c1 0
          have f2 := blk_frozen HS.out.c2 0
          have HCK := Aside0.mk hck
          clear hck
          go_wp2_with fail
          have d0 := blk_farC (p := ⟨w.heap.size + 1 + 1, 0, none⟩) (blk_farC (p := ⟨w.heap.size + 1, 0, none⟩) (blk_set HS.out.c0 0 (.int .i64 0)) (by simp) (.int .i64 0)) (by simp; omega) (.int .i64 0)
          have d1 := blk_farC (p := ⟨w.heap.size + 1 + 1, 0, none⟩) (blk_set (blk_farC (p := ⟨w.heap.size, 0, none⟩) HS.out.c1 (by simp) (.int .i64 0)) 0 (.int .i64 0)) (by simp) (.int .i64 0)
          have d2 := blk_set (blk_farC (p := ⟨w.heap.size + 1, 0, none⟩) (blk_farC (p := ⟨w.heap.size, 0, none⟩) HS.out.c2 (by simp; omega) (.int .i64 0)) (by simp) (.int .i64 0)) 0 (.int .i64 0)
          have dB := Below.setCell (p := ⟨w.heap.size + 1 + 1, 0, none⟩) (Below.setCell (p := ⟨w.heap.size + 1, 0, none⟩) (Below.setCell (p := ⟨w.heap.size, 0, none⟩) HS.out.below (Nat.le_refl _) (.int .i64 0)) (show w.heap.size ≤ w.heap.size + 1 by omega) (.int .i64 0)) (show w.heap.size ≤ w.heap.size + 1 + 1 by omega) (.int .i64 0)
          have r0 := blk_cell d0 0
          have r1 := blk_cell d1 0
          have r2 := blk_cell d2 0
          refine leaves_cons (f := 59) (args := #[.pointer (some ⟨w.heap.size, 0, none⟩), .pointer (some ⟨w.heap.size + 1, 0, none⟩), .pointer (some ⟨w.heap.size + 1 + 1, 0, none⟩)]) (by simp) (by simp [go_sem]) ?_
          refine (ccatch_idle _ _ _ _).mono ?_
          rintro e u' w2 ⟨rfl, rfl, rfl⟩
          refine ⟨.tuple #[.int .i64 0, .int .i64 0, .int .i64 0], ?_, ?_⟩
          · simp [results, Try.results39, go_sem, r0, r1, r2]
          · exact ⟨by rw [HCK.out], dB⟩
    · rw [if_neg (fun h => hl2 (by have := of_decide_eq_true h; omega))] at he
      subst he
      exact check_panics l 0 0 3 w w2 _ (by unfold checkP; rw [if_neg (by omega)]) HS.out rfl rfl rfl
  · have hl1' : (1 ≤ (l.length : Int)) = False := eq_false (by omega)
    have HL1 := Aside0.mk hl1
    clear hl1
    go_enter_defers Try.func39, Try.ntmps39
    go_wp2_with fail
    refine (need_no none 0 0 0 0 3 _).mono ?_
    rintro e w2 ⟨rfl, hb⟩
    have hs2 := HS.out.keep (hb.mono HS.out.size)
    exact check_panics l 0 0 3 w w2 _ (by unfold checkP; rw [if_neg (by have := HL1.out; omega)]) hs2 rfl rfl rfl
theorem valid_Check.calls (A0 : Option Addr) (c0 : Nat) (l0 : List S68) (r1 r2 r3 : Int) (w : World) (hr0 : k68.C w A0 l0.length l0) (hc0 : l0.length ≤ c0) (h : valid_Check.f l0 = some (r1, r2, r3)) :
    Calls Try.prog 39 #[.slice A0 l0.length c0] w fun e w' => e = .returned (.tuple #[.int .i64 r1, .int .i64 r2, .int .i64 r3]) ∧ Below w.heap.size w w' := by
  have hq : checkP l0 = (r1, r2, r3) := Option.some.inj h
  refine (check_walk A0 c0 l0 w hr0 hc0).mono ?_
  rintro e w' ⟨he, hb⟩
  rw [hq] at he
  exact ⟨he, hb⟩
end Go.Proofs.Ytcciejcpijlkfaa.H

-- made by this session's gen.py over the kit's print.py; not trusted: Lean checks it
namespace Go.Proofs.Ytcciejcpijlkfaa.H
open Go.RowKit Go.Proofs.YtcciejcpijlkfaaW.PrintWords Go.Proofs.YtcciejcpijlkfaaW.PrintLast Go.Proofs.YtcciejcpijlkfaaW.PrintMore
attribute [local go_sem] max2_int min2_int max_two min_two max_three min_three max_four min_four   -- for this text's walks alone
set_option linter.unusedVariables false
set_option linter.unusedSimpArgs false

/-! ### eval_Right: function 33 -/
def eval_Right.f (l0 : List (S68)) (l1 : List Int) (a2_0 : Int) (a2_1 : Int) : Option (Bool) := (valid_Check.f l0).bind fun bt114 => (if bt114.2.2 = 0 then (if a2_0 < 1 then (some false) else (if a2_0 > 10000 then (some false) else (if a2_1 < 0 then (some false) else (if a2_1 > 30 then (some false) else (if 0 < (l0.length : Int) then (some ((l1.length : Int) == ((rd_T68 l0 0).f0))) else (none)))))) else (some false))
set_option maxHeartbeats 8000000 in
set_option maxRecDepth 100000 in
theorem eval_Right.calls (A0 : Option Addr) (c0 : Nat) (l0 : List (S68)) (A1 : Option Addr) (c1 : Nat) (l1 : List Int) (a2_0 : Int) (a2_1 : Int) (r : Bool) (w : World) (hr0 : Kd.C k68 w A0 l0.length l0) (hc0 : l0.length ≤ c0) (hr1 : Kd.C (Kd.int .i64) w A1 l1.length l1) (hc1 : l1.length ≤ c1) (h : eval_Right.f l0 l1 a2_0 a2_1 = some r) :
    Calls Try.prog 33 #[.slice A0 l0.length c0, .slice A1 l1.length c1, .agg #[.int .i64 a2_0, .int .i64 a2_1]] w fun e w' => e = .returned (.bool r) ∧ Below w.heap.size w w' := by
  have hu43 := Try.underlying43
  have HR0 := Aside0.mk hr0
  have HC0 := Aside0.mk hc0
  clear hr0 hc0
  have HR1 := Aside0.mk hr1
  have HC1 := Aside0.mk hc1
  clear hr1 hc1
  have HB := Aside0.mk (Below.refl w.heap.size w)
  have H : ((valid_Check.f l0).bind fun bt114 => (if bt114.2.2 = 0 then (if a2_0 < 1 then (some false) else (if a2_0 > 10000 then (some false) else (if a2_1 < 0 then (some false) else (if a2_1 > 30 then (some false) else (if 0 < (l0.length : Int) then (some ((l1.length : Int) == ((rd_T68 l0 0).f0))) else (none)))))) else (some false))) = some r := h
  clear h
  replace H := Option.bind_eq_some_iff.mp H
  obtain ⟨⟨t114, t115, t116⟩, A40, H⟩ := H
  replace H : (if t116 = 0 then (if a2_0 < 1 then (some false) else (if a2_0 > 10000 then (some false) else (if a2_1 < 0 then (some false) else (if a2_1 > 30 then (some false) else (if 0 < (l0.length : Int) then (some ((l1.length : Int) == ((rd_T68 l0 0).f0))) else (none)))))) else (some false)) = some r := H
  have A4 := Aside0.mk A40
  clear A40
  by_cases c5 : t116 = 0
  · rw [if_pos c5] at H
    have c5b0 : (t116 == 0) = true := beq_iff_eq.mpr c5
    have c5b1 : (t116 != 0) = false := bne_eq_false_iff_eq.mpr c5
    clear c5
    by_cases c6 : a2_0 < 1
    · rw [if_pos c6] at H
      have c6b0 : decide (a2_0 < 1) = true := decide_eq_true c6
      clear c6
      obtain rfl := Option.some.inj H
      go_enter Try.func33, Try.ntmps33
      go_wp2_with (first | ((with_reducible refine gate_dst (N := 5) rfl ?_); refine box_event ?hg (N := 5) ?hd (cs := #[.int .i64 a2_0, .int .i64 a2_1]) (t := 43) ?hr ?_; (case hd => rfl); (case hg => rfl); (case hr => first | (go_simp; done) | (go_simp; rfl)); intro gb113 hg w7 hbox hb; have n0_ := Aside0.mk (below_step (by repeat (first | (with_reducible first | exact HB.out | apply below_alloc | apply pw_below_drewN | apply below_drew1) | exact HB.out)) hb); have n1_ := Aside0.mk (hbox); have n2_ := Aside0.mk ((by rw [hg]; exact (below_size (by repeat (first | (with_reducible first | exact HB.out | apply below_alloc | apply pw_below_drewN | apply below_drew1) | exact HB.out))) : w.heap.size ≤ gb113)); have n3_ := Aside0.mk ((by rw [hg]; exact (below_size (by repeat (first | (with_reducible first | exact HB.out | apply below_alloc | apply pw_below_drewN | apply below_drew1) | exact HB.out))) : w.heap.size ≤ gb113)); clear HB; have HB := n0_; have BK113 := n1_; have GW113 := n2_; have GE113 := n3_; clear n0_ n1_ n2_ n3_; clear hb hbox hg) | ((with_reducible refine gate_callee (f := 39) rfl ?_); refine goesL_ (some 12) rfl rfl Try.func39 (by kernel_rfl) rfl #[.slice A0 l0.length c0] rfl (by (try simp only [List.map_toArray, List.map_cons, List.map_nil]); first | done | rfl | (simp only [List.length_drop, List.length_take]; rfl)) ?_; (with_reducible refine (valid_Check.calls _ _ l0 t114 t115 t116 _ ?side1 ?side2 A4.out).mono ?_); (case side1 => repeat (first | exact (Kd.C_below HR0.out HB.out) | (with_reducible refine Kd.C_alloc ?_ _) | (with_reducible refine Kd.C_drewN ?_ _) | (with_reducible refine Kd.C_drew ?_))); (case side2 => exact HC0.out); rintro e w8 ⟨rfl, hb⟩; refine ⟨_, rfl, ?_⟩; have n0_ := Aside0.mk (blk_below (g := gb113) (o := .cells #[.int .i64 a2_0, .int .i64 a2_1] 43 (0, 0)) (by (with_reducible repeat (first | refine blk_drewN ?_ _ | refine blk_drew ?_ | refine blk_alloc ?_ _)); exact BK113.out) hb); have n1_ := Aside0.mk (below_step (by repeat (first | (with_reducible first | exact HB.out | apply below_alloc | apply pw_below_drewN | apply below_drew1 | refine below_set ?_ GE113.out) | exact HB.out)) hb); clear BK113; clear HB; have BK113 := n0_; have HB := n1_; clear n0_ n1_; (try clear hb); (try clear hb2); (try clear hk); (try clear hi); have hcz9_0 : w8.cell? ⟨gb113, 0, none⟩ = some (.int .i64 a2_0) := (blk_cell BK113.out 0).trans rfl; have hcz9_1 : w8.cell? ⟨gb113, 1, none⟩ = some (.int .i64 a2_1) := (blk_cell BK113.out 1).trans rfl; have hfz9_0 := blk_frozen BK113.out 0; have hfz9_1 := blk_frozen BK113.out 1))
      go_ret
      exact ⟨by first | rfl | (simp [errW_none, errW_some] <;> rfl) | (simp [*, errW_none, errW_some] <;> rfl), by repeat (first | (with_reducible first | exact HB.out | apply below_alloc | apply pw_below_drewN | apply below_drew1 | refine below_set ?_ GE113.out) | exact HB.out)⟩
    · rw [if_neg c6] at H
      have c6b0 : decide (a2_0 < 1) = false := decide_eq_false c6
      clear c6
      by_cases c10 : a2_0 > 10000
      · rw [if_pos c10] at H
        have c10b0 : decide (10000 < a2_0) = true := decide_eq_true c10
        clear c10
        obtain rfl := Option.some.inj H
        go_enter Try.func33, Try.ntmps33
        go_wp2_with (first | ((with_reducible refine gate_dst (N := 5) rfl ?_); refine box_event ?hg (N := 5) ?hd (cs := #[.int .i64 a2_0, .int .i64 a2_1]) (t := 43) ?hr ?_; (case hd => rfl); (case hg => rfl); (case hr => first | (go_simp; done) | (go_simp; rfl)); intro gb113 hg w11 hbox hb; have n0_ := Aside0.mk (below_step (by repeat (first | (with_reducible first | exact HB.out | apply below_alloc | apply pw_below_drewN | apply below_drew1) | exact HB.out)) hb); have n1_ := Aside0.mk (hbox); have n2_ := Aside0.mk ((by rw [hg]; exact (below_size (by repeat (first | (with_reducible first | exact HB.out | apply below_alloc | apply pw_below_drewN | apply below_drew1) | exact HB.out))) : w.heap.size ≤ gb113)); have n3_ := Aside0.mk ((by rw [hg]; exact (below_size (by repeat (first | (with_reducible first | exact HB.out | apply below_alloc | apply pw_below_drewN | apply below_drew1) | exact HB.out))) : w.heap.size ≤ gb113)); clear HB; have HB := n0_; have BK113 := n1_; have GW113 := n2_; have GE113 := n3_; clear n0_ n1_ n2_ n3_; clear hb hbox hg) | ((with_reducible refine gate_callee (f := 39) rfl ?_); refine goesL_ (some 12) rfl rfl Try.func39 (by kernel_rfl) rfl #[.slice A0 l0.length c0] rfl (by (try simp only [List.map_toArray, List.map_cons, List.map_nil]); first | done | rfl | (simp only [List.length_drop, List.length_take]; rfl)) ?_; (with_reducible refine (valid_Check.calls _ _ l0 t114 t115 t116 _ ?side1 ?side2 A4.out).mono ?_); (case side1 => repeat (first | exact (Kd.C_below HR0.out HB.out) | (with_reducible refine Kd.C_alloc ?_ _) | (with_reducible refine Kd.C_drewN ?_ _) | (with_reducible refine Kd.C_drew ?_))); (case side2 => exact HC0.out); rintro e w12 ⟨rfl, hb⟩; refine ⟨_, rfl, ?_⟩; have n0_ := Aside0.mk (blk_below (g := gb113) (o := .cells #[.int .i64 a2_0, .int .i64 a2_1] 43 (0, 0)) (by (with_reducible repeat (first | refine blk_drewN ?_ _ | refine blk_drew ?_ | refine blk_alloc ?_ _)); exact BK113.out) hb); have n1_ := Aside0.mk (below_step (by repeat (first | (with_reducible first | exact HB.out | apply below_alloc | apply pw_below_drewN | apply below_drew1 | refine below_set ?_ GE113.out) | exact HB.out)) hb); clear BK113; clear HB; have BK113 := n0_; have HB := n1_; clear n0_ n1_; (try clear hb); (try clear hb2); (try clear hk); (try clear hi); have hcz13_0 : w12.cell? ⟨gb113, 0, none⟩ = some (.int .i64 a2_0) := (blk_cell BK113.out 0).trans rfl; have hcz13_1 : w12.cell? ⟨gb113, 1, none⟩ = some (.int .i64 a2_1) := (blk_cell BK113.out 1).trans rfl; have hfz13_0 := blk_frozen BK113.out 0; have hfz13_1 := blk_frozen BK113.out 1))
        go_ret
        exact ⟨by first | rfl | (simp [errW_none, errW_some] <;> rfl) | (simp [*, errW_none, errW_some] <;> rfl), by repeat (first | (with_reducible first | exact HB.out | apply below_alloc | apply pw_below_drewN | apply below_drew1 | refine below_set ?_ GE113.out) | exact HB.out)⟩
      · rw [if_neg c10] at H
        have c10b0 : decide (10000 < a2_0) = false := decide_eq_false c10
        clear c10
        by_cases c14 : a2_1 < 0
        · rw [if_pos c14] at H
          have c14b0 : decide (a2_1 < 0) = true := decide_eq_true c14
          clear c14
          obtain rfl := Option.some.inj H
          go_enter Try.func33, Try.ntmps33
          go_wp2_with (first | ((with_reducible refine gate_dst (N := 5) rfl ?_); refine box_event ?hg (N := 5) ?hd (cs := #[.int .i64 a2_0, .int .i64 a2_1]) (t := 43) ?hr ?_; (case hd => rfl); (case hg => rfl); (case hr => first | (go_simp; done) | (go_simp; rfl)); intro gb113 hg w15 hbox hb; have n0_ := Aside0.mk (below_step (by repeat (first | (with_reducible first | exact HB.out | apply below_alloc | apply pw_below_drewN | apply below_drew1) | exact HB.out)) hb); have n1_ := Aside0.mk (hbox); have n2_ := Aside0.mk ((by rw [hg]; exact (below_size (by repeat (first | (with_reducible first | exact HB.out | apply below_alloc | apply pw_below_drewN | apply below_drew1) | exact HB.out))) : w.heap.size ≤ gb113)); have n3_ := Aside0.mk ((by rw [hg]; exact (below_size (by repeat (first | (with_reducible first | exact HB.out | apply below_alloc | apply pw_below_drewN | apply below_drew1) | exact HB.out))) : w.heap.size ≤ gb113)); clear HB; have HB := n0_; have BK113 := n1_; have GW113 := n2_; have GE113 := n3_; clear n0_ n1_ n2_ n3_; clear hb hbox hg) | ((with_reducible refine gate_callee (f := 39) rfl ?_); refine goesL_ (some 12) rfl rfl Try.func39 (by kernel_rfl) rfl #[.slice A0 l0.length c0] rfl (by (try simp only [List.map_toArray, List.map_cons, List.map_nil]); first | done | rfl | (simp only [List.length_drop, List.length_take]; rfl)) ?_; (with_reducible refine (valid_Check.calls _ _ l0 t114 t115 t116 _ ?side1 ?side2 A4.out).mono ?_); (case side1 => repeat (first | exact (Kd.C_below HR0.out HB.out) | (with_reducible refine Kd.C_alloc ?_ _) | (with_reducible refine Kd.C_drewN ?_ _) | (with_reducible refine Kd.C_drew ?_))); (case side2 => exact HC0.out); rintro e w16 ⟨rfl, hb⟩; refine ⟨_, rfl, ?_⟩; have n0_ := Aside0.mk (blk_below (g := gb113) (o := .cells #[.int .i64 a2_0, .int .i64 a2_1] 43 (0, 0)) (by (with_reducible repeat (first | refine blk_drewN ?_ _ | refine blk_drew ?_ | refine blk_alloc ?_ _)); exact BK113.out) hb); have n1_ := Aside0.mk (below_step (by repeat (first | (with_reducible first | exact HB.out | apply below_alloc | apply pw_below_drewN | apply below_drew1 | refine below_set ?_ GE113.out) | exact HB.out)) hb); clear BK113; clear HB; have BK113 := n0_; have HB := n1_; clear n0_ n1_; (try clear hb); (try clear hb2); (try clear hk); (try clear hi); have hcz17_0 : w16.cell? ⟨gb113, 0, none⟩ = some (.int .i64 a2_0) := (blk_cell BK113.out 0).trans rfl; have hcz17_1 : w16.cell? ⟨gb113, 1, none⟩ = some (.int .i64 a2_1) := (blk_cell BK113.out 1).trans rfl; have hfz17_0 := blk_frozen BK113.out 0; have hfz17_1 := blk_frozen BK113.out 1))
          go_ret
          exact ⟨by first | rfl | (simp [errW_none, errW_some] <;> rfl) | (simp [*, errW_none, errW_some] <;> rfl), by repeat (first | (with_reducible first | exact HB.out | apply below_alloc | apply pw_below_drewN | apply below_drew1 | refine below_set ?_ GE113.out) | exact HB.out)⟩
        · rw [if_neg c14] at H
          have c14b0 : decide (a2_1 < 0) = false := decide_eq_false c14
          clear c14
          by_cases c18 : a2_1 > 30
          · rw [if_pos c18] at H
            have c18b0 : decide (30 < a2_1) = true := decide_eq_true c18
            clear c18
            obtain rfl := Option.some.inj H
            go_enter Try.func33, Try.ntmps33
            go_wp2_with (first | ((with_reducible refine gate_dst (N := 5) rfl ?_); refine box_event ?hg (N := 5) ?hd (cs := #[.int .i64 a2_0, .int .i64 a2_1]) (t := 43) ?hr ?_; (case hd => rfl); (case hg => rfl); (case hr => first | (go_simp; done) | (go_simp; rfl)); intro gb113 hg w19 hbox hb; have n0_ := Aside0.mk (below_step (by repeat (first | (with_reducible first | exact HB.out | apply below_alloc | apply pw_below_drewN | apply below_drew1) | exact HB.out)) hb); have n1_ := Aside0.mk (hbox); have n2_ := Aside0.mk ((by rw [hg]; exact (below_size (by repeat (first | (with_reducible first | exact HB.out | apply below_alloc | apply pw_below_drewN | apply below_drew1) | exact HB.out))) : w.heap.size ≤ gb113)); have n3_ := Aside0.mk ((by rw [hg]; exact (below_size (by repeat (first | (with_reducible first | exact HB.out | apply below_alloc | apply pw_below_drewN | apply below_drew1) | exact HB.out))) : w.heap.size ≤ gb113)); clear HB; have HB := n0_; have BK113 := n1_; have GW113 := n2_; have GE113 := n3_; clear n0_ n1_ n2_ n3_; clear hb hbox hg) | ((with_reducible refine gate_callee (f := 39) rfl ?_); refine goesL_ (some 12) rfl rfl Try.func39 (by kernel_rfl) rfl #[.slice A0 l0.length c0] rfl (by (try simp only [List.map_toArray, List.map_cons, List.map_nil]); first | done | rfl | (simp only [List.length_drop, List.length_take]; rfl)) ?_; (with_reducible refine (valid_Check.calls _ _ l0 t114 t115 t116 _ ?side1 ?side2 A4.out).mono ?_); (case side1 => repeat (first | exact (Kd.C_below HR0.out HB.out) | (with_reducible refine Kd.C_alloc ?_ _) | (with_reducible refine Kd.C_drewN ?_ _) | (with_reducible refine Kd.C_drew ?_))); (case side2 => exact HC0.out); rintro e w20 ⟨rfl, hb⟩; refine ⟨_, rfl, ?_⟩; have n0_ := Aside0.mk (blk_below (g := gb113) (o := .cells #[.int .i64 a2_0, .int .i64 a2_1] 43 (0, 0)) (by (with_reducible repeat (first | refine blk_drewN ?_ _ | refine blk_drew ?_ | refine blk_alloc ?_ _)); exact BK113.out) hb); have n1_ := Aside0.mk (below_step (by repeat (first | (with_reducible first | exact HB.out | apply below_alloc | apply pw_below_drewN | apply below_drew1 | refine below_set ?_ GE113.out) | exact HB.out)) hb); clear BK113; clear HB; have BK113 := n0_; have HB := n1_; clear n0_ n1_; (try clear hb); (try clear hb2); (try clear hk); (try clear hi); have hcz21_0 : w20.cell? ⟨gb113, 0, none⟩ = some (.int .i64 a2_0) := (blk_cell BK113.out 0).trans rfl; have hcz21_1 : w20.cell? ⟨gb113, 1, none⟩ = some (.int .i64 a2_1) := (blk_cell BK113.out 1).trans rfl; have hfz21_0 := blk_frozen BK113.out 0; have hfz21_1 := blk_frozen BK113.out 1))
            go_ret
            exact ⟨by first | rfl | (simp [errW_none, errW_some] <;> rfl) | (simp [*, errW_none, errW_some] <;> rfl), by repeat (first | (with_reducible first | exact HB.out | apply below_alloc | apply pw_below_drewN | apply below_drew1 | refine below_set ?_ GE113.out) | exact HB.out)⟩
          · rw [if_neg c18] at H
            have c18b0 : decide (30 < a2_1) = false := decide_eq_false c18
            clear c18
            by_cases c22 : 0 < (l0.length : Int)
            · rw [if_pos c22] at H
              have c22b0 : decide (0 < (l0.length : Int)) = true := decide_eq_true c22
              have c22b1 : decide (0 < l0.length) = true := decide_eq_true (by omega)
              clear c22
              obtain rfl := Option.some.inj H
              go_enter Try.func33, Try.ntmps33
              go_wp2_with (first | ((with_reducible refine gate_dst (N := 5) rfl ?_); refine box_event ?hg (N := 5) ?hd (cs := #[.int .i64 a2_0, .int .i64 a2_1]) (t := 43) ?hr ?_; (case hd => rfl); (case hg => rfl); (case hr => first | (go_simp; done) | (go_simp; rfl)); intro gb113 hg w23 hbox hb; have n0_ := Aside0.mk (below_step (by repeat (first | (with_reducible first | exact HB.out | apply below_alloc | apply pw_below_drewN | apply below_drew1) | exact HB.out)) hb); have n1_ := Aside0.mk (hbox); have n2_ := Aside0.mk ((by rw [hg]; exact (below_size (by repeat (first | (with_reducible first | exact HB.out | apply below_alloc | apply pw_below_drewN | apply below_drew1) | exact HB.out))) : w.heap.size ≤ gb113)); have n3_ := Aside0.mk ((by rw [hg]; exact (below_size (by repeat (first | (with_reducible first | exact HB.out | apply below_alloc | apply pw_below_drewN | apply below_drew1) | exact HB.out))) : w.heap.size ≤ gb113)); clear HB; have HB := n0_; have BK113 := n1_; have GW113 := n2_; have GE113 := n3_; clear n0_ n1_ n2_ n3_; clear hb hbox hg) | ((with_reducible refine gate_callee (f := 39) rfl ?_); refine goesL_ (some 12) rfl rfl Try.func39 (by kernel_rfl) rfl #[.slice A0 l0.length c0] rfl (by (try simp only [List.map_toArray, List.map_cons, List.map_nil]); first | done | rfl | (simp only [List.length_drop, List.length_take]; rfl)) ?_; (with_reducible refine (valid_Check.calls _ _ l0 t114 t115 t116 _ ?side1 ?side2 A4.out).mono ?_); (case side1 => repeat (first | exact (Kd.C_below HR0.out HB.out) | (with_reducible refine Kd.C_alloc ?_ _) | (with_reducible refine Kd.C_drewN ?_ _) | (with_reducible refine Kd.C_drew ?_))); (case side2 => exact HC0.out); rintro e w24 ⟨rfl, hb⟩; refine ⟨_, rfl, ?_⟩; have n0_ := Aside0.mk (blk_below (g := gb113) (o := .cells #[.int .i64 a2_0, .int .i64 a2_1] 43 (0, 0)) (by (with_reducible repeat (first | refine blk_drewN ?_ _ | refine blk_drew ?_ | refine blk_alloc ?_ _)); exact BK113.out) hb); have n1_ := Aside0.mk (below_step (by repeat (first | (with_reducible first | exact HB.out | apply below_alloc | apply pw_below_drewN | apply below_drew1 | refine below_set ?_ GE113.out) | exact HB.out)) hb); clear BK113; clear HB; have BK113 := n0_; have HB := n1_; clear n0_ n1_; (try clear hb); (try clear hb2); (try clear hk); (try clear hi); have hcz25_0 : w24.cell? ⟨gb113, 0, none⟩ = some (.int .i64 a2_0) := (blk_cell BK113.out 0).trans rfl; have hcz25_1 : w24.cell? ⟨gb113, 1, none⟩ = some (.int .i64 a2_1) := (blk_cell BK113.out 1).trans rfl; have hfz25_0 := blk_frozen BK113.out 0; have hfz25_1 := blk_frozen BK113.out 1; have p117 : 0 ≤ (0 : Int) := (by omega); have q117 : 0 < (l0.length : Int) := of_decide_eq_true (by first | (with_reducible assumption) | assumption); obtain ⟨ad117, A117_1, c117_1, e117, hx117_0, hx117_1, hl117_1, hi117_1⟩ := at_T68 HR0.out 0 p117 q117; cases e117; have qi117 : (0 < l0.length) = True := eq_true (by omega); (try rw [show ((0 : Int)).toNat = 0 from rfl] at hx117_0); (try rw [show 0 * 2 = 0 from rfl] at hx117_0); (try rw [Addr.add_zero'] at hx117_0); (try rw [show ((0 : Int)).toNat = 0 from rfl] at hx117_1); (try rw [show 0 * 2 = 0 from rfl] at hx117_1); (try rw [Addr.add_zero'] at hx117_1); replace hx117_0 := (HB.out.cell (World.block_lt_of_cell? w _ hx117_0)).trans hx117_0; replace hx117_1 := (HB.out.cell (World.block_lt_of_cell? w _ hx117_1)).trans hx117_1; have HR117_1 := Aside0.mk hi117_1; have HC117_1 := Aside0.mk hl117_1; clear hi117_1 hl117_1; replace p117 := eq_true p117; replace q117 := eq_true q117))
              go_ret
              exact ⟨by first | rfl | (simp [errW_none, errW_some] <;> rfl) | (simp [*, errW_none, errW_some] <;> rfl), by repeat (first | (with_reducible first | exact HB.out | apply below_alloc | apply pw_below_drewN | apply below_drew1 | refine below_set ?_ GE113.out) | exact HB.out)⟩
            · rw [if_neg c22] at H
              exact absurd H (by simp)
  · rw [if_neg c5] at H
    have c5b0 : (t116 == 0) = false := beq_eq_false_iff_ne.mpr c5
    have c5b1 : (t116 != 0) = true := bne_iff_ne.mpr c5
    obtain rfl := Option.some.inj H
    go_enter Try.func33, Try.ntmps33
    go_wp2_with (first | ((with_reducible refine gate_dst (N := 5) rfl ?_); refine box_event ?hg (N := 5) ?hd (cs := #[.int .i64 a2_0, .int .i64 a2_1]) (t := 43) ?hr ?_; (case hd => rfl); (case hg => rfl); (case hr => first | (go_simp; done) | (go_simp; rfl)); intro gb113 hg w26 hbox hb; have n0_ := Aside0.mk (below_step (by repeat (first | (with_reducible first | exact HB.out | apply below_alloc | apply pw_below_drewN | apply below_drew1) | exact HB.out)) hb); have n1_ := Aside0.mk (hbox); have n2_ := Aside0.mk ((by rw [hg]; exact (below_size (by repeat (first | (with_reducible first | exact HB.out | apply below_alloc | apply pw_below_drewN | apply below_drew1) | exact HB.out))) : w.heap.size ≤ gb113)); have n3_ := Aside0.mk ((by rw [hg]; exact (below_size (by repeat (first | (with_reducible first | exact HB.out | apply below_alloc | apply pw_below_drewN | apply below_drew1) | exact HB.out))) : w.heap.size ≤ gb113)); clear HB; have HB := n0_; have BK113 := n1_; have GW113 := n2_; have GE113 := n3_; clear n0_ n1_ n2_ n3_; clear hb hbox hg) | ((with_reducible refine gate_callee (f := 39) rfl ?_); refine goesL_ (some 12) rfl rfl Try.func39 (by kernel_rfl) rfl #[.slice A0 l0.length c0] rfl (by (try simp only [List.map_toArray, List.map_cons, List.map_nil]); first | done | rfl | (simp only [List.length_drop, List.length_take]; rfl)) ?_; (with_reducible refine (valid_Check.calls _ _ l0 t114 t115 t116 _ ?side1 ?side2 A4.out).mono ?_); (case side1 => repeat (first | exact (Kd.C_below HR0.out HB.out) | (with_reducible refine Kd.C_alloc ?_ _) | (with_reducible refine Kd.C_drewN ?_ _) | (with_reducible refine Kd.C_drew ?_))); (case side2 => exact HC0.out); rintro e w27 ⟨rfl, hb⟩; refine ⟨_, rfl, ?_⟩; have n0_ := Aside0.mk (blk_below (g := gb113) (o := .cells #[.int .i64 a2_0, .int .i64 a2_1] 43 (0, 0)) (by (with_reducible repeat (first | refine blk_drewN ?_ _ | refine blk_drew ?_ | refine blk_alloc ?_ _)); exact BK113.out) hb); have n1_ := Aside0.mk (below_step (by repeat (first | (with_reducible first | exact HB.out | apply below_alloc | apply pw_below_drewN | apply below_drew1 | refine below_set ?_ GE113.out) | exact HB.out)) hb); clear BK113; clear HB; have BK113 := n0_; have HB := n1_; clear n0_ n1_; (try clear hb); (try clear hb2); (try clear hk); (try clear hi)))
    go_ret
    exact ⟨by first | rfl | (simp [errW_none, errW_some] <;> rfl) | (simp [*, errW_none, errW_some] <;> rfl), by repeat (first | (with_reducible first | exact HB.out | apply below_alloc | apply pw_below_drewN | apply below_drew1 | refine below_set ?_ GE113.out) | exact HB.out)⟩

end Go.Proofs.Ytcciejcpijlkfaa.H

