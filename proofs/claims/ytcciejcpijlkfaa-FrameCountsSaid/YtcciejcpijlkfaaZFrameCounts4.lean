/- What the proof of FrameCounts stands on, part 4: this session's own texts and the words that the kit's print lays, those that are used. -/
import Derived.Test.YtcciejcpijlkfaaZFrameCounts3
import Derived.Laws.CopyOwn
set_option linter.unusedVariables false
set_option linter.unusedSimpArgs false
namespace Go.Proofs.Ytcciejcpijlkfaa.H
open Go.RowKit Go.Hay Go.Proofs.YtcciejcpijlkfaaW.PrintWords Go.Proofs.YtcciejcpijlkfaaW.PrintLast Go.Proofs.YtcciejcpijlkfaaW.PrintMore
theorem blk_farC {w : World} {g : Nat} {o : Obj} {p : Addr} (h : w.heap[g]? = some o) (hne : g ≠ p.block) (v : Value) : (w.setCell p v).heap[g]? = some o := (Below.heap_setCell w p v g hne).trans h
theorem assert_wrong (v : Value) (w : World) : (Instr.typeAssert (.iface 155 v) 20 155 true).run Try.prog w = .ok (.tuple #[v, .bool true]) w := by kernel_rfl
set_option maxRecDepth 100000 in
set_option maxHeartbeats 4000000 in
theorem ccatch_panicking (B : Nat) (f at_ e : Int) (w : World) (v1 v2 v3 : Value) (h1 : w.heap[B]? = some (.cells #[v1] 3 (0, 0))) (h2 : w.heap[B + 1]? = some (.cells #[v2] 3 (0, 0))) (h3 : w.heap[B + 1 + 1]? = some (.cells #[v3] 37 (0, 0))) :
    CallsD Try.prog 59 #[.pointer (some ⟨B, 0, none⟩), .pointer (some ⟨B + 1, 0, none⟩), .pointer (some ⟨B + 1 + 1, 0, none⟩)] (.panicking [{ v := wrongV f at_ e, recovered := false }]) w fun x u' w' =>
      x = .returned (.tuple #[]) ∧ u' = .panicking [{ v := wrongV f at_ e, recovered := true }] ∧ Below B w w' ∧ w'.heap[B]? = some (.cells #[.int .i64 f] 3 (0, 0)) ∧ w'.heap[B + 1]? = some (.cells #[.int .i64 at_] 3 (0, 0)) ∧ w'.heap[B + 1 + 1]? = some (.cells #[.int .i64 e] 37 (0, 0)) := by
  have hu155 := Try.underlying155
  have ha := assert_wrong (.agg #[.int .i64 f, .int .i64 at_, .int .i64 e])
  have H1 := Aside0.mk h1
  have H2 := Aside0.mk h2
  have H3 := Aside0.mk h3
  clear h1 h2 h3
  refine callsD_of_wpS Try.func59 rfl fun c₀ cs hu => ?_
  apply wpS_seq
  apply wpS_region
  simp [wpOpsS, go_sem, recoverD, hu, Try.ntmps59, Exit.thenS]
  refine wpS_body ?_
  simp only [Array.replicate_succ, Array.replicate_zero, List.push_toArray, List.append_toArray, List.nil_append, List.cons_append, List.setIfInBounds_toArray, List.set_cons_zero, List.set_cons_succ, wrongV]
  go_wp2_with fail
  have hg := alloc_blk w (.cells #[.int .i64 f, .int .i64 at_, .int .i64 e] 155)
  have g1 := blk_alloc H1.out (.cells #[.int .i64 f, .int .i64 at_, .int .i64 e] 155)
  have g2 := blk_alloc H2.out (.cells #[.int .i64 f, .int .i64 at_, .int .i64 e] 155)
  have g3 := blk_alloc H3.out (.cells #[.int .i64 f, .int .i64 at_, .int .i64 e] 155)
  have hz := blk_lt H3.out
  have hb : Below B w (w.alloc (.cells #[.int .i64 f, .int .i64 at_, .int .i64 e] 155)) := (Below.refl _ _).alloc (by omega) _
  clear H1 H2 H3
  have GS := Aside0.mk (And.intro hg (And.intro g1 (And.intro g2 (And.intro g3 (And.intro hz hb)))))
  clear hg g1 g2 g3 hz hb
  refine wp_region_seq (fun w' => w'.heap[w.heap.size]? = some (.cells #[.int .i64 f, .int .i64 at_, .int .i64 e] 155 (0, 0))) [] [.take 0, .take 1, .take 2, .take 3, .take 4, .take 5, .op 6, .op 7, .op 8] (by kernel_rfl) (by kernel_rfl) rfl (by kernel_rfl) (panic_via (P := Try.prog) (fn := Try.f59) (fun _ _ _ => rfl)) ?_
  have hs : (w.alloc (.cells #[.int .i64 f, .int .i64 at_, .int .i64 e] 155)).drew.heap[w.heap.size]? = some (.cells #[.int .i64 f, .int .i64 at_, .int .i64 e] 155 (0, 0)) := GS.out.1
  repeat (
    (first
      | (refine runSeq_take (v := ?_) (by rfl) (by rfl) (fun w' hS => ?_) hs ?_
         rotate_left
         · (have d0 := blk_cell hS 0; have d1 := blk_cell hS 1; have d2 := blk_cell hS 2; go_simp; exact rfl))
      | refine runSeq_skip (by rfl) (by rfl) hs ?_)
    (try simp only [Act.put, List.setIfInBounds_toArray, List.set_cons_zero, List.set_cons_succ]))
  obtain ⟨hg, g1, g2, g3, hz, hb⟩ := GS.out
  clear GS hs
  have hg : (w.alloc (.cells #[.int .i64 f, .int .i64 at_, .int .i64 e] 155)).drew.heap[w.heap.size]? = _ := hg
  have g1 : (w.alloc (.cells #[.int .i64 f, .int .i64 at_, .int .i64 e] 155)).drew.heap[B]? = _ := g1
  have g2 : (w.alloc (.cells #[.int .i64 f, .int .i64 at_, .int .i64 e] 155)).drew.heap[B + 1]? = _ := g2
  have g3 : (w.alloc (.cells #[.int .i64 f, .int .i64 at_, .int .i64 e] 155)).drew.heap[B + 1 + 1]? = _ := g3
  have hb := hb.drew
  generalize (w.alloc (.cells #[.int .i64 f, .int .i64 at_, .int .i64 e] 155)).drew = wa at hg g1 g2 g3 hb ⊢
  have c := blk_cell g1 0
  have fz := blk_frozen g1 0
  refine runSeq_op (by rfl) (by rfl) (fun K hK => ?_)
  go_simp
  have hg := blk_farC (p := ⟨B, 0, none⟩) hg (show w.heap.size ≠ B by omega) (.int .i64 f)
  refine hK _ _ hg ?_
  clear hK K c fz
  have n1 := g1
  have q1 := g1
  have q2 := g2
  have q3 := g3
  clear g1 g2 g3
  have g1 : (wa.setCell ⟨B, 0, none⟩ (.int .i64 f)).heap[B]? = some (.cells #[.int .i64 f] 3 (0, 0)) := by first | exact blk_farC (p := ⟨B, 0, none⟩) q1 (show B ≠ B by omega) (.int .i64 f) | exact blk_set q1 0 _
  have g2 : (wa.setCell ⟨B, 0, none⟩ (.int .i64 f)).heap[B + 1]? = some (.cells #[v2] 3 (0, 0)) := by first | exact blk_farC (p := ⟨B, 0, none⟩) q2 (show B + 1 ≠ B by omega) (.int .i64 f) | exact blk_set q2 0 _
  have g3 : (wa.setCell ⟨B, 0, none⟩ (.int .i64 f)).heap[B + 1 + 1]? = some (.cells #[v3] 37 (0, 0)) := by first | exact blk_farC (p := ⟨B, 0, none⟩) q3 (show B + 1 + 1 ≠ B by omega) (.int .i64 f) | exact blk_set q3 0 _
  have hb := Below.setCell (p := ⟨B, 0, none⟩) hb (show B ≤ B by omega) (.int .i64 f)
  clear q1 q2 q3 n1
  generalize wa.setCell ⟨B, 0, none⟩ (.int .i64 f) = wa at hg g1 g2 g3 hb ⊢
  have c := blk_cell g2 0
  have fz := blk_frozen g2 0
  refine runSeq_op (by rfl) (by rfl) (fun K hK => ?_)
  go_simp
  have hg := blk_farC (p := ⟨B + 1, 0, none⟩) hg (show w.heap.size ≠ B + 1 by omega) (.int .i64 at_)
  refine hK _ _ hg ?_
  clear hK K c fz
  have n1 := g2
  have q1 := g1
  have q2 := g2
  have q3 := g3
  clear g1 g2 g3
  have g1 : (wa.setCell ⟨B + 1, 0, none⟩ (.int .i64 at_)).heap[B]? = some (.cells #[.int .i64 f] 3 (0, 0)) := by first | exact blk_farC (p := ⟨B + 1, 0, none⟩) q1 (show B ≠ B + 1 by omega) (.int .i64 at_) | exact blk_set q1 0 _
  have g2 : (wa.setCell ⟨B + 1, 0, none⟩ (.int .i64 at_)).heap[B + 1]? = some (.cells #[.int .i64 at_] 3 (0, 0)) := by first | exact blk_farC (p := ⟨B + 1, 0, none⟩) q2 (show B + 1 ≠ B + 1 by omega) (.int .i64 at_) | exact blk_set q2 0 _
  have g3 : (wa.setCell ⟨B + 1, 0, none⟩ (.int .i64 at_)).heap[B + 1 + 1]? = some (.cells #[v3] 37 (0, 0)) := by first | exact blk_farC (p := ⟨B + 1, 0, none⟩) q3 (show B + 1 + 1 ≠ B + 1 by omega) (.int .i64 at_) | exact blk_set q3 0 _
  have hb := Below.setCell (p := ⟨B + 1, 0, none⟩) hb (show B ≤ B + 1 by omega) (.int .i64 at_)
  clear q1 q2 q3 n1
  generalize wa.setCell ⟨B + 1, 0, none⟩ (.int .i64 at_) = wa at hg g1 g2 g3 hb ⊢
  have c := blk_cell g3 0
  have fz := blk_frozen g3 0
  refine runSeq_op (by rfl) (by rfl) (fun K hK => ?_)
  go_simp
  have hg := blk_farC (p := ⟨B + 1 + 1, 0, none⟩) hg (show w.heap.size ≠ B + 1 + 1 by omega) (.int .i64 e)
  refine hK _ _ hg ?_
  clear hK K c fz
  have n1 := g3
  have q1 := g1
  have q2 := g2
  have q3 := g3
  clear g1 g2 g3
  have g1 : (wa.setCell ⟨B + 1 + 1, 0, none⟩ (.int .i64 e)).heap[B]? = some (.cells #[.int .i64 f] 3 (0, 0)) := by first | exact blk_farC (p := ⟨B + 1 + 1, 0, none⟩) q1 (show B ≠ B + 1 + 1 by omega) (.int .i64 e) | exact blk_set q1 0 _
  have g2 : (wa.setCell ⟨B + 1 + 1, 0, none⟩ (.int .i64 e)).heap[B + 1]? = some (.cells #[.int .i64 at_] 3 (0, 0)) := by first | exact blk_farC (p := ⟨B + 1 + 1, 0, none⟩) q2 (show B + 1 ≠ B + 1 + 1 by omega) (.int .i64 e) | exact blk_set q2 0 _
  have g3 : (wa.setCell ⟨B + 1 + 1, 0, none⟩ (.int .i64 e)).heap[B + 1 + 1]? = some (.cells #[.int .i64 e] 37 (0, 0)) := by first | exact blk_farC (p := ⟨B + 1 + 1, 0, none⟩) q3 (show B + 1 + 1 ≠ B + 1 + 1 by omega) (.int .i64 e) | exact blk_set q3 0 _
  have hb := Below.setCell (p := ⟨B + 1 + 1, 0, none⟩) hb (show B ≤ B + 1 + 1 by omega) (.int .i64 e)
  clear q1 q2 q3 n1
  generalize wa.setCell ⟨B + 1 + 1, 0, none⟩ (.int .i64 e) = wa at hg g1 g2 g3 hb ⊢
  refine runSeq_nil ?_
  have GS := Aside0.mk (And.intro g1 (And.intro g2 (And.intro g3 hb)))
  clear hg g1 g2 g3 hb
  go_wp2_with fail
  go_end0
  exact ⟨rfl, trivial, GS.out.2.2.2, GS.out.1, GS.out.2.1, GS.out.2.2.1⟩
theorem ccatch_idle (p q r : Addr) (w : World) :
    CallsD Try.prog 59 #[.pointer (some p), .pointer (some q), .pointer (some r)] .returning w fun x u' w' =>
      x = .returned (.tuple #[]) ∧ u' = .returning ∧ w = w' := by
  refine callsD_of_wpS Try.func59 rfl fun c₀ cs hu => ?_
  apply wpS_seq
  apply wpS_region
  simp [wpOpsS, go_sem, recoverD, hu, Try.ntmps59, Exit.thenS]
  refine wpS_body_same hu ?_
  simp only [Array.replicate_succ, Array.replicate_zero, List.push_toArray, List.append_toArray, List.nil_append, List.cons_append, List.setIfInBounds_toArray, List.set_cons_zero, List.set_cons_succ]
  go_wp2
  go_end0
  exact ⟨rfl, trivial, rfl⟩

structure CkW (w w' : World) : Prop where
  below : Below w.heap.size w w'
  c0 : w'.heap[w.heap.size]? = some (.cells #[.int .i64 0] 3 (0, 0))
  c1 : w'.heap[w.heap.size + 1]? = some (.cells #[.int .i64 0] 3 (0, 0))
  c2 : w'.heap[w.heap.size + 1 + 1]? = some (.cells #[.int .i64 0] 37 (0, 0))
theorem CkW.size {w w' : World} (h : CkW w w') : w.heap.size + 3 ≤ w'.heap.size := by
  have := blk_lt h.c2; omega
theorem CkW.keep {w w' w'' : World} (h : CkW w w') (k : Below (w.heap.size + 3) w' w'') : CkW w w'' :=
  ⟨h.below.trans (k.mono (by omega)), (k.block _ (by omega)).trans h.c0, (k.block _ (by omega)).trans h.c1, (k.block _ (by omega)).trans h.c2⟩
theorem CkW.start (w : World) : CkW w (((w.alloc (.cells #[.int .i64 0] 3)).alloc (.cells #[.int .i64 0] 3)).alloc (.cells #[.int .i64 0] 37)) := by
  have e1 : (w.alloc (.cells #[.int .i64 0] 3)).heap.size = w.heap.size + 1 := Array.size_push _
  have e2 : ((w.alloc (.cells #[.int .i64 0] 3)).alloc (.cells #[.int .i64 0] 3)).heap.size = w.heap.size + 1 + 1 := by
    rw [← e1]; exact Array.size_push _
  have b1 := (Below.refl w.heap.size w).alloc (Nat.le_refl _) (.cells #[.int .i64 0] 3)
  have b2 := b1.alloc b1.size (.cells #[.int .i64 0] 3)
  refine ⟨b2.alloc b2.size _, blk_alloc (blk_alloc (alloc_blk w _) _) _, ?_, ?_⟩
  · have := alloc_blk (w.alloc (.cells #[.int .i64 0] 3)) (.cells #[.int .i64 0] 3)
    rw [e1] at this
    exact blk_alloc this _
  · have := alloc_blk ((w.alloc (.cells #[.int .i64 0] 3)).alloc (.cells #[.int .i64 0] 3)) (.cells #[.int .i64 0] 37)
    rw [e2] at this
    exact this
def ckPost (w : World) (l : List S68) (e : Ending) (w' : World) : Prop :=
  e = .returned (.tuple #[.int .i64 (checkP l).1, .int .i64 (checkP l).2.1, .int .i64 (checkP l).2.2]) ∧ Below w.heap.size w w'
theorem check_panics (l : List S68) (f at_ e : Int) (w w' : World) (tmps : Array Value) (hno : checkP l = (f, at_, e)) (H : CkW w w')
    (t2 : tmps.getD 2 undef = .pointer (some ⟨w.heap.size, 0, none⟩)) (t3 : tmps.getD 3 undef = .pointer (some ⟨w.heap.size + 1, 0, none⟩)) (t4 : tmps.getD 4 undef = .pointer (some ⟨w.heap.size + 1 + 1, 0, none⟩)) :
    bodyPostD Try.prog Try.f39 (ckPost w l) (.panic [{ v := wrongV f at_ e, recovered := false }])
      { tmps := tmps, defers := [{ target := Target.fn (Fn.func 59) #[.pointer (some ⟨w.heap.size, 0, none⟩), .pointer (some ⟨w.heap.size + 1, 0, none⟩), .pointer (some ⟨w.heap.size + 1 + 1, 0, none⟩)], args := #[] }] } w' := by
  refine leaves_cons (f := 59) (args := #[.pointer (some ⟨w.heap.size, 0, none⟩), .pointer (some ⟨w.heap.size + 1, 0, none⟩), .pointer (some ⟨w.heap.size + 1 + 1, 0, none⟩)]) (by simp) (by simp [go_sem]) ?_
  refine (ccatch_panicking w.heap.size f at_ e w' _ _ _ H.c0 H.c1 H.c2).mono ?_
  rintro x u' w2 ⟨rfl, rfl, hb2, c0, c1, c2⟩
  have q0 := blk_cell c0 0
  have q1 := blk_cell c1 0
  have q2 := blk_cell c2 0
  simp only [Array.getD_eq_getD_getElem?] at t2 t3 t4
  refine ⟨.tuple #[.int .i64 f, .int .i64 at_, .int .i64 e], by simp [results, Try.results39, go_sem, t2, t3, t4, q0, q1, q2], ?_⟩
  exact ⟨by rw [hno], H.below.trans hb2⟩
theorem check_stop {l : List S68} {i : Nat} {g : S68} {e : Int × Int} (hb : 1 ≤ l.length ∧ l.length ≤ 16) (hF : funcsE l 0 l = funcsE l i (l.drop i)) (hg : ∃ h : i < l.length, l[i] = g) (he : funcE l g = some e) : checkP l = ((i : Int), e.1, e.2) := by
  obtain ⟨hi, hg⟩ := hg
  unfold checkP
  rw [if_pos hb, hF, List.drop_eq_getElem_cons hi, hg]
  simp only [funcsE, he]
  rfl
theorem check_step {l : List S68} {i : Nat} {g : S68} (hF : funcsE l 0 l = funcsE l i (l.drop i)) (hg : ∃ h : i < l.length, l[i] = g) (he : funcE l g = none) : funcsE l 0 l = funcsE l (i + 1) (l.drop (i + 1)) := by
  obtain ⟨hi, hg⟩ := hg
  rw [hF, List.drop_eq_getElem_cons hi, hg]
  simp only [funcsE, he]
structure FW (w : World) (A : Option Addr) (n c : Nat) (i at_ : Int) (g6 : S68) (A1 : Option Addr) (c1 g : Nat) (w' : World) : Prop where
  ck : CkW w w'
  h6 : w'.heap[g]? = some (.cells #[.int .i64 g6.f0, .slice A1 g6.f1.length c1] 68 (0, 0))
  h7 : w'.heap[g + 1]? = some (.cells #[.slice A n c, .int .i64 i, .int .i64 at_] 158 (0, 0))
  lg : w.heap.size + 3 ≤ g
theorem FW.keep {w : World} {A : Option Addr} {n c : Nat} {i at_ : Int} {g6 : S68} {A1 : Option Addr} {c1 g : Nat} {w' w'' : World} (h : FW w A n c i at_ g6 A1 c1 g w') (k : Below w'.heap.size w' w'') : FW w A n c i at_ g6 A1 c1 g w'' :=
  ⟨h.ck.keep (k.mono h.ck.size), (k.block _ (blk_lt h.h6)).trans h.h6, (k.block _ (blk_lt h.h7)).trans h.h7, h.lg⟩
theorem FW.put {w : World} {A : Option Addr} {n c : Nat} {i at_ : Int} {g6 : S68} {A1 : Option Addr} {c1 g : Nat} {w' : World} (h : FW w A n c i at_ g6 A1 c1 g w') (k : Int) : FW w A n c i k g6 A1 c1 g (w'.setCell ⟨g + 1, 2, none⟩ (.int .i64 k)) :=
  ⟨h.ck.keep (Below.setCell (p := ⟨g + 1, 2, none⟩) (Below.refl _ _) (show w.heap.size + 3 ≤ g + 1 by have := h.lg; omega) _), blk_farC (p := ⟨g + 1, 2, none⟩) h.h6 (show g ≠ g + 1 by omega) _, blk_set h.h7 2 _, h.lg⟩
theorem FW.start {w : World} {A : Option Addr} {n c : Nat} {i : Int} {g6 : S68} {A1 : Option Addr} {c1 : Nat} {w' : World} (h : CkW w w') : FW w A n c i 0 g6 A1 c1 w'.heap.size ((w'.alloc (.cells #[.int .i64 g6.f0, .slice A1 g6.f1.length c1] 68)).alloc (.cells #[.slice A n c, .int .i64 i, .int .i64 0] 158)) := by
  have e1 : (w'.alloc (.cells #[.int .i64 g6.f0, .slice A1 g6.f1.length c1] 68)).heap.size = w'.heap.size + 1 := Array.size_push _
  have b1 := (Below.refl w'.heap.size w').alloc (Nat.le_refl _) (.cells #[.int .i64 g6.f0, .slice A1 g6.f1.length c1] 68)
  have b2 := b1.alloc b1.size (.cells #[.slice A n c, .int .i64 i, .int .i64 0] 158)
  refine ⟨h.keep (b2.mono h.size), blk_alloc (alloc_blk w' _) _, ?_, h.size⟩
  have := alloc_blk (w'.alloc (.cells #[.int .i64 g6.f0, .slice A1 g6.f1.length c1] 68)) (.cells #[.slice A n c, .int .i64 i, .int .i64 0] 158)
  rw [e1] at this
  exact this
set_option maxRecDepth 100000 in
set_option maxHeartbeats 8000000 in
theorem check_walk (A : Option Addr) (c : Nat) (l : List S68) (w : World) (hC : k68.C w A l.length l) (hc : l.length ≤ c) : Calls Try.prog 39 #[.slice A l.length c] w (ckPost w l) := by
  have hmf : ∀ (fn : Fn) (first cap : Array Value) (w : World), (Instr.makeFunc fn first cap).run Try.prog w = .ok (.func fn first cap) w := fun _ _ _ _ => rfl
  have HC := Aside0.mk hC
  have HS := Aside0.mk (CkW.start w)
  clear hC hc
  by_cases hl1 : 1 ≤ l.length
  · have hl1' : (1 ≤ (l.length : Int)) = True := eq_true (by omega)
    have HL1 := Aside0.mk hl1
    clear hl1
    go_enter_defers Try.func39, Try.ntmps39
    go_wp2_with fail
    refine (need_any none 0 0 0 0 3 _ _).mono ?_
    rintro e w2 ⟨hb, he⟩
    have hs2 := HS.out.keep (hb.mono HS.out.size)
    clear HS hb
    have HS := Aside0.mk hs2
    clear hs2
    by_cases hl2 : l.length ≤ 16
    · rw [if_pos (decide_eq_true (by omega))] at he
      subst he
      have HLL := Aside0.mk (And.intro HL1.out hl2)
      clear HL1 hl2 hl1'
      go_wp2_with fail
      go_loopw [24] (fun v24 wr => ∃ i : Nat, v24 = .int .i64 i ∧ i ≤ l.length ∧ Aside0 (funcsE l 0 l = funcsE l i (l.drop i)) ∧ Aside0 (CkW w wr)) (fun v24 _ => l.length - (intOf v24).toNat)
      case atStart => exact ⟨0, rfl, Nat.zero_le _, ⟨rfl⟩, HS⟩
      case round =>
        clear HS w2
        obtain ⟨i, rfl, hi, HF, HS⟩ := hrel
        by_cases hlt : i < l.length
        · have p1 : (0 : Int) ≤ (i : Int) := by omega
          have q1 : (i : Int) < (l.length : Nat) := by omega
          obtain ⟨ad, A1, c1, rfl, hx0, hx1, hl1, hi1⟩ := at_T68 HC.out i p1 q1
          replace hx0 := (HS.out.below.cell (World.block_lt_of_cell? w _ hx0)).trans hx0
          replace hx1 := (HS.out.below.cell (World.block_lt_of_cell? w _ hx1)).trans hx1
          simp only [Int.toNat_natCast] at hx0 hx1
          have hfi : rd_T68 l (i : Int) = l[i] := by simp [rd_T68, hlt]
          rw [hfi] at hx0 hx1 hl1 hi1
          clear hfi
          generalize hfj : l[i] = fi at hx0 hx1 hl1 hi1
          have HFI := Aside0.mk (show ∃ h : i < l.length, l[i] = fi from ⟨hlt, hfj⟩)
          have HR1 := Aside0.mk hi1
          have HIA := Aside0.mk (fun (at_ : Int) (x : S65) (w' : World) (h : k68.C w' (some ad) l.length l) => instr_any (some ad) c l i at_ x w' h hlt)
          rw [hfj] at HIA
          clear hi1 hl1 hfj
          have hu68 := Try.underlying68
          go_upto_region 7 with (fail)
          have hfw := FW.start (A := some ad) (n := l.length) (c := c) (i := (i : Int)) (g6 := fi) (A1 := A1) (c1 := c1) HS.out
          clear HS hx0 hx1 hu68
          generalize hgg : wr.heap.size = g at hfw ⊢
          clear hgg
          generalize (wr.alloc (.cells #[.int .i64 fi.f0, .slice A1 fi.f1.length c1] 68)).alloc (.cells #[.slice (some ad) l.length c, .int .i64 (i : Int), .int .i64 0] 158) = w3 at hfw ⊢
          have HW := Aside0.mk hfw
          have b60 := blk_cell hfw.h6 0
          have b70 := blk_cell hfw.h7 0
          have b71 := blk_cell hfw.h7 1
          have b72 := blk_cell hfw.h7 2
          have HLT := Aside0.mk hlt
          clear hfw wr p1 q1 hi hlt
          by_cases ha0 : 0 ≤ fi.f0
          · have ha0' : (0 ≤ fi.f0) = True := eq_true ha0
            have HA0 := Aside0.mk ha0
            clear ha0
            go_wp2_with fail
            clear b60 b70 b71 b72 ha0'
            refine (need_any (some ad) l.length c i 0 6 _ _).mono ?_
            rintro e w4 ⟨hb, he⟩
            have hfw := HW.out.keep hb
            clear HW hb
            by_cases ha1 : fi.f0 ≤ 4
            · rw [if_pos (decide_eq_true ha1)] at he
              subst he
              have HW := Aside0.mk hfw
              have HA := Aside0.mk (And.intro HA0.out ha1)
              have b61 := blk_cell hfw.h6 1
              have b70 := blk_cell hfw.h7 0
              have b71 := blk_cell hfw.h7 1
              have b72 := blk_cell hfw.h7 2
              clear hfw ha1 HA0 w3
              by_cases hb0 : 1 ≤ fi.f1.length
              · have hb0' : (1 ≤ (fi.f1.length : Int)) = True := eq_true (by omega)
                have HB0 := Aside0.mk hb0
                clear hb0
                go_wp2_with fail
                clear b61 b70 b71 b72 hb0'
                refine (need_any (some ad) l.length c i 0 3 _ _).mono ?_
                rintro e w5 ⟨hb, he⟩
                have hfw := HW.out.keep hb
                clear HW hb
                by_cases hb1 : fi.f1.length ≤ 64
                · rw [if_pos (decide_eq_true (by omega))] at he
                  subst he
                  have HW := Aside0.mk hfw
                  have HB := Aside0.mk (And.intro HB0.out hb1)
                  have b61 := blk_cell hfw.h6 1
                  clear hfw hb1 HB0 w4
                  go_wp2_with fail
                  clear b61
                  go_loopw [57] (fun v57 wr => ∃ (k : Nat) (at_ : Int), v57 = .int .i64 k ∧ k ≤ fi.f1.length ∧ Aside0 (instrsE fi.f1.length l 0 fi.f1 = instrsE fi.f1.length l k (fi.f1.drop k)) ∧ Aside0 (k = 0 ∨ at_ = (k : Int) - 1) ∧ Aside0 (FW w (some ad) l.length c i at_ fi A1 c1 g wr)) (fun v57 _ => fi.f1.length - (intOf v57).toNat)
                  case atStart => exact ⟨0, 0, rfl, Nat.zero_le _, ⟨rfl⟩, ⟨.inl rfl⟩, HW⟩
                  case round =>
                    clear HW w5
                    obtain ⟨k, at_, rfl, hk, HI, HAT, HW⟩ := hrel
                    by_cases hlk : k < fi.f1.length
                    · have p1 : (0 : Int) ≤ (k : Int) := by omega
                      have q1 : (k : Int) < (fi.f1.length : Nat) := by omega
                      obtain ⟨ad2, rfl, hx0, hx1, hx2, hx3, hx4⟩ := at_T65 HR1.out k p1 q1
                      replace hx0 := (HW.out.ck.below.cell (World.block_lt_of_cell? w _ hx0)).trans hx0
                      replace hx1 := (HW.out.ck.below.cell (World.block_lt_of_cell? w _ hx1)).trans hx1
                      replace hx2 := (HW.out.ck.below.cell (World.block_lt_of_cell? w _ hx2)).trans hx2
                      replace hx3 := (HW.out.ck.below.cell (World.block_lt_of_cell? w _ hx3)).trans hx3
                      replace hx4 := (HW.out.ck.below.cell (World.block_lt_of_cell? w _ hx4)).trans hx4
                      simp only [Int.toNat_natCast] at hx0 hx1 hx2 hx3 hx4
                      have hgi : rd_T65 fi.f1 (k : Int) = fi.f1[k] := by simp [rd_T65, hlk]
                      rw [hgi] at hx0 hx1 hx2 hx3 hx4
                      clear hgi
                      generalize hgj : fi.f1[k] = gi at hx0 hx1 hx2 hx3 hx4
                      have HGI := Aside0.mk (show ∃ h : k < fi.f1.length, fi.f1[k] = gi from ⟨hlk, hgj⟩)
                      clear hgj
                      have hu65 := Try.underlying65
                      go_upto_region 12 with (fail)
                      have hfw := HW.out.keep ((Below.refl _ _).alloc (Nat.le_refl _) (.cells #[.int .i64 gi.f0, .int .i64 gi.f1, .int .i64 gi.f2, .int .i64 gi.f3, .int .i64 gi.f4] 65))
                      have hbg := alloc_blk wr (.cells #[.int .i64 gi.f0, .int .i64 gi.f1, .int .i64 gi.f2, .int .i64 gi.f3, .int .i64 gi.f4] 65)
                      have hne : wr.heap.size ≠ g + 1 := by have := blk_lt HW.out.h7; omega
                      clear hx0 hx1 hx2 hx3 hx4 hu65 p1 q1 HW HAT
                      generalize wr.heap.size = b9 at hbg hne ⊢
                      generalize wr.alloc (.cells #[.int .i64 gi.f0, .int .i64 gi.f1, .int .i64 gi.f2, .int .i64 gi.f3, .int .i64 gi.f4] 65) = w6 at hfw hbg ⊢
                      clear wr
                      have hfp := hfw.put (k : Int)
                      have hbp := blk_farC (p := ⟨g + 1, 2, none⟩) hbg hne (.int .i64 (k : Int))
                      have HW := Aside0.mk (And.intro hfp hbp)
                      have c7 := blk_cell hfw.h7 2
                      have f7 := blk_frozen hfw.h7 2
                      have hu158 := Try.underlying158
                      clear hfp hbp hfw hbg hne
                      go_upto_region 13 with (fail)
                      clear c7 f7 hu158
                      obtain ⟨hfw, hbg⟩ := HW.out
                      clear HW
                      generalize w6.setCell ⟨g + 1, 2, none⟩ (.int .i64 (k : Int)) = w7 at hfw hbg ⊢
                      clear w6
                      have b70 := blk_cell hfw.h7 0
                      have b71 := blk_cell hfw.h7 1
                      have b72 := blk_cell hfw.h7 2
                      have x0 := blk_cell hbg 0
                      have x1 := blk_cell hbg 1
                      have x2 := blk_cell hbg 2
                      have x3 := blk_cell hbg 3
                      have x4 := blk_cell hbg 4
                      have HW := Aside0.mk hfw
                      have hu158 := Try.underlying158
                      have hu65 := Try.underlying65
                      clear hfw hbg
                      go_wp2_with fail
                      clear b70 b71 b72 x0 x1 x2 x3 x4 hu158 hu65
                      refine (HIA.out k gi w7 (Kd.C_below HC.out HW.out.ck.below)).mono ?_
                      rintro e w8 ⟨hb, he⟩
                      have hfw := HW.out.keep hb
                      clear HW hb
                      cases hE : instrE fi.f1.length l gi with
                      | some q =>
                        rw [hE] at he
                        subst he
                        exact check_panics l i k q w w8 _ (check_stop HLL.out HF.out HFI.out (e := ((k : Int), q)) (by
                          obtain ⟨h1, h2⟩ := HGI.out
                          unfold funcE; rw [if_pos HA.out, if_pos HB.out, HI.out, List.drop_eq_getElem_cons h1, h2]
                          simp only [instrsE, hE]; rfl)) hfw.ck rfl rfl rfl
                      | none =>
                      rw [hE] at he
                      subst he
                      have hin : instrsE fi.f1.length l 0 fi.f1 = instrsE fi.f1.length l (k + 1) (fi.f1.drop (k + 1)) := by
                        obtain ⟨h1, h2⟩ := HGI.out
                        rw [HI.out, List.drop_eq_getElem_cons h1, h2]
                        simp only [instrsE, hE]
                      have HIN := Aside0.mk hin
                      have HW := Aside0.mk hfw
                      have hB64 := HB.out.2
                      clear hin hfw hE
                      go_wp2_with fail
                      go_roundw
                      case rel => exact ⟨k + 1, k, by go_num, by omega, HIN, ⟨.inr (by omega)⟩, HW⟩
                      case measure => simp [intOf]; omega
                    · obtain rfl : k = fi.f1.length := by omega
                      have hB1 := HB.out.1
                      have hB64 := HB.out.2
                      have hin : instrsE fi.f1.length l 0 fi.f1 = none := by
                        have := HI.out
                        rw [List.drop_length] at this
                        exact this
                      have hat : at_ = (fi.f1.length : Int) - 1 := HAT.out.resolve_left (by omega)
                      subst hat
                      obtain ⟨ad2, rfl, hx0, hx1, hx2, hx3, hx4⟩ := at_T65 HR1.out ((fi.f1.length : Int) - 1) (by omega) (by omega)
                      replace hx0 := (HW.out.ck.below.cell (World.block_lt_of_cell? w _ hx0)).trans hx0
                      rw [show ((fi.f1.length : Int) - 1).toNat = fi.f1.length - 1 by omega] at hx0
                      have hFE : funcE l fi = lastE fi := by
                        unfold funcE; rw [if_pos HA.out, if_pos HB.out, hin]; rfl
                      have hLE : lastE fi = if (rd_T65 fi.f1 ((fi.f1.length : Int) - 1)).f0 = 9 ∨ (rd_T65 fi.f1 ((fi.f1.length : Int) - 1)).f0 = 16 ∨ (rd_T65 fi.f1 ((fi.f1.length : Int) - 1)).f0 = 17 then none else some ((fi.f1.length : Int) - 1, 11) := rfl
                      rw [hLE] at hFE
                      generalize (rd_T65 fi.f1 ((fi.f1.length : Int) - 1)).f0 = o at hx0 hFE
                      have hwl : IntKind.i64.wrap ((fi.f1.length : Int) - 1) = (fi.f1.length : Int) - 1 := (i64_w _).trans (by unfold wrap64; omega)
                      have hlo : (0 ≤ (fi.f1.length : Int) - 1) = True := eq_true (by omega)
                      have hhi : ((fi.f1.length : Int) - 1 < (fi.f1.length : Int)) = True := eq_true (by omega)
                      have hB1i : (1 ≤ (fi.f1.length : Int)) = True := eq_true (by omega)
                      have HFE := Aside0.mk hFE
                      have HW' := Aside0.mk HW.out.ck
                      have b61 := blk_cell HW.out.h6 1
                      clear hx1 hx2 hx3 hx4 hFE hLE hin HAT HI hB1 hB64 hk hlk
                      go_upto_region 16 with (fail)
                      clear hx0 b61 hwl hlo hhi hB1i
                      have b70 := blk_cell HW.out.h7 0
                      have b71 := blk_cell HW.out.h7 1
                      have b72 := blk_cell HW.out.h7 2
                      have hu158 := Try.underlying158
                      by_cases ho9 : o = 9
                      · have HN := Aside0.mk (HFE.out.trans (if_pos (.inl ho9)))
                        have e9 : (o == 9) = true := by rw [ho9]; rfl
                        clear ho9
                        go_wp2_with fail
                        clear b70 b71 b72 hu158
                        refine (need_ok (some ad) l.length c i ((fi.f1.length : Int) - 1) 11 _).mono ?_
                        rintro e w9 ⟨rfl, hb⟩
                        have hck := (HW.out.keep hb).ck
                        have hst := check_step HF.out HFI.out HN.out
                        have hl16 := HLL.out.2
                        have hil := HLT.out
                        have HFN := Aside0.mk hst
                        have HCN := Aside0.mk hck
                        clear hst hck hb HF HW
                        go_wp2_with fail
                        go_roundw
                        case rel => exact ⟨i + 1, by go_num, by omega, HFN, HCN⟩
                        case measure => simp [intOf]; omega
                      · have e9 : (o == 9) = false := by simp [ho9]
                        by_cases ho16 : o = 16
                        · have HN := Aside0.mk (HFE.out.trans (if_pos (.inr (.inl ho16))))
                          have e16 : (o == 16) = true := by rw [ho16]; rfl
                          clear ho16 ho9
                          go_wp2_with fail
                          clear b70 b71 b72 hu158
                          refine (need_ok (some ad) l.length c i ((fi.f1.length : Int) - 1) 11 _).mono ?_
                          rintro e w9 ⟨rfl, hb⟩
                          have hck := (HW.out.keep hb).ck
                          have hst := check_step HF.out HFI.out HN.out
                          have hl16 := HLL.out.2
                          have hil := HLT.out
                          have HFN := Aside0.mk hst
                          have HCN := Aside0.mk hck
                          clear hst hck hb HF HW
                          go_wp2_with fail
                          go_roundw
                          case rel => exact ⟨i + 1, by go_num, by omega, HFN, HCN⟩
                          case measure => simp [intOf]; omega
                        · have e16 : (o == 16) = false := by simp [ho16]
                          by_cases ho17 : o = 17
                          · have HN := Aside0.mk (HFE.out.trans (if_pos (.inr (.inr ho17))))
                            have e17 : (o == 17) = true := by rw [ho17]; rfl
                            clear ho17 ho16 ho9
                            go_wp2_with fail
                            clear b70 b71 b72 hu158
                            refine (need_ok (some ad) l.length c i ((fi.f1.length : Int) - 1) 11 _).mono ?_
                            rintro e w9 ⟨rfl, hb⟩
                            have hck := (HW.out.keep hb).ck
                            have hst := check_step HF.out HFI.out HN.out
                            have hl16 := HLL.out.2
                            have hil := HLT.out
                            have HFN := Aside0.mk hst
                            have HCN := Aside0.mk hck
                            clear hst hck hb HF HW
                            go_wp2_with fail
                            go_roundw
                            case rel => exact ⟨i + 1, by go_num, by omega, HFN, HCN⟩
                            case measure => simp [intOf]; omega
                          · have e17 : (o == 17) = false := by simp [ho17]
                            have HN := Aside0.mk (HFE.out.trans (if_neg (by omega)))
                            clear ho17 ho16 ho9
                            go_wp2_with fail
                            refine (need_no (some ad) l.length c i ((fi.f1.length : Int) - 1) 11 _).mono ?_
                            rintro e w9 ⟨rfl, hb⟩
                            exact check_panics l i ((fi.f1.length : Int) - 1) 11 w w9 _ (check_stop HLL.out HF.out HFI.out HN.out) (HW.out.keep hb).ck rfl rfl rfl
                · rw [if_neg (fun h => hb1 (by have := of_decide_eq_true h; omega))] at he
                  subst he
                  exact check_panics l i 0 3 w w5 _ (check_stop HLL.out HF.out HFI.out (e := (0, 3)) (by unfold funcE; rw [if_pos HA.out, if_neg (by omega)])) hfw.ck rfl rfl rfl
              · have hb0' : (1 ≤ (fi.f1.length : Int)) = False := eq_false (by omega)
                have HB0 := Aside0.mk hb0
                clear hb0
                go_wp2_with fail
                refine (need_no (some ad) l.length c i 0 3 _).mono ?_
                rintro e w5 ⟨rfl, hb⟩
                exact check_panics l i 0 3 w w5 _ (check_stop HLL.out HF.out HFI.out (e := (0, 3)) (by unfold funcE; rw [if_pos HA.out, if_neg (by have := HB0.out; omega)])) (HW.out.keep hb).ck rfl rfl rfl
            · rw [if_neg (fun h => ha1 (of_decide_eq_true h))] at he
              subst he
              exact check_panics l i 0 6 w w4 _ (check_stop HLL.out HF.out HFI.out (e := (0, 6)) (by unfold funcE; rw [if_neg (by omega)])) hfw.ck rfl rfl rfl
          · have ha0' : (0 ≤ fi.f0) = False := eq_false ha0
            have HA0 := Aside0.mk ha0
            clear ha0
            go_wp2_with fail
            refine (need_no (some ad) l.length c i 0 6 _).mono ?_
            rintro e w4 ⟨rfl, hb⟩
            exact check_panics l i 0 6 w w4 _ (check_stop HLL.out HF.out HFI.out (e := (0, 6)) (by unfold funcE; rw [if_neg (by have := HA0.out; omega)])) (HW.out.keep hb).ck rfl rfl rfl
        · obtain rfl : i = l.length := by omega
          clear hlt hi
          have hck : checkP l = (0, 0, 0) := by
            have := HF.out
            rw [List.drop_length] at this
            unfold checkP; rw [if_pos HLL.out, this]; rfl
          have c0 := blk_cell HS.out.c0 0
          have c1 := blk_cell HS.out.c1 0
          have c2 := blk_cell HS.out.c2 0
          have f0 := blk_frozen HS.out.c0 0
          have f1 := blk_frozen HS.out.c1 0
          have f2 := blk_frozen HS.out.c2 0
          have HCK := Aside0.mk hck
          clear hck
          go_wp2_with fail
          have d0 := blk_farC (p := ⟨w.heap.size + 1 + 1, 0, none⟩) (blk_farC (p := ⟨w.heap.size + 1, 0, none⟩) (blk_set HS.out.c0 0 (.int .i64 0)) (by simp) (.int .i64 0)) (by simp; omega) (.int .i64 0)
          have d1 := blk_farC (p := ⟨w.heap.size + 1 + 1, 0, none⟩) (blk_set (blk_farC (p := ⟨w.heap.size, 0, none⟩) HS.out.c1 (by simp) (.int .i64 0)) 0 (.int .i64 0)) (by simp) (.int .i64 0)
          have d2 := blk_set (blk_farC (p := ⟨w.heap.size + 1, 0, none⟩) (blk_farC (p := ⟨w.heap.size, 0, none⟩) HS.out.c2 (by simp; omega) (.int .i64 0)) (by simp) (.int .i64 0)) 0 (.int .i64 0)
          have dB := Below.setCell (p := ⟨w.heap.size + 1 + 1, 0, none⟩) (Below.setCell (p := ⟨w.heap.size + 1, 0, none⟩) (Below.setCell (p := ⟨w.heap.size, 0, none⟩) HS.out.below (Nat.le_refl _) (.int .i64 0)) (show w.heap.size ≤ w.heap.size + 1 by omega) (.int .i64 0)) (show w.heap.size ≤ w.heap.size + 1 + 1 by omega) (.int .i64 0)
          have r0 := blk_cell d0 0
          have r1 := blk_cell d1 0
          have r2 := blk_cell d2 0
          refine leaves_cons (f := 59) (args := #[.pointer (some ⟨w.heap.size, 0, none⟩), .pointer (some ⟨w.heap.size + 1, 0, none⟩), .pointer (some ⟨w.heap.size + 1 + 1, 0, none⟩)]) (by simp) (by simp [go_sem]) ?_
          refine (ccatch_idle _ _ _ _).mono ?_
          rintro e u' w2 ⟨rfl, rfl, rfl⟩
          refine ⟨.tuple #[.int .i64 0, .int .i64 0, .int .i64 0], ?_, ?_⟩
          · simp [results, Try.results39, go_sem, r0, r1, r2]
          · exact ⟨by rw [HCK.out], dB⟩
    · rw [if_neg (fun h => hl2 (by have := of_decide_eq_true h; omega))] at he
      subst he
      exact check_panics l 0 0 3 w w2 _ (by unfold checkP; rw [if_neg (by omega)]) HS.out rfl rfl rfl
  · have hl1' : (1 ≤ (l.length : Int)) = False := eq_false (by omega)
    have HL1 := Aside0.mk hl1
    clear hl1
    go_enter_defers Try.func39, Try.ntmps39
    go_wp2_with fail
    refine (need_no none 0 0 0 0 3 _).mono ?_
    rintro e w2 ⟨rfl, hb⟩
    have hs2 := HS.out.keep (hb.mono HS.out.size)
    exact check_panics l 0 0 3 w w2 _ (by unfold checkP; rw [if_neg (by have := HL1.out; omega)]) hs2 rfl rfl rfl
theorem valid_Check.calls (A0 : Option Addr) (c0 : Nat) (l0 : List S68) (r1 r2 r3 : Int) (w : World) (hr0 : k68.C w A0 l0.length l0) (hc0 : l0.length ≤ c0) (h : valid_Check.f l0 = some (r1, r2, r3)) :
    Calls Try.prog 39 #[.slice A0 l0.length c0] w fun e w' => e = .returned (.tuple #[.int .i64 r1, .int .i64 r2, .int .i64 r3]) ∧ Below w.heap.size w w' := by
  have hq : checkP l0 = (r1, r2, r3) := Option.some.inj h
  refine (check_walk A0 c0 l0 w hr0 hc0).mono ?_
  rintro e w' ⟨he, hb⟩
  rw [hq] at he
  exact ⟨he, hb⟩
end Go.Proofs.Ytcciejcpijlkfaa.H

-- made by this session's gen.py over the kit's print.py; not trusted: Lean checks it
namespace Go.Proofs.Ytcciejcpijlkfaa.H
open Go.RowKit Go.Proofs.YtcciejcpijlkfaaW.PrintWords Go.Proofs.YtcciejcpijlkfaaW.PrintLast Go.Proofs.YtcciejcpijlkfaaW.PrintMore
attribute [local go_sem] max2_int min2_int max_two min_two max_three min_three max_four min_four   -- for this text's walks alone
set_option linter.unusedVariables false
set_option linter.unusedSimpArgs false

/-! ### eval_Right: function 33 -/
def eval_Right.f (l0 : List (S68)) (l1 : List Int) (a2_0 : Int) (a2_1 : Int) : Option (Bool) := (valid_Check.f l0).bind fun bt114 => (if bt114.2.2 = 0 then (if a2_0 < 1 then (some false) else (if a2_0 > 10000 then (some false) else (if a2_1 < 0 then (some false) else (if a2_1 > 30 then (some false) else (if 0 < (l0.length : Int) then (some ((l1.length : Int) == ((rd_T68 l0 0).f0))) else (none)))))) else (some false))
set_option maxHeartbeats 8000000 in
set_option maxRecDepth 100000 in
theorem eval_Right.calls (A0 : Option Addr) (c0 : Nat) (l0 : List (S68)) (A1 : Option Addr) (c1 : Nat) (l1 : List Int) (a2_0 : Int) (a2_1 : Int) (r : Bool) (w : World) (hr0 : Kd.C k68 w A0 l0.length l0) (hc0 : l0.length ≤ c0) (hr1 : Kd.C (Kd.int .i64) w A1 l1.length l1) (hc1 : l1.length ≤ c1) (h : eval_Right.f l0 l1 a2_0 a2_1 = some r) :
    Calls Try.prog 33 #[.slice A0 l0.length c0, .slice A1 l1.length c1, .agg #[.int .i64 a2_0, .int .i64 a2_1]] w fun e w' => e = .returned (.bool r) ∧ Below w.heap.size w w' := by
  have hu43 := Try.underlying43
  have HR0 := Aside0.mk hr0
  have HC0 := Aside0.mk hc0
  clear hr0 hc0
  have HR1 := Aside0.mk hr1
  have HC1 := Aside0.mk hc1
  clear hr1 hc1
  have HB := Aside0.mk (Below.refl w.heap.size w)
  have H : ((valid_Check.f l0).bind fun bt114 => (if bt114.2.2 = 0 then (if a2_0 < 1 then (some false) else (if a2_0 > 10000 then (some false) else (if a2_1 < 0 then (some false) else (if a2_1 > 30 then (some false) else (if 0 < (l0.length : Int) then (some ((l1.length : Int) == ((rd_T68 l0 0).f0))) else (none)))))) else (some false))) = some r := h
  clear h
  replace H := Option.bind_eq_some_iff.mp H
  obtain ⟨⟨t114, t115, t116⟩, A40, H⟩ := H
  replace H : (if t116 = 0 then (if a2_0 < 1 then (some false) else (if a2_0 > 10000 then (some false) else (if a2_1 < 0 then (some false) else (if a2_1 > 30 then (some false) else (if 0 < (l0.length : Int) then (some ((l1.length : Int) == ((rd_T68 l0 0).f0))) else (none)))))) else (some false)) = some r := H
  have A4 := Aside0.mk A40
  clear A40
  by_cases c5 : t116 = 0
  · rw [if_pos c5] at H
    have c5b0 : (t116 == 0) = true := beq_iff_eq.mpr c5
    have c5b1 : (t116 != 0) = false := bne_eq_false_iff_eq.mpr c5
    clear c5
    by_cases c6 : a2_0 < 1
    · rw [if_pos c6] at H
      have c6b0 : decide (a2_0 < 1) = true := decide_eq_true c6
      clear c6
      obtain rfl := Option.some.inj H
      go_enter Try.func33, Try.ntmps33
      go_wp2_with (first | ((with_reducible refine gate_dst (N := 5) rfl ?_); refine box_event ?hg (N := 5) ?hd (cs := #[.int .i64 a2_0, .int .i64 a2_1]) (t := 43) ?hr ?_; (case hd => rfl); (case hg => rfl); (case hr => first | (go_simp; done) | (go_simp; rfl)); intro gb113 hg w7 hbox hb; have n0_ := Aside0.mk (below_step (by repeat (first | (with_reducible first | exact HB.out | apply below_alloc | apply pw_below_drewN | apply below_drew1) | exact HB.out)) hb); have n1_ := Aside0.mk (hbox); have n2_ := Aside0.mk ((by rw [hg]; exact (below_size (by repeat (first | (with_reducible first | exact HB.out | apply below_alloc | apply pw_below_drewN | apply below_drew1) | exact HB.out))) : w.heap.size ≤ gb113)); have n3_ := Aside0.mk ((by rw [hg]; exact (below_size (by repeat (first | (with_reducible first | exact HB.out | apply below_alloc | apply pw_below_drewN | apply below_drew1) | exact HB.out))) : w.heap.size ≤ gb113)); clear HB; have HB := n0_; have BK113 := n1_; have GW113 := n2_; have GE113 := n3_; clear n0_ n1_ n2_ n3_; clear hb hbox hg) | ((with_reducible refine gate_callee (f := 39) rfl ?_); refine goesL_ (some 12) rfl rfl Try.func39 (by kernel_rfl) rfl #[.slice A0 l0.length c0] rfl (by (try simp only [List.map_toArray, List.map_cons, List.map_nil]); first | done | rfl | (simp only [List.length_drop, List.length_take]; rfl)) ?_; (with_reducible refine (valid_Check.calls _ _ l0 t114 t115 t116 _ ?side1 ?side2 A4.out).mono ?_); (case side1 => repeat (first | exact (Kd.C_below HR0.out HB.out) | (with_reducible refine Kd.C_alloc ?_ _) | (with_reducible refine Kd.C_drewN ?_ _) | (with_reducible refine Kd.C_drew ?_))); (case side2 => exact HC0.out); rintro e w8 ⟨rfl, hb⟩; refine ⟨_, rfl, ?_⟩; have n0_ := Aside0.mk (blk_below (g := gb113) (o := .cells #[.int .i64 a2_0, .int .i64 a2_1] 43 (0, 0)) (by (with_reducible repeat (first | refine blk_drewN ?_ _ | refine blk_drew ?_ | refine blk_alloc ?_ _)); exact BK113.out) hb); have n1_ := Aside0.mk (below_step (by repeat (first | (with_reducible first | exact HB.out | apply below_alloc | apply pw_below_drewN | apply below_drew1 | refine below_set ?_ GE113.out) | exact HB.out)) hb); clear BK113; clear HB; have BK113 := n0_; have HB := n1_; clear n0_ n1_; (try clear hb); (try clear hb2); (try clear hk); (try clear hi); have hcz9_0 : w8.cell? ⟨gb113, 0, none⟩ = some (.int .i64 a2_0) := (blk_cell BK113.out 0).trans rfl; have hcz9_1 : w8.cell? ⟨gb113, 1, none⟩ = some (.int .i64 a2_1) := (blk_cell BK113.out 1).trans rfl; have hfz9_0 := blk_frozen BK113.out 0; have hfz9_1 := blk_frozen BK113.out 1))
      go_ret
      exact ⟨by first | rfl | (simp [errW_none, errW_some] <;> rfl) | (simp [*, errW_none, errW_some] <;> rfl), by repeat (first | (with_reducible first | exact HB.out | apply below_alloc | apply pw_below_drewN | apply below_drew1 | refine below_set ?_ GE113.out) | exact HB.out)⟩
    · rw [if_neg c6] at H
      have c6b0 : decide (a2_0 < 1) = false := decide_eq_false c6
      clear c6
      by_cases c10 : a2_0 > 10000
      · rw [if_pos c10] at H
        have c10b0 : decide (10000 < a2_0) = true := decide_eq_true c10
        clear c10
        obtain rfl := Option.some.inj H
        go_enter Try.func33, Try.ntmps33
        go_wp2_with (first | ((with_reducible refine gate_dst (N := 5) rfl ?_); refine box_event ?hg (N := 5) ?hd (cs := #[.int .i64 a2_0, .int .i64 a2_1]) (t := 43) ?hr ?_; (case hd => rfl); (case hg => rfl); (case hr => first | (go_simp; done) | (go_simp; rfl)); intro gb113 hg w11 hbox hb; have n0_ := Aside0.mk (below_step (by repeat (first | (with_reducible first | exact HB.out | apply below_alloc | apply pw_below_drewN | apply below_drew1) | exact HB.out)) hb); have n1_ := Aside0.mk (hbox); have n2_ := Aside0.mk ((by rw [hg]; exact (below_size (by repeat (first | (with_reducible first | exact HB.out | apply below_alloc | apply pw_below_drewN | apply below_drew1) | exact HB.out))) : w.heap.size ≤ gb113)); have n3_ := Aside0.mk ((by rw [hg]; exact (below_size (by repeat (first | (with_reducible first | exact HB.out | apply below_alloc | apply pw_below_drewN | apply below_drew1) | exact HB.out))) : w.heap.size ≤ gb113)); clear HB; have HB := n0_; have BK113 := n1_; have GW113 := n2_; have GE113 := n3_; clear n0_ n1_ n2_ n3_; clear hb hbox hg) | ((with_reducible refine gate_callee (f := 39) rfl ?_); refine goesL_ (some 12) rfl rfl Try.func39 (by kernel_rfl) rfl #[.slice A0 l0.length c0] rfl (by (try simp only [List.map_toArray, List.map_cons, List.map_nil]); first | done | rfl | (simp only [List.length_drop, List.length_take]; rfl)) ?_; (with_reducible refine (valid_Check.calls _ _ l0 t114 t115 t116 _ ?side1 ?side2 A4.out).mono ?_); (case side1 => repeat (first | exact (Kd.C_below HR0.out HB.out) | (with_reducible refine Kd.C_alloc ?_ _) | (with_reducible refine Kd.C_drewN ?_ _) | (with_reducible refine Kd.C_drew ?_))); (case side2 => exact HC0.out); rintro e w12 ⟨rfl, hb⟩; refine ⟨_, rfl, ?_⟩; have n0_ := Aside0.mk (blk_below (g := gb113) (o := .cells #[.int .i64 a2_0, .int .i64 a2_1] 43 (0, 0)) (by (with_reducible repeat (first | refine blk_drewN ?_ _ | refine blk_drew ?_ | refine blk_alloc ?_ _)); exact BK113.out) hb); have n1_ := Aside0.mk (below_step (by repeat (first | (with_reducible first | exact HB.out | apply below_alloc | apply pw_below_drewN | apply below_drew1 | refine below_set ?_ GE113.out) | exact HB.out)) hb); clear BK113; clear HB; have BK113 := n0_; have HB := n1_; clear n0_ n1_; (try clear hb); (try clear hb2); (try clear hk); (try clear hi); have hcz13_0 : w12.cell? ⟨gb113, 0, none⟩ = some (.int .i64 a2_0) := (blk_cell BK113.out 0).trans rfl; have hcz13_1 : w12.cell? ⟨gb113, 1, none⟩ = some (.int .i64 a2_1) := (blk_cell BK113.out 1).trans rfl; have hfz13_0 := blk_frozen BK113.out 0; have hfz13_1 := blk_frozen BK113.out 1))
        go_ret
        exact ⟨by first | rfl | (simp [errW_none, errW_some] <;> rfl) | (simp [*, errW_none, errW_some] <;> rfl), by repeat (first | (with_reducible first | exact HB.out | apply below_alloc | apply pw_below_drewN | apply below_drew1 | refine below_set ?_ GE113.out) | exact HB.out)⟩
      · rw [if_neg c10] at H
        have c10b0 : decide (10000 < a2_0) = false := decide_eq_false c10
        clear c10
        by_cases c14 : a2_1 < 0
        · rw [if_pos c14] at H
          have c14b0 : decide (a2_1 < 0) = true := decide_eq_true c14
          clear c14
          obtain rfl := Option.some.inj H
          go_enter Try.func33, Try.ntmps33
          go_wp2_with (first | ((with_reducible refine gate_dst (N := 5) rfl ?_); refine box_event ?hg (N := 5) ?hd (cs := #[.int .i64 a2_0, .int .i64 a2_1]) (t := 43) ?hr ?_; (case hd => rfl); (case hg => rfl); (case hr => first | (go_simp; done) | (go_simp; rfl)); intro gb113 hg w15 hbox hb; have n0_ := Aside0.mk (below_step (by repeat (first | (with_reducible first | exact HB.out | apply below_alloc | apply pw_below_drewN | apply below_drew1) | exact HB.out)) hb); have n1_ := Aside0.mk (hbox); have n2_ := Aside0.mk ((by rw [hg]; exact (below_size (by repeat (first | (with_reducible first | exact HB.out | apply below_alloc | apply pw_below_drewN | apply below_drew1) | exact HB.out))) : w.heap.size ≤ gb113)); have n3_ := Aside0.mk ((by rw [hg]; exact (below_size (by repeat (first | (with_reducible first | exact HB.out | apply below_alloc | apply pw_below_drewN | apply below_drew1) | exact HB.out))) : w.heap.size ≤ gb113)); clear HB; have HB := n0_; have BK113 := n1_; have GW113 := n2_; have GE113 := n3_; clear n0_ n1_ n2_ n3_; clear hb hbox hg) | ((with_reducible refine gate_callee (f := 39) rfl ?_); refine goesL_ (some 12) rfl rfl Try.func39 (by kernel_rfl) rfl #[.slice A0 l0.length c0] rfl (by (try simp only [List.map_toArray, List.map_cons, List.map_nil]); first | done | rfl | (simp only [List.length_drop, List.length_take]; rfl)) ?_; (with_reducible refine (valid_Check.calls _ _ l0 t114 t115 t116 _ ?side1 ?side2 A4.out).mono ?_); (case side1 => repeat (first | exact (Kd.C_below HR0.out HB.out) | (with_reducible refine Kd.C_alloc ?_ _) | (with_reducible refine Kd.C_drewN ?_ _) | (with_reducible refine Kd.C_drew ?_))); (case side2 => exact HC0.out); rintro e w16 ⟨rfl, hb⟩; refine ⟨_, rfl, ?_⟩; have n0_ := Aside0.mk (blk_below (g := gb113) (o := .cells #[.int .i64 a2_0, .int .i64 a2_1] 43 (0, 0)) (by (with_reducible repeat (first | refine blk_drewN ?_ _ | refine blk_drew ?_ | refine blk_alloc ?_ _)); exact BK113.out) hb); have n1_ := Aside0.mk (below_step (by repeat (first | (with_reducible first | exact HB.out | apply below_alloc | apply pw_below_drewN | apply below_drew1 | refine below_set ?_ GE113.out) | exact HB.out)) hb); clear BK113; clear HB; have BK113 := n0_; have HB := n1_; clear n0_ n1_; (try clear hb); (try clear hb2); (try clear hk); (try clear hi); have hcz17_0 : w16.cell? ⟨gb113, 0, none⟩ = some (.int .i64 a2_0) := (blk_cell BK113.out 0).trans rfl; have hcz17_1 : w16.cell? ⟨gb113, 1, none⟩ = some (.int .i64 a2_1) := (blk_cell BK113.out 1).trans rfl; have hfz17_0 := blk_frozen BK113.out 0; have hfz17_1 := blk_frozen BK113.out 1))
          go_ret
          exact ⟨by first | rfl | (simp [errW_none, errW_some] <;> rfl) | (simp [*, errW_none, errW_some] <;> rfl), by repeat (first | (with_reducible first | exact HB.out | apply below_alloc | apply pw_below_drewN | apply below_drew1 | refine below_set ?_ GE113.out) | exact HB.out)⟩
        · rw [if_neg c14] at H
          have c14b0 : decide (a2_1 < 0) = false := decide_eq_false c14
          clear c14
          by_cases c18 : a2_1 > 30
          · rw [if_pos c18] at H
            have c18b0 : decide (30 < a2_1) = true := decide_eq_true c18
            clear c18
            obtain rfl := Option.some.inj H
            go_enter Try.func33, Try.ntmps33
            go_wp2_with (first | ((with_reducible refine gate_dst (N := 5) rfl ?_); refine box_event ?hg (N := 5) ?hd (cs := #[.int .i64 a2_0, .int .i64 a2_1]) (t := 43) ?hr ?_; (case hd => rfl); (case hg => rfl); (case hr => first | (go_simp; done) | (go_simp; rfl)); intro gb113 hg w19 hbox hb; have n0_ := Aside0.mk (below_step (by repeat (first | (with_reducible first | exact HB.out | apply below_alloc | apply pw_below_drewN | apply below_drew1) | exact HB.out)) hb); have n1_ := Aside0.mk (hbox); have n2_ := Aside0.mk ((by rw [hg]; exact (below_size (by repeat (first | (with_reducible first | exact HB.out | apply below_alloc | apply pw_below_drewN | apply below_drew1) | exact HB.out))) : w.heap.size ≤ gb113)); have n3_ := Aside0.mk ((by rw [hg]; exact (below_size (by repeat (first | (with_reducible first | exact HB.out | apply below_alloc | apply pw_below_drewN | apply below_drew1) | exact HB.out))) : w.heap.size ≤ gb113)); clear HB; have HB := n0_; have BK113 := n1_; have GW113 := n2_; have GE113 := n3_; clear n0_ n1_ n2_ n3_; clear hb hbox hg) | ((with_reducible refine gate_callee (f := 39) rfl ?_); refine goesL_ (some 12) rfl rfl Try.func39 (by kernel_rfl) rfl #[.slice A0 l0.length c0] rfl (by (try simp only [List.map_toArray, List.map_cons, List.map_nil]); first | done | rfl | (simp only [List.length_drop, List.length_take]; rfl)) ?_; (with_reducible refine (valid_Check.calls _ _ l0 t114 t115 t116 _ ?side1 ?side2 A4.out).mono ?_); (case side1 => repeat (first | exact (Kd.C_below HR0.out HB.out) | (with_reducible refine Kd.C_alloc ?_ _) | (with_reducible refine Kd.C_drewN ?_ _) | (with_reducible refine Kd.C_drew ?_))); (case side2 => exact HC0.out); rintro e w20 ⟨rfl, hb⟩; refine ⟨_, rfl, ?_⟩; have n0_ := Aside0.mk (blk_below (g := gb113) (o := .cells #[.int .i64 a2_0, .int .i64 a2_1] 43 (0, 0)) (by (with_reducible repeat (first | refine blk_drewN ?_ _ | refine blk_drew ?_ | refine blk_alloc ?_ _)); exact BK113.out) hb); have n1_ := Aside0.mk (below_step (by repeat (first | (with_reducible first | exact HB.out | apply below_alloc | apply pw_below_drewN | apply below_drew1 | refine below_set ?_ GE113.out) | exact HB.out)) hb); clear BK113; clear HB; have BK113 := n0_; have HB := n1_; clear n0_ n1_; (try clear hb); (try clear hb2); (try clear hk); (try clear hi); have hcz21_0 : w20.cell? ⟨gb113, 0, none⟩ = some (.int .i64 a2_0) := (blk_cell BK113.out 0).trans rfl; have hcz21_1 : w20.cell? ⟨gb113, 1, none⟩ = some (.int .i64 a2_1) := (blk_cell BK113.out 1).trans rfl; have hfz21_0 := blk_frozen BK113.out 0; have hfz21_1 := blk_frozen BK113.out 1))
            go_ret
            exact ⟨by first | rfl | (simp [errW_none, errW_some] <;> rfl) | (simp [*, errW_none, errW_some] <;> rfl), by repeat (first | (with_reducible first | exact HB.out | apply below_alloc | apply pw_below_drewN | apply below_drew1 | refine below_set ?_ GE113.out) | exact HB.out)⟩
          · rw [if_neg c18] at H
            have c18b0 : decide (30 < a2_1) = false := decide_eq_false c18
            clear c18
            by_cases c22 : 0 < (l0.length : Int)
            · rw [if_pos c22] at H
              have c22b0 : decide (0 < (l0.length : Int)) = true := decide_eq_true c22
              have c22b1 : decide (0 < l0.length) = true := decide_eq_true (by omega)
              clear c22
              obtain rfl := Option.some.inj H
              go_enter Try.func33, Try.ntmps33
              go_wp2_with (first | ((with_reducible refine gate_dst (N := 5) rfl ?_); refine box_event ?hg (N := 5) ?hd (cs := #[.int .i64 a2_0, .int .i64 a2_1]) (t := 43) ?hr ?_; (case hd => rfl); (case hg => rfl); (case hr => first | (go_simp; done) | (go_simp; rfl)); intro gb113 hg w23 hbox hb; have n0_ := Aside0.mk (below_step (by repeat (first | (with_reducible first | exact HB.out | apply below_alloc | apply pw_below_drewN | apply below_drew1) | exact HB.out)) hb); have n1_ := Aside0.mk (hbox); have n2_ := Aside0.mk ((by rw [hg]; exact (below_size (by repeat (first | (with_reducible first | exact HB.out | apply below_alloc | apply pw_below_drewN | apply below_drew1) | exact HB.out))) : w.heap.size ≤ gb113)); have n3_ := Aside0.mk ((by rw [hg]; exact (below_size (by repeat (first | (with_reducible first | exact HB.out | apply below_alloc | apply pw_below_drewN | apply below_drew1) | exact HB.out))) : w.heap.size ≤ gb113)); clear HB; have HB := n0_; have BK113 := n1_; have GW113 := n2_; have GE113 := n3_; clear n0_ n1_ n2_ n3_; clear hb hbox hg) | ((with_reducible refine gate_callee (f := 39) rfl ?_); refine goesL_ (some 12) rfl rfl Try.func39 (by kernel_rfl) rfl #[.slice A0 l0.length c0] rfl (by (try simp only [List.map_toArray, List.map_cons, List.map_nil]); first | done | rfl | (simp only [List.length_drop, List.length_take]; rfl)) ?_; (with_reducible refine (valid_Check.calls _ _ l0 t114 t115 t116 _ ?side1 ?side2 A4.out).mono ?_); (case side1 => repeat (first | exact (Kd.C_below HR0.out HB.out) | (with_reducible refine Kd.C_alloc ?_ _) | (with_reducible refine Kd.C_drewN ?_ _) | (with_reducible refine Kd.C_drew ?_))); (case side2 => exact HC0.out); rintro e w24 ⟨rfl, hb⟩; refine ⟨_, rfl, ?_⟩; have n0_ := Aside0.mk (blk_below (g := gb113) (o := .cells #[.int .i64 a2_0, .int .i64 a2_1] 43 (0, 0)) (by (with_reducible repeat (first | refine blk_drewN ?_ _ | refine blk_drew ?_ | refine blk_alloc ?_ _)); exact BK113.out) hb); have n1_ := Aside0.mk (below_step (by repeat (first | (with_reducible first | exact HB.out | apply below_alloc | apply pw_below_drewN | apply below_drew1 | refine below_set ?_ GE113.out) | exact HB.out)) hb); clear BK113; clear HB; have BK113 := n0_; have HB := n1_; clear n0_ n1_; (try clear hb); (try clear hb2); (try clear hk); (try clear hi); have hcz25_0 : w24.cell? ⟨gb113, 0, none⟩ = some (.int .i64 a2_0) := (blk_cell BK113.out 0).trans rfl; have hcz25_1 : w24.cell? ⟨gb113, 1, none⟩ = some (.int .i64 a2_1) := (blk_cell BK113.out 1).trans rfl; have hfz25_0 := blk_frozen BK113.out 0; have hfz25_1 := blk_frozen BK113.out 1; have p117 : 0 ≤ (0 : Int) := (by omega); have q117 : 0 < (l0.length : Int) := of_decide_eq_true (by first | (with_reducible assumption) | assumption); obtain ⟨ad117, A117_1, c117_1, e117, hx117_0, hx117_1, hl117_1, hi117_1⟩ := at_T68 HR0.out 0 p117 q117; cases e117; have qi117 : (0 < l0.length) = True := eq_true (by omega); (try rw [show ((0 : Int)).toNat = 0 from rfl] at hx117_0); (try rw [show 0 * 2 = 0 from rfl] at hx117_0); (try rw [Addr.add_zero'] at hx117_0); (try rw [show ((0 : Int)).toNat = 0 from rfl] at hx117_1); (try rw [show 0 * 2 = 0 from rfl] at hx117_1); (try rw [Addr.add_zero'] at hx117_1); replace hx117_0 := (HB.out.cell (World.block_lt_of_cell? w _ hx117_0)).trans hx117_0; replace hx117_1 := (HB.out.cell (World.block_lt_of_cell? w _ hx117_1)).trans hx117_1; have HR117_1 := Aside0.mk hi117_1; have HC117_1 := Aside0.mk hl117_1; clear hi117_1 hl117_1; replace p117 := eq_true p117; replace q117 := eq_true q117))
              go_ret
              exact ⟨by first | rfl | (simp [errW_none, errW_some] <;> rfl) | (simp [*, errW_none, errW_some] <;> rfl), by repeat (first | (with_reducible first | exact HB.out | apply below_alloc | apply pw_below_drewN | apply below_drew1 | refine below_set ?_ GE113.out) | exact HB.out)⟩
            · rw [if_neg c22] at H
              exact absurd H (by simp)
  · rw [if_neg c5] at H
    have c5b0 : (t116 == 0) = false := beq_eq_false_iff_ne.mpr c5
    have c5b1 : (t116 != 0) = true := bne_iff_ne.mpr c5
    obtain rfl := Option.some.inj H
    go_enter Try.func33, Try.ntmps33
    go_wp2_with (first | ((with_reducible refine gate_dst (N := 5) rfl ?_); refine box_event ?hg (N := 5) ?hd (cs := #[.int .i64 a2_0, .int .i64 a2_1]) (t := 43) ?hr ?_; (case hd => rfl); (case hg => rfl); (case hr => first | (go_simp; done) | (go_simp; rfl)); intro gb113 hg w26 hbox hb; have n0_ := Aside0.mk (below_step (by repeat (first | (with_reducible first | exact HB.out | apply below_alloc | apply pw_below_drewN | apply below_drew1) | exact HB.out)) hb); have n1_ := Aside0.mk (hbox); have n2_ := Aside0.mk ((by rw [hg]; exact (below_size (by repeat (first | (with_reducible first | exact HB.out | apply below_alloc | apply pw_below_drewN | apply below_drew1) | exact HB.out))) : w.heap.size ≤ gb113)); have n3_ := Aside0.mk ((by rw [hg]; exact (below_size (by repeat (first | (with_reducible first | exact HB.out | apply below_alloc | apply pw_below_drewN | apply below_drew1) | exact HB.out))) : w.heap.size ≤ gb113)); clear HB; have HB := n0_; have BK113 := n1_; have GW113 := n2_; have GE113 := n3_; clear n0_ n1_ n2_ n3_; clear hb hbox hg) | ((with_reducible refine gate_callee (f := 39) rfl ?_); refine goesL_ (some 12) rfl rfl Try.func39 (by kernel_rfl) rfl #[.slice A0 l0.length c0] rfl (by (try simp only [List.map_toArray, List.map_cons, List.map_nil]); first | done | rfl | (simp only [List.length_drop, List.length_take]; rfl)) ?_; (with_reducible refine (valid_Check.calls _ _ l0 t114 t115 t116 _ ?side1 ?side2 A4.out).mono ?_); (case side1 => repeat (first | exact (Kd.C_below HR0.out HB.out) | (with_reducible refine Kd.C_alloc ?_ _) | (with_reducible refine Kd.C_drewN ?_ _) | (with_reducible refine Kd.C_drew ?_))); (case side2 => exact HC0.out); rintro e w27 ⟨rfl, hb⟩; refine ⟨_, rfl, ?_⟩; have n0_ := Aside0.mk (blk_below (g := gb113) (o := .cells #[.int .i64 a2_0, .int .i64 a2_1] 43 (0, 0)) (by (with_reducible repeat (first | refine blk_drewN ?_ _ | refine blk_drew ?_ | refine blk_alloc ?_ _)); exact BK113.out) hb); have n1_ := Aside0.mk (below_step (by repeat (first | (with_reducible first | exact HB.out | apply below_alloc | apply pw_below_drewN | apply below_drew1 | refine below_set ?_ GE113.out) | exact HB.out)) hb); clear BK113; clear HB; have BK113 := n0_; have HB := n1_; clear n0_ n1_; (try clear hb); (try clear hb2); (try clear hk); (try clear hi)))
    go_ret
    exact ⟨by first | rfl | (simp [errW_none, errW_some] <;> rfl) | (simp [*, errW_none, errW_some] <;> rfl), by repeat (first | (with_reducible first | exact HB.out | apply below_alloc | apply pw_below_drewN | apply below_drew1 | refine below_set ?_ GE113.out) | exact HB.out)⟩

end Go.Proofs.Ytcciejcpijlkfaa.H

-- made by this session's gen.py over the kit's print.py; not trusted: Lean checks it
namespace Go.Proofs.Ytcciejcpijlkfaa.H
open Go.RowKit Go.Proofs.YtcciejcpijlkfaaW.PrintWords Go.Proofs.YtcciejcpijlkfaaW.PrintLast Go.Proofs.YtcciejcpijlkfaaW.PrintMore
attribute [local go_sem] max2_int min2_int max_two min_two max_three min_three max_four min_four   -- for this text's walks alone
set_option linter.unusedVariables false
set_option linter.unusedSimpArgs false

/-! ### frame_right: function 25 -/
def frame_right.f (l0 : List (S68)) (a1_0 : Int) (a1_1 : Int) : Option (Bool) := (valid_Check.f l0).bind fun bt119 => (if bt119.2.2 = 0 then (if 0 < (l0.length : Int) then (if 0 ≤ ((rd_T68 l0 0).f0) then (if ((rd_T68 l0 0).f0 : Int).toNat ≤ 35184372088832 then ((eval_Right.f l0 (List.replicate ((rd_T68 l0 0).f0 : Int).toNat 0) a1_0 a1_1).bind fun t126 => (some t126)) else (none)) else (none)) else (none)) else (some false))
def frame_right.T4 : Bool × List (List Nat × List Nat) := (true, [([], []), ([], []), ([1], [1]), ([2], [2]), ([3], [3]), ([4, 4], [4]), ([], []), ([0, 5, 6], [0, 5, 6]), ([7, 7, 0, 1, 2, 3, 4, 5, 6, 7], [7])])
def frame_right.B4 : List Nat := [0, 0, 2, 6, 14, 30, 0, 127, 255]
theorem frame_right.tab4 : rtab .any (opsOf Try.f25 4) = frame_right.T4 := by kernel_rfl
theorem frame_right.bits4 : waitsOk frame_right.T4.2 frame_right.B4 = true := by kernel_rfl
set_option maxHeartbeats 8000000 in
set_option maxRecDepth 100000 in
theorem frame_right.calls (A0 : Option Addr) (c0 : Nat) (l0 : List (S68)) (a1_0 : Int) (a1_1 : Int) (r : Bool) (w : World) (hr0 : Kd.C k68 w A0 l0.length l0) (hc0 : l0.length ≤ c0) (h : frame_right.f l0 a1_0 a1_1 = some r) :
    Calls Try.prog 25 #[.slice A0 l0.length c0, .agg #[.int .i64 a1_0, .int .i64 a1_1]] w fun e w' => e = .returned (.bool r) ∧ Below w.heap.size w w' := by
  have hu43 := Try.underlying43
  have HR0 := Aside0.mk hr0
  have HC0 := Aside0.mk hc0
  clear hr0 hc0
  have HB := Aside0.mk (Below.refl w.heap.size w)
  have H : ((valid_Check.f l0).bind fun bt119 => (if bt119.2.2 = 0 then (if 0 < (l0.length : Int) then (if 0 ≤ ((rd_T68 l0 0).f0) then (if ((rd_T68 l0 0).f0 : Int).toNat ≤ 35184372088832 then ((eval_Right.f l0 (List.replicate ((rd_T68 l0 0).f0 : Int).toNat 0) a1_0 a1_1).bind fun t126 => (some t126)) else (none)) else (none)) else (none)) else (some false))) = some r := h
  clear h
  replace H := Option.bind_eq_some_iff.mp H
  obtain ⟨⟨t119, t120, t121⟩, A30, H⟩ := H
  replace H : (if t121 = 0 then (if 0 < (l0.length : Int) then (if 0 ≤ ((rd_T68 l0 0).f0) then (if ((rd_T68 l0 0).f0 : Int).toNat ≤ 35184372088832 then ((eval_Right.f l0 (List.replicate ((rd_T68 l0 0).f0 : Int).toNat 0) a1_0 a1_1).bind fun t126 => (some t126)) else (none)) else (none)) else (none)) else (some false)) = some r := H
  have A3 := Aside0.mk A30
  clear A30
  by_cases c4 : t121 = 0
  · rw [if_pos c4] at H
    have c4b0 : (t121 == 0) = true := beq_iff_eq.mpr c4
    have c4b1 : (t121 != 0) = false := bne_eq_false_iff_eq.mpr c4
    clear c4
    by_cases c5 : 0 < (l0.length : Int)
    · rw [if_pos c5] at H
      have c5b0 : decide (0 < (l0.length : Int)) = true := decide_eq_true c5
      have c5b1 : decide (0 < l0.length) = true := decide_eq_true (by omega)
      clear c5
      by_cases c6 : 0 ≤ ((rd_T68 l0 0).f0)
      · rw [if_pos c6] at H
        have c6b0 := eq_true c6
        have c6b1 : decide (0 ≤ ((rd_T68 l0 0).f0)) = true := decide_eq_true c6
        clear c6
        by_cases c7 : ((rd_T68 l0 0).f0 : Int).toNat ≤ 35184372088832
        · rw [if_pos c7] at H
          have c7b0 := eq_true c7
          have c7b1 : decide (((rd_T68 l0 0).f0 : Int).toNat ≤ 35184372088832) = true := decide_eq_true c7
          clear c7
          obtain ⟨y123, hy123⟩ : ∃ y_ : List Int, y_ = (List.replicate ((rd_T68 l0 0).f0 : Int).toNat 0) := ⟨_, rfl⟩
          replace H : ((eval_Right.f l0 y123 a1_0 a1_1).bind fun t126 => (some t126)) = some r := by first | (rw [hy123]; with_reducible exact H) | (have H2_ := (Option.bind_some _ _).symm.trans H; rw [hy123]; with_reducible exact H2_) | (have H2_ := (Option.bind_some _ _).symm.trans H; with_reducible exact H2_) | with_reducible exact H | (rw [hy123]; exact H) | exact H
          have Ny123 := Aside0.mk hy123
          clear hy123
          replace H := Option.bind_eq_some_iff.mp H
          obtain ⟨t126, A80, H⟩ := H
          replace H : (some t126) = some r := H
          have A8 := Aside0.mk A80
          clear A80
          obtain rfl := Option.some.inj H
          go_enter Try.func25, Try.ntmps25
          try go_wp2_with (first | ((with_reducible refine gate_dst (N := 3) rfl ?_); refine box_event ?hg (N := 3) ?hd (cs := #[.int .i64 a1_0, .int .i64 a1_1]) (t := 43) ?hr ?_; (case hd => rfl); (case hg => rfl); (case hr => first | (go_simp; done) | (go_simp; rfl)); intro gb118 hg w9 hbox hb; have n0_ := Aside0.mk (below_step (by repeat (first | (with_reducible first | exact HB.out | apply below_alloc | apply pw_below_drewN | apply below_drew1) | exact HB.out)) hb); have n1_ := Aside0.mk (hbox); have n2_ := Aside0.mk ((by rw [hg]; exact (below_size (by repeat (first | (with_reducible first | exact HB.out | apply below_alloc | apply pw_below_drewN | apply below_drew1) | exact HB.out))) : w.heap.size ≤ gb118)); have n3_ := Aside0.mk ((by rw [hg]; exact (below_size (by repeat (first | (with_reducible first | exact HB.out | apply below_alloc | apply pw_below_drewN | apply below_drew1) | exact HB.out))) : w.heap.size ≤ gb118)); clear HB; have HB := n0_; have BK118 := n1_; have GW118 := n2_; have GE118 := n3_; clear n0_ n1_ n2_ n3_; clear hb hbox hg) | ((with_reducible refine gate_callee (f := 39) rfl ?_); refine goesL_ (some 10) rfl rfl Try.func39 (by kernel_rfl) rfl #[.slice A0 l0.length c0] rfl (by (try simp only [List.map_toArray, List.map_cons, List.map_nil]); first | done | rfl | (simp only [List.length_drop, List.length_take]; rfl)) ?_; (with_reducible refine (valid_Check.calls _ _ l0 t119 t120 t121 _ ?side1 ?side2 A3.out).mono ?_); (case side1 => repeat (first | exact (Kd.C_below HR0.out HB.out) | (with_reducible refine Kd.C_alloc ?_ _) | (with_reducible refine Kd.C_drewN ?_ _) | (with_reducible refine Kd.C_drew ?_))); (case side2 => exact HC0.out); rintro e w10 ⟨rfl, hb⟩; refine ⟨_, rfl, ?_⟩; have n0_ := Aside0.mk (blk_below (g := gb118) (o := .cells #[.int .i64 a1_0, .int .i64 a1_1] 43 (0, 0)) (by (with_reducible repeat (first | refine blk_drewN ?_ _ | refine blk_drew ?_ | refine blk_alloc ?_ _)); exact BK118.out) hb); have n1_ := Aside0.mk (below_step (by repeat (first | (with_reducible first | exact HB.out | apply below_alloc | apply pw_below_drewN | apply below_drew1 | refine below_set ?_ GE118.out) | exact HB.out)) hb); clear BK118; clear HB; have BK118 := n0_; have HB := n1_; clear n0_ n1_; (try clear hb); (try clear hb2); (try clear hk); (try clear hi)))
          have n0_ := Aside0.mk (blk_drew BK118.out)
          have n1_ := Aside0.mk (below_drew1 HB.out)
          clear BK118
          clear HB
          have BK118 := n0_
          have HB := n1_
          clear n0_ n1_
          have p122 : 0 ≤ (0 : Int) := (by omega)
          have q122 : 0 < (l0.length : Int) := of_decide_eq_true (by first | (with_reducible assumption) | assumption)
          obtain ⟨ad122, A122_1, c122_1, e122, hx122_0, hx122_1, hl122_1, hi122_1⟩ := at_T68 HR0.out 0 p122 q122
          have hw122_1 := hx122_1
          (try rw [show ((0 : Int)).toNat = 0 from rfl] at hw122_1)
          (try rw [show 0 * 2 = 0 from rfl] at hw122_1)
          (try rw [Addr.add_zero'] at hw122_1)
          have hw122_0 := hx122_0
          (try rw [show ((0 : Int)).toNat = 0 from rfl] at hw122_0)
          (try rw [show 0 * 2 = 0 from rfl] at hw122_0)
          (try rw [Addr.add_zero'] at hw122_0)
          cases e122
          have qi122 : (0 < l0.length) = True := eq_true (by omega)
          (try rw [show ((0 : Int)).toNat = 0 from rfl] at hx122_0)
          (try rw [show 0 * 2 = 0 from rfl] at hx122_0)
          (try rw [Addr.add_zero'] at hx122_0)
          (try rw [show ((0 : Int)).toNat = 0 from rfl] at hx122_1)
          (try rw [show 0 * 2 = 0 from rfl] at hx122_1)
          (try rw [Addr.add_zero'] at hx122_1)
          replace hx122_0 := (HB.out.cell (World.block_lt_of_cell? w _ hx122_0)).trans hx122_0
          replace hx122_1 := (HB.out.cell (World.block_lt_of_cell? w _ hx122_1)).trans hx122_1
          have HR122_1 := Aside0.mk hi122_1
          have HC122_1 := Aside0.mk hl122_1
          clear hi122_1 hl122_1
          replace p122 := eq_true p122
          replace q122 := eq_true q122
          refine start_ (n := 9) (S := fun w' => w'.cell? ⟨gb118, 0, none⟩ = some (.int .i64 a1_0) ∧ w'.cell? ⟨gb118, 1, none⟩ = some (.int .i64 a1_1) ∧ w'.cell? ad122 = some (.int .i64 ((rd_T68 l0 0).f0)) ∧ w'.cell? ⟨ad122.block, ad122.off + 1, none⟩ = some (.slice A122_1 ((rd_T68 l0 0).f1).length c122_1)) (ds := []) #[false, false, false, false, false, false, false, false, false] (by kernel_rfl) rfl rfl ⟨(blk_cell BK118.out 0).trans rfl, (blk_cell BK118.out 1).trans rfl, ((HB.out.cell (World.block_lt_of_cell? w _ hw122_0)).trans hw122_0), ((HB.out.cell (World.block_lt_of_cell? w _ hw122_1)).trans hw122_1)⟩ (fun hHeld => ?_); refine with_tabW frame_right.tab4 frame_right.bits4 (fun HT_ HW_ => ?_)
          generalize w10.drew = w11 at BK118 HB HR122_1 hx122_0 hx122_1 hHeld ⊢
          refine pure_ (i := 0) (N := some 16) (v := ?_) (a' := ?_) #[true, false, false, false, false, false, false, false, false] rfl rfl (any_of HT_.out (by kernel_rfl)) (fun _ _ _ h => h) (Or.inl ⟨by rfl, ?_⟩) ?_ ?_
          rotate_left
          · intro w'
            go_simp
            with_reducible rfl
          rotate_left
          · simp only [Act.put, List.setIfInBounds_toArray, List.set_cons_zero, List.set_cons_succ, i64_w, i32_w]
            rfl
          refine pure_ (i := 1) (N := some 17) (v := ?_) (a' := ?_) #[true, true, false, false, false, false, false, false, false] rfl rfl (any_of HT_.out (by kernel_rfl)) (fun _ _ _ h => h) (Or.inl ⟨by rfl, ?_⟩) ?_ ?_
          rotate_left
          · intro w'
            go_simp
            with_reducible rfl
          rotate_left
          · simp only [Act.put, List.setIfInBounds_toArray, List.set_cons_zero, List.set_cons_succ, i64_w, i32_w]
            rfl
          refine pure_ (i := 2) (N := some 18) (v := ?_) (a' := ?_) #[true, true, true, false, false, false, false, false, false] rfl rfl (any_of HT_.out (by kernel_rfl)) (fun _ _ _ h => h) (Or.inl ⟨by rfl, ?_⟩) ?_ ?_
          rotate_left
          · intro w'
            go_simp
            with_reducible rfl
          rotate_left
          · simp only [Act.put, List.setIfInBounds_toArray, List.set_cons_zero, List.set_cons_succ, i64_w, i32_w]
            rfl
          refine pure_ (i := 3) (N := some 19) (v := ?_) (a' := ?_) #[true, true, true, true, false, false, false, false, false] rfl rfl (any_of HT_.out (by kernel_rfl)) (fun _ _ _ h => h) (Or.inl ⟨by rfl, ?_⟩) ?_ ?_
          rotate_left
          · intro w'
            go_simp
            with_reducible rfl
          rotate_left
          · simp only [Act.put, List.setIfInBounds_toArray, List.set_cons_zero, List.set_cons_succ, i64_w, i32_w]
            rfl
          refine take_ (i := 4) (N := some 20) (v := ?_) (a' := ?_) #[true, true, true, true, true, false, false, false, false] rfl rfl (take_ofW HT_.out HW_.out (by kernel_rfl)) (fun _ _ _ h => h) (Or.inl ⟨by rfl, ?_⟩) hHeld ?_ ?_
          rotate_left
          · rintro w' ⟨s0, s1, s2, s3⟩
            go_simp
            with_reducible rfl
          rotate_left
          · simp only [Act.put, List.setIfInBounds_toArray, List.set_cons_zero, List.set_cons_succ, i64_w, i32_w]
            rfl
          refine take_ (i := 6) (N := some 22) (v := ?_) (a' := ?_) #[true, true, true, true, true, false, true, false, false] rfl rfl (take_ofW HT_.out HW_.out (by kernel_rfl)) (fun _ _ _ h => h) (Or.inl ⟨by rfl, ?_⟩) hHeld ?_ ?_
          rotate_left
          · rintro w' ⟨s0, s1, s2, s3⟩
            go_simp
            with_reducible rfl
          rotate_left
          · simp only [Act.put, List.setIfInBounds_toArray, List.set_cons_zero, List.set_cons_succ, i64_w, i32_w]
            rfl
          refine one_ (i := 5) (N := some 21) #[true, true, true, true, true, true, true, false, false] rfl rfl (one_of HT_.out (by kernel_rfl)) (by decide) (fun K hK => ?_)
          refine Kd.R_make_step (Kd.int .i64) _ 2 (by rfl) (N := 21) rfl 34 _ _ rfl ((rd_T68 l0 0).f0) rfl rfl Try.underlying34 (.int .i64 0) 8 info2 rfl (by decide) (by omega) 0 (ok := fun _ => True) (okp := fun _ => True) rfl (fun _ hk => hk) trivial (of_decide_eq_true (by first | (with_reducible assumption) | assumption)) (Nat.le_trans (Nat.mul_le_mul_right _ (of_decide_eq_true (by first | (with_reducible assumption) | assumption) : ((rd_T68 l0 0).f0).toNat ≤ 35184372088832)) (by omega)) (Below.refl _ _) (Nat.le_refl _) ?_
          intro v124 w12 ho13 hb hg_ hnew_
          clear hg_ hnew_
          (first | rw [← Ny123.out] at ho13 | (simp only [Int.reduceToNat] at ho13; rw [← Ny123.out] at ho13))
          have n0_ := Aside0.mk (Kd.R_lower ho13 (below_size (by repeat (first | (with_reducible first | exact HB.out | apply below_alloc | apply pw_below_drewN | apply below_drew1 | refine below_set ?_ GE118.out) | exact HB.out))))
          have n1_ := Aside0.mk (blk_below (g := gb118) (o := .cells #[.int .i64 a1_0, .int .i64 a1_1] 43 (0, 0)) (by (with_reducible repeat (first | refine blk_drewN ?_ _ | refine blk_drew ?_ | refine blk_alloc ?_ _)); exact BK118.out) hb)
          have n2_ := Aside0.mk (below_step (by repeat (first | (with_reducible first | exact HB.out | apply below_alloc | apply pw_below_drewN | apply below_drew1 | refine below_set ?_ GE118.out) | exact HB.out)) hb)
          clear BK118
          clear HB
          have HO125 := n0_
          have BK118 := n1_
          have HB := n2_
          clear n0_ n1_ n2_
          clear hb ho13
          obtain ⟨Ao14, co14, eo14⟩ := Kd.R_slice HO125.out
          (first | subst eo14 | (injection eo14 with f1_ f2_ f3_; have f4_ := f1_.symm; have f5_ := f3_.symm; clear f1_ f2_ f3_; subst f4_; subst f5_))
          refine hK.out _ _ ⟨(blk_cell BK118.out 0).trans rfl, (blk_cell BK118.out 1).trans rfl, ((HB.out.cell (World.block_lt_of_cell? w _ hw122_0)).trans hw122_0), ((HB.out.cell (World.block_lt_of_cell? w _ hw122_1)).trans hw122_1)⟩ (fun hHeld => ?_)
          clear hK K
          refine norm_ (a' := ?_) ?_ ?_
          rotate_left
          · show Act.put _ (some 21) _ = _
            simp only [Act.put, List.setIfInBounds_toArray, List.set_cons_zero, List.set_cons_succ, i64_w, i32_w]
            rfl
          refine one_ (i := 7) (N := some 23) #[true, true, true, true, true, true, true, true, false] rfl rfl (one_of HT_.out (by kernel_rfl)) (by decide) (fun K hK => ?_)
          refine goes_ Try.func33 (by kernel_rfl) rfl #[.slice (some ad122) l0.length c0, .slice Ao14 y123.length co14, .agg #[.int .i64 a1_0, .int .i64 a1_1]] (by rfl) rfl rfl (by (try simp only [List.map_toArray, List.map_cons, List.map_nil]); first | done | rfl | (simp only [List.length_drop, List.length_take]; rfl)) ?_
          with_reducible refine (eval_Right.calls _ _ l0 _ _ y123 a1_0 a1_1 t126 _ ?side1 ?side2 ?side3 ?side4 A8.out).mono ?_
          (case side1 => repeat (first | exact (Kd.C_below HR0.out HB.out) | (with_reducible refine Kd.C_alloc ?_ _) | (with_reducible refine Kd.C_drewN ?_ _) | (with_reducible refine Kd.C_drew ?_)))
          (case side2 => exact HC0.out)
          (case side3 => repeat (first | exact (Kd.R_reads' HO125.out).2.2 | (with_reducible refine Kd.C_alloc ?_ _) | (with_reducible refine Kd.C_drewN ?_ _) | (with_reducible refine Kd.C_drew ?_)))
          (case side4 => exact (Kd.R_reads' HO125.out).2.1)
          rintro e w15 ⟨rfl, hb⟩
          refine ⟨_, rfl, ?_⟩
          have n0_ := Aside0.mk (Kd.R_below (by (with_reducible repeat (first | apply Kd.R_alloc | apply Kd.R_drewN | apply Kd.R_drew)); exact HO125.out) hb)
          have n1_ := Aside0.mk (blk_below (g := gb118) (o := .cells #[.int .i64 a1_0, .int .i64 a1_1] 43 (0, 0)) (by (with_reducible repeat (first | refine blk_drewN ?_ _ | refine blk_drew ?_ | refine blk_alloc ?_ _)); exact BK118.out) hb)
          have n2_ := Aside0.mk (below_step (by repeat (first | (with_reducible first | exact HB.out | apply below_alloc | apply pw_below_drewN | apply below_drew1 | refine below_set ?_ GE118.out) | exact HB.out)) hb)
          clear HO125
          clear BK118
          clear HB
          have HO125 := n0_
          have BK118 := n1_
          have HB := n2_
          clear n0_ n1_ n2_
          (try clear hb)
          (try clear hb2)
          (try clear hk)
          (try clear hi)
          refine hK.out _ _ ⟨(blk_cell BK118.out 0).trans rfl, (blk_cell BK118.out 1).trans rfl, ((HB.out.cell (World.block_lt_of_cell? w _ hw122_0)).trans hw122_0), ((HB.out.cell (World.block_lt_of_cell? w _ hw122_1)).trans hw122_1)⟩ (fun hHeld => ?_)
          clear hK K
          refine norm_ (a' := ?_) ?_ ?_
          rotate_left
          · show Act.put _ (some 23) _ = _
            simp only [Act.put, List.setIfInBounds_toArray, List.set_cons_zero, List.set_cons_succ, i64_w, i32_w]
            rfl
          refine pure_ (i := 8) (N := some 4) (v := ?_) (a' := ?_) #[true, true, true, true, true, true, true, true, true] rfl rfl (any_of HT_.out (by kernel_rfl)) (fun _ _ _ h => h) (Or.inl ⟨by rfl, ?_⟩) ?_ ?_
          rotate_left
          · intro w'
            go_simp
            with_reducible rfl
          rotate_left
          · simp only [Act.put, List.setIfInBounds_toArray, List.set_cons_zero, List.set_cons_succ, i64_w, i32_w]
            rfl
          refine done_ (done_of HT_.out (by kernel_rfl)) ?_
          try go_wp2
          go_ret
          exact ⟨by first | rfl | (simp [errW_none, errW_some] <;> rfl) | (simp [*, errW_none, errW_some] <;> rfl), by repeat (first | (with_reducible first | exact HB.out | apply below_alloc | apply pw_below_drewN | apply below_drew1 | refine below_set ?_ GE118.out) | exact HB.out)⟩
        · rw [if_neg c7] at H
          exact absurd H (by simp)
      · rw [if_neg c6] at H
        exact absurd H (by simp)
    · rw [if_neg c5] at H
      exact absurd H (by simp)
  · rw [if_neg c4] at H
    have c4b0 : (t121 == 0) = false := beq_eq_false_iff_ne.mpr c4
    have c4b1 : (t121 != 0) = true := bne_iff_ne.mpr c4
    obtain rfl := Option.some.inj H
    go_enter Try.func25, Try.ntmps25
    go_wp2_with (first | ((with_reducible refine gate_dst (N := 3) rfl ?_); refine box_event ?hg (N := 3) ?hd (cs := #[.int .i64 a1_0, .int .i64 a1_1]) (t := 43) ?hr ?_; (case hd => rfl); (case hg => rfl); (case hr => first | (go_simp; done) | (go_simp; rfl)); intro gb118 hg w16 hbox hb; have n0_ := Aside0.mk (below_step (by repeat (first | (with_reducible first | exact HB.out | apply below_alloc | apply pw_below_drewN | apply below_drew1) | exact HB.out)) hb); have n1_ := Aside0.mk (hbox); have n2_ := Aside0.mk ((by rw [hg]; exact (below_size (by repeat (first | (with_reducible first | exact HB.out | apply below_alloc | apply pw_below_drewN | apply below_drew1) | exact HB.out))) : w.heap.size ≤ gb118)); have n3_ := Aside0.mk ((by rw [hg]; exact (below_size (by repeat (first | (with_reducible first | exact HB.out | apply below_alloc | apply pw_below_drewN | apply below_drew1) | exact HB.out))) : w.heap.size ≤ gb118)); clear HB; have HB := n0_; have BK118 := n1_; have GW118 := n2_; have GE118 := n3_; clear n0_ n1_ n2_ n3_; clear hb hbox hg) | ((with_reducible refine gate_callee (f := 39) rfl ?_); refine goesL_ (some 10) rfl rfl Try.func39 (by kernel_rfl) rfl #[.slice A0 l0.length c0] rfl (by (try simp only [List.map_toArray, List.map_cons, List.map_nil]); first | done | rfl | (simp only [List.length_drop, List.length_take]; rfl)) ?_; (with_reducible refine (valid_Check.calls _ _ l0 t119 t120 t121 _ ?side1 ?side2 A3.out).mono ?_); (case side1 => repeat (first | exact (Kd.C_below HR0.out HB.out) | (with_reducible refine Kd.C_alloc ?_ _) | (with_reducible refine Kd.C_drewN ?_ _) | (with_reducible refine Kd.C_drew ?_))); (case side2 => exact HC0.out); rintro e w17 ⟨rfl, hb⟩; refine ⟨_, rfl, ?_⟩; have n0_ := Aside0.mk (blk_below (g := gb118) (o := .cells #[.int .i64 a1_0, .int .i64 a1_1] 43 (0, 0)) (by (with_reducible repeat (first | refine blk_drewN ?_ _ | refine blk_drew ?_ | refine blk_alloc ?_ _)); exact BK118.out) hb); have n1_ := Aside0.mk (below_step (by repeat (first | (with_reducible first | exact HB.out | apply below_alloc | apply pw_below_drewN | apply below_drew1 | refine below_set ?_ GE118.out) | exact HB.out)) hb); clear BK118; clear HB; have BK118 := n0_; have HB := n1_; clear n0_ n1_; (try clear hb); (try clear hb2); (try clear hk); (try clear hi)))
    go_ret
    exact ⟨by first | rfl | (simp [errW_none, errW_some] <;> rfl) | (simp [*, errW_none, errW_some] <;> rfl), by repeat (first | (with_reducible first | exact HB.out | apply below_alloc | apply pw_below_drewN | apply below_drew1 | refine below_set ?_ GE118.out) | exact HB.out)⟩

end Go.Proofs.Ytcciejcpijlkfaa.H

set_option linter.unusedVariables false
set_option linter.unusedSimpArgs false
namespace Go.Proofs.Ytcciejcpijlkfaa.H
open Go.RowKit Go.Hay Go.Proofs.YtcciejcpijlkfaaW.PrintWords Go.Proofs.YtcciejcpijlkfaaW.PrintLast Go.Proofs.YtcciejcpijlkfaaW.PrintMore
/-- may a program run? -/
def evRight (l : List S68) (n : Nat) (b d : Int) : Bool :=
  if (checkP l).2.2 = 0 then (if b < 1 then false else if b > 10000 then false else if d < 0 then false else if d > 30 then false else ((n : Int) == (rd_T68 l 0).f0)) else false
theorem evRight_f (l : List S68) (args : List Int) (b d : Int) : eval_Right.f l args b d = some (evRight l args.length b d) := by
  unfold eval_Right.f evRight valid_Check.f
  simp only [Option.bind_some]
  by_cases h : (checkP l).2.2 = 0
  · have hl := (check_ok h).len
    rw [if_pos h, if_pos h]
    repeat' split
    all_goals first | rfl | (exfalso; omega)
  · rw [if_neg h, if_neg h]
end Go.Proofs.Ytcciejcpijlkfaa.H

set_option linter.unusedVariables false
set_option linter.unusedSimpArgs false
namespace Go.Proofs.Ytcciejcpijlkfaa.H
open Go.RowKit Go.Hay Go.Proofs.YtcciejcpijlkfaaW.PrintWords Go.Proofs.YtcciejcpijlkfaaW.PrintLast Go.Proofs.YtcciejcpijlkfaaW.PrintMore
section
variable {A : Option Addr} {c : Nat} {b d : Int} {fb : Nat} {F : Fr} {w : World} {Ap : Option Addr} {cp : Nat}
theorem do_any {l : List S68} (hl : POk l) (hC : k68.C w A l.length l) (hP : (Kd.int .i64).C w Ap F.path.length F.path) (hpc : F.path.length ≤ cp) (hpn : Ap = none → cp = 0) (h : FB fb F (.slice Ap F.path.length cp) w) (x : S65) {lc : Nat} (hx : IOk l lc x) (hd30 : d ≤ 30) :
    Calls Try.prog (fdeedF x.f0) #[dV A l.length c b d fb, xvF x] w (DoP fb (.slice Ap F.path.length cp) (doF l d x F) w) := by
  have hop := hx.op
  have hcases : x.f0 = 1 ∨ x.f0 = 2 ∨ x.f0 = 3 ∨ x.f0 = 4 ∨ x.f0 = 5 ∨ x.f0 = 6 ∨ x.f0 = 7 ∨ x.f0 = 8 ∨ x.f0 = 9 ∨ x.f0 = 10 ∨ x.f0 = 11 ∨ x.f0 = 12 ∨ x.f0 = 13 ∨ x.f0 = 14 ∨ x.f0 = 15 ∨ x.f0 = 16 ∨ x.f0 = 17 := by omega
  unfold doF
  rcases hcases with e | e | e | e | e | e | e | e | e | e | e | e | e | e | e | e | e
  · rw [e, fdeedF_1, if_pos rfl]
    exact dset_any h x (hx.a (by omega) (by omega) (by omega) (by omega))
  · rw [e, fdeedF_2, if_neg (by decide), if_pos rfl]
    exact dmove_any h x (hx.a (by omega) (by omega) (by omega) (by omega)) (hx.b (.inl (by omega)))
  · rw [e, fdeedF_3, if_neg (by decide), if_neg (by decide), if_pos (by decide)]
    exact dreckon_add h x e (hx.a (by omega) (by omega) (by omega) (by omega)) (hx.b (.inl (by omega))) (hx.c (by omega))
  · rw [e, fdeedF_4, if_neg (by decide), if_neg (by decide), if_pos (by decide)]
    exact dreckon_sub h x e (hx.a (by omega) (by omega) (by omega) (by omega)) (hx.b (.inl (by omega))) (hx.c (by omega))
  · rw [e, fdeedF_5, if_neg (by decide), if_neg (by decide), if_pos (by decide)]
    exact dreckon_mul h x e (hx.a (by omega) (by omega) (by omega) (by omega)) (hx.b (.inl (by omega))) (hx.c (by omega))
  · rw [e, fdeedF_6, if_neg (by decide), if_neg (by decide), if_pos (by decide)]
    by_cases hz : fR F x.f3 = 0
    · have hr : reckonP 6 (fR F x.f2) (fR F x.f3) = none := by simp [reckonP, hz]
      rw [hr]
      exact dreckon_no h x e (hx.a (by omega) (by omega) (by omega) (by omega)) (hx.b (.inl (by omega))) (hx.c (by omega)) hz
    · have hr : reckonP 6 (fR F x.f2) (fR F x.f3) = some (wrap64 ((fR F x.f2).tdiv (fR F x.f3))) := by simp [reckonP, hz]
      rw [hr]
      exact dreckon_div h x e (hx.a (by omega) (by omega) (by omega) (by omega)) (hx.b (.inl (by omega))) (hx.c (by omega)) hz
  · rw [e, fdeedF_7, if_neg (by decide), if_neg (by decide), if_pos (by decide)]
    exact dreckon_less h x e (hx.a (by omega) (by omega) (by omega) (by omega)) (hx.b (.inl (by omega))) (hx.c (by omega))
  · rw [e, fdeedF_8, if_neg (by decide), if_neg (by decide), if_pos (by decide)]
    exact dreckon_same h x e (hx.a (by omega) (by omega) (by omega) (by omega)) (hx.b (.inl (by omega))) (hx.c (by omega))
  · rw [e, fdeedF_9, if_neg (by decide), if_neg (by decide), if_neg (by decide), if_pos rfl]
    exact djump_any h x
  · rw [e, fdeedF_10, if_neg (by decide), if_neg (by decide), if_neg (by decide), if_neg (by decide), if_pos rfl]
    exact dzero_any h x (hx.a (by omega) (by omega) (by omega) (by omega))
  · rw [e, fdeedF_11, if_neg (by decide), if_neg (by decide), if_neg (by decide), if_neg (by decide), if_neg (by decide), if_pos rfl]
    exact dspawn_any hl hC hP hpc hpn h x hd30 (hx.b (.inr (.inl e))) (hx.cf (.inl e))
  · rw [e, fdeedF_12, if_neg (by decide), if_neg (by decide), if_neg (by decide), if_neg (by decide), if_neg (by decide), if_neg (by decide), if_pos rfl]
    exact dsync_any h x
  · rw [e, fdeedF_13, if_neg (by decide), if_neg (by decide), if_neg (by decide), if_neg (by decide), if_neg (by decide), if_neg (by decide), if_neg (by decide), if_pos rfl]
    exact dfuture_any hl hC hP hpc hpn h x hd30 (hx.b (.inr (.inr e))) (hx.cf (.inr e))
  · rw [e, fdeedF_14, if_neg (by decide), if_neg (by decide), if_neg (by decide), if_neg (by decide), if_neg (by decide), if_neg (by decide), if_neg (by decide), if_neg (by decide), if_pos rfl]
    by_cases hz : fH F x.f2 = 0
    · rw [if_pos hz]; exact dtouch_no h x (hx.b14 e) hz
    · rw [if_neg hz]; exact dtouch_yes h x (hx.b14 e) hz
  · rw [e, fdeedF_15, if_neg (by decide), if_neg (by decide), if_neg (by decide), if_neg (by decide), if_neg (by decide), if_neg (by decide), if_neg (by decide), if_neg (by decide), if_neg (by decide), if_pos rfl]
    exact demit_any h x (hx.a (by omega) (by omega) (by omega) (by omega))
  · rw [e, fdeedF_16, if_neg (by decide), if_neg (by decide), if_neg (by decide), if_neg (by decide), if_neg (by decide), if_neg (by decide), if_neg (by decide), if_neg (by decide), if_neg (by decide), if_neg (by decide), if_pos rfl]
    exact dfail_any h x
  · rw [e, fdeedF_17, if_neg (by decide), if_neg (by decide), if_neg (by decide), if_neg (by decide), if_neg (by decide), if_neg (by decide), if_neg (by decide), if_neg (by decide), if_neg (by decide), if_neg (by decide), if_neg (by decide)]
    exact dret_any h x
end
/-- may a program run with such limits? -/
theorem fright_f (l : List S68) (b d : Int) : frame_right.f l b d = some (frRight l b d) := by
  unfold frame_right.f valid_Check.f frRight
  simp only [Option.bind_some]
  by_cases h : (checkP l).2.2 = 0
  · have hp := check_ok h
    have hl := hp.len
    have h0 := (hp.fn 0 (by omega)).1
    have e : rd_T68 l 0 = l[0] := by simp [rd_T68, show 0 < l.length by omega]
    rw [if_pos h, if_pos (by omega), if_pos (by rw [e]; omega), if_pos (by rw [e]; omega), evRight_f]
    simp only [Option.bind_some]
    congr 1
    unfold evRight
    rw [if_pos h, List.length_replicate]
    by_cases h1 : b < 1
    · rw [if_pos h1, decide_eq_false (by omega)]
    rw [if_neg h1]
    by_cases h2 : b > 10000
    · rw [if_pos h2, decide_eq_false (by omega)]
    rw [if_neg h2]
    by_cases h3 : d < 0
    · rw [if_pos h3, decide_eq_false (by omega)]
    rw [if_neg h3]
    by_cases h4 : d > 30
    · rw [if_pos h4, decide_eq_false (by omega)]
    rw [if_neg h4, decide_eq_true (by omega), e]
    have : ((l[0].f0.toNat : Nat) : Int) = l[0].f0 := by omega
    rw [this]
    simp
  · rw [if_neg h, decide_eq_false (by omega)]
end Go.Proofs.Ytcciejcpijlkfaa.H

set_option linter.unusedVariables false
set_option linter.unusedSimpArgs false
namespace Go.Proofs.Ytcciejcpijlkfaa.H
open Go.RowKit Go.Hay Go.Proofs.YtcciejcpijlkfaaW.PrintWords Go.Proofs.YtcciejcpijlkfaaW.PrintLast Go.Proofs.YtcciejcpijlkfaaW.PrintMore
set_option maxRecDepth 100000 in
theorem pne_some (a : Addr) (w : World) : (binOp .neq 31 (.pointer (some a)) (.pointer none)).run Try.prog w = .ok (.bool true) w := rfl
set_option maxRecDepth 100000 in
set_option maxHeartbeats 8000000 in
theorem there_any {A : Option Addr} {c : Nat} {l : List S68} {fb : Nat} {F : Fr} {vp : Value} {w : World} (hC : k68.C w A l.length l) (h : FB fb F vp w) : Calls Try.prog 26 #[.slice A l.length c, .pointer (some ⟨fb, 0, none⟩)] w fun e w' => e = .returned (.bool (thereP l F)) ∧ Below w.heap.size w w' := by
  have h1 := pne_some
  have t0 := h.fix.1
  have t1 := h.fix.2.1
  have HC := Aside0.mk hC
  clear hC h
  unfold thereP
  by_cases c1 : 0 ≤ F.fn
  · by_cases c2 : F.fn < l.length
    · obtain ⟨f, hf⟩ : ∃ f : Nat, F.fn = f := ⟨F.fn.toNat, by omega⟩
      have hfl : f < l.length := by omega
      rw [hf] at t0 c1 c2 ⊢
      obtain ⟨ad, A1, c0, e, p0, p1, hc1, hC1⟩ := at_T68 HC.out (f : Int) (by omega) c2
      rw [Int.toNat_natCast] at p0 p1
      obtain ⟨L, hL⟩ : ∃ L, L = (rd_T68 l (f : Int)).f1.length := ⟨_, rfl⟩
      rw [← hL] at p1 ⊢
      subst e
      clear hL hC1 hc1 hf p0
      generalize l.length = n at c2 ⊢
      have k2 : ((f : Int) < (n : Int)) = True := eq_true c2
      have k2' : (f < n) = True := eq_true (by omega)
      by_cases c3 : 0 ≤ F.at_
      · have k3 : (0 ≤ F.at_) = True := eq_true c3
        by_cases c4 : F.at_ < L
        · have k4 : (F.at_ < (L : Int)) = True := eq_true c4
          rw [decide_eq_true (by omega)]
          clear c1 c2 c3 c4 hfl
          go_enter Try.func26, Try.ntmps26
          go_wp2_with fail
          go_quiet (fail)
          go_wp2_with fail
          go_ret
          exact ⟨rfl, pw_below_drewN (Below.refl _ _) _⟩
        · have k4 : (F.at_ < (L : Int)) = False := eq_false c4
          rw [decide_eq_false (by omega)]
          clear c1 c2 c3 c4 hfl
          go_enter Try.func26, Try.ntmps26
          go_wp2_with fail
          go_quiet (fail)
          go_wp2_with fail
          go_ret
          exact ⟨rfl, pw_below_drewN (Below.refl _ _) _⟩
      · have k3 : (0 ≤ F.at_) = False := eq_false c3
        rw [decide_eq_false (by omega)]
        clear c1 c2 c3 hfl
        go_enter Try.func26, Try.ntmps26
        go_wp2_with fail
        go_quiet (fail)
        go_wp2_with fail
        go_ret
        exact ⟨rfl, pw_below_drewN (Below.refl _ _) _⟩
    · have k1 : (0 ≤ F.fn) = True := eq_true c1
      have k2 : (F.fn < (l.length : Int)) = False := eq_false c2
      rw [decide_eq_false (by omega)]
      clear c1 c2 HC
      generalize l.length = n at k2 ⊢
      go_enter Try.func26, Try.ntmps26
      go_wp2_with fail
      go_quiet (fail)
      go_wp2_with fail
      go_ret
      exact ⟨rfl, pw_below_drewN (Below.refl _ _) _⟩
  · have k1 : (0 ≤ F.fn) = False := eq_false c1
    rw [decide_eq_false (by omega)]
    clear c1 HC
    go_enter Try.func26, Try.ntmps26
    go_wp2_with fail
    go_quiet (fail)
    go_wp2_with fail
    go_ret
    exact ⟨rfl, pw_below_drewN (Below.refl _ _) _⟩
end Go.Proofs.Ytcciejcpijlkfaa.H

set_option linter.unusedVariables false
set_option linter.unusedSimpArgs false
namespace Go.Proofs.Ytcciejcpijlkfaa.H
open Go.RowKit Go.Hay Go.Proofs.YtcciejcpijlkfaaW.PrintWords Go.Proofs.YtcciejcpijlkfaaW.PrintLast Go.Proofs.YtcciejcpijlkfaaW.PrintMore
structure XW (w : World) (b d : Int) (W : World) : Prop where
  below : Below w.heap.size w W
  c0 : W.heap[w.heap.size]? = some (.cells #[.int .i64 b, .int .i64 d] 43 (0, 0))
  c1 : W.heap[w.heap.size + 1]? = some zEff
theorem XW.start (w : World) (b d : Int) : XW w b d ((w.alloc (.cells #[.int .i64 b, .int .i64 d] 43)).alloc zEff) := by
  have e1 : (w.alloc (.cells #[.int .i64 b, .int .i64 d] 43)).heap.size = w.heap.size + 1 := Array.size_push _
  have b1 := (Below.refl w.heap.size w).alloc (Nat.le_refl _) (.cells #[.int .i64 b, .int .i64 d] 43)
  refine ⟨b1.alloc b1.size _, blk_alloc (alloc_blk w _) _, ?_⟩
  have := alloc_blk (w.alloc (.cells #[.int .i64 b, .int .i64 d] 43)) zEff
  rw [e1] at this
  exact this
theorem XW.below2 {w W W' : World} {b d : Int} (h : XW w b d W) (hb : Below W.heap.size W W') : XW w b d W' :=
  ⟨h.below.trans (hb.mono h.below.size), (hb.block _ (blk_lt h.c0)).trans h.c0, (hb.block _ (blk_lt h.c1)).trans h.c1⟩
theorem exec_results {tmps : Array Value} {w : World} {rb : Nat} {e : Ef} {Aa : Option Addr} {ca : Nat} {Ab : Option Addr} {cb : Nat} {v : Value} (t : tmps.getD 6 undef = .pointer (some ⟨rb, 0, none⟩)) (t7 : tmps.getD 7 undef = v) (c : w.heap[rb]? = some (effObj e Aa ca Ab cb)) :
    (results Try.f11 tmps).run Try.prog w = .ok (.tuple #[efV e Aa ca Ab cb, v]) w := by
  have q0 := blk_cell c 0
  have q1 := blk_cell c 1
  have q2 := blk_cell c 2
  have q3 := blk_cell c 3
  have q4 := blk_cell c 4
  have q5 := blk_cell c 5
  have q6 := blk_cell c 6
  have q7 := blk_cell c 7
  simp only [Array.getD_eq_getD_getElem?] at t t7
  simp [results, Try.results11, go_sem, t, t7, q0, q1, q2, q3, q4, q5, q6, q7, efV]
/-- what Exec leaves. -/
def ExecP (fb : Nat) (vp : Value) (r : Ef × Int × Fr) (w : World) (x : Ending) (w' : World) : Prop :=
  ∃ Aa ca Ab cb, x = .returned (.tuple #[efV r.1 Aa ca Ab cb, .int .i64 r.2.1]) ∧ EfC w.heap.size w' r.1 Aa ca Ab cb ∧ FB fb r.2.2 vp w' ∧ Keep (fun q => q = fb) w w'
set_option maxRecDepth 100000 in
set_option maxHeartbeats 8000000 in
theorem Exec_any {A : Option Addr} {c : Nat} {l : List S68} {b d : Int} {fb : Nat} {F : Fr} {Ap : Option Addr} {cp : Nat} {w : World} (hCK : ∀ w', Keep (fun q => q = fb) w w' → k68.C w' A l.length l) (hc : l.length ≤ c) (hPK : ∀ w', Keep (fun q => q = fb) w w' → (Kd.int .i64).C w' Ap F.path.length F.path) (hpc : F.path.length ≤ cp) (hpn : Ap = none → cp = 0) (h : FB fb F (.slice Ap F.path.length cp) w) (hst : -9223372036854775808 ≤ F.steps) :
    Calls Try.prog 11 #[.slice A l.length c, .agg #[.int .i64 b, .int .i64 d], .pointer (some ⟨fb, 0, none⟩)] w (ExecP fb (.slice Ap F.path.length cp) (execP l b d F) w) := by
  obtain ⟨W, hW⟩ : ∃ W, W = (w.alloc (.cells #[.int .i64 b, .int .i64 d] 43)).alloc (.cells #[.int .i64 0, .int .i64 0, .int .i64 0, .int .i64 0, .int .i64 0, .int .i64 0, .slice none 0 0, .slice none 0 0] 36) := ⟨_, rfl⟩
  have hX : XW w b d W := by rw [hW]; exact XW.start w b d
  have HX := Aside0.mk hX
  have HW := Aside0.mk hW
  have d0 := blk_cell hX.c0 0
  have d1 := blk_cell hX.c0 1
  clear hW hX
  have hC := hCK w (Keep.refl _ _)
  have hP := hPK w (Keep.refl _ _)
  have HCK := Aside0.mk (And.intro hCK hPK)
  clear hCK hPK
  have HC := Aside0.mk (And.intro hC hc)
  have HP := Aside0.mk (And.intro hP (And.intro hpc (And.intro hpn hst)))
  have H := Aside0.mk (And.intro h (h.below HX.out.below))
  clear hC hc hP hpc hpn h hst
  obtain ⟨R, hR⟩ : ∃ R, R = execP l b d F := ⟨_, rfl⟩
  rw [← hR]
  unfold execP at hR
  have HRR := Aside0.mk hR
  clear hR
  go_enter Try.func11, Try.ntmps11
  go_upto_region 1 with (fail)
  rw [← HW.out]
  go_wp2_with fail
  refine (frame_right.calls A c l b d _ W (Kd.C_below HC.out.1 HX.out.below) HC.out.2 (fright_f l b d)).mono ?_
  rintro e w1 ⟨rfl, hb1⟩
  have HX := Aside0.mk (HX.out.below2 hb1)
  clear d0 d1 hb1 HW
  have H := Aside0.mk (And.intro H.out.1 (H.out.1.below HX.out.below))
  cases hRt : frRight l b d with
  | false =>
    have hR := HRR.out
    rw [if_neg (by rw [hRt]; decide)] at hR
    have HRR := Aside0.mk hR
    clear hR hRt
    have hc1 := HX.out.c1
    have HC1 := Aside0.mk hc1
    have q0 := blk_cell hc1 0
    have q1 := blk_cell hc1 1
    have q2 := blk_cell hc1 2
    have q3 := blk_cell hc1 3
    have q4 := blk_cell hc1 4
    have q5 := blk_cell hc1 5
    have q6 := blk_cell hc1 6
    have q7 := blk_cell hc1 7
    have f0 := blk_frozen hc1 0
    have f1 := blk_frozen hc1 1
    have f2 := blk_frozen hc1 2
    have f3 := blk_frozen hc1 3
    have f4 := blk_frozen hc1 4
    have f5 := blk_frozen hc1 5
    have f6 := blk_frozen hc1 6
    have f7 := blk_frozen hc1 7
    clear hc1
    go_wp2_with fail
    obtain ⟨hs1, hs2⟩ := storeE_at HC1.out efZ none 0 none 0
    rw [HRR.out]
    exact ⟨rfl, _, exec_results (e := efZ) rfl rfl hs1, none, 0, none, 0, rfl, EfC.plain _ _ _ ⟨rfl, rfl⟩, H.out.2.keep hs2 (by have := H.out.1.lt; omega), (Keep.of_below HX.out.below _).then hs2 (fun q hq e => by omega)⟩
  | true =>
    have hR := HRR.out
    rw [if_pos hRt] at hR
    have HRR := Aside0.mk hR
    have HRT := Aside0.mk hRt
    clear hR hRt
    go_wp2_with fail
    refine (there_any (c := c) (Kd.C_below HC.out.1 HX.out.below) H.out.2).mono ?_
    rintro e w2 ⟨rfl, hb2⟩
    have HX := Aside0.mk (HX.out.below2 hb2)
    have H := Aside0.mk (And.intro H.out.1 (H.out.1.below HX.out.below))
    clear hb2
    cases hTh : thereP l F with
    | false =>
      have hR := HRR.out
      rw [if_neg (by rw [hTh]; decide)] at hR
      have HRR := Aside0.mk hR
      clear hR hTh
      have hc1 := HX.out.c1
      have HC1 := Aside0.mk hc1
      have q0 := blk_cell hc1 0
      have q1 := blk_cell hc1 1
      have q2 := blk_cell hc1 2
      have q3 := blk_cell hc1 3
      have q4 := blk_cell hc1 4
      have q5 := blk_cell hc1 5
      have q6 := blk_cell hc1 6
      have q7 := blk_cell hc1 7
      have f0 := blk_frozen hc1 0
      have f1 := blk_frozen hc1 1
      have f2 := blk_frozen hc1 2
      have f3 := blk_frozen hc1 3
      have f4 := blk_frozen hc1 4
      have f5 := blk_frozen hc1 5
      have f6 := blk_frozen hc1 6
      have f7 := blk_frozen hc1 7
      clear hc1
      go_wp2_with fail
      obtain ⟨hs1, hs2⟩ := storeE_at HC1.out efZ none 0 none 0
      rw [HRR.out]
      exact ⟨rfl, _, exec_results (e := efZ) rfl rfl hs1, none, 0, none, 0, rfl, EfC.plain _ _ _ ⟨rfl, rfl⟩, H.out.2.keep hs2 (by have := H.out.1.lt; omega), (Keep.of_below HX.out.below _).then hs2 (fun q hq e => by omega)⟩
    | true =>
      have hR := HRR.out
      rw [if_pos hTh] at hR
      have HRR := Aside0.mk hR
      have HTH := Aside0.mk hTh
      clear hR hTh
      have d0 := blk_cell HX.out.c0 0
      have t2 := H.out.2.fix.2.2.1
      by_cases hb : b ≤ F.steps
      · have hb2 : (b ≤ F.steps) = True := eq_true hb
        have hR := HRR.out
        rw [if_pos hb] at hR
        have HRR := Aside0.mk hR
        clear hR hb
        go_wp2_with fail
        go_quiet (fail)
        go_wp2_with fail
        refine (ffails_any _ _).mono ?_
        rintro e w3 ⟨rfl, hb3⟩
        clear d0 t2 hb2
        have hbd := (pw_below_drewN (Below.refl w2.heap.size w2) nq).trans (hb3.mono (pw_below_drewN (Below.refl w2.heap.size w2) nq).size)
        have HX := Aside0.mk (HX.out.below2 hbd)
        have H := Aside0.mk (And.intro H.out.1 (H.out.1.below HX.out.below))
        clear hb3 hbd
        unfold efV
        have hc1 := HX.out.c1
        have HC1 := Aside0.mk hc1
        have q0 := blk_cell hc1 0
        have q1 := blk_cell hc1 1
        have q2 := blk_cell hc1 2
        have q3 := blk_cell hc1 3
        have q4 := blk_cell hc1 4
        have q5 := blk_cell hc1 5
        have q6 := blk_cell hc1 6
        have q7 := blk_cell hc1 7
        have f0 := blk_frozen hc1 0
        have f1 := blk_frozen hc1 1
        have f2 := blk_frozen hc1 2
        have f3 := blk_frozen hc1 3
        have f4 := blk_frozen hc1 4
        have f5 := blk_frozen hc1 5
        have f6 := blk_frozen hc1 6
        have f7 := blk_frozen hc1 7
        clear hc1
        go_wp2_with fail
        obtain ⟨hs1, hs2⟩ := storeE_at HC1.out (efFails 3) none 0 none 0
        rw [HRR.out]
        exact ⟨rfl, _, exec_results (e := efFails 3) rfl rfl hs1, none, 0, none, 0, rfl, EfC.plain _ _ _ ⟨rfl, rfl⟩, H.out.2.keep hs2 (by have := H.out.1.lt; omega), (Keep.of_below HX.out.below _).then hs2 (fun q hq e => by omega)⟩
      · have hb2 : (b ≤ F.steps) = False := eq_false hb
        have hR := HRR.out
        rw [if_neg hb] at hR
        have HRR := Aside0.mk hR
        have HBS := Aside0.mk hb
        clear hR hb
        go_wp2_with fail
        go_quiet (fail)
        go_upto_region 7 with (fail)
        have hbd := pw_below_drewN (Below.refl w2.heap.size w2) nq
        have HX := Aside0.mk (HX.out.below2 hbd)
        have H := Aside0.mk (And.intro H.out.1 (H.out.1.below HX.out.below))
        clear hbd d0 t2 hb2
        generalize w2.drewN nq = W at HX H ⊢
        have hth := HTH.out
        unfold thereP at hth
        have hth := of_decide_eq_true hth
        obtain ⟨f, hf⟩ : ∃ f : Nat, F.fn = f := ⟨F.fn.toNat, by omega⟩
        obtain ⟨a, ha⟩ : ∃ a : Nat, F.at_ = a := ⟨F.at_.toNat, by omega⟩
        rw [hf, ha] at hth
        have hCw := Kd.C_below HC.out.1 HX.out.below
        obtain ⟨ad1, A1, c1, e1, p0, p1, hc1, hC1⟩ := at_T68 hCw (f : Int) (by omega) (by omega)
        obtain ⟨code, hcode⟩ : ∃ code, code = (rd_T68 l (f : Int)).f1 := ⟨_, rfl⟩
        rw [← hcode] at p1 hc1 hC1 hth
        obtain ⟨ad2, e2, hx0, hx1, hx2, hx3, hx4⟩ := at_T65 hC1 (a : Int) (by omega) (by omega)
        obtain ⟨x, hx⟩ : ∃ x, x = rd_T65 code (a : Int) := ⟨_, rfl⟩
        rw [← hx] at hx0 hx1 hx2 hx3 hx4
        have hIO : IOk l code.length x := by
          have hl := check_ok (of_decide_eq_true HRT.out).1
          have hfl : f < l.length := by omega
          have hrd : rd_T68 l (f : Int) = l[f] := by simp [rd_T68, hfl]
          have h9 := (hl.fn f hfl).2.2.1
          rw [hrd] at hcode
          subst hcode
          have hal : a < l[f].f1.length := by omega
          have h8 := h9 a hal
          have e9 : rd_T65 l[f].f1 (a : Int) = l[f].f1[a] := by simp [rd_T65, hal]
          rw [hx, e9]
          exact h8
        have hc64 : code.length ≤ 64 := by
          have hl := check_ok (of_decide_eq_true HRT.out).1
          have hfl : f < l.length := by omega
          have hrd : rd_T68 l (f : Int) = l[f] := by simp [rd_T68, hfl]
          rw [hcode, hrd]
          exact ((hl.fn f hfl).2.1).2
        have hix : instrF l F = x := by unfold instrF; rw [hf, ha, ← hcode, ← hx]
        have hR := HRR.out
        rw [hix] at hR
        have HRR := Aside0.mk hR
        have HIO := Aside0.mk (And.intro hIO (And.intro ha (And.intro hth hc64)))
        have t0 := H.out.2.fix.1
        have t1 := H.out.2.fix.2.1
        rw [hf] at t0
        rw [ha] at t1
        obtain ⟨x0, x1, x2, x3, x4⟩ := x
        simp only [Int.toNat_natCast] at p1 hx0 hx1 hx2 hx3 hx4
        have k1 : ((f : Int) < (l.length : Nat)) = True := eq_true (by omega)
        have k2 : ((a : Int) < (code.length : Nat)) = True := eq_true (by omega)
        obtain ⟨cl, hcl⟩ : ∃ cl, cl = code.length := ⟨_, rfl⟩
        rw [← hcl] at p1 k2
        have HM := Aside0.mk (And.intro t0 (And.intro t1 (And.intro p1 (And.intro hx0 (And.intro hx1 (And.intro hx2 (And.intro hx3 hx4)))))))
        subst e1 e2
        clear hcl hc64 hth hf ha hCw p0 hc1 hC1 hcode hx hIO hix hR t0 t1 p1 hx0 hx1 hx2 hx3 hx4
        refine wp_region_T (fun w' => Below W.heap.size W w') [] (.takes [0, 1, 2, 3, 4, 5, 6, 7, 8, 9, 10, 11, 12, 13] (.op 14 (.op 15 .done))) (by kernel_rfl) (by kernel_rfl) (by kernel_rfl) (by kernel_rfl) (panic_via (P := Try.prog) (fn := Try.f11) (R := ExecP fb (.slice Ap F.path.length cp) R w) (fun _ _ _ => rfl)) ?_
        have hs : Below W.heap.size W W.drew := (Below.refl _ _).drew
        have hmv : ∀ {w' : World} {p : Addr} {v : Value}, Below W.heap.size W w' → W.cell? p = some v → w'.cell? p = some v := fun hS hq => (hS.cell (World.block_lt_of_cell? W _ hq)).trans hq
        simp only [Turns.takes]
        repeat (
          (first
            | (refine runT_take (v := ?_) (by rfl) (by rfl) (fun w' hS => ?_) hs ?_
               rotate_left
               · (have t0 := hmv hS HM.out.1; have t1 := hmv hS HM.out.2.1; have p1 := hmv hS HM.out.2.2.1; have hx0 := hmv hS HM.out.2.2.2.1; have hx1 := hmv hS HM.out.2.2.2.2.1; have hx2 := hmv hS HM.out.2.2.2.2.2.1; have hx3 := hmv hS HM.out.2.2.2.2.2.2.1; have hx4 := hmv hS HM.out.2.2.2.2.2.2.2; go_simp; exact rfl))
            | refine runT_skip (by rfl) (by rfl) hs ?_)
          (try simp only [Act.put, List.setIfInBounds_toArray, List.set_cons_zero, List.set_cons_succ]))
        clear hmv k1 k2
        obtain ⟨wd, hwd⟩ : ∃ wd, wd = W.drew := ⟨_, rfl⟩
        rw [← hwd] at hs ⊢
        clear hwd
        refine runT_op (by rfl) (by rfl) (fun K hK => ?_)
        go_simp
        obtain ⟨ib, hib⟩ : ∃ ib, ib = wd.heap.size := ⟨_, rfl⟩
        rw [← hib]
        obtain ⟨w5, hw5⟩ : ∃ w5, w5 = wd.alloc (.cells #[.int .i64 0, .int .i64 0, .int .i64 0, .int .i64 0, .int .i64 0] 65) := ⟨_, rfl⟩
        rw [← hw5]
        have hb5 : Below wd.heap.size wd w5 := by rw [hw5]; exact (Below.refl wd.heap.size wd).alloc (Nat.le_refl _) _
        have hi5 : w5.heap[ib]? = some (.cells #[.int .i64 0, .int .i64 0, .int .i64 0, .int .i64 0, .int .i64 0] 65 (0, 0)) := by rw [hw5, hib]; exact alloc_blk wd _
        have hs5 := hs.trans (hb5.mono hs.size)
        refine hK _ _ hs5 ?_
        have HIB := Aside0.mk (show W.heap.size ≤ ib by rw [hib]; exact hs.size)
        clear hK K hib hw5
        (try simp only [Act.put, List.setIfInBounds_toArray, List.set_cons_zero, List.set_cons_succ])
        have q0 := blk_cell hi5 0
        have q1 := blk_cell hi5 1
        have q2 := blk_cell hi5 2
        have q3 := blk_cell hi5 3
        have q4 := blk_cell hi5 4
        have f0 := blk_frozen hi5 0
        have f1 := blk_frozen hi5 1
        have f2 := blk_frozen hi5 2
        have f3 := blk_frozen hi5 3
        have f4 := blk_frozen hi5 4
        refine runT_op (by rfl) (by rfl) (fun K hK => ?_)
        go_simp
        obtain ⟨W2, hW2⟩ : ∃ W2, W2 = ((((w5.setCell ⟨ib, 0, none⟩ (.int .i64 x0)).setCell ⟨ib, 1, none⟩ (.int .i64 x1)).setCell ⟨ib, 2, none⟩ (.int .i64 x2)).setCell ⟨ib, 3, none⟩ (.int .i64 x3)).setCell ⟨ib, 4, none⟩ (.int .i64 x4) := ⟨_, rfl⟩
        rw [← hW2]
        have hkk : Keep (fun q => q = ib) w5 W2 := by
          rw [hW2]
          exact (((((Keep.refl (fun q => q = ib) w5).set (p := ⟨ib, 0, none⟩) (.inr rfl) _).set (p := ⟨ib, 1, none⟩) (.inr rfl) _).set (p := ⟨ib, 2, none⟩) (.inr rfl) _).set (p := ⟨ib, 3, none⟩) (.inr rfl) _).set (p := ⟨ib, 4, none⟩) (.inr rfl) _
        have hi6 : W2.heap[ib]? = some (.cells #[.int .i64 x0, .int .i64 x1, .int .i64 x2, .int .i64 x3, .int .i64 x4] 65 (0, 0)) := by
          have := blk_set (blk_set (blk_set (blk_set (blk_set hi5 0 (.int .i64 x0)) 1 (.int .i64 x1)) 2 (.int .i64 x2)) 3 (.int .i64 x3)) 4 (.int .i64 x4)
          rw [hW2]; exact this
        have hs6 : Below W.heap.size W W2 := hs5.trans (hkk.below hs5.size (fun q hq e => by have := HIB.out; omega))
        refine hK _ _ hs6 ?_
        clear hK K q0 q1 q2 q3 q4 f0 f1 f2 f3 f4
        refine runT_done ?_
        have HC1L := Aside0.mk (blk_lt HX.out.c1)
        have HX := Aside0.mk (HX.out.below2 hs6)
        have H := Aside0.mk (And.intro H.out.1 (H.out.1.below HX.out.below))
        have HI := Aside0.mk (And.intro hi6 (show w.heap.size + 1 < ib from Nat.lt_of_lt_of_le HC1L.out HIB.out))
        clear hs hs5 hs6 hkk hi6 hi5 hb5 hW2
        generalize W2 = W at HX H HI ⊢
        have t2 := H.out.2.fix.2.2.1
        have z2 := H.out.2.frozen 2
        have hbnd : b ≤ 10000 := (of_decide_eq_true HRT.out).2.1.2
        have hws : IntKind.i64.wrap (F.steps + 1) = F.steps + 1 := IntWalk.i64_in _ (by have := HP.out.2.2.2; have := HBS.out; omega)
        have hwa : IntKind.i64.wrap ((a : Int) + 1) = (a : Int) + 1 := IntWalk.i64_in _ (by have h9 := HIO.out.2.2.1; have h8 := HIO.out.2.2.2; omega)
        clear hbnd
        go_upto_region 9 with (fail)
        obtain ⟨W3, hW3⟩ : ∃ W3, W3 = W.setCell ⟨fb, 2, none⟩ (.int .i64 (F.steps + 1)) := ⟨_, rfl⟩
        rw [← hW3]
        have hF3 := H.out.2.setSteps (F.steps + 1)
        have hk3 : Keep (fun q => q = fb) W W3 := by rw [hW3]; exact (Keep.refl (fun q => q = fb) W).set (p := ⟨fb, 2, none⟩) (.inr rfl) _
        rw [← hW3] at hF3
        have H3 := Aside0.mk (And.intro hF3 hk3)
        have t1 : W3.cell? ⟨fb, 1, none⟩ = some (.int .i64 (a : Int)) := by rw [← HIO.out.2.1]; exact hF3.fix.2.1
        have z1 := hF3.frozen 1
        clear t2 z2 hws hW3 hF3 hk3
        go_upto_region 10 with (fail)
        obtain ⟨W4, hW4⟩ : ∃ W4, W4 = W3.setCell ⟨fb, 1, none⟩ (.int .i64 ((a : Int) + 1)) := ⟨_, rfl⟩
        rw [← hW4]
        have hF4 := H3.out.1.setAt ((a : Int) + 1)
        have hk4 : Keep (fun q => q = fb) W W4 := H3.out.2.trans (by rw [hW4]; exact (Keep.refl (fun q => q = fb) W3).set (p := ⟨fb, 1, none⟩) (.inr rfl) _)
        rw [← hW4] at hF4
        have hF4' : FB fb (stepF F) (.slice Ap F.path.length cp) W4 := by
          have e : stepF F = { F with steps := F.steps + 1, at_ := (a : Int) + 1 } := by unfold stepF; rw [HIO.out.2.1]
          rw [e]; exact hF4
        have HX4 := Aside0.mk (And.intro (hk4.blk HX.out.c0 (by have := H.out.1.lt; omega)) (And.intro (hk4.blk HX.out.c1 (by have := H.out.1.lt; omega)) (hk4.blk HI.out.1 (by have := H.out.1.lt; have := HI.out.2; omega))))
        have H4 := Aside0.mk (And.intro hF4' hk4)
        clear t1 z1 hwa hW4 hF4 hF4' hk4
        refine wp_region_T (fun w' => w'.heap[w.heap.size]? = W4.heap[w.heap.size]? ∧ w'.heap[ib]? = W4.heap[ib]?) [] (.takes [1, 2, 4, 5, 6, 7, 8] (.op 0 (.op 3 (.op 9 (.op 10 (.op 11 .done)))))) (by kernel_rfl) (by kernel_rfl) (by kernel_rfl) (by kernel_rfl) (panic_via (P := Try.prog) (fn := Try.f11) (R := ExecP fb (.slice Ap F.path.length cp) R w) (fun _ _ _ => rfl)) ?_
        have hs : W4.drew.heap[w.heap.size]? = W4.heap[w.heap.size]? ∧ W4.drew.heap[ib]? = W4.heap[ib]? := ⟨rfl, rfl⟩
        simp only [Turns.takes]
        repeat (
          (first
            | (refine runT_take (v := ?_) (by rfl) (by rfl) (fun w' hS => ?_) hs ?_
               rotate_left
               · (have hL := hS.1.trans HX4.out.1; have hI := hS.2.trans HX4.out.2.2; have d0 := blk_cell hL 0; have d1 := blk_cell hL 1; have c0 := blk_cell hI 0; have c1 := blk_cell hI 1; have c2 := blk_cell hI 2; have c3 := blk_cell hI 3; have c4 := blk_cell hI 4; go_simp; exact rfl))
            | refine runT_skip (by rfl) (by rfl) hs ?_)
          (try simp only [Act.put, List.setIfInBounds_toArray, List.set_cons_zero, List.set_cons_succ]))
        have hbd : Below W4.heap.size W4 W4.drew := (Below.refl _ _).drew
        obtain ⟨wd, hwd⟩ : ∃ wd, wd = W4.drew := ⟨_, rfl⟩
        rw [← hwd] at hs hbd ⊢
        clear hwd
        refine runT_op (by rfl) (by rfl) (fun K hK => ?_)
        go_simp
        refine (fdeeds_any wd).mono ?_
        rintro e w6 ⟨rfl, hb6, hD6⟩
        have hb46 : Below W4.heap.size W4 w6 := hbd.trans (hb6.mono hbd.size)
        have hs6 : w6.heap[w.heap.size]? = W4.heap[w.heap.size]? ∧ w6.heap[ib]? = W4.heap[ib]? := ⟨hb46.block _ (blk_lt HX4.out.1), hb46.block _ (blk_lt HX4.out.2.2)⟩
        refine hK _ _ hs6 ?_
        have HD6 := Aside0.mk hD6
        have HB6 := Aside0.mk hb46
        obtain ⟨mb, hmb⟩ : ∃ mb, mb = wd.heap.size := ⟨_, rfl⟩
        rw [← hmb] at hD6 ⊢
        clear hK K hb6 hs hbd hb46 HD6 hmb
        (try simp only [Act.put, List.setIfInBounds_toArray, List.set_cons_zero, List.set_cons_succ])
        have hop : 1 ≤ x0 ∧ x0 ≤ 17 := HIO.out.1.op
        have hlook := hD6.look x0 hop.1 hop.2
        clear hD6
        refine runT_op (by rfl) (by rfl) (fun K hK => ?_)
        go_simp
        refine hK _ _ hs6 ?_
        clear hK K hlook
        (try simp only [Act.put, List.setIfInBounds_toArray, List.set_cons_zero, List.set_cons_succ])
        have hent := fun args w => fdeed_enter hop args w
        refine runT_op (by rfl) (by rfl) (fun K hK => ?_)
        go_simp
        have hl := check_ok (of_decide_eq_true HRT.out).1
        have hk16 : Keep (fun q => q = fb) w w6 := ((Keep.of_below HX.out.below _).trans H4.out.2).trans (Keep.of_below HB6.out _)
        refine (do_any (F := stepF F) (x := ⟨x0, x1, x2, x3, x4⟩) hl (HCK.out.1 w6 hk16) (HCK.out.2 w6 hk16) HP.out.2.1 HP.out.2.2.1 (H4.out.1.below HB6.out) HIO.out.1 (of_decide_eq_true HRT.out).2.2.2).mono ?_
        obtain ⟨q, hq⟩ : ∃ q, q = doF l d ⟨x0, x1, x2, x3, x4⟩ (stepF F) := ⟨_, rfl⟩
        rw [← hq]
        have hR := HRR.out
        rw [← hq] at hR
        have HRR := Aside0.mk hR
        rintro e w7 ⟨Aa, ca, Ab, cb, rfl, hE, hF, hk⟩
        have hs7 : w7.heap[w.heap.size]? = W4.heap[w.heap.size]? ∧ w7.heap[ib]? = W4.heap[ib]? := ⟨(hk.block _ (Nat.lt_of_lt_of_le (blk_lt HX4.out.1) HB6.out.size) (by have := H.out.1.lt; omega)).trans hs6.1, (hk.block _ (Nat.lt_of_lt_of_le (blk_lt HX4.out.2.2) HB6.out.size) (by have := H.out.1.lt; have := HI.out.2; omega)).trans hs6.2⟩
        refine hK _ _ hs7 ?_
        have hc7 : w7.heap[w.heap.size + 1]? = some zEff := hk.blk ((HB6.out.block _ (blk_lt HX4.out.2.1)).trans HX4.out.2.1) (by have := H.out.1.lt; omega)
        have HC7 := Aside0.mk hc7
        have H7 := Aside0.mk (And.intro hE (And.intro hF hk))
        clear hK K hl hq hR hE hF hk hs6 hent hk16
        (try simp only [Act.put, List.setIfInBounds_toArray, List.set_cons_zero, List.set_cons_succ])
        have q0 := blk_cell hc7 0
        have q1 := blk_cell hc7 1
        have q2 := blk_cell hc7 2
        have q3 := blk_cell hc7 3
        have q4 := blk_cell hc7 4
        have q5 := blk_cell hc7 5
        have q6 := blk_cell hc7 6
        have q7 := blk_cell hc7 7
        have f0 := blk_frozen hc7 0
        have f1 := blk_frozen hc7 1
        have f2 := blk_frozen hc7 2
        have f3 := blk_frozen hc7 3
        have f4 := blk_frozen hc7 4
        have f5 := blk_frozen hc7 5
        have f6 := blk_frozen hc7 6
        have f7 := blk_frozen hc7 7
        clear hc7
        unfold efV
        refine runT_op (by rfl) (by rfl) (fun K hK => ?_)
        go_simp
        clear q0 q1 q2 q3 q4 q5 q6 q7 f0 f1 f2 f3 f4 f5 f6 f7
        obtain ⟨hs1, hs2⟩ := storeE_at HC7.out q.1 Aa ca Ab cb
        have hs8 : (storeE w7 (w.heap.size + 1) q.1 Aa ca Ab cb).heap[w.heap.size]? = W4.heap[w.heap.size]? ∧ (storeE w7 (w.heap.size + 1) q.1 Aa ca Ab cb).heap[ib]? = W4.heap[ib]? := ⟨(hs2.block _ (Nat.lt_of_lt_of_le (Nat.lt_of_lt_of_le (blk_lt HX4.out.1) HB6.out.size) H7.out.2.2.size) (by omega)).trans hs7.1, (hs2.block _ (Nat.lt_of_lt_of_le (Nat.lt_of_lt_of_le (blk_lt HX4.out.2.2) HB6.out.size) H7.out.2.2.size) (by have := HI.out.2; omega)).trans hs7.2⟩
        refine hK _ _ hs8 ?_
        clear hK K hs7
        obtain ⟨W8, hW8⟩ : ∃ W8, W8 = storeE w7 (w.heap.size + 1) q.1 Aa ca Ab cb := ⟨_, rfl⟩
        rw [← hW8] at hs1 hs2 hs8
        have H8 := Aside0.mk (And.intro hs1 hs2)
        have e8 : (((((((w7.setCell ⟨w.heap.size + 1, 0, none⟩ (.int .i64 q.1.kind)).setCell ⟨w.heap.size + 1, 1, none⟩ (.int .i64 q.1.value)).setCell ⟨w.heap.size + 1, 2, none⟩ (.int .i64 q.1.reg)).setCell ⟨w.heap.size + 1, 3, none⟩ (.int .i64 q.1.fn)).setCell ⟨w.heap.size + 1, 4, none⟩ (.int .i64 q.1.hand)).setCell ⟨w.heap.size + 1, 5, none⟩ (.int .i64 q.1.why)).setCell ⟨w.heap.size + 1, 6, none⟩ (.slice Aa q.1.args.length ca)).setCell ⟨w.heap.size + 1, 7, none⟩ (.slice Ab q.1.path.length cb) = W8 := hW8.symm
        rw [e8]
        clear hW8 e8 hs1 hs2
        (try simp only [Act.put, List.setIfInBounds_toArray, List.set_cons_zero, List.set_cons_succ])
        refine runT_op (by rfl) (by rfl) (fun K hK => ?_)
        go_simp
        refine hK _ _ hs8 ?_
        clear hK K hs8
        refine runT_done ?_
        go_wp2_with fail
        show bodyPost _ _ (ExecP fb (.slice Ap F.path.length cp) R w) _ _ _
        rw [HRR.out]
        have hsz : w.heap.size ≤ w6.heap.size := Nat.le_trans (Nat.le_trans HX.out.below.size H4.out.2.size) HB6.out.size
        have hlt1 := Nat.lt_of_lt_of_le (blk_lt HX4.out.2.1) HB6.out.size
        refine ⟨rfl, _, exec_results (e := q.1) (Aa := Aa) (ca := ca) (Ab := Ab) (cb := cb) rfl rfl H8.out.1, Aa, ca, Ab, cb, rfl, ?_, H7.out.2.1.keep H8.out.2 (by have := H.out.1.lt; omega), ?_⟩
        · have h9 := H7.out.1.keep H8.out.2 (fun q hq hl e => by omega)
          exact ⟨h9.args, h9.argsC, h9.path, h9.pathC, h9.newA.imp id (fun ⟨ad, e1, e2⟩ => ⟨ad, e1, by omega⟩), h9.newP.imp id (fun ⟨ad, e1, e2⟩ => ⟨ad, e1, by omega⟩)⟩
        · exact ((((Keep.of_below HX.out.below _).trans H4.out.2).trans (Keep.of_below HB6.out _)).trans H7.out.2.2).then H8.out.2 (fun q hq e => by omega)
end Go.Proofs.Ytcciejcpijlkfaa.H

set_option linter.unusedVariables false
set_option linter.unusedSimpArgs false
namespace Go.Proofs.Ytcciejcpijlkfaa.H
open Go.RowKit Go.Hay Go.Proofs.YtcciejcpijlkfaaW.PrintWords Go.Proofs.YtcciejcpijlkfaaW.PrintLast Go.Proofs.YtcciejcpijlkfaaW.PrintMore
theorem args_cellsF {w : World} {A : Option Addr} {xs : List Int} (h : (Kd.int .i64).C w A xs.length xs) (hx : 0 < xs.length) : ∃ ad, A = some ad ∧ ∀ j v, (xs.map (Value.int .i64))[j]? = some v → w.cell? (ad.add j) = some v := by
  obtain ⟨_, _, h3⟩ := h
  obtain ⟨ad, e, h4⟩ := h3 hx
  refine ⟨ad, e, fun j v hj => ?_⟩
  rw [List.getElem?_map] at hj
  cases hp : xs[j]? with
  | none => rw [hp] at hj; cases hj
  | some p =>
    rw [hp] at hj
    cases hj
    obtain ⟨cs, h5, h6, h7⟩ := h4 j p hp
    have h6 : cs = [.int .i64 p] := h6
    subst h6
    have := h7 0 _ rfl
    have e2 : j * (Kd.int .i64).sz + 0 = j := Nat.mul_one j
    rwa [e2] at this
theorem splice_fr (h5 rest : List Value) (hl : h5.length = 5) (args : List Int) :
    splice (h5 ++ ((List.replicate 8 (0 : Int)).map (Value.int .i64) ++ rest)) 5 ((args.take 8).map (Value.int .i64)) = h5 ++ ((newRegs args).map (Value.int .i64) ++ rest) := by
  obtain ⟨n, hn⟩ : ∃ n, n = (args.take 8).length := ⟨_, rfl⟩
  have hn8 : n ≤ 8 := by rw [hn, List.length_take]; omega
  have e0 : 8 - args.length = 8 - n := by rw [hn, List.length_take]; omega
  unfold splice newRegs
  rw [List.length_map, List.map_append, ← hn, e0]
  have e2 : (h5 ++ ((List.replicate 8 (0 : Int)).map (Value.int .i64) ++ rest)).take 5 = h5 := by rw [← hl, List.take_left]
  have e3 : (h5 ++ ((List.replicate 8 (0 : Int)).map (Value.int .i64) ++ rest)).drop (5 + n) = (List.replicate (8 - n) (0 : Int)).map (Value.int .i64) ++ rest := by
    have : (h5 ++ ((List.replicate 8 (0 : Int)).map (Value.int .i64) ++ rest)).drop (5 + n) = ((List.replicate 8 (0 : Int)).map (Value.int .i64) ++ rest).drop n := by
      rw [← hl, List.drop_length_add_append]
    rw [this, List.drop_append_of_le_length (by simp; omega), ← List.map_drop, List.drop_replicate]
  rw [e2, e3, List.append_assoc]
theorem slice_regs_allF (fb : Nat) (w : World) : (Instr.sliceAt 24 (.pointer (some ⟨fb, 5, none⟩)) none none none).run Try.prog w = .ok (.slice (some ⟨fb, 5, none⟩) 8 8) w := by
  have hal : Try.prog.arrayLen 24 = 8 := by kernel_rfl
  have hel : Try.prog.elem 24 = 2 := by kernel_rfl
  have ht : Try.prog.underlying 24 = some (.array (Try.prog.arrayLen 24) (Try.prog.elem 24)) := by rw [hal, hel]; exact Try.underlying24
  have hsz : ∀ w, (sizeOf 2).run Try.prog w = .ok 1 w := fun _ => by kernel_rfl
  rw [run_sliceAt_array_all w 24 ⟨fb, 5, none⟩ ht, hal, hel, hsz]
  rfl
/-- what New leaves: a frame of its own, whose path's row is its own. -/
def NewP (F : Fr) (w : World) (x : Ending) (w' : World) : Prop :=
  ∃ fb Ap cp, x = .returned (.pointer (some ⟨fb, 0, none⟩)) ∧ w.heap.size ≤ fb ∧ FB fb F (.slice Ap F.path.length cp) w' ∧ Below w.heap.size w w' ∧ F.path.length ≤ cp ∧ (Ap = none → cp = 0) ∧ (F.path = [] ∨ ∃ ad, Ap = some ad ∧ w.heap.size ≤ ad.block ∧ ad.block < fb) ∧ (Kd.int .i64).C w' Ap F.path.length F.path
set_option maxRecDepth 100000 in
set_option maxHeartbeats 8000000 in
theorem New_any (fn : Int) (Ap : Option Addr) (cp : Nat) (path : List Int) (Aa : Option Addr) (ca : Nat) (args : List Int) (h0 h1 h2 h3 : Int) (w : World) (hP : (Kd.int .i64).C w Ap path.length path) (hpc : path.length ≤ cp) (hpn : Ap = none → cp = 0) (hpl : path.length ≤ 1000) (hA : (Kd.int .i64).C w Aa args.length args) (hac : args.length ≤ ca) :
    Calls Try.prog 18 #[.int .i64 fn, .slice Ap path.length cp, .slice Aa args.length ca, .agg #[.int .i64 h0, .int .i64 h1, .int .i64 h2, .int .i64 h3]] w (NewP (newFr fn path args [h0, h1, h2, h3]) w) := by
  obtain ⟨W, hW⟩ : ∃ W, W = w.alloc (.cells #[.int .i64 h0, .int .i64 h1, .int .i64 h2, .int .i64 h3] 25) := ⟨_, rfl⟩
  have hb1 : Below w.heap.size w W := by rw [hW]; exact (Below.refl w.heap.size w).alloc (Nat.le_refl _) _
  have hbx : W.heap[w.heap.size]? = some (.cells #[.int .i64 h0, .int .i64 h1, .int .i64 h2, .int .i64 h3] 25 (0, 0)) := by rw [hW]; exact alloc_blk w _
  have HW := Aside0.mk hW
  have H1 := Aside0.mk (And.intro hb1 hbx)
  have H0 := Aside0.mk (And.intro hP (And.intro hpc (And.intro hpn (And.intro hpl (And.intro hA hac)))))
  clear hW hb1 hbx hP hpc hpn hpl hA hac
  go_enter Try.func18, Try.ntmps18
  go_upto_region 1 with (fail)
  rw [← HW.out]
  refine wp_region_T (fun w' => Below W.heap.size W w') [] (.takes [0, 1, 3] (.op 2 (.takes [4] (.op 5 (.op 6 .done))))) (by kernel_rfl) (by kernel_rfl) (by kernel_rfl) (by kernel_rfl) (panic_via (P := Try.prog) (fn := Try.f18) (R := NewP (newFr fn path args [h0, h1, h2, h3]) w) (fun _ _ _ => rfl)) ?_
  have hs : Below W.heap.size W W.drew := (Below.refl _ _).drew
  simp only [Turns.takes]
  repeat (
    (first
      | (refine runT_take (v := ?_) (by rfl) (by rfl) (fun w' hS => ?_) hs ?_
         rotate_left
         · (have hX := (hS.block _ (blk_lt H1.out.2)).trans H1.out.2; have d0 := blk_cell hX 0; have d1 := blk_cell hX 1; have d2 := blk_cell hX 2; have d3 := blk_cell hX 3; go_simp; exact rfl))
      | refine runT_skip (by rfl) (by rfl) hs ?_)
    (try simp only [Act.put, List.setIfInBounds_toArray, List.set_cons_zero, List.set_cons_succ]))
  refine runT_op (by rfl) (by rfl) (fun K hK => ?_)
  go_simp
  refine (clonei_any Ap cp path _ (Kd.C_below H0.out.1 (H1.out.1.trans (hs.mono H1.out.1.size))) (fun e => by have h1 := H0.out.2.2.1 e; have h2 := H0.out.2.1; exact ⟨h1, List.eq_nil_of_length_eq_zero (by omega)⟩) H0.out.2.2.2.1).mono ?_
  rintro e w1 ⟨v, rfl, hR, hb⟩
  have hs1 := hs.trans (hb.mono hs.size)
  refine hK _ _ hs1 ?_
  obtain ⟨A', c', rfl⟩ := Kd.R_slice hR
  clear hK K
  (try simp only [Act.put, List.setIfInBounds_toArray, List.set_cons_zero, List.set_cons_succ])
  have hs := hs1
  repeat (
    (first
      | (refine runT_take (v := ?_) (by rfl) (by rfl) (fun w' hS => ?_) hs ?_
         rotate_left
         · (skip; go_simp; exact rfl))
      | refine runT_skip (by rfl) (by rfl) hs ?_)
    (try simp only [Act.put, List.setIfInBounds_toArray, List.set_cons_zero, List.set_cons_succ]))
  refine runT_op (by rfl) (by rfl) (fun K hK => ?_)
  go_simp
  obtain ⟨fb, hfb⟩ : ∃ fb, fb = w1.heap.size := ⟨_, rfl⟩
  rw [← hfb]
  obtain ⟨W2, hW2⟩ : ∃ W2, W2 = w1.alloc (.cells #[.int .i64 fn, .int .i64 0, .int .i64 0, .int .i64 0, .slice A' path.length c', .int .i64 0, .int .i64 0, .int .i64 0, .int .i64 0, .int .i64 0, .int .i64 0, .int .i64 0, .int .i64 0, .int .i64 h0, .int .i64 h1, .int .i64 h2, .int .i64 h3] 62) := ⟨_, rfl⟩
  rw [← hW2]
  have hb2 : Below w1.heap.size w1 W2 := by rw [hW2]; exact (Below.refl w1.heap.size w1).alloc (Nat.le_refl _) _
  have hn2 : W2.heap[fb]? = some (.cells (frcells ⟨fn, 0, 0, 0, path, List.replicate 8 0, [h0, h1, h2, h3]⟩ (.slice A' path.length c')).toArray 62 (0, 0)) := by rw [hW2, hfb]; exact alloc_blk w1 _
  have hs2 := hs.trans (hb2.mono hs.size)
  refine hK _ _ hs2 ?_
  have hwt : w.heap.size ≤ fb := by rw [hfb]; exact Nat.le_trans H1.out.1.size hs.size
  have hq := Kd.R_reads' hR
  have hown := R_new hR
  have hlt : ∀ ad, A' = some ad → path ≠ [] → ad.block < w1.heap.size := fun ad e hne => by
    obtain ⟨g, cp', hv, _⟩ := Kd.R_form hR (List.length_pos_iff.2 hne)
    injection hv with hA _ _
    rw [hA] at e; cases e
    rw [hA] at hR
    exact (nums_own hR g rfl).2.2
  have hnil : A' = none → c' = 0 := fun e => by
    subst e
    obtain ⟨_, inner, ⟨h1, h2⟩, h3, h4⟩ := hR
    rcases h2 with h2 | ⟨g, cap, cur, e, _⟩
    · injection h2.1
    · cases e
  have HPP := Aside0.mk (And.intro (Kd.C_below hq.2.2 hb2) (And.intro hq.2.1 (And.intro hnil (show path = [] ∨ ∃ ad, A' = some ad ∧ w.heap.size ≤ ad.block ∧ ad.block < fb from by
    by_cases hpe : path = []
    · exact .inl hpe
    · rcases hown with e | ⟨ad, e1, e2⟩
      · exact absurd e hpe
      · exact .inr ⟨ad, e1, Nat.le_trans H1.out.1.size e2, by have := hlt ad e1 hpe; omega⟩))))
  have HS2 := Aside0.mk hs2
  have H2 := Aside0.mk (And.intro (H1.out.1.trans (hs2.mono H1.out.1.size)) (And.intro hn2 hwt))
  clear hK K hs hs1 hs2 hb hb2 hn2 hwt hW2 hfb hq hown hlt hnil hR
  (try simp only [Act.put, List.setIfInBounds_toArray, List.set_cons_zero, List.set_cons_succ])
  refine runT_op (by rfl) (by rfl) (fun K hK => ?_)
  go_simp
  refine hK _ _ HS2.out ?_
  clear hK K
  refine runT_done ?_
  have hsl := slice_regs_allF fb
  obtain ⟨cs, hcs⟩ : ∃ cs, cs = (args.take 8).map (Value.int .i64) := ⟨_, rfl⟩
  have hcl : cs.length = Nat.min args.length 8 := by rw [hcs, List.length_map, List.length_take]; exact Nat.min_comm _ _
  have HCS := Aside0.mk (And.intro hcs hcl)
  have hs1 : 0 < cs.length → some (⟨fb, 5, none⟩ : Addr) = some ⟨fb, 5, none⟩ ∧ ∃ ad, Aa = some ad ∧ ∀ j v, cs[j]? = some v → W2.cell? (ad.add j) = some v := by
    intro hp
    have hp0 : 0 < args.length := by rw [hcl] at hp; have h9 : Nat.min args.length 8 ≤ args.length := Nat.min_le_left _ _; omega
    obtain ⟨ad, e, h⟩ := args_cellsF (Kd.C_below H0.out.2.2.2.2.1 H2.out.1) hp0
    refine ⟨rfl, ad, e, fun j v hj => h j v ?_⟩
    rw [HCS.out.1, List.map_take] at hj
    by_cases hj8 : j < 8
    · rwa [List.getElem?_take_of_lt hj8] at hj
    · rw [List.getElem?_eq_none (by rw [List.length_take]; omega)] at hj; cases hj
  have hs2 : 5 + cs.length ≤ (frcells ⟨fn, 0, 0, 0, path, List.replicate 8 0, [h0, h1, h2, h3]⟩ (.slice A' path.length c')).length := by
    have h9 : (frcells ⟨fn, 0, 0, 0, path, List.replicate 8 0, [h0, h1, h2, h3]⟩ (.slice A' path.length c')).length = 17 := rfl
    rw [h9, hcl]; have h9 : Nat.min args.length 8 ≤ 8 := Nat.min_le_right _ _; omega
  have hs3 : ∀ v ∈ cs, v.oneCell' = true := by
    intro v hv
    rw [HCS.out.1] at hv
    obtain ⟨x, _, rfl⟩ := List.mem_map.1 hv
    rfl
  have HS := Aside0.mk (And.intro hcl (And.intro hs1 (And.intro hs2 hs3)))
  clear hcs hcl hs1 hs2 hs3
  go_upto_region 3 with (first | (refine wpList_copy_splice rfl (.tmp 19) (.tmp 20) 34 34 rfl 2 Try.underlying34 (by kernel_rfl) (some ⟨fb, 5, none⟩) Aa 8 8 args.length ca rfl rfl fb 5 (frcells ⟨fn, 0, 0, 0, path, List.replicate 8 0, [h0, h1, h2, h3]⟩ (.slice A' path.length c')) 62 H2.out.2.1 cs HS.out.1 HS.out.2.1 HS.out.2.2.1 HS.out.2.2.2 fb W2 ((Below.refl W2.heap.size W2).mono (Nat.le_of_lt (blk_lt H2.out.2.1))) (Nat.le_refl _) ?_; intro W3 hn3 hb3; have H3 := Aside0.mk (And.intro hn3.out hb3); clear hn3 hb3) | fail)
  go_wp2_with fail
  go_ret
  have hn3 := H3.out.1
  rw [HCS.out.1] at hn3
  have e9 : splice (frcells ⟨fn, 0, 0, 0, path, List.replicate 8 0, [h0, h1, h2, h3]⟩ (.slice A' path.length c')) 5 ((args.take 8).map (Value.int .i64)) = frcells (newFr fn path args [h0, h1, h2, h3]) (.slice A' path.length c') := splice_fr _ _ rfl args
  rw [e9] at hn3
  have hPc : (Kd.int .i64).C W3 A' path.length path := by
    rcases HPP.out.2.2.2 with e | ⟨ad, e1, e2, e3⟩
    · subst e; exact ⟨rfl, by simp, fun hp => absurd hp (Nat.lt_irrefl 0)⟩
    · refine C_at (fun h => h) HPP.out.1 (fun ad' e => ?_)
      rw [e1] at e; cases e
      exact H3.out.2.block _ e3
  exact ⟨fb, A', c', rfl, H2.out.2.2, ⟨hn3, newRegsF_len args, rfl⟩, H2.out.1.trans (H3.out.2.mono H2.out.2.2), HPP.out.2.1, HPP.out.2.2.1, HPP.out.2.2.2, hPc⟩
end Go.Proofs.Ytcciejcpijlkfaa.H

set_option linter.unusedVariables false
set_option linter.unusedSimpArgs false
namespace Go.Proofs.Ytcciejcpijlkfaa.H
open Go.RowKit Go.Hay Go.Proofs.YtcciejcpijlkfaaW.PrintWords Go.Proofs.YtcciejcpijlkfaaW.PrintLast Go.Proofs.YtcciejcpijlkfaaW.PrintMore
theorem flatMap_piece {β : Type} {s : Nat} (f : β → List Value) : ∀ (ps : List β) (hf : ∀ p ∈ ps, (f p).length = s) (j : Nat) (h : j < ps.length), ((ps.flatMap f).drop (j * s)).take s = f ps[j]
  | p :: ps, hf, 0, _ => by
    rw [Nat.zero_mul, List.drop_zero, List.flatMap_cons]
    have := hf p (List.mem_cons_self ..)
    rw [← this, List.take_left]
    rfl
  | p :: ps, hf, j + 1, h => by
    have h1 := hf p (List.mem_cons_self ..)
    rw [List.flatMap_cons, show (j + 1) * s = (f p).length + j * s by rw [h1, Nat.succ_mul, Nat.add_comm], List.drop_length_add_append]
    exact flatMap_piece f ps (fun q hq => hf q (List.mem_cons_of_mem _ hq)) j (by simpa using h)
theorem reads_flat {α β : Type} {R : α → List Value → Prop} {s : Nat} {W : World} {b : Nat} {t : TypeId} {fr : Nat × Nat} (g : β → α) (f : β → List Value) (ps : List β) (hf : ∀ p ∈ ps, (f p).length = s) (hR : ∀ p ∈ ps, R (g p) (f p)) (h : W.heap[b]? = some (.cells (ps.flatMap f).toArray t fr)) (hm : ps.length ≤ 9223372036854775807) : ReadsRow R s W (some ⟨b, 0, none⟩) ps.length (ps.map g) := by
  have e : ps.length = (ps.map g).length := (List.length_map ..).symm
  rw [e]
  refine reads_cells h ⟨?_, fun j p hj => ?_⟩ (by rw [← e]; exact hm)
  · have e2 : (ps.flatMap f).length = ps.length * s := by
      clear h hm hR e
      induction ps with
      | nil => simp
      | cons p ps ih => rw [List.flatMap_cons, List.length_append, hf p (List.mem_cons_self ..), ih (fun q hq => hf q (List.mem_cons_of_mem _ hq)), List.length_cons, Nat.succ_mul, Nat.add_comm]
    rw [← e]
    exact e2
  · have hlt : j < ps.length := by have := (List.getElem?_eq_some_iff.1 hj).1; simpa using this
    rw [List.getElem?_map, List.getElem?_eq_getElem hlt] at hj
    have hj : g ps[j] = p := Option.some.inj hj
    show R p (((ps.flatMap f).toArray.toList.drop (j * s)).take s)
    rw [← hj]
    have := flatMap_piece f ps hf j hlt
    rw [show (ps.flatMap f).toArray.toList = ps.flatMap f from rfl, this]
    exact hR _ (List.getElem_mem _)
def icells (x : S65) : List Value := [.int .i64 x.f0, .int .i64 x.f1, .int .i64 x.f2, .int .i64 x.f3, .int .i64 x.f4]
theorem code_C {w : World} {b : Nat} {t : TypeId} {fr : Nat × Nat} (code : List S65) (h : w.heap[b]? = some (.cells (code.flatMap icells).toArray t fr)) (hm : code.length ≤ 9223372036854775807) : k65.C w (some ⟨b, 0, none⟩) code.length code := by
  have := reads_flat (R := k65.K w) (s := 5) id icells code (fun _ _ => rfl) (fun x _ => k65_mk w x) h hm
  rwa [List.map_id] at this
def fcells (p : S68 × Option Addr × Nat) : List Value := [.int .i64 p.1.f0, .slice p.2.1 p.1.f1.length p.2.2]
theorem prog_C {w : World} {b : Nat} {t : TypeId} {fr : Nat × Nat} (ps : List (S68 × Option Addr × Nat)) (h : w.heap[b]? = some (.cells (ps.flatMap fcells).toArray t fr)) (hm : ps.length ≤ 9223372036854775807) (hc : ∀ p ∈ ps, k65.C w p.2.1 p.1.f1.length p.1.f1 ∧ p.1.f1.length ≤ p.2.2) : k68.C w (some ⟨b, 0, none⟩) ps.length (ps.map fun p => p.1) :=
  reads_flat (R := k68.K w) (s := 2) (fun p : S68 × Option Addr × Nat => p.1) fcells ps (fun _ _ => rfl) (fun p hp => k68_mk w p.1 (hc p hp).2 (hc p hp).1) h hm
end Go.Proofs.Ytcciejcpijlkfaa.H

set_option linter.unusedVariables false
set_option linter.unusedSimpArgs false
namespace Go.Proofs.Ytcciejcpijlkfaa.H
open Go.RowKit Go.Hay Go.Proofs.YtcciejcpijlkfaaW.PrintWords Go.Proofs.YtcciejcpijlkfaaW.PrintLast Go.Proofs.YtcciejcpijlkfaaW.PrintMore
structure LF (fb : Nat) (F : Fr) (Ap : Option Addr) (cp : Nat) (w : World) : Prop where
  fr : FB fb F (.slice Ap F.path.length cp) w
  pc : F.path.length ≤ cp
  pn : Ap = none → cp = 0
  pne : F.path = [] ∨ ∃ ad, Ap = some ad ∧ ad.block ≠ fb
  pC : (Kd.int .i64).C w Ap F.path.length F.path
  st : -9223372036854775808 ≤ F.steps
section
variable {fb : Nat} {F : Fr} {Ap : Option Addr} {cp : Nat} {w w1 : World}
theorem LF.keepC (h : LF fb F Ap cp w) (hk : Keep (fun q => q = fb) w w1) : (Kd.int .i64).C w1 Ap F.path.length F.path := by
  rcases h.pne with e | ⟨ad, rfl, hne⟩
  · rw [e]; exact ⟨rfl, by simp, fun hp => absurd hp (Nat.lt_irrefl 0)⟩
  · by_cases he : F.path = []
    · rw [he]; exact ⟨rfl, by simp, fun hp => absurd hp (Nat.lt_irrefl 0)⟩
    · refine C_at (fun h => h) h.pC (fun ad' e => ?_)
      cases e
      obtain ⟨ad', e, hx⟩ := h.pC.2.2 (List.length_pos_iff.2 he)
      cases e
      refine hk.block _ ?_ hne
      obtain ⟨p, hp⟩ : ∃ p, F.path[0]? = some p := ⟨_, List.getElem?_eq_getElem (List.length_pos_iff.2 he)⟩
      obtain ⟨cs, h1, h2, h3⟩ := hx 0 p hp
      have h2 : cs = [.int .i64 p] := h2
      subst h2
      have h4 := World.block_lt_of_cell? _ _ (h3 0 _ rfl)
      rwa [add_block] at h4
theorem LF.below (h : LF fb F Ap cp w) (hb : Below w.heap.size w w1) : LF fb F Ap cp w1 := ⟨h.fr.below hb, h.pc, h.pn, h.pne, Kd.C_below h.pC hb, h.st⟩
theorem LF.next (h : LF fb F Ap cp w) {F1 : Fr} (hF : FB fb F1 (.slice Ap F.path.length cp) w1) (hp : F1.path = F.path) (hst : F.steps ≤ F1.steps) (hk : Keep (fun q => q = fb) w w1) : LF fb F1 Ap cp w1 :=
  ⟨by rw [hp]; exact hF, by rw [hp]; exact h.pc, h.pn, by rw [hp]; exact h.pne, by rw [hp]; exact h.keepC hk, Int.le_trans h.st hst⟩
def ProgK (fb : Nat) (w : World) (A : Option Addr) (l : List S68) : Prop := ∀ w', Keep (fun q => q = fb) w w' → k68.C w' A l.length l
theorem ProgK.next {A : Option Addr} {l : List S68} (h : ProgK fb w A l) (hk : Keep (fun q => q = fb) w w1) : ProgK fb w1 A l := fun w' hk' => h w' (hk.trans hk')
theorem ProgK.old {w0 : World} {A : Option Addr} {l : List S68} (h : k68.C w0 A l.length l) (hb : Below w0.heap.size w0 w) (hf : w0.heap.size ≤ fb) : ProgK fb w A l := fun w' hk => Kd.C_below h (hb.trans (hk.below hb.size (fun q hq e => by omega)))
theorem exec_any {A : Option Addr} {c : Nat} {l : List S68} {b d : Int} (hC : ProgK fb w A l) (hc : l.length ≤ c) (h : LF fb F Ap cp w) :
    Calls Try.prog 11 #[.slice A l.length c, .agg #[.int .i64 b, .int .i64 d], .pointer (some ⟨fb, 0, none⟩)] w fun x w' =>
      ∃ Aa ca Ab cb, x = .returned (.tuple #[efV (execP l b d F).1 Aa ca Ab cb, .int .i64 (execP l b d F).2.1]) ∧ EfC w.heap.size w' (execP l b d F).1 Aa ca Ab cb ∧ LF fb (execP l b d F).2.2 Ap cp w' ∧ Keep (fun q => q = fb) w w' := by
  refine (Exec_any (b := b) (d := d) hC hc (fun w' hk => h.keepC hk) h.pc h.pn h.fr h.st).mono ?_
  rintro e w' ⟨Aa, ca, Ab, cb, rfl, hE, hF, hk⟩
  exact ⟨Aa, ca, Ab, cb, rfl, hE, h.next hF (execP_path l b d F).1 (execP_path l b d F).2 hk, hk⟩
theorem NewP.live {F : Fr} {x : Ending} {w' : World} (hst : -9223372036854775808 ≤ F.steps) (h : NewP F w x w') : ∃ fb Ap cp, x = .returned (.pointer (some ⟨fb, 0, none⟩)) ∧ w.heap.size ≤ fb ∧ LF fb F Ap cp w' ∧ Below w.heap.size w w' := by
  obtain ⟨fb, Ap, cp, e, h1, h2, h3, h4, h5, h6, h7⟩ := h
  exact ⟨fb, Ap, cp, e, h1, ⟨h2, h4, h5, h6.imp id (fun ⟨ad, e1, e2, e3⟩ => ⟨ad, e1, by omega⟩), h7, hst⟩, h3⟩
end
end Go.Proofs.Ytcciejcpijlkfaa.H

set_option linter.unusedVariables false
set_option linter.unusedSimpArgs false
namespace Go.Proofs.Ytcciejcpijlkfaa.H
open Go.RowKit Go.Hay Go.Proofs.YtcciejcpijlkfaaW.PrintWords Go.Proofs.YtcciejcpijlkfaaW.PrintLast Go.Proofs.YtcciejcpijlkfaaW.PrintMore
set_option maxRecDepth 100000 in
theorem peq_some (a : Addr) (w : World) : (binOp .eql 31 (.pointer (some a)) (.pointer none)).run Try.prog w = .ok (.bool false) w := rfl
/-- what stays right between two calls of Exec: the program, the limits' box, the frame. -/
structure Liv (w : World) (fb : Nat) (F : Fr) (Ap : Option Addr) (cp : Nat) (A : Option Addr) (l : List S68) (bl : Nat) (b d : Int) (W : World) : Prop where
  below : Below w.heap.size w W
  pg : ProgK fb W A l
  lim : W.heap[bl]? = some (.cells #[.int .i64 b, .int .i64 d] 43 (0, 0))
  blf : bl ≠ fb
  lo : w.heap.size ≤ fb
  lf : LF fb F Ap cp W
section
variable {w W W1 : World} {fb : Nat} {F F1 : Fr} {Ap : Option Addr} {cp : Nat} {A : Option Addr} {l : List S68} {bl : Nat} {b d : Int}
theorem Liv.next (h : Liv w fb F Ap cp A l bl b d W) (hL : LF fb F1 Ap cp W1) (hk : Keep (fun q => q = fb) W W1) : Liv w fb F1 Ap cp A l bl b d W1 :=
  ⟨h.below.trans (hk.below h.below.size (fun q hq e => by have := h.lo; omega)), h.pg.next hk, hk.blk h.lim h.blf, h.blf, h.lo, hL⟩
theorem Liv.below2 (h : Liv w fb F Ap cp A l bl b d W) (hb : Below W.heap.size W W1) : Liv w fb F Ap cp A l bl b d W1 :=
  h.next (h.lf.below hb) (Keep.of_below hb _)
end
theorem calls_at {P : Program} {f : FuncId} {args : Array Value} {w w1 : World} {Q : Ending → World → Prop} (h : Calls P f args w1 Q) (e : w = w1) : Calls P f args w Q := e ▸ h
def exF : List S68 := [⟨0, [⟨1, 1, 0, 0, 7⟩, ⟨15, 1, 0, 0, 0⟩, ⟨17, 1, 0, 0, 0⟩]⟩]
def exF0 : Fr := newFr 0 [] [] [0, 0, 0, 0]
def exF1 : Fr := ⟨0, 1, 1, 0, [], [0, 7, 0, 0, 0, 0, 0, 0], [0, 0, 0, 0]⟩
def exF2 : Fr := ⟨0, 2, 2, 0, [], [0, 7, 0, 0, 0, 0, 0, 0], [0, 0, 0, 0]⟩
def exF3 : Fr := ⟨0, 3, 3, 0, [], [0, 7, 0, 0, 0, 0, 0, 0], [0, 0, 0, 0]⟩
theorem exF_1 : execP exF 9 0 exF0 = (efGoes, 0, exF1) := by kernel_rfl
theorem exF_2 : execP exF 9 0 exF1 = (⟨2, 7, 0, 0, 0, 0, [], []⟩, 0, exF2) := by kernel_rfl
theorem exF_3 : execP exF 9 0 exF2 = (⟨7, 0, 1, 0, 0, 0, [], []⟩, 0, exF3) := by kernel_rfl
/-- a program of one function, newly written. -/
theorem prog1F (w : World) (f : S68) (hf : f.f1.length ≤ 1000) {W : World} (hW : W = (w.alloc (.cells (f.f1.flatMap icells).toArray 65)).alloc (.cells #[.int .i64 f.f0, .slice (some ⟨w.heap.size, 0, none⟩) f.f1.length f.f1.length] 68)) :
    Below w.heap.size w W ∧ k68.C W (some ⟨w.heap.size + 1, 0, none⟩) 1 [f] ∧ W.heap.size = w.heap.size + 1 + 1 := by
  have e1 : (w.alloc (.cells (f.f1.flatMap icells).toArray 65)).heap.size = w.heap.size + 1 := Array.size_push _
  have e2 : ((w.alloc (.cells (f.f1.flatMap icells).toArray 65)).alloc (.cells #[.int .i64 f.f0, .slice (some ⟨w.heap.size, 0, none⟩) f.f1.length f.f1.length] 68)).heap.size = w.heap.size + 1 + 1 := by rw [← e1]; exact Array.size_push _
  have b1 := (Below.refl w.heap.size w).alloc (Nat.le_refl _) (.cells (f.f1.flatMap icells).toArray 65)
  have b2 := b1.alloc b1.size (.cells #[.int .i64 f.f0, .slice (some ⟨w.heap.size, 0, none⟩) f.f1.length f.f1.length] 68)
  have h1 : W.heap[w.heap.size]? = some (.cells (f.f1.flatMap icells).toArray 65 (0, 0)) := by rw [hW]; exact blk_alloc (alloc_blk w _) _
  have h2 : W.heap[w.heap.size + 1]? = some (.cells (([(f, some ⟨w.heap.size, 0, none⟩, f.f1.length)] : List (S68 × Option Addr × Nat)).flatMap fcells).toArray 68 (0, 0)) := by
    have := alloc_blk (w.alloc (.cells (f.f1.flatMap icells).toArray 65)) (.cells #[.int .i64 f.f0, .slice (some ⟨w.heap.size, 0, none⟩) f.f1.length f.f1.length] 68)
    rw [e1] at this
    rw [hW]; exact this
  refine ⟨by rw [hW]; exact b2, prog_C [(f, some ⟨w.heap.size, 0, none⟩, f.f1.length)] h2 (by simp) (fun p hp => ?_), by rw [hW]; exact e2⟩
  obtain rfl := List.mem_singleton.1 hp
  exact ⟨code_C _ h1 (by show f.f1.length ≤ _; omega), Nat.le_refl _⟩
set_option maxRecDepth 100000 in
set_option maxHeartbeats 8000000 in
theorem awake_any (w : World) : Calls Try.prog 16 #[] w fun e w' => e = .returned (.bool true) ∧ Below w.heap.size w w' := by
  have hpe := peq_some
  obtain ⟨W, hW⟩ : ∃ W, W = (w.alloc (.cells (([⟨1, 1, 0, 0, 7⟩, ⟨15, 1, 0, 0, 0⟩, ⟨17, 1, 0, 0, 0⟩] : List S65).flatMap icells).toArray 65)).alloc (.cells #[.int .i64 0, .slice (some ⟨w.heap.size, 0, none⟩) 3 3] 68) := ⟨_, rfl⟩
  obtain ⟨hb1, hP, hsz⟩ := prog1F w ⟨0, [⟨1, 1, 0, 0, 7⟩, ⟨15, 1, 0, 0, 0⟩, ⟨17, 1, 0, 0, 0⟩]⟩ (by decide) hW
  obtain ⟨bl, hbl⟩ : ∃ bl, bl = W.heap.size := ⟨_, rfl⟩
  obtain ⟨W1, hW1⟩ : ∃ W1, W1 = W.alloc (.cells #[.int .i64 9, .int .i64 0] 43) := ⟨_, rfl⟩
  have hb2 : Below W.heap.size W W1 := by rw [hW1]; exact (Below.refl W.heap.size W).alloc (Nat.le_refl _) _
  have hl1 : W1.heap[bl]? = some (.cells #[.int .i64 9, .int .i64 0] 43 (0, 0)) := by rw [hW1, hbl]; exact alloc_blk W _
  have hb12 := hb1.trans (hb2.mono hb1.size)
  have HW := Aside0.mk (And.intro hW (And.intro hW1 (And.intro hbl hsz)))
  have H1 := Aside0.mk (And.intro hb12 (And.intro (Kd.C_below hP hb2) hl1))
  have hnew := New_any 0 none 0 [] none 0 [] 0 0 0 0 W1 (Kd.C_nil _ _) (Nat.le_refl _) (fun _ => rfl) (by simp) (Kd.C_nil _ _) (Nat.le_refl _)
  have HN := Aside0.mk hnew
  clear hW hb1 hP hW1 hbl hb2 hl1 hb12 hsz hnew
  go_enter Try.func16, Try.ntmps16
  go_wp2_with fail
  refine (calls_at HN.out (by rw [HW.out.2.1, HW.out.1]; rfl)).mono ?_
  intro e W2 hp
  obtain ⟨fb, Ap, cp, rfl, hfb, hL, hb3⟩ := hp.live (by decide)
  have HL := Aside0.mk hL
  have HB := Aside0.mk (H1.out.1.trans (hb3.mono H1.out.1.size))
  have hK : ProgK fb W2 (some ⟨w.heap.size + 1, 0, none⟩) exF := ProgK.old H1.out.2.1 hb3 hfb
  have hbx := (hb3.block _ (blk_lt H1.out.2.2)).trans H1.out.2.2
  have hblf : bl ≠ fb := by have := blk_lt H1.out.2.2; omega
  have HV := Aside0.mk (show Liv w fb exF0 Ap cp (some ⟨w.heap.size + 1, 0, none⟩) exF bl 9 0 W2 from ⟨HB.out, hK, hbx, hblf, Nat.le_trans H1.out.1.size hfb, hL⟩)
  have hblw : bl = w.heap.size + 1 + 1 := HW.out.2.2.1.trans HW.out.2.2.2
  subst hblw
  clear hp hL hfb hb3 hK hblf HN
  have y0 := blk_cell hbx 0
  have y1 := blk_cell hbx 1
  clear hbx
  go_wp2_with fail
  refine (exec_any (b := 9) (d := 0) HV.out.pg (Nat.le_refl _) HV.out.lf).mono ?_
  rw [exF_1]
  rintro e w3 ⟨Aa, ca, Ab, cb, rfl, hE, hL, hk⟩
  have HV := Aside0.mk (HV.out.next hL hk)
  have HKK := Aside0.mk hk
  unfold efV
  dsimp only [efGoes, List.length_nil]
  obtain ⟨b1, hbb⟩ : ∃ b1, b1 = w3.heap.size := ⟨_, rfl⟩
  obtain ⟨W4, hW4⟩ : ∃ W4, W4 = w3.alloc (.cells #[.int .i64 1, .int .i64 0, .int .i64 0, .int .i64 0, .int .i64 0, .int .i64 0, .slice Aa 0 ca, .slice Ab 0 cb] 36) := ⟨_, rfl⟩
  have hb4 : Below w3.heap.size w3 W4 := by rw [hW4]; exact (Below.refl w3.heap.size w3).alloc (Nat.le_refl _) _
  have hx4 : W4.heap[b1]? = some (.cells #[.int .i64 1, .int .i64 0, .int .i64 0, .int .i64 0, .int .i64 0, .int .i64 0, .slice Aa 0 ca, .slice Ab 0 cb] 36 (0, 0)) := by rw [hW4, hbb]; exact alloc_blk w3 _
  have HW4 := Aside0.mk (And.intro hW4 hbb)
  have HX1 := Aside0.mk (And.intro hx4 (show b1 ≠ fb by have := HV.out.lf.fr.lt; omega))
  have HB4 := Aside0.mk hb4
  have HV := Aside0.mk (HV.out.below2 hb4)
  clear y0 y1 hE hL hk hW4 hbb hb4 hx4
  go_upto_region 7 with (fail)
  rw [← HW4.out.1, ← HW4.out.2]
  have y0 := blk_cell HV.out.lim 0
  have y1 := blk_cell HV.out.lim 1
  go_wp2_with fail
  refine (exec_any (b := 9) (d := 0) HV.out.pg (Nat.le_refl _) HV.out.lf).mono ?_
  rw [exF_2]
  rintro e w3 ⟨Aa, ca, Ab, cb, rfl, hE, hL, hk⟩
  have HV := Aside0.mk (HV.out.next hL hk)
  have HKK := Aside0.mk hk
  unfold efV
  dsimp only [efGoes, List.length_nil]
  obtain ⟨b2, hbb⟩ : ∃ b2, b2 = w3.heap.size := ⟨_, rfl⟩
  obtain ⟨W4, hW4⟩ : ∃ W4, W4 = w3.alloc (.cells #[.int .i64 2, .int .i64 7, .int .i64 0, .int .i64 0, .int .i64 0, .int .i64 0, .slice Aa 0 ca, .slice Ab 0 cb] 36) := ⟨_, rfl⟩
  have hb4 : Below w3.heap.size w3 W4 := by rw [hW4]; exact (Below.refl w3.heap.size w3).alloc (Nat.le_refl _) _
  have hx4 : W4.heap[b2]? = some (.cells #[.int .i64 2, .int .i64 7, .int .i64 0, .int .i64 0, .int .i64 0, .int .i64 0, .slice Aa 0 ca, .slice Ab 0 cb] 36 (0, 0)) := by rw [hW4, hbb]; exact alloc_blk w3 _
  have HW4 := Aside0.mk (And.intro hW4 hbb)
  have HX2 := Aside0.mk (And.intro hx4 (show b2 ≠ fb by have := HV.out.lf.fr.lt; omega))
  have HB4 := Aside0.mk hb4
  have HV := Aside0.mk (HV.out.below2 hb4)
  clear y0 y1 hE hL hk hW4 hbb hb4 hx4
  go_upto_region 8 with (fail)
  rw [← HW4.out.1, ← HW4.out.2]
  have HX1 := Aside0.mk (And.intro ((HB4.out.block _ (Nat.lt_of_lt_of_le (blk_lt HX1.out.1) HKK.out.size)).trans (HKK.out.blk HX1.out.1 HX1.out.2)) HX1.out.2)
  have y0 := blk_cell HV.out.lim 0
  have y1 := blk_cell HV.out.lim 1
  go_wp2_with fail
  refine (exec_any (b := 9) (d := 0) HV.out.pg (Nat.le_refl _) HV.out.lf).mono ?_
  rw [exF_3]
  rintro e w3 ⟨Aa, ca, Ab, cb, rfl, hE, hL, hk⟩
  have HV := Aside0.mk (HV.out.next hL hk)
  have HKK := Aside0.mk hk
  unfold efV
  dsimp only [efGoes, List.length_nil]
  obtain ⟨b3, hbb⟩ : ∃ b3, b3 = w3.heap.size := ⟨_, rfl⟩
  obtain ⟨W4, hW4⟩ : ∃ W4, W4 = w3.alloc (.cells #[.int .i64 7, .int .i64 0, .int .i64 1, .int .i64 0, .int .i64 0, .int .i64 0, .slice Aa 0 ca, .slice Ab 0 cb] 36) := ⟨_, rfl⟩
  have hb4 : Below w3.heap.size w3 W4 := by rw [hW4]; exact (Below.refl w3.heap.size w3).alloc (Nat.le_refl _) _
  have hx4 : W4.heap[b3]? = some (.cells #[.int .i64 7, .int .i64 0, .int .i64 1, .int .i64 0, .int .i64 0, .int .i64 0, .slice Aa 0 ca, .slice Ab 0 cb] 36 (0, 0)) := by rw [hW4, hbb]; exact alloc_blk w3 _
  have HW4 := Aside0.mk (And.intro hW4 hbb)
  have HX3 := Aside0.mk (And.intro hx4 (show b3 ≠ fb by have := HV.out.lf.fr.lt; omega))
  have HB4 := Aside0.mk hb4
  have HV := Aside0.mk (HV.out.below2 hb4)
  clear y0 y1 hE hL hk hW4 hbb hb4 hx4
  go_upto_region 9 with (fail)
  rw [← HW4.out.1, ← HW4.out.2]
  have HX1 := Aside0.mk ((HB4.out.block _ (Nat.lt_of_lt_of_le (blk_lt HX1.out.1) HKK.out.size)).trans (HKK.out.blk HX1.out.1 HX1.out.2))
  have HX2 := Aside0.mk ((HB4.out.block _ (Nat.lt_of_lt_of_le (blk_lt HX2.out.1) HKK.out.size)).trans (HKK.out.blk HX2.out.1 HX2.out.2))
  have p0 := blk_cell HX1.out 0
  have q0 := blk_cell HX2.out 0
  have q1 := blk_cell HX2.out 1
  have r0 := blk_cell HX3.out.1 0
  have r2 := blk_cell HX3.out.1 2
  have t2 : W4.cell? ⟨fb, 2, none⟩ = some (.int .i64 3) := HV.out.lf.fr.fix.2.2.1
  go_wp2_with fail
  go_ret
  exact ⟨rfl, HV.out.below⟩
end Go.Proofs.Ytcciejcpijlkfaa.H

-- made by this session's gen.py over the kit's print.py; not trusted: Lean checks it
namespace Go.Proofs.Ytcciejcpijlkfaa.H
open Go.RowKit Go.Proofs.YtcciejcpijlkfaaW.PrintWords Go.Proofs.YtcciejcpijlkfaaW.PrintLast Go.Proofs.YtcciejcpijlkfaaW.PrintMore
attribute [local go_sem] max2_int min2_int max_two min_two max_three min_three max_four min_four   -- for this text's walks alone
set_option linter.unusedVariables false
set_option linter.unusedSimpArgs false

/-! ### haymowref05_Compare: function 24 -/
mutual
def haymowref05_Compare.l0 : Nat → List Int → List Int → Int → Option (Int)
  | 0, _, _, _ => none
  | k + 1, x0, x1, x5 => if x5 < (x0.length : Int) then (haymowref05_Compare.j1 k x0 x1 x5 (decide (x5 < (x1.length : Int)))) else (haymowref05_Compare.j1 k x0 x1 x5 false)
def haymowref05_Compare.j1 : Nat → List Int → List Int → Int → Bool → Option (Int)
  | 0, _, _, _, _ => none
  | k + 1, x0, x1, x5, x15 => if x15 = true then (if 0 ≤ x5 then (if x5 < (x0.length : Int) then (if x5 < (x1.length : Int) then (if (rd x0 x5) < (rd x1 x5) then (some (-1)) else (if (rd x0 x5) > (rd x1 x5) then (some 1) else (haymowref05_Compare.l0 k x0 x1 (wrap64 (x5 + 1))))) else (none)) else (none)) else (none)) else (if (x0.length : Int) < (x1.length : Int) then (some (-1)) else (if (x0.length : Int) > (x1.length : Int) then (some 1) else (some 0)))
end
def haymowref05_Compare.f (k : Nat) (l0 : List Int) (l1 : List Int) : Option (Int) := haymowref05_Compare.l0 k l0 l1 0
theorem haymowref05_Compare.mono_l : ∀ k, (∀ y0 y1 y2, LeO (haymowref05_Compare.l0 k y0 y1 y2) (haymowref05_Compare.l0 (k + 1) y0 y1 y2)) ∧ (∀ y0 y1 y2 y3, LeO (haymowref05_Compare.j1 k y0 y1 y2 y3) (haymowref05_Compare.j1 (k + 1) y0 y1 y2 y3))
  | 0 => ⟨fun _ _ _ r h => by simp [haymowref05_Compare.l0] at h, fun _ _ _ _ r h => by simp [haymowref05_Compare.j1] at h⟩
  | k + 1 => by
    obtain ⟨ih0, ih1⟩ := haymowref05_Compare.mono_l k
    refine ⟨?_, ?_⟩
    · intro y0 y1 y2
      unfold haymowref05_Compare.l0
      repeat' first
      | (with_reducible exact ih0 _ _ _)
      | (with_reducible exact ih1 _ _ _ _)
      | (with_reducible exact LeO.refl _)
      | (with_reducible exact LeO.none _)
      | (with_reducible refine LeO.ite ?_ ?_)
      | (with_reducible refine LeO.bind ?_ (fun _ => ?_))
      | exact ih0 _ _ _
      | exact ih1 _ _ _ _
      | exact LeO.none _
      | refine LeO.ite ?_ ?_
      | refine LeO.bind ?_ (fun _ => ?_)
    · intro y0 y1 y2 y3
      unfold haymowref05_Compare.j1
      repeat' first
      | (with_reducible exact ih0 _ _ _)
      | (with_reducible exact ih1 _ _ _ _)
      | (with_reducible exact LeO.refl _)
      | (with_reducible exact LeO.none _)
      | (with_reducible refine LeO.ite ?_ ?_)
      | (with_reducible refine LeO.bind ?_ (fun _ => ?_))
      | exact ih0 _ _ _
      | exact ih1 _ _ _ _
      | exact LeO.none _
      | refine LeO.ite ?_ ?_
      | refine LeO.bind ?_ (fun _ => ?_)
theorem haymowref05_Compare.mono : ∀ a0 a1 k, LeO (haymowref05_Compare.f k a0 a1) (haymowref05_Compare.f (k + 1) a0 a1) := by
  intro a0 a1 k
  obtain ⟨ih0, ih1⟩ := haymowref05_Compare.mono_l k
  unfold haymowref05_Compare.f
  repeat' first
      | (with_reducible exact ih0 _ _ _)
      | (with_reducible exact ih1 _ _ _ _)
      | (with_reducible exact LeO.refl _)
      | (with_reducible exact LeO.none _)
      | (with_reducible refine LeO.ite ?_ ?_)
      | (with_reducible refine LeO.bind ?_ (fun _ => ?_))
      | exact ih0 _ _ _
      | exact ih1 _ _ _ _
      | exact LeO.none _
      | refine LeO.ite ?_ ?_
      | refine LeO.bind ?_ (fun _ => ?_)
set_option maxHeartbeats 8000000 in
set_option maxRecDepth 100000 in
theorem haymowref05_Compare.calls (k : Nat) (A0 : Option Addr) (c0 : Nat) (l0 : List Int) (A1 : Option Addr) (c1 : Nat) (l1 : List Int) (r : Int) (w : World) (hr0 : Kd.C (Kd.int .i64) w A0 l0.length l0) (hc0 : l0.length ≤ c0) (hr1 : Kd.C (Kd.int .i64) w A1 l1.length l1) (hc1 : l1.length ≤ c1) (h : haymowref05_Compare.f k l0 l1 = some r) :
    Calls Try.prog 24 #[.slice A0 l0.length c0, .slice A1 l1.length c1] w fun e w' => e = .returned (.int .i64 r) ∧ Drawn0 w w' := by
  have HR0 := Aside0.mk hr0
  have HC0 := Aside0.mk hc0
  clear hr0 hc0
  have HR1 := Aside0.mk hr1
  have HC1 := Aside0.mk hc1
  clear hr1 hc1
  have H : (haymowref05_Compare.l0 k l0 l1 0) = some r := h
  clear h
  have H' := Aside0.mk H
  clear H
  go_enter Try.func24, Try.ntmps24
  go_wp2
  repeat (go_quiet (fail); try go_wp2)
  go_loopg [5] k (fun kq v5 w' => ∃ (x5_1 : Int), v5 = .int .i64 x5_1 ∧ Aside0 (haymowref05_Compare.l0 kq l0 l1 x5_1 = some r) ∧ Aside0 (kq ≤ k) ∧ Drawn0 w w')
  case atStart => exact ⟨(0), (by first | rfl | (simp; done) | (simp [*]; done)), H', ⟨Nat.le_refl _⟩, by repeat (first | exact Drawn0.refl _ | apply Drawn0.step)⟩
  case round =>
    clear H'
    try clear c1
    try clear c2
    try clear p2
    obtain ⟨x5_1, rfl, HA, HK1, ⟨m1, rfl⟩⟩ := hrel
    cases gk with
    | zero => exact absurd HA.out (by simp [haymowref05_Compare.l0])
    | succ k1 =>
      have H := HA.out
      clear HA
      simp only [haymowref05_Compare.l0] at H
      have HC3 := Aside0.mk H
      clear H
      go_upto_region 2 with (fail)
      repeat (go_quiet (fail); go_upto_region 2 with (fail))
      go_cut [15] (fun v15 wc => ∃ (kq : Nat) (x15_2 : Bool), v15 = .bool x15_2 ∧ Aside0 (haymowref05_Compare.j1 kq l0 l1 x5_1 x15_2 = some r) ∧ Aside0 (kq ≤ k1) ∧ Drawn0 w wc)
      case first =>
        have H := HC3.out
        clear HC3
        by_cases c4 : x5_1 < (l0.length : Int)
        · rw [if_pos c4] at H
          have c4b0 : decide (x5_1 < (l0.length : Int)) = true := decide_eq_true c4
          clear c4
          (first | rw [c4b0] | (simp only [i64_w, i32_w]; rw [c4b0]) | skip)
          have H' := Aside0.mk H
          clear H
          go_wp2
          repeat (go_quiet (fail); try go_wp2)
          go_meet
          case rel => exact ⟨_, (decide (x5_1 < (l1.length : Int))), (by first | rfl | (simp; done) | (simp [*]; done)), H', ⟨by have := HK1.out; first | omega | exact Nat.le_refl _⟩, by repeat (first | exact Drawn0.refl _ | apply Drawn0.step)⟩
        · rw [if_neg c4] at H
          have c4b0 : decide (x5_1 < (l0.length : Int)) = false := decide_eq_false c4
          clear c4
          (first | rw [c4b0] | (simp only [i64_w, i32_w]; rw [c4b0]) | skip)
          have H' := Aside0.mk H
          clear H
          go_wp2
          repeat (go_quiet (fail); try go_wp2)
          go_meet
          case rel => exact ⟨_, (false), (by first | rfl | (simp; done) | (simp [*]; done)), H', ⟨by have := HK1.out; first | omega | exact Nat.le_refl _⟩, by repeat (first | exact Drawn0.refl _ | apply Drawn0.step)⟩
      case rest =>
        clear HC3
        try clear c1
        try clear c2
        try clear p2
        try clear c4
        try clear c4b0
        try clear p2
        obtain ⟨kq, x15_2, rfl, HA, HJ2, ⟨mc2, rfl⟩⟩ := hcut
        cases kq with
        | zero => exact absurd HA.out (by simp [haymowref05_Compare.j1])
        | succ kj2 =>
          have H := HA.out
          clear HA
          simp only [haymowref05_Compare.j1] at H
          by_cases c5 : x15_2 = true
          · subst c5
            have H1 : (if 0 ≤ x5_1 then (if x5_1 < (l0.length : Int) then (if x5_1 < (l1.length : Int) then (if (rd l0 x5_1) < (rd l1 x5_1) then (some (-1)) else (if (rd l0 x5_1) > (rd l1 x5_1) then (some 1) else (haymowref05_Compare.l0 kj2 l0 l1 (wrap64 (x5_1 + 1))))) else (none)) else (none)) else (none)) = some r := by rw [if_pos rfl] at H; exact H
            clear H
            have H := H1
            clear H1
            by_cases c6 : 0 ≤ x5_1
            · rw [if_pos c6] at H
              have c6b0 : decide (0 ≤ x5_1) = true := decide_eq_true c6
              clear c6
              by_cases c7 : x5_1 < (l0.length : Int)
              · rw [if_pos c7] at H
                have c7b0 : decide (x5_1 < (l0.length : Int)) = true := decide_eq_true c7
                clear c7
                by_cases c8 : x5_1 < (l1.length : Int)
                · rw [if_pos c8] at H
                  have c8b0 : decide (x5_1 < (l1.length : Int)) = true := decide_eq_true c8
                  clear c8
                  by_cases c9 : (rd l0 x5_1) < (rd l1 x5_1)
                  · rw [if_pos c9] at H
                    have c9b0 : decide ((rd l0 x5_1) < (rd l1 x5_1)) = true := decide_eq_true c9
                    clear c9
                    obtain rfl := Option.some.inj H
                    have p187 : 0 ≤ (x5_1 : Int) := of_decide_eq_true (by first | (with_reducible assumption) | assumption)
                    have q187 : x5_1 < (l0.length : Int) := of_decide_eq_true (by first | (with_reducible assumption) | assumption)
                    obtain ⟨ad187, e187, hx187_0⟩ := Kd.at_int HR0.out x5_1 p187 q187
                    cases e187
                    replace p187 := eq_true p187
                    replace q187 := eq_true q187
                    have p188 : 0 ≤ (x5_1 : Int) := of_decide_eq_true (by first | (with_reducible assumption) | assumption)
                    have q188 : x5_1 < (l1.length : Int) := of_decide_eq_true (by first | (with_reducible assumption) | assumption)
                    obtain ⟨ad188, e188, hx188_0⟩ := Kd.at_int HR1.out x5_1 p188 q188
                    cases e188
                    replace p188 := eq_true p188
                    replace q188 := eq_true q188
                    go_wp2
                    repeat (go_quiet (fail); try go_wp2)
                    go_ret
                    exact ⟨by first | rfl | (simp; done) | (simp [*]; done), by repeat (first | exact Drawn0.refl _ | apply Drawn0.step)⟩
                  · rw [if_neg c9] at H
                    have c9b0 : decide ((rd l0 x5_1) < (rd l1 x5_1)) = false := decide_eq_false c9
                    clear c9
                    by_cases c10 : (rd l0 x5_1) > (rd l1 x5_1)
                    · rw [if_pos c10] at H
                      have c10b0 : decide ((rd l1 x5_1) < (rd l0 x5_1)) = true := decide_eq_true c10
                      clear c10
                      obtain rfl := Option.some.inj H
                      have p187 : 0 ≤ (x5_1 : Int) := of_decide_eq_true (by first | (with_reducible assumption) | assumption)
                      have q187 : x5_1 < (l0.length : Int) := of_decide_eq_true (by first | (with_reducible assumption) | assumption)
                      obtain ⟨ad187, e187, hx187_0⟩ := Kd.at_int HR0.out x5_1 p187 q187
                      cases e187
                      replace p187 := eq_true p187
                      replace q187 := eq_true q187
                      have p188 : 0 ≤ (x5_1 : Int) := of_decide_eq_true (by first | (with_reducible assumption) | assumption)
                      have q188 : x5_1 < (l1.length : Int) := of_decide_eq_true (by first | (with_reducible assumption) | assumption)
                      obtain ⟨ad188, e188, hx188_0⟩ := Kd.at_int HR1.out x5_1 p188 q188
                      cases e188
                      replace p188 := eq_true p188
                      replace q188 := eq_true q188
                      have p189 : 0 ≤ (x5_1 : Int) := of_decide_eq_true (by first | (with_reducible assumption) | assumption)
                      have q189 : x5_1 < (l0.length : Int) := of_decide_eq_true (by first | (with_reducible assumption) | assumption)
                      obtain ⟨ad189, e189, hx189_0⟩ := Kd.at_int HR0.out x5_1 p189 q189
                      obtain rfl : ad187 = ad189 := (by injection e189)
                      replace p189 := eq_true p189
                      replace q189 := eq_true q189
                      have p190 : 0 ≤ (x5_1 : Int) := of_decide_eq_true (by first | (with_reducible assumption) | assumption)
                      have q190 : x5_1 < (l1.length : Int) := of_decide_eq_true (by first | (with_reducible assumption) | assumption)
                      obtain ⟨ad190, e190, hx190_0⟩ := Kd.at_int HR1.out x5_1 p190 q190
                      obtain rfl : ad188 = ad190 := (by injection e190)
                      replace p190 := eq_true p190
                      replace q190 := eq_true q190
                      go_wp2
                      repeat (go_quiet (fail); try go_wp2)
                      go_ret
                      exact ⟨by first | rfl | (simp; done) | (simp [*]; done), by repeat (first | exact Drawn0.refl _ | apply Drawn0.step)⟩
                    · rw [if_neg c10] at H
                      have c10b0 : decide ((rd l1 x5_1) < (rd l0 x5_1)) = false := decide_eq_false c10
                      clear c10
                      have H' := Aside0.mk H
                      clear H
                      have p187 : 0 ≤ (x5_1 : Int) := of_decide_eq_true (by first | (with_reducible assumption) | assumption)
                      have q187 : x5_1 < (l0.length : Int) := of_decide_eq_true (by first | (with_reducible assumption) | assumption)
                      obtain ⟨ad187, e187, hx187_0⟩ := Kd.at_int HR0.out x5_1 p187 q187
                      cases e187
                      replace p187 := eq_true p187
                      replace q187 := eq_true q187
                      have p188 : 0 ≤ (x5_1 : Int) := of_decide_eq_true (by first | (with_reducible assumption) | assumption)
                      have q188 : x5_1 < (l1.length : Int) := of_decide_eq_true (by first | (with_reducible assumption) | assumption)
                      obtain ⟨ad188, e188, hx188_0⟩ := Kd.at_int HR1.out x5_1 p188 q188
                      cases e188
                      replace p188 := eq_true p188
                      replace q188 := eq_true q188
                      have p189 : 0 ≤ (x5_1 : Int) := of_decide_eq_true (by first | (with_reducible assumption) | assumption)
                      have q189 : x5_1 < (l0.length : Int) := of_decide_eq_true (by first | (with_reducible assumption) | assumption)
                      obtain ⟨ad189, e189, hx189_0⟩ := Kd.at_int HR0.out x5_1 p189 q189
                      obtain rfl : ad187 = ad189 := (by injection e189)
                      replace p189 := eq_true p189
                      replace q189 := eq_true q189
                      have p190 : 0 ≤ (x5_1 : Int) := of_decide_eq_true (by first | (with_reducible assumption) | assumption)
                      have q190 : x5_1 < (l1.length : Int) := of_decide_eq_true (by first | (with_reducible assumption) | assumption)
                      obtain ⟨ad190, e190, hx190_0⟩ := Kd.at_int HR1.out x5_1 p190 q190
                      obtain rfl : ad188 = ad190 := (by injection e190)
                      replace p190 := eq_true p190
                      replace q190 := eq_true q190
                      go_wp2
                      repeat (go_quiet (fail); try go_wp2)
                      go_roundg kj2
                      case measure => have := HK1.out; have := HJ2.out; omega
                      case rel => exact ⟨(wrap64 (x5_1 + 1)), (by first | rfl | (simp; done) | (simp [*]; done)), H', ⟨by have := HK1.out; have := HJ2.out; omega⟩, by repeat (first | exact Drawn0.refl _ | apply Drawn0.step)⟩
                · rw [if_neg c8] at H
                  exact absurd H (by simp)
              · rw [if_neg c7] at H
                exact absurd H (by simp)
            · rw [if_neg c6] at H
              exact absurd H (by simp)
          · replace c5 := Bool.eq_false_iff.mpr c5
            subst c5
            have H1 : (if (l0.length : Int) < (l1.length : Int) then (some (-1)) else (if (l0.length : Int) > (l1.length : Int) then (some 1) else (some 0))) = some r := by rw [if_neg (show ¬ (false = true) by decide)] at H; exact H
            clear H
            have H := H1
            clear H1
            by_cases c11 : (l0.length : Int) < (l1.length : Int)
            · rw [if_pos c11] at H
              have c11b0 : decide ((l0.length : Int) < (l1.length : Int)) = true := decide_eq_true c11
              have c11b1 : decide (l0.length < l1.length) = true := decide_eq_true (Int.ofNat_lt.mp c11)
              clear c11
              obtain rfl := Option.some.inj H
              go_wp2
              repeat (go_quiet (fail); try go_wp2)
              go_ret
              exact ⟨by first | rfl | (simp; done) | (simp [*]; done), by repeat (first | exact Drawn0.refl _ | apply Drawn0.step)⟩
            · rw [if_neg c11] at H
              have c11b0 : decide ((l0.length : Int) < (l1.length : Int)) = false := decide_eq_false c11
              have c11b1 : decide (l0.length < l1.length) = false := decide_eq_false (fun h => c11 (Int.ofNat_lt.mpr h))
              clear c11
              by_cases c12 : (l0.length : Int) > (l1.length : Int)
              · rw [if_pos c12] at H
                have c12b0 : decide ((l1.length : Int) < (l0.length : Int)) = true := decide_eq_true c12
                have c12b1 : decide (l1.length < l0.length) = true := decide_eq_true (Int.ofNat_lt.mp c12)
                clear c12
                obtain rfl := Option.some.inj H
                go_wp2
                repeat (go_quiet (fail); try go_wp2)
                go_ret
                exact ⟨by first | rfl | (simp; done) | (simp [*]; done), by repeat (first | exact Drawn0.refl _ | apply Drawn0.step)⟩
              · rw [if_neg c12] at H
                have c12b0 : decide ((l1.length : Int) < (l0.length : Int)) = false := decide_eq_false c12
                have c12b1 : decide (l1.length < l0.length) = false := decide_eq_false (fun h => c12 (Int.ofNat_lt.mpr h))
                clear c12
                obtain rfl := Option.some.inj H
                go_wp2
                repeat (go_quiet (fail); try go_wp2)
                go_ret
                exact ⟨by first | rfl | (simp; done) | (simp [*]; done), by repeat (first | exact Drawn0.refl _ | apply Drawn0.step)⟩

end Go.Proofs.Ytcciejcpijlkfaa.H

-- made by this session's gen.py over the kit's print.py; not trusted: Lean checks it
namespace Go.Proofs.Ytcciejcpijlkfaa.H
open Go.RowKit Go.Proofs.YtcciejcpijlkfaaW.PrintWords Go.Proofs.YtcciejcpijlkfaaW.PrintLast Go.Proofs.YtcciejcpijlkfaaW.PrintMore
attribute [local go_sem] max2_int min2_int max_two min_two max_three min_three max_four min_four   -- for this text's walks alone
set_option linter.unusedVariables false
set_option linter.unusedSimpArgs false

/-! ### haymowlaw12_light: function 9 -/
def haymowlaw12_light.l0 : Nat → List (S52) → Int → Option (Bool)
  | 0, _, _ => none
  | k + 1, x0, x3 => if x3 < (x0.length : Int) then (if 0 ≤ x3 then (if (((rd_T52 x0 x3).f1).length : Int) > 70 then (some false) else (haymowlaw12_light.l0 k x0 (wrap64 (x3 + 1)))) else (none)) else (some true)
def haymowlaw12_light.f (k : Nat) (l0 : List (S52)) : Option (Bool) := if (l0.length : Int) > 20 then (some false) else (haymowlaw12_light.l0 k l0 0)
theorem haymowlaw12_light.mono_l : ∀ k, (∀ y0 y1, LeO (haymowlaw12_light.l0 k y0 y1) (haymowlaw12_light.l0 (k + 1) y0 y1))
  | 0 => fun _ _ r h => by simp [haymowlaw12_light.l0] at h
  | k + 1 => by
    have ih0 := haymowlaw12_light.mono_l k
    · intro y0 y1
      unfold haymowlaw12_light.l0
      repeat' first
      | (with_reducible exact ih0 _ _)
      | (with_reducible exact LeO.refl _)
      | (with_reducible exact LeO.none _)
      | (with_reducible refine LeO.ite ?_ ?_)
      | (with_reducible refine LeO.bind ?_ (fun _ => ?_))
      | exact ih0 _ _
      | exact LeO.none _
      | refine LeO.ite ?_ ?_
      | refine LeO.bind ?_ (fun _ => ?_)
theorem haymowlaw12_light.mono : ∀ a0 k, LeO (haymowlaw12_light.f k a0) (haymowlaw12_light.f (k + 1) a0) := by
  intro a0 k
  have ih0 := haymowlaw12_light.mono_l k
  unfold haymowlaw12_light.f
  repeat' first
      | (with_reducible exact ih0 _ _)
      | (with_reducible exact LeO.refl _)
      | (with_reducible exact LeO.none _)
      | (with_reducible refine LeO.ite ?_ ?_)
      | (with_reducible refine LeO.bind ?_ (fun _ => ?_))
      | exact ih0 _ _
      | exact LeO.none _
      | refine LeO.ite ?_ ?_
      | refine LeO.bind ?_ (fun _ => ?_)
set_option maxHeartbeats 8000000 in
set_option maxRecDepth 100000 in
theorem haymowlaw12_light.calls (k : Nat) (A0 : Option Addr) (c0 : Nat) (l0 : List (S52)) (r : Bool) (w : World) (hr0 : Kd.C k52 w A0 l0.length l0) (hc0 : l0.length ≤ c0) (h : haymowlaw12_light.f k l0 = some r) :
    Calls Try.prog 9 #[.slice A0 l0.length c0] w fun e w' => e = .returned (.bool r) ∧ Drawn0 w w' := by
  have HR0 := Aside0.mk hr0
  have HC0 := Aside0.mk hc0
  clear hr0 hc0
  have H : (if (l0.length : Int) > 20 then (some false) else (haymowlaw12_light.l0 k l0 0)) = some r := h
  clear h
  by_cases c2 : (l0.length : Int) > 20
  · rw [if_pos c2] at H
    have c2b0 : decide (20 < (l0.length : Int)) = true := decide_eq_true c2
    have c2b1 : decide (20 < l0.length) = true := decide_eq_true (by omega)
    clear c2
    obtain rfl := Option.some.inj H
    go_enter Try.func9, Try.ntmps9
    go_wp2
    go_ret
    exact ⟨by first | rfl | (simp; done) | (simp [*]; done), by repeat (first | exact Drawn0.refl _ | apply Drawn0.step)⟩
  · rw [if_neg c2] at H
    have c2b0 : decide (20 < (l0.length : Int)) = false := decide_eq_false c2
    have c2b1 : decide (20 < l0.length) = false := decide_eq_false (by omega)
    clear c2
    have H' := Aside0.mk H
    clear H
    go_enter Try.func9, Try.ntmps9
    go_wp2
    go_loopg [3] k (fun kq v3 w' => ∃ (x3_1 : Int), v3 = .int .i64 x3_1 ∧ Aside0 (haymowlaw12_light.l0 kq l0 x3_1 = some r) ∧ Aside0 (kq ≤ k) ∧ Drawn0 w w')
    case atStart => exact ⟨(0), (by first | rfl | (simp; done) | (simp [*]; done)), H', ⟨Nat.le_refl _⟩, by repeat (first | exact Drawn0.refl _ | apply Drawn0.step)⟩
    case round =>
      clear H'
      try clear c2
      try clear c2b0
      try clear c2b1
      try clear p2
      obtain ⟨x3_1, rfl, HA, HK1, ⟨m1, rfl⟩⟩ := hrel
      cases gk with
      | zero => exact absurd HA.out (by simp [haymowlaw12_light.l0])
      | succ k1 =>
        have H := HA.out
        clear HA
        simp only [haymowlaw12_light.l0] at H
        by_cases c3 : x3_1 < (l0.length : Int)
        · rw [if_pos c3] at H
          have c3b0 : decide (x3_1 < (l0.length : Int)) = true := decide_eq_true c3
          clear c3
          by_cases c4 : 0 ≤ x3_1
          · rw [if_pos c4] at H
            have c4b0 : decide (0 ≤ x3_1) = true := decide_eq_true c4
            clear c4
            by_cases c5 : (((rd_T52 l0 x3_1).f1).length : Int) > 70
            · rw [if_pos c5] at H
              have c5b0 : decide (70 < (((rd_T52 l0 x3_1).f1).length : Int)) = true := decide_eq_true c5
              have c5b1 : decide (70 < ((rd_T52 l0 x3_1).f1).length) = true := decide_eq_true (by omega)
              clear c5
              obtain rfl := Option.some.inj H
              have p101 : 0 ≤ (x3_1 : Int) := of_decide_eq_true (by first | (with_reducible assumption) | assumption)
              have q101 : x3_1 < (l0.length : Int) := of_decide_eq_true (by first | (with_reducible assumption) | assumption)
              obtain ⟨ad101, A101_1, c101_1, e101, hx101_0, hx101_1, hl101_1, hi101_1⟩ := at_T52 HR0.out x3_1 p101 q101
              cases e101
              have HR101_1 := Aside0.mk hi101_1
              have HC101_1 := Aside0.mk hl101_1
              clear hi101_1 hl101_1
              replace p101 := eq_true p101
              replace q101 := eq_true q101
              go_wp2
              go_ret
              exact ⟨by first | rfl | (simp; done) | (simp [*]; done), by repeat (first | exact Drawn0.refl _ | apply Drawn0.step)⟩
            · rw [if_neg c5] at H
              have c5b0 : decide (70 < (((rd_T52 l0 x3_1).f1).length : Int)) = false := decide_eq_false c5
              have c5b1 : decide (70 < ((rd_T52 l0 x3_1).f1).length) = false := decide_eq_false (by omega)
              clear c5
              have H' := Aside0.mk H
              clear H
              have p101 : 0 ≤ (x3_1 : Int) := of_decide_eq_true (by first | (with_reducible assumption) | assumption)
              have q101 : x3_1 < (l0.length : Int) := of_decide_eq_true (by first | (with_reducible assumption) | assumption)
              obtain ⟨ad101, A101_1, c101_1, e101, hx101_0, hx101_1, hl101_1, hi101_1⟩ := at_T52 HR0.out x3_1 p101 q101
              cases e101
              have HR101_1 := Aside0.mk hi101_1
              have HC101_1 := Aside0.mk hl101_1
              clear hi101_1 hl101_1
              replace p101 := eq_true p101
              replace q101 := eq_true q101
              go_wp2
              go_roundg k1
              case measure => have := HK1.out; omega
              case rel => exact ⟨(wrap64 (x3_1 + 1)), (by first | rfl | (simp; done) | (simp [*]; done)), H', ⟨by have := HK1.out; omega⟩, by repeat (first | exact Drawn0.refl _ | apply Drawn0.step)⟩
          · rw [if_neg c4] at H
            exact absurd H (by simp)
        · rw [if_neg c3] at H
          have c3b0 : decide (x3_1 < (l0.length : Int)) = false := decide_eq_false c3
          clear c3
          obtain rfl := Option.some.inj H
          go_wp2
          go_ret
          exact ⟨by first | rfl | (simp; done) | (simp [*]; done), by repeat (first | exact Drawn0.refl _ | apply Drawn0.step)⟩

end Go.Proofs.Ytcciejcpijlkfaa.H

