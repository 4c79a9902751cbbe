/- Eval: the deferred closure. -/
import Derived.Test.YtnhipdniceoigaaEvB
import Derived.Test.YtnhipdniceoigaaCkCheck
import Derived.Test.YtnhipdniceoigaaH7
set_option linter.unusedVariables false
set_option linter.unusedSimpArgs false
namespace Go.Proofs.Ytnhipdniceoigaa.H
open Go.RowKit Go.Hay Go.Proofs.YtnhipdniceoigaaW.PrintWords Go.Proofs.YtnhipdniceoigaaW.PrintLast Go.Proofs.YtnhipdniceoigaaW.PrintMore
theorem assert_ff (v : Value) (w : World) : (Instr.typeAssert (.iface 73 v) 20 73 true).run Try.prog w = .ok (.tuple #[v, .bool true]) w := by kernel_rfl
theorem assert_lf (v : Value) (w : World) : (Instr.typeAssert (.iface 75 v) 20 73 true).run Try.prog w = .ok (.tuple #[.agg #[.int .i64 0], .bool false]) w := by kernel_rfl
theorem assert_ll (v : Value) (w : World) : (Instr.typeAssert (.iface 75 v) 20 75 true).run Try.prog w = .ok (.tuple #[v, .bool true]) w := by kernel_rfl
section
variable {pb wb ob eb nt ct nl cl : Nat} {At Al : Option Addr} {w : World} {c0 c1 c2 c3 v0 v1 o0 o1 o2 o3 ev : Value}
set_option maxRecDepth 100000 in
set_option maxHeartbeats 4000000 in
theorem ecatch_fail (why : Int) (hp : w.heap[pb]? = some (.cells #[.pointer (some ⟨wb, 0, none⟩)] 69 (0, 0))) (hw : w.heap[wb]? = some (.cells #[c0, c1, c2, c3, v0, v1, .slice At nt ct, .slice Al nl cl] 71 (0, 0))) (ho : w.heap[ob]? = some (.cells #[o0, o1, o2, o3] 30 (0, 0))) (he : w.heap[eb]? = some (.cells #[ev] 31 (0, 0))) :
    CallsD Try.prog 22 #[.pointer (some ⟨pb, 0, none⟩), .pointer (some ⟨ob, 0, none⟩), .pointer (some ⟨eb, 0, none⟩)] (.panicking [{ v := failV why, recovered := false }]) w fun x u' w' =>
      x = .returned (.tuple #[]) ∧ u' = .panicking [{ v := failV why, recovered := true }] ∧ Keep (fun q => q = wb ∨ q = ob ∨ q = eb) w w' ∧ w'.heap[ob]? = some (.cells #[.int .i64 0, .int .i64 why, .slice At nt ct, .slice Al nl cl] 30 (0, 0)) ∧ w'.heap[eb]? = some (.cells #[.int .i64 0] 31 (0, 0)) := by
  have huf := Try.underlying73
  have ha := assert_ff (.agg #[.int .i64 why])
  have n1 : ob ≠ wb := fun e => by rw [e, hw] at ho; cases ho
  have n2 : eb ≠ wb := fun e => by rw [e, hw] at he; cases he
  have n3 : eb ≠ ob := fun e => by rw [e, ho] at he; cases he
  obtain ⟨W1, hW1⟩ : ∃ W1, W1 = w.alloc (.cells #[.int .i64 why] 73) := ⟨_, rfl⟩
  have hb1 : Below w.heap.size w W1 := by rw [hW1]; exact (Below.refl w.heap.size w).alloc (Nat.le_refl _) _
  have hbx : W1.heap[w.heap.size]? = some (.cells #[.int .i64 why] 73 (0, 0)) := by rw [hW1]; exact alloc_blk w _
  have hp1 := (hb1.block _ (blk_lt hp)).trans hp
  have hw1 := (hb1.block _ (blk_lt hw)).trans hw
  have ho1 := (hb1.block _ (blk_lt ho)).trans ho
  have he1 := (hb1.block _ (blk_lt he)).trans he
  have H1 := Aside0.mk (And.intro hb1 (And.intro hp1 (And.intro hw1 (And.intro ho1 he1))))
  have HN := Aside0.mk (And.intro n1 (And.intro n2 n3))
  have HW1 := Aside0.mk hW1
  have HBX := Aside0.mk hbx
  clear hb1 hp1 hw1 ho1 he1 n1 n2 n3 hW1 hp hw ho he hbx
  refine callsD_of_wpS Try.func22 rfl fun c₀ cs hu => ?_
  apply wpS_seq
  apply wpS_region
  simp [wpOpsS, go_sem, recoverD, hu, Try.ntmps22, Exit.thenS]
  refine wpS_body ?_
  simp only [Array.replicate_succ, Array.replicate_zero, List.push_toArray, List.append_toArray, List.nil_append, List.cons_append, List.setIfInBounds_toArray, List.set_cons_zero, List.set_cons_succ, failV]
  go_upto_region 7 with (fail)
  rw [← HW1.out]
  have p0 := blk_cell H1.out.2.1 0
  have x0 := blk_cell HBX.out 0
  have z5 := blk_frozen H1.out.2.2.1 5
  have z4 := blk_frozen H1.out.2.2.1 4
  have y5 := blk_cell H1.out.2.2.1 5
  have y4 := blk_cell H1.out.2.2.1 4
  go_upto_region 8 with (fail)
  obtain ⟨W2, hW2⟩ : ∃ W2, W2 = (W1.setCell ⟨wb, 5, none⟩ (.int .i64 why)).setCell ⟨wb, 4, none⟩ (.int .i64 0) := ⟨_, rfl⟩
  rw [← hW2]
  have hk2 : Keep (fun q => q = wb) W1 W2 := by rw [hW2]; exact ((Keep.refl (fun q => q = wb) W1).set (p := ⟨wb, 5, none⟩) (.inr rfl) _).set (p := ⟨wb, 4, none⟩) (.inr rfl) _
  have hn2 : W2.heap[wb]? = some (.cells #[c0, c1, c2, c3, .int .i64 0, .int .i64 why, .slice At nt ct, .slice Al nl cl] 71 (0, 0)) := by rw [hW2]; exact blk_set (blk_set H1.out.2.2.1 5 _) 4 _
  have hpw : pb ≠ wb := fun e => by have h1 := H1.out.2.1; have h2 := H1.out.2.2.1; rw [e, h2] at h1; cases h1
  have hp2 := hk2.blk H1.out.2.1 hpw
  have ho2 := hk2.blk H1.out.2.2.2.1 HN.out.1
  have he2 := hk2.blk H1.out.2.2.2.2 HN.out.2.1
  have H2 := Aside0.mk (And.intro hk2 (And.intro hn2 (And.intro hp2 (And.intro ho2 he2))))
  clear p0 x0 z5 z4 y5 y4 hpw hW2
  have p0 := blk_cell hp2 0
  have r4 := blk_cell hn2 4
  have r5 := blk_cell hn2 5
  have r6 := blk_cell hn2 6
  have r7 := blk_cell hn2 7
  have s0 := blk_cell ho2 0
  have s1 := blk_cell ho2 1
  have s2 := blk_cell ho2 2
  have s3 := blk_cell ho2 3
  have z0 := blk_frozen ho2 0
  have z1 := blk_frozen ho2 1
  have z2 := blk_frozen ho2 2
  have z3 := blk_frozen ho2 3
  have e0 := blk_cell he2 0
  have f0 := blk_frozen he2 0
  clear hk2 hn2 hp2 ho2 he2
  have n3 := HN.out.2.2
  go_wp2_with fail
  go_end0
  have d1 := blk_set (blk_set (blk_set (blk_set H2.out.2.2.2.1 0 (.int .i64 0)) 1 (.int .i64 why)) 2 (.slice At nt ct)) 3 (.slice Al nl cl)
  have e1 := H2.out.2.2.2.2
  have e2 := blk_set (blk_farC (p := ⟨ob, 3, none⟩) (blk_farC (p := ⟨ob, 2, none⟩) (blk_farC (p := ⟨ob, 1, none⟩) (blk_farC (p := ⟨ob, 0, none⟩) e1 n3 (.int .i64 0)) n3 (.int .i64 why)) n3 (.slice At nt ct)) n3 (.slice Al nl cl)) 0 (.int .i64 0)
  have d2 := blk_farC (p := ⟨eb, 0, none⟩) d1 (Ne.symm n3) (.int .i64 0)
  have hk9 := (((((Keep.refl (fun q => q = wb ∨ q = ob ∨ q = eb) W2).set (p := ⟨ob, 0, none⟩) (.inr (.inr (.inl rfl))) (.int .i64 0)).set (p := ⟨ob, 1, none⟩) (.inr (.inr (.inl rfl))) (.int .i64 why)).set (p := ⟨ob, 2, none⟩) (.inr (.inr (.inl rfl))) (.slice At nt ct)).set (p := ⟨ob, 3, none⟩) (.inr (.inr (.inl rfl))) (.slice Al nl cl)).set (p := ⟨eb, 0, none⟩) (.inr (.inr (.inr rfl))) (.int .i64 0)
  exact ⟨rfl, trivial, ((Keep.of_below H1.out.1 _).trans (H2.out.1.mono (fun q _ e => .inl e))).trans hk9, d2, e2⟩
set_option maxRecDepth 100000 in
set_option maxHeartbeats 4000000 in
theorem ecatch_long (hp : w.heap[pb]? = some (.cells #[.pointer (some ⟨wb, 0, none⟩)] 69 (0, 0))) (ho : w.heap[ob]? = some (.cells #[o0, o1, o2, o3] 30 (0, 0))) (he : w.heap[eb]? = some (.cells #[ev] 31 (0, 0))) :
    CallsD Try.prog 22 #[.pointer (some ⟨pb, 0, none⟩), .pointer (some ⟨ob, 0, none⟩), .pointer (some ⟨eb, 0, none⟩)] (.panicking [{ v := longV, recovered := false }]) w fun x u' w' =>
      x = .returned (.tuple #[]) ∧ u' = .panicking [{ v := longV, recovered := true }] ∧ Keep (fun q => q = ob ∨ q = eb) w w' ∧ w'.heap[ob]? = some (.cells #[.int .i64 0, .int .i64 0, .slice none 0 0, .slice none 0 0] 30 (0, 0)) ∧ w'.heap[eb]? = some (.cells #[.int .i64 3] 31 (0, 0)) := by
  have hul := Try.underlying75
  have ha := assert_lf (.agg #[])
  have ha2 := assert_ll (.agg #[])
  have n3 : eb ≠ ob := fun e => by rw [e, ho] at he; cases he
  obtain ⟨W1, hW1⟩ : ∃ W1, W1 = w.alloc (.cells #[] 75) := ⟨_, rfl⟩
  have hb1 : Below w.heap.size w W1 := by rw [hW1]; exact (Below.refl w.heap.size w).alloc (Nat.le_refl _) _
  have ho1 := (hb1.block _ (blk_lt ho)).trans ho
  have he1 := (hb1.block _ (blk_lt he)).trans he
  have H1 := Aside0.mk (And.intro hb1 (And.intro ho1 he1))
  have HN := Aside0.mk n3
  have HW1 := Aside0.mk hW1
  clear hb1 ho1 he1 hW1 hp ho he
  refine callsD_of_wpS Try.func22 rfl fun c₀ cs hu => ?_
  apply wpS_seq
  apply wpS_region
  simp [wpOpsS, go_sem, recoverD, hu, Try.ntmps22, Exit.thenS]
  refine wpS_body ?_
  simp only [Array.replicate_succ, Array.replicate_zero, List.push_toArray, List.append_toArray, List.nil_append, List.cons_append, List.setIfInBounds_toArray, List.set_cons_zero, List.set_cons_succ, longV]
  go_upto_region 11 with (fail)
  rw [← HW1.out]
  have s0 := blk_cell H1.out.2.1 0
  have s1 := blk_cell H1.out.2.1 1
  have s2 := blk_cell H1.out.2.1 2
  have s3 := blk_cell H1.out.2.1 3
  have z0 := blk_frozen H1.out.2.1 0
  have z1 := blk_frozen H1.out.2.1 1
  have z2 := blk_frozen H1.out.2.1 2
  have z3 := blk_frozen H1.out.2.1 3
  have e0 := blk_cell H1.out.2.2 0
  have f0 := blk_frozen H1.out.2.2 0
  go_wp2_with fail
  go_end0
  have d1 := blk_set (blk_set (blk_set (blk_set H1.out.2.1 0 (.int .i64 0)) 1 (.int .i64 0)) 2 (.slice none 0 0)) 3 (.slice none 0 0)
  have e1 := H1.out.2.2
  have e2 := blk_set (blk_farC (p := ⟨ob, 3, none⟩) (blk_farC (p := ⟨ob, 2, none⟩) (blk_farC (p := ⟨ob, 1, none⟩) (blk_farC (p := ⟨ob, 0, none⟩) e1 n3 (.int .i64 0)) n3 (.int .i64 0)) n3 (.slice none 0 0)) n3 (.slice none 0 0)) 0 (.int .i64 3)
  have d2 := blk_farC (p := ⟨eb, 0, none⟩) d1 (Ne.symm n3) (.int .i64 3)
  have hk9 := (((((Keep.refl (fun q => q = ob ∨ q = eb) W1).set (p := ⟨ob, 0, none⟩) (.inr (.inl rfl)) (.int .i64 0)).set (p := ⟨ob, 1, none⟩) (.inr (.inl rfl)) (.int .i64 0)).set (p := ⟨ob, 2, none⟩) (.inr (.inl rfl)) (.slice none 0 0)).set (p := ⟨ob, 3, none⟩) (.inr (.inl rfl)) (.slice none 0 0)).set (p := ⟨eb, 0, none⟩) (.inr (.inr rfl)) (.int .i64 3)
  exact ⟨rfl, trivial, (Keep.of_below H1.out.1 _).trans hk9, d2, e2⟩
theorem ecatch_idle (p q r : Addr) (w : World) :
    CallsD Try.prog 22 #[.pointer (some p), .pointer (some q), .pointer (some r)] .returning w fun x u' w' =>
      x = .returned (.tuple #[]) ∧ u' = .returning ∧ w = w' := by
  refine callsD_of_wpS Try.func22 rfl fun c₀ cs hu => ?_
  apply wpS_seq
  apply wpS_region
  simp [wpOpsS, go_sem, recoverD, hu, Try.ntmps22, Exit.thenS]
  refine wpS_body_same hu ?_
  simp only [Array.replicate_succ, Array.replicate_zero, List.push_toArray, List.append_toArray, List.nil_append, List.cons_append, List.setIfInBounds_toArray, List.set_cons_zero, List.set_cons_succ]
  go_wp2
  go_end0
  exact ⟨rfl, trivial, rfl⟩
end
end Go.Proofs.Ytnhipdniceoigaa.H
