/- The law CodeNumbers, walked by hand: the print's own text of it is longer than a text may be. -/
import Derived.Test.YtojnimaiggobeaaH9
import Derived.Test.YtojnimaiggobeaaCodeWrite
import Derived.Test.YtojnimaiggobeaaCodeRead
import Derived.Test.YtojnimaiggobeaaPCodeM
set_option linter.unusedVariables false
set_option linter.unusedSimpArgs false
namespace Go.Proofs.Ytojnimaiggobeaa.H
open Go.RowKit Go.Hay Go.Proofs.YtojnimaiggobeaaW.PrintWords Go.Proofs.YtojnimaiggobeaaW.PrintLast Go.Proofs.YtojnimaiggobeaaW.PrintMore
theorem panic_then {P : Program} {fn : Func} {R : Ending → World → Prop} {ops : Array Oper} {K : Act → World → Prop} {Q : Exit → Act → World → Prop} (hQ : Q = bodyPost P fn R) :
    ∀ o ∈ ops.toList, ∀ c a v w, Exit.then K Q (.panic c) (a.put o.dst v) w → Exit.then K Q (.panic c) a w := by
  subst hQ; exact fun o ho c a v w h => panic_put (P := P) (fn := fn) (R := R) o ho c a v w h
structure S42 where
  f0 : Int
  f1 : Int
  f2 : Int
  f3 : Int
  f4 : Int
def k42 : Kd S42 := Kd.iso (Kd.pair (Kd.int .u8) (Kd.pair (Kd.int .u8) (Kd.pair (Kd.int .u8) (Kd.pair (Kd.int .u8) (Kd.int .i32))))) (fun x : S42 => (x.f0, x.f1, x.f2, x.f3, x.f4))
theorem k42_open {w : World} {x : S42} {cs : List Value} (h : k42.K w x cs) : cs = [.int .u8 x.f0, .int .u8 x.f1, .int .u8 x.f2, .int .u8 x.f3, .int .i32 x.f4] := by
  obtain ⟨_, _, rfl, rfl, ⟨_, _, rfl, rfl, ⟨_, _, rfl, rfl, ⟨_, _, rfl, rfl, rfl⟩⟩⟩⟩ := h
  exact rfl
def numI (o a b c k : Int) : S44 := ⟨o, a, b, c, k⟩
def haymowlaw02_CodeNumbers.f (o a b c k : Int) : Option Bool := if okInstr (numI o a b c k) then some true else none
set_option maxRecDepth 100000 in
set_option maxHeartbeats 4000000 in
theorem haymowlaw02_CodeNumbers.calls (o a b c k : Int) (r : Bool) (w : World) (h : haymowlaw02_CodeNumbers.f o a b c k = some r) :
    Calls Try.prog 8 #[.agg #[.int .u8 o, .int .u8 a, .int .u8 b, .int .u8 c, .int .i32 k]] w fun e w' => e = .returned (.bool r) ∧ Below w.heap.size w w' := by
  have hok : okInstr (numI o a b c k) = true ∧ r = true := by
    unfold haymowlaw02_CodeNumbers.f at h
    by_cases h1 : okInstr (numI o a b c k) = true
    · rw [if_pos h1] at h; exact ⟨h1, (Option.some.inj h).symm⟩
    · rw [if_neg h1] at h; cases h
  obtain ⟨hok, rfl⟩ := hok
  obtain ⟨k1, k2, o1, a1, b1, c1⟩ := (okInstr_iff _).1 hok
  simp only [numI] at k1 k2 o1 a1 b1 c1
  rw [fitsB_iff] at o1 a1 b1 c1
  have eo : wrap64 o = o := wrap_id (by omega) (by omega)
  have ea : wrap64 a = a := wrap_id (by omega) (by omega)
  have eb : wrap64 b = b := wrap_id (by omega) (by omega)
  have ec : wrap64 c = c := wrap_id (by omega) (by omega)
  have ek : wrap64 k = k := wrap_id (by omega) (by omega)
  have HOK := Aside0.mk hok
  clear hok h k1 k2 o1 a1 b1 c1
  have hu42 := Try.underlying42
  have hu44 := Try.underlying44
  have hu47 := Try.underlying47
  go_enter Try.func8, Try.ntmps8
  go_wp2_with fail
  have hb := alloc_blk w (.cells #[.int .u8 o, .int .u8 a, .int .u8 b, .int .u8 c, .int .i32 k] 42)
  have hbel := (Below.refl w.heap.size w).alloc (Nat.le_refl _) (.cells #[.int .u8 o, .int .u8 a, .int .u8 b, .int .u8 c, .int .i32 k] 42)
  generalize w.alloc (.cells #[.int .u8 o, .int .u8 a, .int .u8 b, .int .u8 c, .int .i32 k] 42) = w1 at hb hbel ⊢
  refine wp_region_seq (fun w' => w'.heap[w.heap.size]? = some (.cells #[.int .u8 o, .int .u8 a, .int .u8 b, .int .u8 c, .int .i32 k] 42 (0, 0))) [] [.take 0, .take 1, .take 2, .take 3, .take 4, .take 5, .take 6, .take 7, .take 8, .take 9, .take 10, .take 11, .take 12, .take 13, .take 14] (by kernel_rfl) (by kernel_rfl) rfl (by kernel_rfl) (panic_then rfl) ?_
  have hs := hb
  clear hb
  repeat (
    refine runSeq_take (v := ?_) (by rfl) (by rfl) (fun w' hS => ?_) hs ?_
    rotate_left
    · (have c0 := blk_cell hS 0; have c1 := blk_cell hS 1; have c2 := blk_cell hS 2; have c3 := blk_cell hS 3; have c4 := blk_cell hS 4; go_simp; exact rfl)
    (try simp only [Act.put, List.setIfInBounds_toArray, List.set_cons_zero, List.set_cons_succ]))
  refine runSeq_nil ?_
  have HB := Aside0.mk hbel.drew
  have HS := Aside0.mk (show w1.drew.heap[w.heap.size]? = _ from hs)
  clear hbel hs
  generalize w1.drew = w2 at HB HS ⊢
  go_wp2_with fail
  have hx : w2.heap[w.heap.size]? = some (.cells #[.int .u8 o, .int .u8 a, .int .u8 b, .int .u8 c, .int .i32 k] 42 (0, 0)) := HS.out
  let x : S44 := numI o a b c k
  let f : S47 := ⟨a, [x, x]⟩
  have hok := HOK.out
  have hfo : okProg [f] = true := by
    have ha := ((okInstr_iff x).1 hok).2.2.2.1
    simp only [okProg, okFunc, f, List.all_cons, List.all_nil, Bool.and_true, Bool.and_eq_true, List.length_cons, List.length_nil]
    exact ⟨by decide, ⟨ha, by decide⟩, hok, hok⟩
  have hwr : code_Write.f [f] = some (wProg [f], 0) := by simp [code_Write.f, hfo]
  have hrd := read_write hfo
  obtain ⟨Wc, hWc⟩ : ∃ Wc, Wc = ((w2.alloc (.cells #[.int .i64 o, .int .i64 a, .int .i64 b, .int .i64 c, .int .i64 k] 44)).alloc (.cells #[.int .i64 o, .int .i64 a, .int .i64 b, .int .i64 c, .int .i64 k, .int .i64 o, .int .i64 a, .int .i64 b, .int .i64 c, .int .i64 k] 44)).alloc (.cells #[.int .i64 a, .slice (some ⟨w2.heap.size + 1, 0, none⟩) 2 2] 47) := ⟨_, rfl⟩
  have b0 : Wc.heap[w2.heap.size]? = some (.cells #[.int .i64 o, .int .i64 a, .int .i64 b, .int .i64 c, .int .i64 k] 44 (0, 0)) := by
    rw [hWc]; exact (Below.heap_alloc _ _ _ (by simp; omega)).trans ((Below.heap_alloc _ _ _ (by simp)).trans (alloc_blk _ _))
  have b1 : Wc.heap[w2.heap.size + 1]? = some (.cells #[.int .i64 o, .int .i64 a, .int .i64 b, .int .i64 c, .int .i64 k, .int .i64 o, .int .i64 a, .int .i64 b, .int .i64 c, .int .i64 k] 44 (0, 0)) := by
    rw [hWc]; refine (Below.heap_alloc _ _ _ (by simp)).trans ?_
    have := alloc_blk (w2.alloc (.cells #[.int .i64 o, .int .i64 a, .int .i64 b, .int .i64 c, .int .i64 k] 44)) (.cells #[.int .i64 o, .int .i64 a, .int .i64 b, .int .i64 c, .int .i64 k, .int .i64 o, .int .i64 a, .int .i64 b, .int .i64 c, .int .i64 k] 44)
    simpa using this
  have b2 : Wc.heap[w2.heap.size + 1 + 1]? = some (.cells #[.int .i64 a, .slice (some ⟨w2.heap.size + 1, 0, none⟩) 2 2] 47 (0, 0)) := by
    rw [hWc]
    have := alloc_blk ((w2.alloc (.cells #[.int .i64 o, .int .i64 a, .int .i64 b, .int .i64 c, .int .i64 k] 44)).alloc (.cells #[.int .i64 o, .int .i64 a, .int .i64 b, .int .i64 c, .int .i64 k, .int .i64 o, .int .i64 a, .int .i64 b, .int .i64 c, .int .i64 k] 44)) (.cells #[.int .i64 a, .slice (some ⟨w2.heap.size + 1, 0, none⟩) 2 2] 47)
    simpa using this
  have hB : Below w.heap.size w Wc := by
    rw [hWc]; exact ((HB.out.alloc HB.out.size _).alloc (by have := HB.out.size; simp; omega) _).alloc (by have := HB.out.size; simp; omega) _
  have hC1 : k44.C Wc (some ⟨w2.heap.size + 1, 0, none⟩) [x, x].length [x, x] := reads_cells b1 (Reps.c5 (k44_mk Wc x) (Reps.c5 (k44_mk Wc x) (Reps.none _ _))) (by simp)
  have hC : k47.C Wc (some ⟨w2.heap.size + 1 + 1, 0, none⟩) [f].length [f] := reads_one b2 (k47_mk Wc f (A1 := some ⟨w2.heap.size + 1, 0, none⟩) (c1 := 2) (by simp [f]) hC1)
  rw [eo, ea, eb, ec, ek]
  rw [← hWc]
  refine (code_Write.calls _ 1 [f] _ _ Wc hC (by simp) hwr).mono ?_
  rintro e w3 ⟨v, rfl, hR, hb⟩
  obtain ⟨Av, cv, rfl, hcv, hCv⟩ := Kd.R_reads hR
  have d0 := (hb.block _ (blk_lt b0)).trans b0
  have hB3 := hB.trans (hb.mono hB.size)
  have hlen : (wProg [f]).length = 20 := rfl
  have D := Aside0.mk (And.intro d0 (And.intro hB3 (And.intro hCv (And.intro hcv hrd))))
  rw [hlen]
  clear b0 b1 b2 hB hC1 hC hwr hrd hR hb hCv hcv d0 hB3 hfo hok HB HS hx hWc
  go_wp2_with fail
  rw [← hlen]
  refine (code_Read.calls _ cv (wProg [f]) _ _ w3 D.out.2.2.1 D.out.2.2.2.1 D.out.2.2.2.2).mono ?_
  rintro e w4 ⟨v2, rfl, hS2, hb4⟩
  obtain ⟨Ap, cp, rfl, hcp, hCp⟩ := Kd.S_reads hS2
  obtain ⟨ad, A1, c1, rfl, p0, p1, hc1, hC1⟩ := at_T47 hCp 0 (by omega) (by simp)
  obtain ⟨ad1, rfl, q0, q1, q2, q3, q4⟩ := at_T44 hC1 1 (by omega) (by simp [rd_T47, f])
  have d0 := (hb4.block _ (blk_lt D.out.1)).trans D.out.1
  have hB4 := D.out.2.1.trans (hb4.mono D.out.2.1.size)
  have g0 : w4.cell? ad = some (.int .i64 a) := by have h : w4.cell? (ad.add 0) = some (.int .i64 a) := p0; simpa [Addr.add] using h
  have g1 : w4.cell? ⟨ad.block, ad.off + 1, none⟩ = some (.slice (some ad1) 2 c1) := p1
  have i0 : w4.cell? ⟨ad1.block, ad1.off + 5, none⟩ = some (.int .i64 o) := by have h : w4.cell? (ad1.add 5) = some (.int .i64 o) := q0; simpa [Addr.add] using h
  have i1 : w4.cell? ⟨ad1.block, ad1.off + 5 + 1, none⟩ = some (.int .i64 a) := q1
  have i2 : w4.cell? ⟨ad1.block, ad1.off + 5 + 2, none⟩ = some (.int .i64 b) := q2
  have i3 : w4.cell? ⟨ad1.block, ad1.off + 5 + 3, none⟩ = some (.int .i64 c) := q3
  have i4 : w4.cell? ⟨ad1.block, ad1.off + 5 + 4, none⟩ = some (.int .i64 k) := q4
  have E := Aside0.mk (And.intro g0 (And.intro g1 (And.intro i0 (And.intro i1 (And.intro i2 (And.intro i3 (And.intro i4 (And.intro d0 hB4))))))))
  have e1 : [f].length = 1 := rfl
  rw [e1, hlen]
  clear D p0 p1 q0 q1 q2 q3 q4 hS2 hCp hcp hc1 hC1 hb4 g0 g1 i0 i1 i2 i3 i4 d0 hB4 hlen e1 f x HOK
  go_wp2_with fail
  refine wp_region_seq (fun w' => Below w4.heap.size w4 w') [] [.take 0, .take 1, .take 2, .take 3, .take 4, .take 5, .take 6, .take 7, .take 8, .take 9, .take 10, .take 11, .take 12, .take 13, .take 14, .take 15, .take 16, .take 17, .take 18, .take 19, .take 20, .take 21, .take 22, .take 23, .take 24, .take 25, .take 26, .take 27, .take 28, .take 29, .take 30, .take 31, .take 32, .take 33, .take 34, .take 35, .take 36, .take 37, .take 38, .take 39, .take 40, .take 41, .take 42, .take 43, .op 44, .take 45, .take 46] (by kernel_rfl) (by kernel_rfl) rfl (by kernel_rfl) (panic_then rfl) ?_
  have ea2 : IntKind.i64.wrap a = a := (i64_w _).trans ea
  have hs : Below w4.heap.size w4 w4.drew := (Below.refl _ _).drew
  have C := Aside0.mk (fun (w' : World) (hS : Below w4.heap.size w4 w') (p : Addr) (u : Value) (h : w4.cell? p = some u) => (hS.cell (World.block_lt_of_cell? w4 _ h)).trans h)
  repeat (
    refine runSeq_take (v := ?_) (by rfl) (by rfl) (fun w' hS => ?_) hs ?_
    rotate_left
    · (have c0 := C.out _ hS _ _ E.out.1; have c1 := C.out _ hS _ _ E.out.2.1; have c2 := C.out _ hS _ _ E.out.2.2.1; have c3 := C.out _ hS _ _ E.out.2.2.2.1; have c4 := C.out _ hS _ _ E.out.2.2.2.2.1; have c5 := C.out _ hS _ _ E.out.2.2.2.2.2.1; have c6 := C.out _ hS _ _ E.out.2.2.2.2.2.2.1; have d0 := C.out _ hS _ _ (blk_cell E.out.2.2.2.2.2.2.2.1 0); have d1 := C.out _ hS _ _ (blk_cell E.out.2.2.2.2.2.2.2.1 1); have d2 := C.out _ hS _ _ (blk_cell E.out.2.2.2.2.2.2.2.1 2); have d3 := C.out _ hS _ _ (blk_cell E.out.2.2.2.2.2.2.2.1 3); have d4 := C.out _ hS _ _ (blk_cell E.out.2.2.2.2.2.2.2.1 4); go_simp; exact rfl)
    (try simp only [Act.put, List.setIfInBounds_toArray, List.set_cons_zero, List.set_cons_succ]))
  refine runSeq_op (by rfl) (by rfl) (fun K hK => ?_)
  go_simp
  refine (haymowlaw02_awake.calls true _ awake_eq).mono ?_
  rintro e w5 ⟨rfl, hb⟩
  have hs5 : Below w4.heap.size w4 w5 := hs.trans (hb.mono hs.size)
  refine hK _ _ hs5 ?_
  clear hK K hs hb
  have hs := hs5
  clear hs5
  repeat (
    refine runSeq_take (v := ?_) (by rfl) (by rfl) (fun w' hS => ?_) hs ?_
    rotate_left
    · (skip; go_simp; exact rfl)
    (try simp only [Act.put, List.setIfInBounds_toArray, List.set_cons_zero, List.set_cons_succ]))
  refine runSeq_nil ?_
  have hB5 := E.out.2.2.2.2.2.2.2.2.trans (hs.mono E.out.2.2.2.2.2.2.2.2.size)
  have HB5 := Aside0.mk hB5
  clear hB5 hs
  go_wp2_with fail
  go_ret
  exact ⟨rfl, HB5.out⟩
#print axioms haymowlaw02_CodeNumbers.calls
end Go.Proofs.Ytojnimaiggobeaa.H
