/- A task that is begun. -/
import Derived.Test.YtnhipdniceoigaaEvC
set_option linter.unusedVariables false
set_option linter.unusedSimpArgs false
namespace Go.Proofs.Ytnhipdniceoigaa.H
open Go.RowKit Go.Hay Go.Proofs.YtnhipdniceoigaaW.PrintWords Go.Proofs.YtnhipdniceoigaaW.PrintLast Go.Proofs.YtnhipdniceoigaaW.PrintMore
theorem nums_at {k : IntKind} {e B g n cap : Nat} {ok : Nat → Prop} {W : World} {xs : List Int} (h : (Kd.int k).R e W B ok (.slice (some ⟨g, 0, none⟩) n cap) xs) {i : Nat} (hi : i < xs.length) : W.cell? ⟨g, i, none⟩ = some (.int k xs[i]) ∧ W.frozen? ⟨g, i, none⟩ = false := by
  have hq := Kd.R_reads' h
  obtain ⟨ad, e1, hc⟩ := hq.2.2.2.2 (by omega)
  cases e1
  obtain ⟨cs, h1, h2, h3⟩ := hc i _ (List.getElem?_eq_getElem hi)
  have h2 : cs = [.int k xs[i]] := h2
  subst h2
  have q0 := h3 0 _ rfl
  rw [add_plain] at q0
  obtain ⟨g', cp, hv, _, _, C, hC⟩ := Kd.R_form h (by omega)
  injection hv with hA _ _
  cases hA
  have q1 : W.cell? ⟨g, i * 1, none⟩ = some (.int k xs[i]) := q0
  rw [Nat.mul_one] at q1
  exact ⟨q1, blk_frozen hC _⟩
theorem PathAt.of_R {w : World} {base n cap : Nat} {ok : Nat → Prop} {A : Option Addr} {xs : List Int} (h : (Kd.int .i64).R 3 w base ok (.slice A n cap) xs) (hx : 0 < xs.length) : PathAt w A xs ∧ A ≠ none ∧ n = xs.length ∧ xs.length ≤ cap := by
  obtain ⟨g, cp, hv, _, _, C, hC⟩ := Kd.R_form h hx
  injection hv with hA hn hc
  subst hA
  have hq := Kd.R_reads' h
  refine ⟨.inr ⟨g, C, rfl, hC, ?_⟩, by simp, hq.1, by have := hq.2.1; omega⟩
  have hlen : xs.length ≤ C.toList.length := by
    have h1 := (nums_at h (i := xs.length - 1) (by omega)).1
    rw [blk_cell hC] at h1
    have := (Array.getElem?_eq_some_iff.1 h1).1
    have e2 := Array.length_toList (xs := C)
    omega
  apply List.ext_getElem
  · rw [List.length_take, List.length_map]; omega
  · intro i h1 h2
    have hi : i < xs.length := by simpa using h2
    have h3 := (nums_at h hi).1
    rw [blk_cell hC] at h3
    obtain ⟨hlt, h4⟩ := Array.getElem?_eq_some_iff.1 h3
    rw [List.getElem_take, List.getElem_map, Array.getElem_toList]
    exact h4
/-- what beginning a task comes to. -/
def BeginC (c : Cn) (l : List S58) (M k : Nat) : Prop :=
  ∀ (G : Gs) (ents : List Ent) (vt vl : Value) (w : World) (f : Nat) (A : Option Addr) (cpath : Nat) (path : List Int) (Aa : Option Addr) (ca : Nat) (args : List Int) (hands : List (Bool × Int)),
    ES c l G ents vt vl w → GInv M c.budget G → G.log.length + 1 + G.left ≤ M → f < l.length → PathAt w A path → path.length ≤ cpath → (A = none → cpath = 0) → (path.length : Int) ≤ c.depth → args.length ≤ 8 →
    (Kd.int .i64).C w Aa args.length args → args.length ≤ ca → hands.length = 4 → G.left < k →
    Calls Try.prog 23 #[.pointer (some ⟨c.wb, 0, none⟩), .int .i64 f, .slice A path.length cpath, .slice Aa args.length ca, .agg (hcells hands).toArray] w
      (EndP c l (PG c.wb vt vl) (beginP l c.budget c.depth k G f path args hands).1 (beginP l c.budget c.depth k G f path args hands).2 w)
def PK (c : Cn) (tb : Nat) (vt vl : Value) (q : Nat) : Prop := PG c.wb vt vl q ∨ q = tb
def KidP (c : Cn) (l : List S58) (tb : Nat) (vp : Value) (vw : Value) (me : Nat) (PK : Nat → Prop) (T : Ts) (r : Out × Gs) (w : World) (e : Ending) (w' : World) : Prop :=
  match r with
  | (.val v, G2) => e = .returned (.int .i64 v) ∧ Keep PK w w' ∧ ∃ ents' vt' vl', ES c l G2 ents' vt' vl' w' ∧ TB tb c.wb vp { T with kids := T.kids + 1 } vw me c.B w' ∧ ∀ q, PG c.wb vt' vl' q → PK q ∨ w.heap.size ≤ q
  | (o, G2) => EndP c l PK o G2 w e w'
def kidR (l : List S58) (budget depth : Int) (k : Nat) (G : Gs) (path : List Int) (x : S55) (T : Ts) : Out × Gs :=
  if (path.length : Int) = depth then (.fail 4, G) else beginP l budget depth k G x.f3 (path ++ [(T.kids : Int)]) (argsOf l x T) T.hands
theorem slice_regs (tb b ar : Nat) (hb : b < 8) (har : b + ar ≤ 8) (w : World) : (Instr.sliceAt 94 (.pointer (some ⟨tb, 2, none⟩)) (some (.int .i64 (b : Int))) (some (.int .i64 ((b : Int) + (ar : Int)))) none).run Try.prog w = .ok (.slice (some ⟨tb, 2 + b, none⟩) ar (8 - b)) w := by
  have hal : Try.prog.arrayLen 94 = 8 := by kernel_rfl
  have hel : Try.prog.elem 94 = 2 := by kernel_rfl
  have hsz : ∀ w, (sizeOf 2).run Try.prog w = .ok 1 w := fun _ => by kernel_rfl
  have ht : Try.prog.underlying 94 = some (.array (Try.prog.arrayLen 94) (Try.prog.elem 94)) := by rw [hal, hel]; exact Try.underlying94
  rw [run_sliceAt_array_lh w 94 ⟨tb, 2, none⟩ ht .i64 .i64 (b : Int) ((b : Int) + (ar : Int)) (by omega) (by omega) (by rw [hal]; omega), hel, hsz, hal]
  show Result.ok (slicedAt _ _ _ _ _) w = _
  have e1 : ((b : Int) + (ar : Int)).toNat = b + ar := by omega
  unfold slicedAt
  rw [e1, Int.toNat_natCast, if_neg (by omega), Nat.add_sub_cancel_left, Nat.mul_one]
  by_cases hb0 : b = 0
  · subst hb0; rfl
  · unfold Addr.add; simp [hb0]
theorem TB.argsC {tb wb me B : Nat} {vp vw : Value} {T : Ts} {w : World} (h : TB tb wb vp T vw me B w) (b ar : Nat) (hb : b + ar ≤ 8) : ((T.regs.drop b).take ar).length = ar ∧ (Kd.int .i64).C w (some ⟨tb, 2 + b, none⟩) ((T.regs.drop b).take ar).length ((T.regs.drop b).take ar) := by
  have hl : ((T.regs.drop b).take ar).length = ar := by rw [List.length_take, List.length_drop, h.rl]; omega
  refine ⟨hl, rfl, by omega, fun _ => ⟨_, rfl, fun j p hj => ⟨[.int .i64 p], rfl, rfl, fun i u hu => ?_⟩⟩⟩
  have hlt := (List.getElem?_eq_some_iff.1 hj).1
  match i, hu with
  | 0, hu =>
    cases hu
    have e : (⟨tb, 2 + b, none⟩ : Addr).add (j * (Kd.int .i64).sz + 0) = ⟨tb, 2 + (b + j), none⟩ := by
      have e2 : j * (Kd.int .i64).sz + 0 = j := Nat.mul_one j
      rw [e2]
      unfold Addr.add
      by_cases hj0 : j = 0
      · subst hj0; simp
      · simp [hj0]; omega
    rw [e, h.reg (b + j) (by omega)]
    rw [List.getElem?_take_of_lt (by omega), List.getElem?_drop] at hj
    rw [List.getD_eq_getElem?_getD, hj]; rfl
theorem TB.hand8 {tb wb me B : Nat} {vp vw : Value} {T : Ts} {w : World} (h : TB tb wb vp T vw me B w) : ∃ h0 h1 h2 h3, T.hands = [h0, h1, h2, h3] ∧ w.cell? ⟨tb, 10, none⟩ = some (.bool h0.1) ∧ w.cell? ⟨tb, 11, none⟩ = some (.int .i64 h0.2) ∧ w.cell? ⟨tb, 12, none⟩ = some (.bool h1.1) ∧ w.cell? ⟨tb, 13, none⟩ = some (.int .i64 h1.2) ∧ w.cell? ⟨tb, 14, none⟩ = some (.bool h2.1) ∧ w.cell? ⟨tb, 15, none⟩ = some (.int .i64 h2.2) ∧ w.cell? ⟨tb, 16, none⟩ = some (.bool h3.1) ∧ w.cell? ⟨tb, 17, none⟩ = some (.int .i64 h3.2) := by
  obtain ⟨r0, r1, r2, r3, r4, r5, r6, r7, h0, h1, h2, h3, hr, hh, hc⟩ := h.cells
  have hn := h.node
  rw [hc] at hn
  exact ⟨h0, h1, h2, h3, hh, blk_cell hn 10, blk_cell hn 11, blk_cell hn 12, blk_cell hn 13, blk_cell hn 14, blk_cell hn 15, blk_cell hn 16, blk_cell hn 17⟩
theorem ES.task {c : Cn} {l : List S58} {G : Gs} {ents : List Ent} {vt vl vw vp : Value} {w w1 : World} {T : Ts} {tb me : Nat} (hg : ES c l G ents vt vl w) (ht : TB tb c.wb vp T vw me c.B w) (hlo : c.w0.heap.size ≤ tb) (hk : Keep (fun q => q = tb) w w1) : ES c l G ents vt vl w1 :=
  hg.keep hk (fun q hq e2 => apart hg.eg ht q hq (.inl e2)) (fun q cs hq e2 => ht.notPath q cs hq (.inl e2)) (fun q hq e2 => by subst e2; omega)
section
variable {c : Cn} {l : List S58} {G : Gs} {ents : List Ent} {vt vl vw : Value} {w : World} {T : Ts} {tb me : Nat}
set_option maxRecDepth 100000 in
set_option maxHeartbeats 8000000 in
theorem kid_no {A : Option Addr} {cp : Nat} {path : List Int} (hg : ES c l G ents vt vl w) (h : TB tb c.wb (.slice A path.length cp) T vw me c.B w) (x : S55) (hd : (path.length : Int) = c.depth) :
    Calls Try.prog 54 #[.pointer (some ⟨tb, 0, none⟩), xv x] w (EndP c l (PK c tb vt vl) (.fail 4) G w) := by
  obtain ⟨x0, x1, x2, x3, x4⟩ := x
  try simp only at *
  obtain ⟨W, hW⟩ : ∃ W, W = w.alloc (.cells #[.int .i64 x0, .int .i64 (x1), .int .i64 (x2), .int .i64 (x3), .int .i64 x4] 55) := ⟨_, rfl⟩
  have hb1 : Below w.heap.size w W := by rw [hW]; exact (Below.refl w.heap.size w).alloc (Nat.le_refl _) _
  have hbx : W.heap[w.heap.size]? = some (.cells #[.int .i64 x0, .int .i64 (x1), .int .i64 (x2), .int .i64 (x3), .int .i64 x4] 55 (0, 0)) := by rw [hW]; exact alloc_blk w _
  have h1 := h.below hb1
  have c0 := blk_cell hbx 0
  have c1 := blk_cell hbx 1
  have c2 := blk_cell hbx 2
  have c3 := blk_cell hbx 3
  have c4 := blk_cell hbx 4
  have t0 := h1.fix.1
  have H := Aside0.mk (And.intro h1 hb1)
  have HWW := Aside0.mk hW
  have t1 := h1.fix.2.1
  have hg1 := hg.below hb1
  have q2 := blk_cell hg1.eg.node 2
  have hdd : ((path.length : Int) == c.depth) = true := by simpa using hd
  have hdd2 : ((path.length : Int) = c.depth) = True := eq_true hd
  have HG := Aside0.mk hg
  clear hg hg1 hd
  unfold xv
  clear h h1 hb1 hbx hW
  go_enter Try.func54, Try.ntmps54
  go_wp2_with fail
  rw [← HWW.out]
  go_quiet (fail)
  go_wp2_with fail
  refine (fail_any 4 _).mono ?_
  rintro e w' ⟨rfl, hb⟩
  exact ⟨rfl, task_stop HG.out rfl ((pw_below_drewN H.out.2 _).trans (hb.mono (pw_below_drewN H.out.2 _).size)) (fun q hq => .inl hq)⟩
set_option maxRecDepth 100000 in
set_option maxHeartbeats 8000000 in
theorem kid_any {M k : Nat} {A : Option Addr} {cp : Nat} {path : List Int} {code : List S55} (hl : POk l) (hB : BeginC c l M k) (hg : ES c l G ents vt vl w) (h : TB tb c.wb (.slice A path.length cp) T vw me c.B w) (hlo : c.w0.heap.size ≤ tb) (hgi : GInv M c.budget G) (hti : TInv code c.depth path me T G) (hM : M ≤ 1000000) (hdp : c.depth ≤ 900)
    (hp : PathAt w A path) (hcp : path.length ≤ cp) (hcn : A = none → cp = 0) (x : S55) (hx : IOk l code.length x) (hop : x.f0 = 11 ∨ x.f0 = 13) (hleft : G.log.length + 1 + G.left ≤ M) (hk : G.left < k) (hd : (path.length : Int) ≠ c.depth) :
    Calls Try.prog 54 #[.pointer (some ⟨tb, 0, none⟩), xv x] w (KidP c l tb (.slice A path.length cp) vw me (PK c tb vt vl) T (beginP l c.budget c.depth k G x.f3 (path ++ [(T.kids : Int)]) (argsOf l x T) T.hands) w) := by
  have hxb := hx.b (.inr hop)
  have hxf := hx.cf hop
  obtain ⟨x0, x1, x2, x3, x4⟩ := x
  try simp only at *
  obtain ⟨b, rfl⟩ : ∃ b : Nat, x2 = b := ⟨x2.toNat, by omega⟩
  obtain ⟨f, rfl⟩ : ∃ f : Nat, x3 = f := ⟨x3.toNat, by omega⟩
  obtain ⟨W, hW⟩ : ∃ W, W = w.alloc (.cells #[.int .i64 x0, .int .i64 (x1), .int .i64 (b), .int .i64 (f), .int .i64 x4] 55) := ⟨_, rfl⟩
  have hb1 : Below w.heap.size w W := by rw [hW]; exact (Below.refl w.heap.size w).alloc (Nat.le_refl _) _
  have hbx : W.heap[w.heap.size]? = some (.cells #[.int .i64 x0, .int .i64 (x1), .int .i64 (b), .int .i64 (f), .int .i64 x4] 55 (0, 0)) := by rw [hW]; exact alloc_blk w _
  have h1 := h.below hb1
  have c0 := blk_cell hbx 0
  have c1 := blk_cell hbx 1
  have c2 := blk_cell hbx 2
  have c3 := blk_cell hbx 3
  have c4 := blk_cell hbx 4
  have t0 := h1.fix.1
  have H := Aside0.mk (And.intro h1 hb1)
  have HWW := Aside0.mk hW
  have t1 := h1.fix.2.1
  have hg1 := hg.below hb1
  have q2 := blk_cell hg1.eg.node 2
  have hpl := hti.path_
  have hdd : ((path.length : Int) == c.depth) = false := by simpa using hd
  have hdd2 : ((path.length : Int) = c.depth) = False := eq_false hd
  have HG := Aside0.mk (And.intro hg (And.intro hg1 (And.intro hgi (And.intro hti (And.intro hleft (And.intro hk hlo))))))
  have HP := Aside0.mk (And.intro (hp.below hb1) (And.intro hcp (And.intro hcn hpl)))
  have HX := Aside0.mk (And.intro hxb hxf)
  have HD3 := Aside0.mk hd
  have HBX := Aside0.mk hbx
  clear hg hg1 hd hgi hti hp hcp hcn hpl hx hop hleft hk hlo hxb hxf
  unfold xv
  clear h h1 hb1 hbx hW
  go_enter Try.func54, Try.ntmps54
  go_wp2_with fail
  rw [← HWW.out]
  go_quiet (fail)
  go_wp2_with fail
  clear hdd hdd2 q2
  have hs0 : Below W.heap.size W (W.drewN nq) := pw_below_drewN (Below.refl _ _) _
  obtain ⟨W1, hW1⟩ : ∃ W1, W1 = W.drewN nq := ⟨_, rfl⟩
  rw [← hW1] at hs0 ⊢
  have t0 := (H.out.1.below hs0).fix.1
  have t1 := (H.out.1.below hs0).fix.2.1
  have t19 := (H.out.1.below hs0).fix.2.2.2.1
  have H1 := Aside0.mk hs0
  clear hs0 hW1 c0 c1 c2 c3 c4
  refine wp_region_seq2 (fun w' => Below W1.heap.size W1 w') [] [.take 0, .take 1, .take 2, .take 3, .take 5, .take 6, .take 7, .take 8, .pair 4 9, .op 10, .op 11] (by kernel_rfl) (by kernel_rfl) rfl (by kernel_rfl) (panic_viaE (P := Try.prog) (fn := Try.f54) (R := KidP c l tb (.slice A path.length cp) vw me (PK c tb vt vl) T (beginP l c.budget c.depth k G f (path ++ [(T.kids : Int)]) (argsOf l ⟨x0, x1, b, f, x4⟩ T) T.hands) w) (fun _ _ _ => rfl)) ?_
  have hs : Below W1.heap.size W1 W1.drew := (Below.refl _ _).drew
  repeat (
    (first
      | (refine runSeq2_take (v := ?_) (by rfl) (by rfl) (fun w' hS => ?_) hs ?_
         rotate_left
         · (have u0 := (hS.cell (World.block_lt_of_cell? W1 _ t0)).trans t0; have u1 := (hS.cell (World.block_lt_of_cell? W1 _ t1)).trans t1; have u19 := (hS.cell (World.block_lt_of_cell? W1 _ t19)).trans t19; go_simp; exact rfl))
      | refine runSeq2_skip (by rfl) (by rfl) hs ?_)
    (try simp only [Act.put, List.setIfInBounds_toArray, List.set_cons_zero, List.set_cons_succ]))
  have hlen : path.length ≤ 1000 := by have := HP.out.2.2.2; omega
  have hCp := fun {w' : World} (hb : Below W1.heap.size W1 w') => (HP.out.1.below H1.out).below hb
  refine runSeq2_pairM (di := 26) (dj := 31) (fun v u w' => (Kd.int .i64).R 3 w' W1.heap.size (fun _ => True) v path ∧ ∃ bl, u = .slice (some ⟨bl, 0, none⟩) 1 1 ∧ w'.heap[bl]? = some (.cells #[.int .i64 (T.kids : Int)] 3 (0, 0))) (by decide) ?_ ?_ ?_
  · refine wpOp_at (by rfl) (by rfl) (fun K hK => ?_)
    go_simp
    refine (clonei_any A cp path _ ((hCp hs).C hlen) (fun e => by have h1 := HP.out.2.2.1 e; have h2 := HP.out.2.1; exact ⟨h1, List.eq_nil_of_length_eq_zero (by omega)⟩) hlen).mono ?_
    rintro e w1 ⟨v, rfl, hR, hb⟩
    have hs1 := hs.trans (hb.mono hs.size)
    refine hK _ _ ⟨v, rfl, hs1, ?_⟩
    clear hK K
    refine wpOp_at (by rfl) (by rfl) (fun K hK => ?_)
    go_simp
    exact hK _ _ ⟨_, rfl, hs1.alloc hs1.size _, Kd.R_lower (Kd.R_alloc hR _) hs.size, _, rfl, alloc_blk _ _⟩
  · refine wpOp_at (by rfl) (by rfl) (fun K hK => ?_)
    go_simp
    have hs1 := hs.alloc hs.size (.cells #[.int .i64 (T.kids : Int)] 3)
    refine hK _ _ ⟨_, rfl, hs1, ?_⟩
    clear hK K
    refine wpOp_at (by rfl) (by rfl) (fun K hK => ?_)
    go_simp
    refine (clonei_any A cp path _ ((hCp hs1).C hlen) (fun e => by have h1 := HP.out.2.2.1 e; have h2 := HP.out.2.1; exact ⟨h1, List.eq_nil_of_length_eq_zero (by omega)⟩) hlen).mono ?_
    rintro e w1 ⟨v, rfl, hR, hb⟩
    have ha := alloc_blk W1.drew (.cells #[.int .i64 (T.kids : Int)] 3)
    exact hK _ _ ⟨v, rfl, hs1.trans (hb.mono hs1.size), Kd.R_lower hR hs1.size, _, rfl, (hb.block _ (blk_lt ha)).trans ha⟩
  · rintro vv uu w3 hs3 ⟨hR3, bl, rfl, hbl⟩
    (try simp only [Act.put, List.setIfInBounds_toArray, List.set_cons_zero, List.set_cons_succ])
    refine runSeq2_op (by rfl) (by rfl) (fun K hK => ?_)
    refine wp_append_nums .i64 W1.heap.size rfl (.tmp 26) (.tmp 31) 47 3 8 rfl Try.underlying47 info3 (by decide) vv path [(T.kids : Int)] (some ⟨bl, 0, none⟩) 1 1 rfl rfl hR3 (reads_nums [(T.kids : Int)] hbl (by simp)) hs3.size (by omega) ?_
    intro v1 W3 hR4 hb4 hg4 hat4
    have hs4 := hs3.trans hb4
    refine hK _ _ hs4 ?_
    clear hK K hR3 hbl hs3 hb4 hg4 hat4 hs w3
    (try simp only [Act.put, List.setIfInBounds_toArray, List.set_cons_zero, List.set_cons_succ])
    obtain ⟨A', c', rfl⟩ := Kd.R_slice hR4
    have hpp := PathAt.of_R hR4 (by simp)
    refine runSeq2_op (by rfl) (by rfl) (fun K hK => ?_)
    go_simp
    refine hK _ _ hs4 ?_
    clear hK K
    refine runSeq2_nil ?_
    have hWs : Below W.heap.size W W3 := H1.out.trans (hs4.mono H1.out.size)
    have h3 := H.out.1.below hWs
    have h4 := h3.setKids (T.kids + 1) ((T.kids : Int) + 1) (by omega)
    have z19 := h3.frozen 19
    have t19 := h3.fix.2.2.2.1
    have H3 := Aside0.mk (And.intro hWs (And.intro h3 (And.intro h4 hpp)))
    have hkb : (T.kids : Int) < 1000000 := by have h1 := HG.out.2.2.2.1.kids; have h2 := HG.out.2.2.1.log; omega
    clear hR4 hs4 hpp hWs h3 h4 t0 t1 hCp
    go_wp2_with fail
    have hk4 : Keep (fun q => q = tb) W3 (W3.setCell ⟨tb, 19, none⟩ (.int .i64 ((T.kids : Int) + 1))) := (Keep.refl (fun q => q = tb) W3).set (p := ⟨tb, 19, none⟩) (.inr rfl) _
    have hE4 := (HG.out.2.1.below H3.out.1).task H3.out.2.1 HG.out.2.2.2.2.2.2 hk4
    have hbx4 : (W3.setCell ⟨tb, 19, none⟩ (.int .i64 ((T.kids : Int) + 1))).heap[w.heap.size]? = some (.cells #[.int .i64 x0, .int .i64 x1, .int .i64 b, .int .i64 f, .int .i64 x4] 55 (0, 0)) := hk4.blk ((H3.out.1.block _ (blk_lt HBX.out)).trans HBX.out) (fun e => by have h1 := H3.out.2.1.node; rw [← e, (H3.out.1.block _ (blk_lt HBX.out)).trans HBX.out] at h1; cases h1)
    have hp4 := hk4
    have hpath4 := H3.out.2.2.2.1.keep hk4 (fun q cs hq e2 => H3.out.2.1.notPath q cs hq (.inl e2))
    obtain ⟨W4, hW4⟩ : ∃ W4, W4 = W3.setCell ⟨tb, 19, none⟩ (.int .i64 ((T.kids : Int) + 1)) := ⟨_, rfl⟩
    have hT4 := H3.out.2.2.1
    rw [← hW4] at hk4 hE4 hbx4 hpath4 hT4 ⊢
    have H4 := Aside0.mk (And.intro hE4 (And.intro hbx4 (And.intro hT4 (And.intro hpath4 hk4))))
    have hfl : f < l.length := by have := HX.out.2; omega
    have hrd : rd_T58 l (f : Int) = l[f] := by simp [rd_T58, hfl]
    have har := (hl.fn f hfl).1
    have harb := HX.out.2.2.2
    rw [hrd] at harb
    have hargs : argsOf l ⟨x0, x1, b, f, x4⟩ T = (T.regs.drop b).take l[f].f0.toNat := by unfold argsOf; simp only [hrd]; rfl
    obtain ⟨ar, har2⟩ : ∃ ar : Nat, l[f].f0 = ar := ⟨l[f].f0.toNat, by omega⟩
    have HAR := Aside0.mk (And.intro hargs (And.intro har2 (And.intro hfl (And.intro hrd har))))
    obtain ⟨adp, Ai, ci, hap, p0, p1, hci, hCi⟩ := at_T58 hE4.code (f : Int) (by omega) (by omega)
    rw [hrd, Int.toNat_natCast] at p0
    rw [har2] at p0 harb
    have t0 := hT4.fix.1
    have q0 := blk_cell hE4.eg.node 0
    have c2 := blk_cell hbx4 2
    have c3 := blk_cell hbx4 3
    have hb8 : b < 8 := by have := HX.out.1; omega
    rw [hap] at q0
    have hfl2 : ((f : Int) < (l.length : Int)) = True := eq_true (by omega)
    clear hE4 hbx4 hpath4 hT4 hk4 hp4 hW4 p1 hci hCi hrd har har2 hargs z19 t19
    have hsl := slice_regs tb b ar hb8 (by omega)
    have hwr : IntKind.i64.wrap ((b : Int) + (ar : Int)) = (b : Int) + (ar : Int) := IntWalk.i64_in _ (by omega)
    go_quiet (fail)
    clear hsl hwr
    go_wp2_with fail
    have hs0 : Below W4.heap.size W4 (W4.drewN nq) := pw_below_drewN (Below.refl _ _) _
    obtain ⟨W5, hW5⟩ : ∃ W5, W5 = W4.drewN nq := ⟨_, rfl⟩
    rw [← hW5] at hs0 ⊢
    have HARG := HAR.out.1
    rw [HAR.out.2.1, Int.toNat_natCast] at HARG
    rw [HARG]
    obtain ⟨xs, hxs⟩ : ∃ xs, xs = (T.regs.drop b).take ar := ⟨_, rfl⟩
    have hxl : xs.length = ar := by rw [hxs]; exact (H.out.1.argsC b ar (by omega)).1
    obtain ⟨h0, h1, h2, h3, hh, q10, q11, q12, q13, q14, q15, q16, q17⟩ := (H4.out.2.2.1.below hs0).hand8
    replace hh : T.hands = [h0, h1, h2, h3] := hh
    rw [← hxs]
    obtain ⟨r, hr⟩ : ∃ r, r = beginP l c.budget c.depth k G f (path ++ [(T.kids : Int)]) xs T.hands := ⟨_, rfl⟩
    rw [← hr]
    have t0 := (H4.out.2.2.1.below hs0).fix.1
    have c3 := blk_cell ((hs0.block _ (blk_lt H4.out.2.1)).trans H4.out.2.1) 3
    have HRE := Aside0.mk (show beginP l c.budget c.depth k G f (path ++ [(T.kids : Int)]) (argsOf l ⟨x0, x1, b, f, x4⟩ T) T.hands = r from by rw [HARG, ← hxs]; exact hr.symm)
    have H5 := Aside0.mk (And.intro hs0 (And.intro hxl (And.intro hxs hr)))
    have HH := Aside0.mk hh
    clear hW5 hs0 hxl hxs hr hh HARG c2 p0 q0 hfl2 hap
    refine wp_region_seq2 (fun w' => Below W5.heap.size W5 w') [13, 14] [.take 0, .take 1, .take 2, .take 3, .take 4, .take 5, .take 6, .take 7, .take 9, .take 10, .take 11, .take 12, .op 8, .fin 13, .fin 14] (by kernel_rfl) (by kernel_rfl) rfl (by kernel_rfl) (panic_viaE (P := Try.prog) (fn := Try.f54) (R := KidP c l tb (.slice A path.length cp) vw me (PK c tb vt vl) T r w) (fun _ _ _ => rfl)) ?_
    have hs : Below W5.heap.size W5 W5.drew := (Below.refl _ _).drew
    have hmv : ∀ {w' : World} {p : Addr} {v : Value}, Below W5.heap.size W5 w' → W5.cell? p = some v → w'.cell? p = some v := fun hS hq => (hS.cell (World.block_lt_of_cell? W5 _ hq)).trans hq
    have HMV := Aside0.mk (And.intro t0 (And.intro c3 (And.intro q10 (And.intro q11 (And.intro q12 (And.intro q13 (And.intro q14 (And.intro q15 (And.intro q16 q17)))))))))
    clear t0 c3 q10 q11 q12 q13 q14 q15 q16 q17
    repeat (
      (first
        | (refine runSeq2_take (v := ?_) (by rfl) (by rfl) (fun w' hS => ?_) hs ?_
           rotate_left
           · (have u0 := hmv hS HMV.out.1; have u3 := hmv hS HMV.out.2.1; have u10 := hmv hS HMV.out.2.2.1; have u11 := hmv hS HMV.out.2.2.2.1; have u12 := hmv hS HMV.out.2.2.2.2.1; have u13 := hmv hS HMV.out.2.2.2.2.2.1; have u14 := hmv hS HMV.out.2.2.2.2.2.2.1; have u15 := hmv hS HMV.out.2.2.2.2.2.2.2.1; have u16 := hmv hS HMV.out.2.2.2.2.2.2.2.2.1; have u17 := hmv hS HMV.out.2.2.2.2.2.2.2.2.2; go_simp; exact rfl))
        | refine runSeq2_skip (by rfl) (by rfl) hs ?_)
      (try simp only [Act.put, List.setIfInBounds_toArray, List.set_cons_zero, List.set_cons_succ]))
    refine runSeq2_op (by rfl) (by rfl) (fun K hK => ?_)
    go_simp
    have hT5 := (H4.out.2.2.1.below H5.out.1).below hs
    have hC5 : (Kd.int .i64).C W5.drew (some ⟨tb, 2 + b, none⟩) xs.length xs := by have h9 := (hT5.argsC b ar (by omega)).2; rw [H5.out.2.2.1]; exact h9
    have hcl := clone64_any (some ⟨tb, 2 + b, none⟩) (8 - b) xs W5.drew hC5 (fun e => by cases e) (by have := H5.out.2.1; omega)
    rw [H5.out.2.1] at hcl
    refine hcl.mono ?_
    rintro e w6 ⟨v, rfl, hR6, hb6⟩
    have hs6 := hs.trans (hb6.mono hs.size)
    obtain ⟨Aa, ca, rfl⟩ := Kd.R_slice hR6
    obtain ⟨_, hca, hCa⟩ := Kd.R_reads' hR6
    refine hK _ _ hs6 ?_
    clear hK K hcl hC5 hT5 hR6 hb6 hs hmv
    have hES := (H4.out.1.below H5.out.1).below (hs6.mono (Nat.le_refl _))
    have hTB := (H4.out.2.2.1.below H5.out.1).below hs6
    have hti := HG.out.2.2.2.1
    have hcall := hB G ents vt vl w6 f A' c' (path ++ [(T.kids : Int)]) Aa ca xs T.hands hES HG.out.2.2.1 HG.out.2.2.2.2.1 HAR.out.2.2.1 ((H4.out.2.2.2.1.below H5.out.1).below hs6) H3.out.2.2.2.2.2.2 (fun e => absurd e H3.out.2.2.2.2.1) (by have h9 := HP.out.2.2.2; have h8 := HD3.out; rw [List.length_append]; simp; omega) (by rw [H5.out.2.1]; omega) hCa hca hti.hl HG.out.2.2.2.2.2.1
    rw [← H5.out.2.2.2, H5.out.2.1, List.length_append, show [(T.kids : Int)].length = 1 from rfl, HH.out] at hcall
    rw [H5.out.2.1]
    have HC := Aside0.mk hcall
    have H6 := Aside0.mk (And.intro hs6 (And.intro hES hTB))
    clear hcall hs6 hES hTB hti hca hCa
    (try simp only [Act.put, List.setIfInBounds_toArray, List.set_cons_zero, List.set_cons_succ])
    refine runSeq2_fin (by rfl) (by rfl) (fun K hK => ?_)
    go_simp
    refine HC.out.mono ?_
    rintro e w7 ⟨hend, hk7, ents', vt', vl', hE7, hq7⟩
    have hap := apart H6.out.2.1.eg H6.out.2.2
    have hT7 := H6.out.2.2.keep hk7 (fun q hq hp => hap q hp hq)
    have hsz : w.heap.size ≤ w6.heap.size := Nat.le_trans (Nat.le_trans H.out.2.size H3.out.1.size) (Nat.le_trans H4.out.2.2.2.2.size (Nat.le_trans H5.out.1.size H6.out.1.size))
    have hk3 : Keep (PK c tb vt vl) w W3 := (Keep.of_below H.out.2 _).trans (Keep.of_below H3.out.1 _)
    have hk4 : Keep (PK c tb vt vl) w W4 := hk3.trans (H4.out.2.2.2.2.mono (fun q _ h => .inr h))
    have hk6 : Keep (PK c tb vt vl) w w6 := (hk4.trans (Keep.of_below H5.out.1 _)).trans (Keep.of_below H6.out.1 _)
    have hkw : Keep (PK c tb vt vl) w w7 := hk6.trans (hk7.mono (fun q _ h => .inl h))
    have hqw : ∀ q, PG c.wb vt' vl' q → PK c tb vt vl q ∨ w.heap.size ≤ q := fun q hq => by
      rcases hq7 q hq with h9 | h9
      · exact .inl (.inl h9)
      · exact .inr (Nat.le_trans hsz h9)
    have H7 := Aside0.mk (And.intro hkw (And.intro hE7 (And.intro hT7 hqw)))
    clear hk7 hE7 hq7 hap hT7 hsz hk3 hk4 hk6 hkw hqw HC
    obtain ⟨o, G2⟩ := r
    cases o with
    | val v =>
      have hend : e = .returned (.int .i64 v) := hend
      subst hend
      refine hK _ _ ?_
      clear hK K
      (try simp only [Act.put, List.setIfInBounds_toArray, List.set_cons_zero, List.set_cons_succ])
      refine runSeq2_fin (by rfl) (by rfl) (fun K hK => ?_)
      go_simp
      refine hK _ _ ?_
      clear hK K
      refine runSeq2_nil ?_
      go_wp2_with fail
      go_ret
      rw [HRE.out]
      exact ⟨rfl, H7.out.1, ents', vt', vl', H7.out.2.1, H7.out.2.2.1, H7.out.2.2.2⟩
    | fail why =>
      have hend : e = .panicked [{ v := failV why, recovered := false }] := hend
      subst hend
      exact ⟨rfl, rfl, H7.out.1, ents', vt', vl', H7.out.2.1, H7.out.2.2.2⟩
    | long =>
      have hend : e = .panicked [{ v := longV, recovered := false }] := hend
      subst hend
      exact ⟨rfl, rfl, H7.out.1, ents', vt', vl', H7.out.2.1, H7.out.2.2.2⟩
end
end Go.Proofs.Ytnhipdniceoigaa.H
