/- A task's beginning. -/
import Derived.Test.YtnhipdniceoigaaEvR
import Derived.Laws.CopyOwn
set_option linter.unusedVariables false
set_option linter.unusedSimpArgs false
namespace Go.Proofs.Ytnhipdniceoigaa.H
open Go.RowKit Go.Hay Go.Proofs.YtnhipdniceoigaaW.PrintWords Go.Proofs.YtnhipdniceoigaaW.PrintLast Go.Proofs.YtnhipdniceoigaaW.PrintMore
theorem slice_regs_all (tb : Nat) (w : World) : (Instr.sliceAt 94 (.pointer (some ⟨tb, 2, none⟩)) none none none).run Try.prog w = .ok (.slice (some ⟨tb, 2, none⟩) 8 8) w := by
  have hal : Try.prog.arrayLen 94 = 8 := by kernel_rfl
  have hel : Try.prog.elem 94 = 2 := by kernel_rfl
  have ht : Try.prog.underlying 94 = some (.array (Try.prog.arrayLen 94) (Try.prog.elem 94)) := by rw [hal, hel]; exact Try.underlying94
  have hsz : ∀ w, (sizeOf 2).run Try.prog w = .ok 1 w := fun _ => by kernel_rfl
  rw [run_sliceAt_array_all w 94 ⟨tb, 2, none⟩ ht, hal, hel, hsz]
  rfl
theorem splice_regs (p v : Value) (rest : List Value) (args : List Int) (h : args.length ≤ 8) :
    splice ([p, v] ++ ((List.replicate 8 (0 : Int)).map (Value.int .i64) ++ rest)) 2 (args.map (Value.int .i64)) = [p, v] ++ ((newRegs args).map (Value.int .i64) ++ rest) := by
  obtain ⟨n, hn⟩ : ∃ n, n = args.length := ⟨_, rfl⟩
  have e1 : args.take 8 = args := List.take_of_length_le h
  unfold splice newRegs
  rw [e1, List.length_map, List.map_append, ← hn]
  have e2 : ([p, v] ++ ((List.replicate 8 (0 : Int)).map (Value.int .i64) ++ rest)).take 2 = [p, v] := rfl
  have e3 : ([p, v] ++ ((List.replicate 8 (0 : Int)).map (Value.int .i64) ++ rest)).drop (2 + n) = (List.replicate (8 - n) (0 : Int)).map (Value.int .i64) ++ rest := by
    have : ([p, v] ++ ((List.replicate 8 (0 : Int)).map (Value.int .i64) ++ rest)).drop (2 + n) = ((List.replicate 8 (0 : Int)).map (Value.int .i64) ++ rest).drop n := by
      rw [Nat.add_comm]; rfl
    rw [this, List.drop_append_of_le_length (by simp; omega), ← List.map_drop, List.drop_replicate]
  rw [e2, e3, List.append_assoc]
theorem args_cells {w : World} {A : Option Addr} {xs : List Int} (h : (Kd.int .i64).C w A xs.length xs) (hx : 0 < xs.length) : ∃ ad, A = some ad ∧ ∀ j v, (xs.map (Value.int .i64))[j]? = some v → w.cell? (ad.add j) = some v := by
  obtain ⟨_, _, h3⟩ := h
  obtain ⟨ad, e, h4⟩ := h3 hx
  refine ⟨ad, e, fun j v hj => ?_⟩
  rw [List.getElem?_map] at hj
  cases hp : xs[j]? with
  | none => rw [hp] at hj; cases hj
  | some p =>
    rw [hp] at hj
    cases hj
    obtain ⟨cs, h5, h6, h7⟩ := h4 j p hp
    have h6 : cs = [.int .i64 p] := h6
    subst h6
    have := h7 0 _ rfl
    have e2 : j * (Kd.int .i64).sz + 0 = j := Nat.mul_one j
    rwa [e2] at this
/-- a task's block, newly filled. -/
theorem TB.fresh {tb wb me B : Nat} {vp : Value} {args : List Int} {hands : List (Bool × Int)} {w : World} (h : w.heap[tb]? = some (.cells (splice (tcells wb vp (newTask [] hands) (.slice none 0 0) me) 2 (args.map (Value.int .i64))).toArray 97 (0, 0))) (ha : args.length ≤ 8) (hh : hands.length = 4) : TB tb wb vp (newTask args hands) (.slice none 0 0) me B w := by
  have e : splice (tcells wb vp (newTask [] hands) (.slice none 0 0) me) 2 (args.map (Value.int .i64)) = tcells wb vp (newTask args hands) (.slice none 0 0) me := splice_regs _ _ _ args ha
  rw [e] at h
  exact ⟨h, Kd.R_nil _ _ _ _ _, newRegs_len ha, hh⟩
section
variable {c : Cn} {l : List S58} {M k : Nat}
theorem note_any {G : Gs} {ents : List Ent} {vt vl v9 vp vw : Value} {w W w9 : World} {T : Ts} {tb me cp : Nat} {A : Option Addr} {path : List Int} (hg : ES c l G ents vt vl w) (hb : Below w.heap.size w W) (hR : kEnt.R 49 w9 c.B (fun _ => True) v9 (ents ++ [⟨A, path.length, cp, 0⟩])) (hgr : W.grownBy w9 vl.ownBlock) (hat : v9.ownBlock = vl.ownBlock ∨ ∃ q, v9.ownBlock = some q ∧ W.heap.size ≤ q)
    (hp : PathAt w A path) (hcp : path.length ≤ cp) (hpl : path.length ≤ 1000) (ht : TB tb c.wb vp T vw me c.B W) (hwt : w.heap.size ≤ tb) (hvw : vw.ownBlock = none) :
    ES c l { G with log := G.log ++ [(path, 0)] } (ents ++ [⟨A, path.length, cp, 0⟩]) vt v9 (w9.setCell ⟨c.wb, 7, none⟩ v9) ∧ Keep (PG c.wb vt vl) w (w9.setCell ⟨c.wb, 7, none⟩ v9) ∧ (∀ q, PG c.wb vt v9 q → PG c.wb vt vl q ∨ w.heap.size ≤ q) ∧ w9.heap[c.wb]? = w.heap[c.wb]? ∧ TB tb c.wb vp T vw me c.B (w9.setCell ⟨c.wb, 7, none⟩ v9) := by
  obtain ⟨h1, h2, h3, h4⟩ := hg.eg.note hb hR ⟨rfl, rfl, hcp, hpl, hp⟩ hgr hat
  refine ⟨hg.turn h1 h2 (fun q hq e => by have := hg.pLo q e; omega), h2, h3, h4, ?_⟩
  have hk : Keep (fun q => some q = vl.ownBlock ∨ q = c.wb) W (w9.setCell ⟨c.wb, 7, none⟩ v9) := ((Keep.grown hgr).mono (T := fun q => some q = vl.ownBlock ∨ q = c.wb) (fun q _ e => .inl e)).set (p := ⟨c.wb, 7, none⟩) (.inr (.inr rfl)) _
  refine ht.keep hk (fun q hq hs => ?_)
  have hq2 : w.heap.size ≤ q := by
    rcases hq with rfl | hq
    · exact hwt
    · rw [hvw] at hq; cases hq
  rcases hs with e | e
  · have := (R_own hg.eg.log q e.symm).2.2; omega
  · have := blk_lt hg.eg.node; omega
/-- the entry is appended. -/
theorem wpList_note {ops : Array Oper} {rest : List Oper} {o : Oper} {a : Act} {Q : Exit → Act → World → Prop} (hgd : o.guard = none) (s x : Operand)
    (ho : o.op = .call { callee := .builtin .append, args := #[s, x], argTypes := #[28, 28] })
    {G : Gs} {ents : List Ent} {vt vp vw : Value} {w W3 : World} {T : Ts} {tb me cp cl m : Nat} {A Al : Option Addr} {path : List Int} (hg : ES c l G ents vt (.slice Al ents.length cl) w) (hb : Below w.heap.size w W3) (hl : (ents.length + 1) * 32 ≤ 140737488355328)
    (hp : PathAt w A path) (hcp : path.length ≤ cp) (hpl : path.length ≤ 1000) (ht : TB tb c.wb vp T vw me c.B W3) (hwt : w.heap.size ≤ tb) (hvw : vw.ownBlock = none)
    (hs : a.eval s = .slice Al ents.length cl) (hx : a.eval x = .slice (some ⟨W3.heap.size, 0, none⟩) 1 m)
    (h : ∀ A9 L9 c9 w9, (ES c l { G with log := G.log ++ [(path, 0)] } (ents ++ [⟨A, path.length, cp, 0⟩]) vt (.slice A9 L9 c9) (w9.setCell ⟨c.wb, 7, none⟩ (.slice A9 L9 c9)) ∧ Keep (PG c.wb vt (.slice Al ents.length cl)) w (w9.setCell ⟨c.wb, 7, none⟩ (.slice A9 L9 c9)) ∧ (∀ q, PG c.wb vt (.slice A9 L9 c9) q → PG c.wb vt (.slice Al ents.length cl) q ∨ w.heap.size ≤ q) ∧ w9.heap[c.wb]? = w.heap[c.wb]? ∧ TB tb c.wb vp T vw me c.B (w9.setCell ⟨c.wb, 7, none⟩ (.slice A9 L9 c9))) → wpList Try.prog ops Q rest (a.put o.dst (.slice A9 L9 c9)) w9) :
    wpList Try.prog ops Q (o :: rest) a (W3.alloc (.cells #[.slice A path.length cp, .int .i64 0] 49)) := by
  have hba : Below W3.heap.size W3 (W3.alloc (.cells #[.slice A path.length cp, .int .i64 0] 49)) := (Below.refl _ _).alloc (Nat.le_refl _) _
  have hlog := ((hg.below hb).below hba).eg.log
  have hbase : c.B ≤ (W3.alloc (.cells #[.slice A path.length cp, .int .i64 0] 49)).heap.size := by
    have h1 : c.B ≤ w.heap.size := Nat.le_trans hg.eg.lo (Nat.le_of_lt (blk_lt hg.eg.node))
    exact Nat.le_trans (Nat.le_trans h1 hb.size) hba.size
  refine wpList_plain hgd (fun K hK => ?_)
  refine wp_append_rows kEnt (Rr := kEnt.M (W3.alloc (.cells #[.slice A path.length cp, .int .i64 0] 49)) c.B (fun _ => False)) c.B hgd s x 28 49 (.agg #[.slice none 0 0, .int .i64 0]) 32 ho Try.underlying28 info49 rfl (by decide) (by decide) (.slice Al ents.length cl) ents [⟨A, path.length, cp, 0⟩] _ _ _ (fun _ => True) (fun _ => False) hs hx hlog (reads_one (alloc_blk _ _) (kEnt_mkM _ _ _ ⟨A, path.length, cp, 0⟩)) (fun _ _ h => h) (fun _ h => h.elim) (fun _ _ => trivial) hbase hl ?_
  intro v9 w9 hR9 hbw hgr hat
  have HN := note_any (tb := tb) (me := me) hg (hb.alloc hb.size _) hR9 hgr hat hp hcp hpl (ht.below hba) hwt hvw
  obtain ⟨A9, c9, rfl⟩ := Kd.R_slice hR9
  exact hK _ _ (h A9 _ c9 w9 HN)
set_option maxRecDepth 100000 in
set_option maxHeartbeats 8000000 in
theorem begin_any (hl : POk l) (hM : M ≤ 1000000) (hdp : c.depth ≤ 900) (hb : 0 ≤ c.budget ∧ c.budget ≤ 1000000) (hB : ∀ j, j < k → BeginC c l M j) : BeginC c l M k := by
  intro G ents vt vl w f A cpath path Aa ca args hands hg hgi hleft hf hp hcp hcn hpd hal haC hac hhl hk
  obtain ⟨h0, h1, h2, h3, rfl⟩ := four hhl
  obtain ⟨Al, cl, rfl⟩ := Kd.R_slice hg.eg.log
  obtain ⟨r, hr⟩ : ∃ r, r = beginP l c.budget c.depth k G f path args [h0, h1, h2, h3] := ⟨_, rfl⟩
  rw [← hr]
  obtain ⟨W, hW⟩ : ∃ W, W = w.alloc (.cells #[.bool h0.1, .int .i64 h0.2, .bool h1.1, .int .i64 h1.2, .bool h2.1, .int .i64 h2.2, .bool h3.1, .int .i64 h3.2] 79) := ⟨_, rfl⟩
  have hb1 : Below w.heap.size w W := by rw [hW]; exact (Below.refl w.heap.size w).alloc (Nat.le_refl _) _
  have hbx : W.heap[w.heap.size]? = some (.cells #[.bool h0.1, .int .i64 h0.2, .bool h1.1, .int .i64 h1.2, .bool h2.1, .int .i64 h2.2, .bool h3.1, .int .i64 h3.2] 79 (0, 0)) := by rw [hW]; exact alloc_blk w _
  have hlen : ents.length = G.log.length := hg.eg.ok.1
  have HLEN := Aside0.mk hlen
  clear hlen
  have HW := Aside0.mk hW
  have H1 := Aside0.mk (And.intro hb1 hbx)
  have H0 := Aside0.mk (And.intro hg (And.intro hgi (And.intro hleft (And.intro hf (And.intro hp (And.intro hcp (And.intro hcn (And.intro hpd (And.intro hal (And.intro haC (And.intro hac (And.intro hk hr))))))))))))
  have HF := Aside0.mk (And.intro hl (And.intro hM (And.intro hdp (And.intro hb hB))))
  have hE1 := hg.below hb1
  have q7 := blk_cell hE1.eg.node 7
  have x0 := blk_cell hbx 0
  have x1 := blk_cell hbx 1
  have x2 := blk_cell hbx 2
  have x3 := blk_cell hbx 3
  have x4 := blk_cell hbx 4
  have x5 := blk_cell hbx 5
  have x6 := blk_cell hbx 6
  have x7 := blk_cell hbx 7
  clear hg hgi hleft hf hp hcp hcn hpd hal haC hac hk hr hl hM hdp hb hB hW hb1 hbx hE1 hhl
  unfold hcells
  simp only [List.flatMap_cons, List.flatMap_nil, List.cons_append, List.nil_append, List.append_nil]
  go_enter Try.func23, Try.ntmps23
  go_wp2_with fail
  rw [← HW.out]
  have HMV := Aside0.mk (And.intro q7 (And.intro x0 (And.intro x1 (And.intro x2 (And.intro x3 (And.intro x4 (And.intro x5 (And.intro x6 x7))))))))
  clear q7 x0 x1 x2 x3 x4 x5 x6 x7
  refine wp_region_seq2 (fun w' => Below W.heap.size W w') [] [.take 0, .take 1, .take 2, .take 3, .take 4, .take 5, .take 6, .take 7, .take 8, .op 9, .op 10, .op 11] (by kernel_rfl) (by kernel_rfl) rfl (by kernel_rfl) (panic_viaE (P := Try.prog) (fn := Try.f23) (R := EndP c l (PG c.wb vt (.slice Al ents.length cl)) r.1 r.2 w) (fun _ _ _ => rfl)) ?_
  have hs : Below W.heap.size W W.drew := (Below.refl _ _).drew
  have hmv : ∀ {w' : World} {p : Addr} {v : Value}, Below W.heap.size W w' → W.cell? p = some v → w'.cell? p = some v := fun hS hq => (hS.cell (World.block_lt_of_cell? W _ hq)).trans hq
  repeat (
    (first
      | (refine runSeq2_take (v := ?_) (by rfl) (by rfl) (fun w' hS => ?_) hs ?_
         rotate_left
         · (have u7 := hmv hS HMV.out.1; have y0 := hmv hS HMV.out.2.1; have y1 := hmv hS HMV.out.2.2.1; have y2 := hmv hS HMV.out.2.2.2.1; have y3 := hmv hS HMV.out.2.2.2.2.1; have y4 := hmv hS HMV.out.2.2.2.2.2.1; have y5 := hmv hS HMV.out.2.2.2.2.2.2.1; have y6 := hmv hS HMV.out.2.2.2.2.2.2.2.1; have y7 := hmv hS HMV.out.2.2.2.2.2.2.2.2; go_simp; exact rfl))
      | refine runSeq2_skip (by rfl) (by rfl) hs ?_)
    (try simp only [Act.put, List.setIfInBounds_toArray, List.set_cons_zero, List.set_cons_succ]))
  clear hmv
  refine runSeq2_op (by rfl) (by rfl) (fun K hK => ?_)
  go_simp
  refine hK _ _ hs ?_
  clear hK K
  refine runSeq2_op (by rfl) (by rfl) (fun K hK => ?_)
  go_simp
  obtain ⟨tb, htb⟩ : ∃ tb, tb = W.heap.size := ⟨_, rfl⟩
  rw [← htb]
  obtain ⟨W2, hW2⟩ : ∃ W2, W2 = (W.alloc (.cells #[.pointer (some ⟨c.wb, 0, none⟩), .slice A path.length cpath, .int .i64 0, .int .i64 0, .int .i64 0, .int .i64 0, .int .i64 0, .int .i64 0, .int .i64 0, .int .i64 0, .bool h0.1, .int .i64 h0.2, .bool h1.1, .int .i64 h1.2, .bool h2.1, .int .i64 h2.2, .bool h3.1, .int .i64 h3.2, .slice none 0 0, .int .i64 0, .int .i64 0, .int .i64 ents.length] 97)).drew := ⟨_, rfl⟩
  have hs2 : Below W.heap.size W W2 := by rw [hW2]; exact ((Below.refl W.heap.size W).alloc (Nat.le_refl _) _).drew
  have hb2 : Below w.heap.size w W2 := H1.out.1.trans (hs2.mono H1.out.1.size)
  have hn2 : W2.heap[tb]? = some (.cells (tcells c.wb (.slice A path.length cpath) (newTask [] [h0, h1, h2, h3]) (.slice none 0 0) G.log.length).toArray 97 (0, 0)) := by rw [hW2, htb, ← HLEN.out]; exact alloc_blk W _
  have hwt : w.heap.size ≤ tb := by rw [htb]; exact H1.out.1.size
  rw [← hW2]
  refine hK _ _ hs2 ?_
  clear hK K hs hW2 htb
  (try simp only [Act.put, List.setIfInBounds_toArray, List.set_cons_zero, List.set_cons_succ])
  refine runSeq2_op (by rfl) (by rfl) (fun K hK => ?_)
  go_simp
  refine hK _ _ hs2 ?_
  clear hK K
  refine runSeq2_nil ?_
  have H2 := Aside0.mk (And.intro hb2 (And.intro hn2 hwt))
  clear hs2 hb2 hn2 hwt
  have hsl := slice_regs_all tb
  have LEN := Aside0.mk (show (ents.length + 1) * 32 ≤ 140737488355328 from by have h1 := H0.out.2.2.1; have h2 := HF.out.2.1; have h3 := HLEN.out; omega)
  have LEN2 := Aside0.mk (show path.length ≤ 1000 from by have h1 := H0.out.2.2.2.2.2.2.2.1; have h2 := HF.out.2.2.1; omega)
  obtain ⟨cs, hcs⟩ : ∃ cs, cs = args.map (Value.int .i64) := ⟨_, rfl⟩
  have hcl : cs.length = args.length := by rw [hcs, List.length_map]
  have HCS := Aside0.mk (And.intro hcs hcl)
  clear hcs hcl
  have hs1 : 0 < cs.length → some (⟨tb, 2, none⟩ : Addr) = some ⟨tb, 2, none⟩ ∧ ∃ ad, Aa = some ad ∧ ∀ j v, cs[j]? = some v → W2.cell? (ad.add j) = some v := by
    intro hp
    rw [HCS.out.2] at hp
    obtain ⟨ad, e, h⟩ := args_cells (Kd.C_below H0.out.2.2.2.2.2.2.2.2.2.1 H2.out.1) hp
    rw [← HCS.out.1] at h
    exact ⟨rfl, ad, e, h⟩
  have hs2 : 2 + cs.length ≤ (tcells c.wb (.slice A path.length cpath) (newTask [] [h0, h1, h2, h3]) (.slice none 0 0) G.log.length).length := by
    have h9 : (tcells c.wb (.slice A path.length cpath) (newTask [] [h0, h1, h2, h3]) (.slice none 0 0) G.log.length).length = 22 := rfl
    have h8 := H0.out.2.2.2.2.2.2.2.2.1
    rw [h9, HCS.out.2]; omega
  have hs3 : ∀ v ∈ cs, v.oneCell' = true := by
    intro v hv
    rw [HCS.out.1] at hv
    obtain ⟨x, _, rfl⟩ := List.mem_map.1 hv
    rfl
  have hs0 : cs.length = Nat.min args.length 8 := by rw [HCS.out.2]; exact (Nat.min_eq_left H0.out.2.2.2.2.2.2.2.2.1).symm
  have HS := Aside0.mk (And.intro hs0 (And.intro hs1 (And.intro hs2 hs3)))
  clear hs0 hs1 hs2 hs3
  go_upto_region 4 with (first | (refine wpList_copy_splice rfl (.tmp 26) (.tmp 27) 23 23 rfl 2 Try.underlying23 (by kernel_rfl) (some ⟨tb, 2, none⟩) Aa 8 8 args.length ca rfl rfl tb 2 (tcells c.wb (.slice A path.length cpath) (newTask [] [h0, h1, h2, h3]) (.slice none 0 0) G.log.length) 97 H2.out.2.1 cs HS.out.1 HS.out.2.1 HS.out.2.2.1 HS.out.2.2.2 w.heap.size w H2.out.1 H2.out.2.2 ?_; intro W3 hn3 hb3; have hn3 := hn3.out; rw [HCS.out.1] at hn3; have HT3 := Aside0.mk (And.intro (TB.fresh (B := c.B) hn3 H0.out.2.2.2.2.2.2.2.2.1 rfl) hb3); have q7 := blk_cell (H0.out.1.below hb3).eg.node 7; clear hn3 hb3) | (at_builtin; refine wpList_note (m := 1) (by rfl) (.tmp 34) (.tmp 37) (by rfl) H0.out.1 HT3.out.2 LEN.out H0.out.2.2.2.2.1 H0.out.2.2.2.2.2.1 LEN2.out HT3.out.1 H2.out.2.2 rfl (by rfl) (by rfl) ?_; intro A9 L9 c9 w9 HN; have HN := Aside0.mk HN; clear q7; have q7 := (World.cell?_of_block (a := ⟨c.wb, 7, none⟩) HN.out.2.2.2.1).trans (blk_cell H0.out.1.eg.node 7); have z7 := blk_frozen (HN.out.2.2.2.1.trans H0.out.1.eg.node) 7) | fail)
  obtain ⟨W8, hW8⟩ : ∃ W8, W8 = w9.setCell ⟨c.wb, 7, none⟩ (.slice A9 L9 c9) := ⟨_, rfl⟩
  have hN := HN.out
  rw [← hW8] at hN ⊢
  obtain ⟨hE8, hK8, hP8, _, hT8⟩ := hN
  have hf := H0.out.2.2.2.1
  have hrd : rd_T58 l (f : Int) = l[f] := by simp [rd_T58, hf]
  obtain ⟨adp, Ai, ci, hap, p0, p1, hci, hCi⟩ := at_T58 hE8.pr (f : Int) (by omega) (by omega)
  rw [hrd] at p0 p1 hci hCi
  rw [Int.toNat_natCast] at p1
  replace p1 := (hE8.bl.cell (World.block_lt_of_cell? _ _ p1)).trans p1
  have q0 := blk_cell hE8.eg.node 0
  have hfl2 : ((f : Int) < (l.length : Nat)) = True := eq_true (by omega)
  rw [hap] at q0
  have hbi := begin_inv HF.out.1 HF.out.2.2.2.1.1 H0.out.2.1 H0.out.2.2.1 f hf (path := path) (depth := c.depth) H0.out.2.2.2.2.2.2.2.1 args H0.out.2.2.2.2.2.2.2.2.1 [h0, h1, h2, h3] rfl
  have hRn : Rn c l M tb A cpath path f l[f].f1 Ai ci G.log.length := ⟨HF.out.1, Nat.le_trans H0.out.1.bl.size H2.out.2.2, HF.out.2.1, HF.out.2.2.1, HF.out.2.2.2.1, H0.out.2.2.2.2.2.1, H0.out.2.2.2.2.2.2.1, ⟨hf, rfl⟩, hCi, hci⟩
  have hrun := run_any (k := k) hRn HF.out.2.2.2.2 hE8 hT8 hbi.1 hbi.2 H0.out.2.2.2.2.2.2.2.2.2.2.2.1 (H0.out.2.2.2.2.1.keep hK8 (fun q cs hq hp => H0.out.1.eg.notPath q cs hq hp))
  have hre := H0.out.2.2.2.2.2.2.2.2.2.2.2.2
  unfold beginP at hre
  rw [hrd] at hre
  rw [← hre] at hrun
  have HR := Aside0.mk hrun
  have H8 := Aside0.mk (And.intro hE8 (And.intro hK8 (And.intro hP8 hT8)))
  clear hrun hre hRn hbi hE8 hK8 hP8 hT8 hW8 hrd p0 hci hCi hap q7 z7
  go_wp2_with fail
  refine HR.out.mono ?_
  intro e w' hpost
  have hfin : EndP c l (PG c.wb vt (.slice Al ents.length cl)) r.1 r.2 w e w' := by
    obtain ⟨he, hk9, ents', vt', vl', hE', hq'⟩ := hpost
    obtain ⟨hE8, hK8, hP8, hT8⟩ := H8.out
    have hPA : ∀ q, PA c tb vt (.slice A9 L9 c9) (.slice none 0 0) q → PG c.wb vt (.slice Al ents.length cl) q ∨ w.heap.size ≤ q := by
      intro q hq
      rcases hq with hq | hq | hq
      · exact hP8 q hq
      · rw [hq]; exact .inr H2.out.2.2
      · cases hq
    exact ⟨he, hK8.then hk9 (fun q hq hp => (hPA q hp).elim id (fun h => absurd hq (by omega))), ents', vt', vl', hE', fun q hq => (hq' q hq).elim (hPA q) (fun h => .inr (Nat.le_trans hK8.size h))⟩
  have hends : ends r.1 e := hfin.1
  have HFIN := Aside0.mk hfin
  clear hpost hfin
  obtain ⟨o, G'⟩ := r
  cases o with
  | val v =>
    have he : e = .returned (.int .i64 v) := hends
    clear hends
    subst he
    go_wp2_with fail
    go_ret
    exact HFIN.out
  | fail why =>
    have he : e = .panicked [{ v := failV why, recovered := false }] := hends
    clear hends
    subst he
    exact ⟨rfl, HFIN.out⟩
  | long =>
    have he : e = .panicked [{ v := longV, recovered := false }] := hends
    clear hends
    subst he
    exact ⟨rfl, HFIN.out⟩
/-- every task's beginning, at any fuel. -/
theorem begin_all (hl : POk l) (hM : M ≤ 1000000) (hdp : c.depth ≤ 900) (hb : 0 ≤ c.budget ∧ c.budget ≤ 1000000) : ∀ k, BeginC c l M k := by
  intro k
  induction k using Nat.strongRecOn with
  | _ k ih => exact begin_any hl hM hdp hb ih
end
end Go.Proofs.Ytnhipdniceoigaa.H
