/- What the proof of UnfoldCovers stands on, part 7: this session's own texts and the words that the kit's print lays, those that are used. -/
import Derived.Test.YtbekjccehhaljaaZUnfoldCovers6
import Derived.Laws.CopyOwn
set_option linter.unusedVariables false
set_option linter.unusedSimpArgs false
namespace Go.Proofs.Ytbekjccehhaljaa.H
open Go.RowKit Go.Hay Go.Proofs.YtbekjccehhaljaaW.PrintWords Go.Proofs.YtbekjccehhaljaaW.PrintLast Go.Proofs.YtbekjccehhaljaaW.PrintMore
theorem slice_regs_all (tb : Nat) (w : World) : (Instr.sliceAt 122 (.pointer (some ⟨tb, 2, none⟩)) none none none).run Try.prog w = .ok (.slice (some ⟨tb, 2, none⟩) 8 8) w := by
  have hal : Try.prog.arrayLen 122 = 8 := by kernel_rfl
  have hel : Try.prog.elem 122 = 2 := by kernel_rfl
  have ht : Try.prog.underlying 122 = some (.array (Try.prog.arrayLen 122) (Try.prog.elem 122)) := by rw [hal, hel]; exact Try.underlying122
  have hsz : ∀ w, (sizeOf 2).run Try.prog w = .ok 1 w := fun _ => by kernel_rfl
  rw [run_sliceAt_array_all w 122 ⟨tb, 2, none⟩ ht, hal, hel, hsz]
  rfl
theorem splice_regs (p v : Value) (rest : List Value) (args : List Int) (h : args.length ≤ 8) :
    splice ([p, v] ++ ((List.replicate 8 (0 : Int)).map (Value.int .i64) ++ rest)) 2 (args.map (Value.int .i64)) = [p, v] ++ ((newRegs args).map (Value.int .i64) ++ rest) := by
  obtain ⟨n, hn⟩ : ∃ n, n = args.length := ⟨_, rfl⟩
  have e1 : args.take 8 = args := List.take_of_length_le h
  unfold splice newRegs
  rw [e1, List.length_map, List.map_append, ← hn]
  have e2 : ([p, v] ++ ((List.replicate 8 (0 : Int)).map (Value.int .i64) ++ rest)).take 2 = [p, v] := rfl
  have e3 : ([p, v] ++ ((List.replicate 8 (0 : Int)).map (Value.int .i64) ++ rest)).drop (2 + n) = (List.replicate (8 - n) (0 : Int)).map (Value.int .i64) ++ rest := by
    have : ([p, v] ++ ((List.replicate 8 (0 : Int)).map (Value.int .i64) ++ rest)).drop (2 + n) = ((List.replicate 8 (0 : Int)).map (Value.int .i64) ++ rest).drop n := by
      rw [Nat.add_comm]; rfl
    rw [this, List.drop_append_of_le_length (by simp; omega), ← List.map_drop, List.drop_replicate]
  rw [e2, e3, List.append_assoc]
theorem args_cells {w : World} {A : Option Addr} {xs : List Int} (h : (Kd.int .i64).C w A xs.length xs) (hx : 0 < xs.length) : ∃ ad, A = some ad ∧ ∀ j v, (xs.map (Value.int .i64))[j]? = some v → w.cell? (ad.add j) = some v := by
  obtain ⟨_, _, h3⟩ := h
  obtain ⟨ad, e, h4⟩ := h3 hx
  refine ⟨ad, e, fun j v hj => ?_⟩
  rw [List.getElem?_map] at hj
  cases hp : xs[j]? with
  | none => rw [hp] at hj; cases hj
  | some p =>
    rw [hp] at hj
    cases hj
    obtain ⟨cs, h5, h6, h7⟩ := h4 j p hp
    have h6 : cs = [.int .i64 p] := h6
    subst h6
    have := h7 0 _ rfl
    have e2 : j * (Kd.int .i64).sz + 0 = j := Nat.mul_one j
    rwa [e2] at this
/-- a task's block, newly filled. -/
theorem TB.fresh {tb wb me B : Nat} {vp : Value} {args : List Int} {hands : List (Bool × Int)} {w : World} (h : w.heap[tb]? = some (.cells (splice (tcells wb vp (newTask [] hands) (.slice none 0 0) me) 2 (args.map (Value.int .i64))).toArray 143 (0, 0))) (ha : args.length ≤ 8) (hh : hands.length = 4) : TB tb wb vp (newTask args hands) (.slice none 0 0) me B w := by
  have e : splice (tcells wb vp (newTask [] hands) (.slice none 0 0) me) 2 (args.map (Value.int .i64)) = tcells wb vp (newTask args hands) (.slice none 0 0) me := splice_regs _ _ _ args ha
  rw [e] at h
  exact ⟨h, Kd.R_nil _ _ _ _ _, newRegs_len ha, hh⟩
section
variable {c : Cn} {l : List S64} {M k : Nat}
theorem note_any {G : Gs} {ents : List Ent} {vt vl v9 vp vw : Value} {w W w9 : World} {T : Ts} {tb me cp : Nat} {A : Option Addr} {path : List Int} (hg : ES c l G ents vt vl w) (hb : Below w.heap.size w W) (hR : kEnt.R 54 w9 c.B (fun _ => True) v9 (ents ++ [⟨A, path.length, cp, 0⟩])) (hgr : W.grownBy w9 vl.ownBlock) (hat : v9.ownBlock = vl.ownBlock ∨ ∃ q, v9.ownBlock = some q ∧ W.heap.size ≤ q)
    (hp : PathAt w A path) (hcp : path.length ≤ cp) (hpl : path.length ≤ 1000) (ht : TB tb c.wb vp T vw me c.B W) (hwt : w.heap.size ≤ tb) (hvw : vw.ownBlock = none) :
    ES c l { G with log := G.log ++ [(path, 0)] } (ents ++ [⟨A, path.length, cp, 0⟩]) vt v9 (w9.setCell ⟨c.wb, 7, none⟩ v9) ∧ Keep (PG c.wb vt vl) w (w9.setCell ⟨c.wb, 7, none⟩ v9) ∧ (∀ q, PG c.wb vt v9 q → PG c.wb vt vl q ∨ w.heap.size ≤ q) ∧ w9.heap[c.wb]? = w.heap[c.wb]? ∧ TB tb c.wb vp T vw me c.B (w9.setCell ⟨c.wb, 7, none⟩ v9) := by
  obtain ⟨h1, h2, h3, h4⟩ := hg.eg.note hb hR ⟨rfl, rfl, hcp, hpl, hp⟩ hgr hat
  refine ⟨hg.turn h1 h2 (fun q hq e => by have := hg.pLo q e; omega), h2, h3, h4, ?_⟩
  have hk : Keep (fun q => some q = vl.ownBlock ∨ q = c.wb) W (w9.setCell ⟨c.wb, 7, none⟩ v9) := ((Keep.grown hgr).mono (T := fun q => some q = vl.ownBlock ∨ q = c.wb) (fun q _ e => .inl e)).set (p := ⟨c.wb, 7, none⟩) (.inr (.inr rfl)) _
  refine ht.keep hk (fun q hq hs => ?_)
  have hq2 : w.heap.size ≤ q := by
    rcases hq with rfl | hq
    · exact hwt
    · rw [hvw] at hq; cases hq
  rcases hs with e | e
  · have := (R_own hg.eg.log q e.symm).2.2; omega
  · have := blk_lt hg.eg.node; omega
/-- the entry is appended. -/
theorem wpList_note {ops : Array Oper} {rest : List Oper} {o : Oper} {a : Act} {Q : Exit → Act → World → Prop} (hgd : o.guard = none) (s x : Operand)
    (ho : o.op = .call { callee := .builtin .append, args := #[s, x], argTypes := #[29, 29] })
    {G : Gs} {ents : List Ent} {vt vp vw : Value} {w W3 : World} {T : Ts} {tb me cp cl m : Nat} {A Al : Option Addr} {path : List Int} (hg : ES c l G ents vt (.slice Al ents.length cl) w) (hb : Below w.heap.size w W3) (hl : (ents.length + 1) * 32 ≤ 140737488355328)
    (hp : PathAt w A path) (hcp : path.length ≤ cp) (hpl : path.length ≤ 1000) (ht : TB tb c.wb vp T vw me c.B W3) (hwt : w.heap.size ≤ tb) (hvw : vw.ownBlock = none)
    (hs : a.eval s = .slice Al ents.length cl) (hx : a.eval x = .slice (some ⟨W3.heap.size, 0, none⟩) 1 m)
    (h : ∀ A9 L9 c9 w9, (ES c l { G with log := G.log ++ [(path, 0)] } (ents ++ [⟨A, path.length, cp, 0⟩]) vt (.slice A9 L9 c9) (w9.setCell ⟨c.wb, 7, none⟩ (.slice A9 L9 c9)) ∧ Keep (PG c.wb vt (.slice Al ents.length cl)) w (w9.setCell ⟨c.wb, 7, none⟩ (.slice A9 L9 c9)) ∧ (∀ q, PG c.wb vt (.slice A9 L9 c9) q → PG c.wb vt (.slice Al ents.length cl) q ∨ w.heap.size ≤ q) ∧ w9.heap[c.wb]? = w.heap[c.wb]? ∧ TB tb c.wb vp T vw me c.B (w9.setCell ⟨c.wb, 7, none⟩ (.slice A9 L9 c9))) → wpList Try.prog ops Q rest (a.put o.dst (.slice A9 L9 c9)) w9) :
    wpList Try.prog ops Q (o :: rest) a (W3.alloc (.cells #[.slice A path.length cp, .int .i64 0] 54)) := by
  have hba : Below W3.heap.size W3 (W3.alloc (.cells #[.slice A path.length cp, .int .i64 0] 54)) := (Below.refl _ _).alloc (Nat.le_refl _) _
  have hlog := ((hg.below hb).below hba).eg.log
  have hbase : c.B ≤ (W3.alloc (.cells #[.slice A path.length cp, .int .i64 0] 54)).heap.size := by
    have h1 : c.B ≤ w.heap.size := Nat.le_trans hg.eg.lo (Nat.le_of_lt (blk_lt hg.eg.node))
    exact Nat.le_trans (Nat.le_trans h1 hb.size) hba.size
  refine wpList_plain hgd (fun K hK => ?_)
  refine wp_append_rows kEnt (Rr := kEnt.M (W3.alloc (.cells #[.slice A path.length cp, .int .i64 0] 54)) c.B (fun _ => False)) c.B hgd s x 29 54 (.agg #[.slice none 0 0, .int .i64 0]) 32 ho Try.underlying29 info54 rfl (by decide) (by decide) (.slice Al ents.length cl) ents [⟨A, path.length, cp, 0⟩] _ _ _ (fun _ => True) (fun _ => False) hs hx hlog (reads_one (alloc_blk _ _) (kEnt_mkM _ _ _ ⟨A, path.length, cp, 0⟩)) (fun _ _ h => h) (fun _ h => h.elim) (fun _ _ => trivial) hbase hl ?_
  intro v9 w9 hR9 hbw hgr hat
  have HN := note_any (tb := tb) (me := me) hg (hb.alloc hb.size _) hR9 hgr hat hp hcp hpl (ht.below hba) hwt hvw
  obtain ⟨A9, c9, rfl⟩ := Kd.R_slice hR9
  exact hK _ _ (h A9 _ c9 w9 HN)
set_option maxRecDepth 100000 in
set_option maxHeartbeats 8000000 in
theorem begin_any (hl : POk l) (hM : M ≤ 1000000) (hdp : c.depth ≤ 900) (hb : 0 ≤ c.budget ∧ c.budget ≤ 1000000) (hB : ∀ j, j < k → BeginC c l M j) : BeginC c l M k := by
  intro G ents vt vl w f A cpath path Aa ca args hands hg hgi hleft hf hp hcp hcn hpd hal haC hac hhl hk
  obtain ⟨h0, h1, h2, h3, rfl⟩ := four hhl
  obtain ⟨Al, cl, rfl⟩ := Kd.R_slice hg.eg.log
  obtain ⟨r, hr⟩ : ∃ r, r = beginP l c.budget c.depth k G f path args [h0, h1, h2, h3] := ⟨_, rfl⟩
  rw [← hr]
  obtain ⟨W, hW⟩ : ∃ W, W = w.alloc (.cells #[.bool h0.1, .int .i64 h0.2, .bool h1.1, .int .i64 h1.2, .bool h2.1, .int .i64 h2.2, .bool h3.1, .int .i64 h3.2] 118) := ⟨_, rfl⟩
  have hb1 : Below w.heap.size w W := by rw [hW]; exact (Below.refl w.heap.size w).alloc (Nat.le_refl _) _
  have hbx : W.heap[w.heap.size]? = some (.cells #[.bool h0.1, .int .i64 h0.2, .bool h1.1, .int .i64 h1.2, .bool h2.1, .int .i64 h2.2, .bool h3.1, .int .i64 h3.2] 118 (0, 0)) := by rw [hW]; exact alloc_blk w _
  have hlen : ents.length = G.log.length := hg.eg.ok.1
  have HLEN := Aside0.mk hlen
  clear hlen
  have HW := Aside0.mk hW
  have H1 := Aside0.mk (And.intro hb1 hbx)
  have H0 := Aside0.mk (And.intro hg (And.intro hgi (And.intro hleft (And.intro hf (And.intro hp (And.intro hcp (And.intro hcn (And.intro hpd (And.intro hal (And.intro haC (And.intro hac (And.intro hk hr))))))))))))
  have HF := Aside0.mk (And.intro hl (And.intro hM (And.intro hdp (And.intro hb hB))))
  have hE1 := hg.below hb1
  have q7 := blk_cell hE1.eg.node 7
  have x0 := blk_cell hbx 0
  have x1 := blk_cell hbx 1
  have x2 := blk_cell hbx 2
  have x3 := blk_cell hbx 3
  have x4 := blk_cell hbx 4
  have x5 := blk_cell hbx 5
  have x6 := blk_cell hbx 6
  have x7 := blk_cell hbx 7
  clear hg hgi hleft hf hp hcp hcn hpd hal haC hac hk hr hl hM hdp hb hB hW hb1 hbx hE1 hhl
  unfold hcells
  simp only [List.flatMap_cons, List.flatMap_nil, List.cons_append, List.nil_append, List.append_nil]
  go_enter Try.func38, Try.ntmps38
  go_wp2_with fail
  rw [← HW.out]
  have HMV := Aside0.mk (And.intro q7 (And.intro x0 (And.intro x1 (And.intro x2 (And.intro x3 (And.intro x4 (And.intro x5 (And.intro x6 x7))))))))
  clear q7 x0 x1 x2 x3 x4 x5 x6 x7
  refine wp_region_seq2 (fun w' => Below W.heap.size W w') [] [.take 0, .take 1, .take 2, .take 3, .take 4, .take 5, .take 6, .take 7, .take 8, .op 9, .op 10, .op 11] (by kernel_rfl) (by kernel_rfl) rfl (by kernel_rfl) (panic_viaE (P := Try.prog) (fn := Try.f38) (R := EndP c l (PG c.wb vt (.slice Al ents.length cl)) r.1 r.2 w) (fun _ _ _ => rfl)) ?_
  have hs : Below W.heap.size W W.drew := (Below.refl _ _).drew
  have hmv : ∀ {w' : World} {p : Addr} {v : Value}, Below W.heap.size W w' → W.cell? p = some v → w'.cell? p = some v := fun hS hq => (hS.cell (World.block_lt_of_cell? W _ hq)).trans hq
  repeat (
    (first
      | (refine runSeq2_take (v := ?_) (by rfl) (by rfl) (fun w' hS => ?_) hs ?_
         rotate_left
         · (have u7 := hmv hS HMV.out.1; have y0 := hmv hS HMV.out.2.1; have y1 := hmv hS HMV.out.2.2.1; have y2 := hmv hS HMV.out.2.2.2.1; have y3 := hmv hS HMV.out.2.2.2.2.1; have y4 := hmv hS HMV.out.2.2.2.2.2.1; have y5 := hmv hS HMV.out.2.2.2.2.2.2.1; have y6 := hmv hS HMV.out.2.2.2.2.2.2.2.1; have y7 := hmv hS HMV.out.2.2.2.2.2.2.2.2; go_simp; exact rfl))
      | refine runSeq2_skip (by rfl) (by rfl) hs ?_)
    (try simp only [Act.put, List.setIfInBounds_toArray, List.set_cons_zero, List.set_cons_succ]))
  clear hmv
  refine runSeq2_op (by rfl) (by rfl) (fun K hK => ?_)
  go_simp
  refine hK _ _ hs ?_
  clear hK K
  refine runSeq2_op (by rfl) (by rfl) (fun K hK => ?_)
  go_simp
  obtain ⟨tb, htb⟩ : ∃ tb, tb = W.heap.size := ⟨_, rfl⟩
  rw [← htb]
  obtain ⟨W2, hW2⟩ : ∃ W2, W2 = (W.alloc (.cells #[.pointer (some ⟨c.wb, 0, none⟩), .slice A path.length cpath, .int .i64 0, .int .i64 0, .int .i64 0, .int .i64 0, .int .i64 0, .int .i64 0, .int .i64 0, .int .i64 0, .bool h0.1, .int .i64 h0.2, .bool h1.1, .int .i64 h1.2, .bool h2.1, .int .i64 h2.2, .bool h3.1, .int .i64 h3.2, .slice none 0 0, .int .i64 0, .int .i64 0, .int .i64 ents.length] 143)).drew := ⟨_, rfl⟩
  have hs2 : Below W.heap.size W W2 := by rw [hW2]; exact ((Below.refl W.heap.size W).alloc (Nat.le_refl _) _).drew
  have hb2 : Below w.heap.size w W2 := H1.out.1.trans (hs2.mono H1.out.1.size)
  have hn2 : W2.heap[tb]? = some (.cells (tcells c.wb (.slice A path.length cpath) (newTask [] [h0, h1, h2, h3]) (.slice none 0 0) G.log.length).toArray 143 (0, 0)) := by rw [hW2, htb, ← HLEN.out]; exact alloc_blk W _
  have hwt : w.heap.size ≤ tb := by rw [htb]; exact H1.out.1.size
  rw [← hW2]
  refine hK _ _ hs2 ?_
  clear hK K hs hW2 htb
  (try simp only [Act.put, List.setIfInBounds_toArray, List.set_cons_zero, List.set_cons_succ])
  refine runSeq2_op (by rfl) (by rfl) (fun K hK => ?_)
  go_simp
  refine hK _ _ hs2 ?_
  clear hK K
  refine runSeq2_nil ?_
  have H2 := Aside0.mk (And.intro hb2 (And.intro hn2 hwt))
  clear hs2 hb2 hn2 hwt
  have hsl := slice_regs_all tb
  have LEN := Aside0.mk (show (ents.length + 1) * 32 ≤ 140737488355328 from by have h1 := H0.out.2.2.1; have h2 := HF.out.2.1; have h3 := HLEN.out; omega)
  have LEN2 := Aside0.mk (show path.length ≤ 1000 from by have h1 := H0.out.2.2.2.2.2.2.2.1; have h2 := HF.out.2.2.1; omega)
  obtain ⟨cs, hcs⟩ : ∃ cs, cs = args.map (Value.int .i64) := ⟨_, rfl⟩
  have hcl : cs.length = args.length := by rw [hcs, List.length_map]
  have HCS := Aside0.mk (And.intro hcs hcl)
  clear hcs hcl
  have hs1 : 0 < cs.length → some (⟨tb, 2, none⟩ : Addr) = some ⟨tb, 2, none⟩ ∧ ∃ ad, Aa = some ad ∧ ∀ j v, cs[j]? = some v → W2.cell? (ad.add j) = some v := by
    intro hp
    rw [HCS.out.2] at hp
    obtain ⟨ad, e, h⟩ := args_cells (Kd.C_below H0.out.2.2.2.2.2.2.2.2.2.1 H2.out.1) hp
    rw [← HCS.out.1] at h
    exact ⟨rfl, ad, e, h⟩
  have hs2 : 2 + cs.length ≤ (tcells c.wb (.slice A path.length cpath) (newTask [] [h0, h1, h2, h3]) (.slice none 0 0) G.log.length).length := by
    have h9 : (tcells c.wb (.slice A path.length cpath) (newTask [] [h0, h1, h2, h3]) (.slice none 0 0) G.log.length).length = 22 := rfl
    have h8 := H0.out.2.2.2.2.2.2.2.2.1
    rw [h9, HCS.out.2]; omega
  have hs3 : ∀ v ∈ cs, v.oneCell' = true := by
    intro v hv
    rw [HCS.out.1] at hv
    obtain ⟨x, _, rfl⟩ := List.mem_map.1 hv
    rfl
  have hs0 : cs.length = Nat.min args.length 8 := by rw [HCS.out.2]; exact (Nat.min_eq_left H0.out.2.2.2.2.2.2.2.2.1).symm
  have HS := Aside0.mk (And.intro hs0 (And.intro hs1 (And.intro hs2 hs3)))
  clear hs0 hs1 hs2 hs3
  go_upto_region 4 with (first | (refine wpList_copy_splice rfl (.tmp 26) (.tmp 27) 23 23 rfl 2 Try.underlying23 (by kernel_rfl) (some ⟨tb, 2, none⟩) Aa 8 8 args.length ca rfl rfl tb 2 (tcells c.wb (.slice A path.length cpath) (newTask [] [h0, h1, h2, h3]) (.slice none 0 0) G.log.length) 143 H2.out.2.1 cs HS.out.1 HS.out.2.1 HS.out.2.2.1 HS.out.2.2.2 w.heap.size w H2.out.1 H2.out.2.2 ?_; intro W3 hn3 hb3; have hn3 := hn3.out; rw [HCS.out.1] at hn3; have HT3 := Aside0.mk (And.intro (TB.fresh (B := c.B) hn3 H0.out.2.2.2.2.2.2.2.2.1 rfl) hb3); have q7 := blk_cell (H0.out.1.below hb3).eg.node 7; clear hn3 hb3) | (at_builtin; refine wpList_note (m := 1) (by rfl) (.tmp 34) (.tmp 37) (by rfl) H0.out.1 HT3.out.2 LEN.out H0.out.2.2.2.2.1 H0.out.2.2.2.2.2.1 LEN2.out HT3.out.1 H2.out.2.2 rfl (by rfl) (by rfl) ?_; intro A9 L9 c9 w9 HN; have HN := Aside0.mk HN; clear q7; have q7 := (World.cell?_of_block (a := ⟨c.wb, 7, none⟩) HN.out.2.2.2.1).trans (blk_cell H0.out.1.eg.node 7); have z7 := blk_frozen (HN.out.2.2.2.1.trans H0.out.1.eg.node) 7) | fail)
  obtain ⟨W8, hW8⟩ : ∃ W8, W8 = w9.setCell ⟨c.wb, 7, none⟩ (.slice A9 L9 c9) := ⟨_, rfl⟩
  have hN := HN.out
  rw [← hW8] at hN ⊢
  obtain ⟨hE8, hK8, hP8, _, hT8⟩ := hN
  have hf := H0.out.2.2.2.1
  have hrd : rd_T64 l (f : Int) = l[f] := by simp [rd_T64, hf]
  obtain ⟨adp, Ai, ci, hap, p0, p1, hci, hCi⟩ := at_T64 hE8.pr (f : Int) (by omega) (by omega)
  rw [hrd] at p0 p1 hci hCi
  rw [Int.toNat_natCast] at p1
  replace p1 := (hE8.bl.cell (World.block_lt_of_cell? _ _ p1)).trans p1
  have q0 := blk_cell hE8.eg.node 0
  have hfl2 : ((f : Int) < (l.length : Nat)) = True := eq_true (by omega)
  rw [hap] at q0
  have hbi := begin_inv HF.out.1 HF.out.2.2.2.1.1 H0.out.2.1 H0.out.2.2.1 f hf (path := path) (depth := c.depth) H0.out.2.2.2.2.2.2.2.1 args H0.out.2.2.2.2.2.2.2.2.1 [h0, h1, h2, h3] rfl
  have hRn : Rn c l M tb A cpath path f l[f].f1 Ai ci G.log.length := ⟨HF.out.1, Nat.le_trans H0.out.1.bl.size H2.out.2.2, HF.out.2.1, HF.out.2.2.1, HF.out.2.2.2.1, H0.out.2.2.2.2.2.1, H0.out.2.2.2.2.2.2.1, ⟨hf, rfl⟩, hCi, hci⟩
  have hrun := run_any (k := k) hRn HF.out.2.2.2.2 hE8 hT8 hbi.1 hbi.2 H0.out.2.2.2.2.2.2.2.2.2.2.2.1 (H0.out.2.2.2.2.1.keep hK8 (fun q cs hq hp => H0.out.1.eg.notPath q cs hq hp))
  have hre := H0.out.2.2.2.2.2.2.2.2.2.2.2.2
  unfold beginP at hre
  rw [hrd] at hre
  rw [← hre] at hrun
  have HR := Aside0.mk hrun
  have H8 := Aside0.mk (And.intro hE8 (And.intro hK8 (And.intro hP8 hT8)))
  clear hrun hre hRn hbi hE8 hK8 hP8 hT8 hW8 hrd p0 hci hCi hap q7 z7
  go_wp2_with fail
  refine HR.out.mono ?_
  intro e w' hpost
  have hfin : EndP c l (PG c.wb vt (.slice Al ents.length cl)) r.1 r.2 w e w' := by
    obtain ⟨he, hk9, ents', vt', vl', hE', hq'⟩ := hpost
    obtain ⟨hE8, hK8, hP8, hT8⟩ := H8.out
    have hPA : ∀ q, PA c tb vt (.slice A9 L9 c9) (.slice none 0 0) q → PG c.wb vt (.slice Al ents.length cl) q ∨ w.heap.size ≤ q := by
      intro q hq
      rcases hq with hq | hq | hq
      · exact hP8 q hq
      · rw [hq]; exact .inr H2.out.2.2
      · cases hq
    exact ⟨he, hK8.then hk9 (fun q hq hp => (hPA q hp).elim id (fun h => absurd hq (by omega))), ents', vt', vl', hE', fun q hq => (hq' q hq).elim (hPA q) (fun h => .inr (Nat.le_trans hK8.size h))⟩
  have hends : ends r.1 e := hfin.1
  have HFIN := Aside0.mk hfin
  clear hpost hfin
  obtain ⟨o, G'⟩ := r
  cases o with
  | val v =>
    have he : e = .returned (.int .i64 v) := hends
    clear hends
    subst he
    go_wp2_with fail
    go_ret
    exact HFIN.out
  | fail why =>
    have he : e = .panicked [{ v := failV why, recovered := false }] := hends
    clear hends
    subst he
    exact ⟨rfl, HFIN.out⟩
  | long =>
    have he : e = .panicked [{ v := longV, recovered := false }] := hends
    clear hends
    subst he
    exact ⟨rfl, HFIN.out⟩
/-- every task's beginning, at any fuel. -/
theorem begin_all (hl : POk l) (hM : M ≤ 1000000) (hdp : c.depth ≤ 900) (hb : 0 ≤ c.budget ∧ c.budget ≤ 1000000) : ∀ k, BeginC c l M k := by
  intro k
  induction k using Nat.strongRecOn with
  | _ k ih => exact begin_any hl hM hdp hb ih
end
end Go.Proofs.Ytbekjccehhaljaa.H

set_option linter.unusedVariables false
set_option linter.unusedSimpArgs false
namespace Go.Proofs.Ytbekjccehhaljaa.H
open Go.RowKit Go.Hay Go.Proofs.YtbekjccehhaljaaW.PrintWords Go.Proofs.YtbekjccehhaljaaW.PrintLast Go.Proofs.YtbekjccehhaljaaW.PrintMore
theorem assert_ff (v : Value) (w : World) : (Instr.typeAssert (.iface 113 v) 20 113 true).run Try.prog w = .ok (.tuple #[v, .bool true]) w := by kernel_rfl
theorem assert_lf (v : Value) (w : World) : (Instr.typeAssert (.iface 114 v) 20 113 true).run Try.prog w = .ok (.tuple #[.agg #[.int .i64 0], .bool false]) w := by kernel_rfl
theorem assert_ll (v : Value) (w : World) : (Instr.typeAssert (.iface 114 v) 20 114 true).run Try.prog w = .ok (.tuple #[v, .bool true]) w := by kernel_rfl
section
variable {pb wb ob eb nt ct nl cl : Nat} {At Al : Option Addr} {w : World} {c0 c1 c2 c3 v0 v1 o0 o1 o2 o3 ev : Value}
set_option maxRecDepth 100000 in
set_option maxHeartbeats 4000000 in
theorem ecatch_fail (why : Int) (hp : w.heap[pb]? = some (.cells #[.pointer (some ⟨wb, 0, none⟩)] 109 (0, 0))) (hw : w.heap[wb]? = some (.cells #[c0, c1, c2, c3, v0, v1, .slice At nt ct, .slice Al nl cl] 111 (0, 0))) (ho : w.heap[ob]? = some (.cells #[o0, o1, o2, o3] 77 (0, 0))) (he : w.heap[eb]? = some (.cells #[ev] 34 (0, 0))) :
    CallsD Try.prog 37 #[.pointer (some ⟨pb, 0, none⟩), .pointer (some ⟨ob, 0, none⟩), .pointer (some ⟨eb, 0, none⟩)] (.panicking [{ v := failV why, recovered := false }]) w fun x u' w' =>
      x = .returned (.tuple #[]) ∧ u' = .panicking [{ v := failV why, recovered := true }] ∧ Keep (fun q => q = wb ∨ q = ob ∨ q = eb) w w' ∧ w'.heap[ob]? = some (.cells #[.int .i64 0, .int .i64 why, .slice At nt ct, .slice Al nl cl] 77 (0, 0)) ∧ w'.heap[eb]? = some (.cells #[.int .i64 0] 34 (0, 0)) := by
  have huf := Try.underlying113
  have ha := assert_ff (.agg #[.int .i64 why])
  have n1 : ob ≠ wb := fun e => by rw [e, hw] at ho; cases ho
  have n2 : eb ≠ wb := fun e => by rw [e, hw] at he; cases he
  have n3 : eb ≠ ob := fun e => by rw [e, ho] at he; cases he
  obtain ⟨W1, hW1⟩ : ∃ W1, W1 = w.alloc (.cells #[.int .i64 why] 113) := ⟨_, rfl⟩
  have hb1 : Below w.heap.size w W1 := by rw [hW1]; exact (Below.refl w.heap.size w).alloc (Nat.le_refl _) _
  have hbx : W1.heap[w.heap.size]? = some (.cells #[.int .i64 why] 113 (0, 0)) := by rw [hW1]; exact alloc_blk w _
  have hp1 := (hb1.block _ (blk_lt hp)).trans hp
  have hw1 := (hb1.block _ (blk_lt hw)).trans hw
  have ho1 := (hb1.block _ (blk_lt ho)).trans ho
  have he1 := (hb1.block _ (blk_lt he)).trans he
  have H1 := Aside0.mk (And.intro hb1 (And.intro hp1 (And.intro hw1 (And.intro ho1 he1))))
  have HN := Aside0.mk (And.intro n1 (And.intro n2 n3))
  have HW1 := Aside0.mk hW1
  have HBX := Aside0.mk hbx
  clear hb1 hp1 hw1 ho1 he1 n1 n2 n3 hW1 hp hw ho he hbx
  refine callsD_of_wpS Try.func37 rfl fun c₀ cs hu => ?_
  apply wpS_seq
  apply wpS_region
  simp [wpOpsS, go_sem, recoverD, hu, Try.ntmps37, Exit.thenS]
  refine wpS_body ?_
  simp only [Array.replicate_succ, Array.replicate_zero, List.push_toArray, List.append_toArray, List.nil_append, List.cons_append, List.setIfInBounds_toArray, List.set_cons_zero, List.set_cons_succ, failV]
  go_upto_region 7 with (fail)
  rw [← HW1.out]
  have p0 := blk_cell H1.out.2.1 0
  have x0 := blk_cell HBX.out 0
  have z5 := blk_frozen H1.out.2.2.1 5
  have z4 := blk_frozen H1.out.2.2.1 4
  have y5 := blk_cell H1.out.2.2.1 5
  have y4 := blk_cell H1.out.2.2.1 4
  go_upto_region 8 with (fail)
  obtain ⟨W2, hW2⟩ : ∃ W2, W2 = (W1.setCell ⟨wb, 5, none⟩ (.int .i64 why)).setCell ⟨wb, 4, none⟩ (.int .i64 0) := ⟨_, rfl⟩
  rw [← hW2]
  have hk2 : Keep (fun q => q = wb) W1 W2 := by rw [hW2]; exact ((Keep.refl (fun q => q = wb) W1).set (p := ⟨wb, 5, none⟩) (.inr rfl) _).set (p := ⟨wb, 4, none⟩) (.inr rfl) _
  have hn2 : W2.heap[wb]? = some (.cells #[c0, c1, c2, c3, .int .i64 0, .int .i64 why, .slice At nt ct, .slice Al nl cl] 111 (0, 0)) := by rw [hW2]; exact blk_set (blk_set H1.out.2.2.1 5 _) 4 _
  have hpw : pb ≠ wb := fun e => by have h1 := H1.out.2.1; have h2 := H1.out.2.2.1; rw [e, h2] at h1; cases h1
  have hp2 := hk2.blk H1.out.2.1 hpw
  have ho2 := hk2.blk H1.out.2.2.2.1 HN.out.1
  have he2 := hk2.blk H1.out.2.2.2.2 HN.out.2.1
  have H2 := Aside0.mk (And.intro hk2 (And.intro hn2 (And.intro hp2 (And.intro ho2 he2))))
  clear p0 x0 z5 z4 y5 y4 hpw hW2
  have p0 := blk_cell hp2 0
  have r4 := blk_cell hn2 4
  have r5 := blk_cell hn2 5
  have r6 := blk_cell hn2 6
  have r7 := blk_cell hn2 7
  have s0 := blk_cell ho2 0
  have s1 := blk_cell ho2 1
  have s2 := blk_cell ho2 2
  have s3 := blk_cell ho2 3
  have z0 := blk_frozen ho2 0
  have z1 := blk_frozen ho2 1
  have z2 := blk_frozen ho2 2
  have z3 := blk_frozen ho2 3
  have e0 := blk_cell he2 0
  have f0 := blk_frozen he2 0
  clear hk2 hn2 hp2 ho2 he2
  have n3 := HN.out.2.2
  go_wp2_with fail
  go_end0
  have d1 := blk_set (blk_set (blk_set (blk_set H2.out.2.2.2.1 0 (.int .i64 0)) 1 (.int .i64 why)) 2 (.slice At nt ct)) 3 (.slice Al nl cl)
  have e1 := H2.out.2.2.2.2
  have e2 := blk_set (blk_farC (p := ⟨ob, 3, none⟩) (blk_farC (p := ⟨ob, 2, none⟩) (blk_farC (p := ⟨ob, 1, none⟩) (blk_farC (p := ⟨ob, 0, none⟩) e1 n3 (.int .i64 0)) n3 (.int .i64 why)) n3 (.slice At nt ct)) n3 (.slice Al nl cl)) 0 (.int .i64 0)
  have d2 := blk_farC (p := ⟨eb, 0, none⟩) d1 (Ne.symm n3) (.int .i64 0)
  have hk9 := (((((Keep.refl (fun q => q = wb ∨ q = ob ∨ q = eb) W2).set (p := ⟨ob, 0, none⟩) (.inr (.inr (.inl rfl))) (.int .i64 0)).set (p := ⟨ob, 1, none⟩) (.inr (.inr (.inl rfl))) (.int .i64 why)).set (p := ⟨ob, 2, none⟩) (.inr (.inr (.inl rfl))) (.slice At nt ct)).set (p := ⟨ob, 3, none⟩) (.inr (.inr (.inl rfl))) (.slice Al nl cl)).set (p := ⟨eb, 0, none⟩) (.inr (.inr (.inr rfl))) (.int .i64 0)
  exact ⟨rfl, trivial, ((Keep.of_below H1.out.1 _).trans (H2.out.1.mono (fun q _ e => .inl e))).trans hk9, d2, e2⟩
set_option maxRecDepth 100000 in
set_option maxHeartbeats 4000000 in
theorem ecatch_long (hp : w.heap[pb]? = some (.cells #[.pointer (some ⟨wb, 0, none⟩)] 109 (0, 0))) (ho : w.heap[ob]? = some (.cells #[o0, o1, o2, o3] 77 (0, 0))) (he : w.heap[eb]? = some (.cells #[ev] 34 (0, 0))) :
    CallsD Try.prog 37 #[.pointer (some ⟨pb, 0, none⟩), .pointer (some ⟨ob, 0, none⟩), .pointer (some ⟨eb, 0, none⟩)] (.panicking [{ v := longV, recovered := false }]) w fun x u' w' =>
      x = .returned (.tuple #[]) ∧ u' = .panicking [{ v := longV, recovered := true }] ∧ Keep (fun q => q = ob ∨ q = eb) w w' ∧ w'.heap[ob]? = some (.cells #[.int .i64 0, .int .i64 0, .slice none 0 0, .slice none 0 0] 77 (0, 0)) ∧ w'.heap[eb]? = some (.cells #[.int .i64 3] 34 (0, 0)) := by
  have hul := Try.underlying114
  have ha := assert_lf (.agg #[])
  have ha2 := assert_ll (.agg #[])
  have n3 : eb ≠ ob := fun e => by rw [e, ho] at he; cases he
  obtain ⟨W1, hW1⟩ : ∃ W1, W1 = w.alloc (.cells #[] 114) := ⟨_, rfl⟩
  have hb1 : Below w.heap.size w W1 := by rw [hW1]; exact (Below.refl w.heap.size w).alloc (Nat.le_refl _) _
  have ho1 := (hb1.block _ (blk_lt ho)).trans ho
  have he1 := (hb1.block _ (blk_lt he)).trans he
  have H1 := Aside0.mk (And.intro hb1 (And.intro ho1 he1))
  have HN := Aside0.mk n3
  have HW1 := Aside0.mk hW1
  clear hb1 ho1 he1 hW1 hp ho he
  refine callsD_of_wpS Try.func37 rfl fun c₀ cs hu => ?_
  apply wpS_seq
  apply wpS_region
  simp [wpOpsS, go_sem, recoverD, hu, Try.ntmps37, Exit.thenS]
  refine wpS_body ?_
  simp only [Array.replicate_succ, Array.replicate_zero, List.push_toArray, List.append_toArray, List.nil_append, List.cons_append, List.setIfInBounds_toArray, List.set_cons_zero, List.set_cons_succ, longV]
  go_upto_region 11 with (fail)
  rw [← HW1.out]
  have s0 := blk_cell H1.out.2.1 0
  have s1 := blk_cell H1.out.2.1 1
  have s2 := blk_cell H1.out.2.1 2
  have s3 := blk_cell H1.out.2.1 3
  have z0 := blk_frozen H1.out.2.1 0
  have z1 := blk_frozen H1.out.2.1 1
  have z2 := blk_frozen H1.out.2.1 2
  have z3 := blk_frozen H1.out.2.1 3
  have e0 := blk_cell H1.out.2.2 0
  have f0 := blk_frozen H1.out.2.2 0
  go_wp2_with fail
  go_end0
  have d1 := blk_set (blk_set (blk_set (blk_set H1.out.2.1 0 (.int .i64 0)) 1 (.int .i64 0)) 2 (.slice none 0 0)) 3 (.slice none 0 0)
  have e1 := H1.out.2.2
  have e2 := blk_set (blk_farC (p := ⟨ob, 3, none⟩) (blk_farC (p := ⟨ob, 2, none⟩) (blk_farC (p := ⟨ob, 1, none⟩) (blk_farC (p := ⟨ob, 0, none⟩) e1 n3 (.int .i64 0)) n3 (.int .i64 0)) n3 (.slice none 0 0)) n3 (.slice none 0 0)) 0 (.int .i64 3)
  have d2 := blk_farC (p := ⟨eb, 0, none⟩) d1 (Ne.symm n3) (.int .i64 3)
  have hk9 := (((((Keep.refl (fun q => q = ob ∨ q = eb) W1).set (p := ⟨ob, 0, none⟩) (.inr (.inl rfl)) (.int .i64 0)).set (p := ⟨ob, 1, none⟩) (.inr (.inl rfl)) (.int .i64 0)).set (p := ⟨ob, 2, none⟩) (.inr (.inl rfl)) (.slice none 0 0)).set (p := ⟨ob, 3, none⟩) (.inr (.inl rfl)) (.slice none 0 0)).set (p := ⟨eb, 0, none⟩) (.inr (.inr rfl)) (.int .i64 3)
  exact ⟨rfl, trivial, (Keep.of_below H1.out.1 _).trans hk9, d2, e2⟩
theorem ecatch_idle (p q r : Addr) (w : World) :
    CallsD Try.prog 37 #[.pointer (some p), .pointer (some q), .pointer (some r)] .returning w fun x u' w' =>
      x = .returned (.tuple #[]) ∧ u' = .returning ∧ w = w' := by
  refine callsD_of_wpS Try.func37 rfl fun c₀ cs hu => ?_
  apply wpS_seq
  apply wpS_region
  simp [wpOpsS, go_sem, recoverD, hu, Try.ntmps37, Exit.thenS]
  refine wpS_body_same hu ?_
  simp only [Array.replicate_succ, Array.replicate_zero, List.push_toArray, List.append_toArray, List.nil_append, List.cons_append, List.setIfInBounds_toArray, List.set_cons_zero, List.set_cons_succ]
  go_wp2
  go_end0
  exact ⟨rfl, trivial, rfl⟩
end
end Go.Proofs.Ytbekjccehhaljaa.H

set_option linter.unusedVariables false
set_option linter.unusedSimpArgs false
namespace Go.Proofs.Ytbekjccehhaljaa.H
open Go.RowKit Go.Hay Go.Proofs.YtbekjccehhaljaaW.PrintWords Go.Proofs.YtbekjccehhaljaaW.PrintLast Go.Proofs.YtbekjccehhaljaaW.PrintMore
structure S54 where
  f0 : List Int
  f1 : Int
def z54 : S54 := ⟨[], 0⟩
def k54 : Kd S54 := Kd.iso (Kd.pair (Kd.slice 3 (Kd.int .i64)) (Kd.int .i64)) (fun x : S54 => (x.f0, x.f1))
theorem k54_open {w : World} {x : S54} {cs : List Value} (h : k54.K w x cs) : ∃ A0 c0, cs = [.slice A0 x.f0.length c0, .int .i64 x.f1] ∧ x.f0.length ≤ c0 ∧ (Kd.int .i64).C w A0 x.f0.length x.f0 := by
  obtain ⟨_, _, rfl, ⟨A0, c0, rfl, l0, g0⟩, rfl⟩ := h
  exact ⟨A0, c0, rfl, l0, g0⟩
theorem k54_mk (w : World) (x : S54) {A0 : Option Addr} {c0 : Nat} (l0 : x.f0.length ≤ c0) (g0 : (Kd.int .i64).C w A0 x.f0.length x.f0) : k54.K w x [.slice A0 x.f0.length c0, .int .i64 x.f1] := ⟨[.slice A0 x.f0.length c0], [.int .i64 x.f1], rfl, ⟨A0, c0, rfl, l0, g0⟩, rfl⟩
def rd_T54 (xs : List S54) (i : Int) : S54 := xs.getD i.toNat z54
theorem at_T54 {w : World} {A : Option Addr} {n : Nat} {xs : List S54} (h : Kd.C k54 w A n xs) (i : Int) (h0 : 0 ≤ i) (h1 : i < n) : ∃ ad A0 c0, A = some ad ∧ w.cell? (ad.add (i.toNat * 2)) = some (.slice A0 (rd_T54 xs i).f0.length c0) ∧ w.cell? ⟨(ad.add (i.toNat * 2)).block, (ad.add (i.toNat * 2)).off + 1, none⟩ = some (.int .i64 (rd_T54 xs i).f1) ∧ (rd_T54 xs i).f0.length ≤ c0 ∧ (Kd.int .i64).C w A0 (rd_T54 xs i).f0.length (rd_T54 xs i).f0 := by
  obtain ⟨ad, c, e, _, hK, hc0⟩ := Kd.C_get h z54 i h0 h1
  have hc : ∀ j u, c[j]? = some u → w.cell? (ad.add (i.toNat * 2 + j)) = some u := hc0
  obtain ⟨A0, c0, rfl, l0, g0⟩ := k54_open hK
  exact ⟨ad, A0, c0, e, hc 0 _ rfl, by rw [← add_field _ _ 1 (by omega)]; exact hc 1 _ rfl, l0, g0⟩
end Go.Proofs.Ytbekjccehhaljaa.H

set_option linter.unusedVariables false
set_option linter.unusedSimpArgs false
namespace Go.Proofs.Ytbekjccehhaljaa.H
open Go.RowKit Go.Hay Go.Proofs.YtbekjccehhaljaaW.PrintWords Go.Proofs.YtbekjccehhaljaaW.PrintLast Go.Proofs.YtbekjccehhaljaaW.PrintMore
theorem max_most (most : Int) (ats : Array TypeId) (ty : TypeId) : Builtin.max_ ats ty #[.int .i64 most, .int .i64 0] = pure (.int .i64 (most.toNat : Int)) := by
  rw [max_two, max2_int]
  have e : (if most < 0 then (0 : Int) else most) = (most.toNat : Int) := by split <;> omega
  rw [e]
  rfl
/-- what Eval answers. -/
abbrev EvR := (Int × Int × List Int × List (List Int × Int)) × Int
def noR : Int × Int × List Int × List (List Int × Int) := (0, 0, [], [])
def evalR (l : List S64) (args : List Int) (b d : Int) (most : Nat) : EvR :=
  if evRight l args.length b d = true then match evalP l args b d most with
    | some r => (r, 0)
    | none => (noR, 3)
  else (noR, 1)
def endR (q : Out × Gs) : EvR :=
  match q with
  | (.val v, G) => ((v, 0, G.told, G.log), 0)
  | (.fail why, G) => ((0, why, G.told, G.log), 0)
  | (.long, _) => (noR, 3)
def entS (p : List Int × Int) : S54 := ⟨p.1, p.2⟩
/-- a result in memory. -/
structure ResR (w : World) (r : Int × Int × List Int × List (List Int × Int)) (At : Option Addr) (ct : Nat) (Al : Option Addr) (cl : Nat) : Prop where
  told : (Kd.int .i64).C w At r.2.2.1.length r.2.2.1
  toldC : r.2.2.1.length ≤ ct
  log : k54.C w Al r.2.2.2.length (r.2.2.2.map entS)
  logC : r.2.2.2.length ≤ cl
/-- a block of another kind than a result hangs on. -/
def Other (w : World) (q : Nat) : Prop := ∃ cs t, w.heap[q]? = some (.cells cs t (0, 0)) ∧ t ≠ 2 ∧ t ≠ 54 ∧ t ≠ 3
/-- and it stays, whatever is done to blocks of other kinds. -/
structure ResC (w : World) (r : Int × Int × List Int × List (List Int × Int)) (At : Option Addr) (ct : Nat) (Al : Option Addr) (cl : Nat) : Prop extends ResR w r At ct Al cl where
  keep : ∀ (S : Nat → Prop) (w1 : World), Keep S w w1 → (∀ q, q < w.heap.size → S q → Other w q) → ResR w1 r At ct Al cl
theorem keep_two {S T : Nat → Prop} {w w1 w2 : World} (h1 : Keep S w w1) (hS : ∀ q, q < w.heap.size → S q → Other w q) (h2 : Keep T w1 w2) (hT : ∀ q, q < w1.heap.size → T q → Other w1 q) :
    Keep (fun q => q < w.heap.size ∧ (S q ∨ T q)) w w2 ∧ ∀ q, (q < w.heap.size ∧ (S q ∨ T q)) → Other w q := by
  refine ⟨(h1.mono (fun q hq h => ⟨hq, .inl h⟩)).then (T := T) h2 (fun q hq h => ⟨hq, .inr h⟩), fun q hq => ?_⟩
  by_cases hs : S q
  · exact hS q hq.1 hs
  · rcases hq.2 with h | h
    · exact hS q hq.1 h
    · obtain ⟨cs, t, e, ht⟩ := hT q (Nat.lt_of_lt_of_le hq.1 h1.size) h
      exact ⟨cs, t, (h1.block q hq.1 hs).symm.trans e, ht⟩
theorem ResC.step {w w1 : World} {r : Int × Int × List Int × List (List Int × Int)} {At : Option Addr} {ct : Nat} {Al : Option Addr} {cl : Nat} (h : ResC w r At ct Al cl) {S : Nat → Prop} (hk : Keep S w w1) (hS : ∀ q, q < w.heap.size → S q → Other w q) : ResC w1 r At ct Al cl :=
  ⟨h.keep S w1 hk hS, fun T w2 hk2 hT => by
    obtain ⟨k, hq⟩ := keep_two hk hS hk2 hT
    exact h.keep _ w2 k (fun q _ hs => hq q hs)⟩
theorem ResC.below {w w1 : World} {r : Int × Int × List Int × List (List Int × Int)} {At : Option Addr} {ct : Nat} {Al : Option Addr} {cl : Nat} (h : ResC w r At ct Al cl) (hb : Below w.heap.size w w1) : ResC w1 r At ct Al cl :=
  h.step (Keep.of_below hb (fun _ => False)) (fun _ _ h => h.elim)
def resV (r : Int × Int × List Int × List (List Int × Int)) (At : Option Addr) (ct : Nat) (Al : Option Addr) (cl : Nat) : Value := .agg #[.int .i64 r.1, .int .i64 r.2.1, .slice At r.2.2.1.length ct, .slice Al r.2.2.2.length cl]
def EvalPost (w : World) (r : EvR) (e : Ending) (w' : World) : Prop :=
  (∃ At ct Al cl, e = .returned (.tuple #[resV r.1 At ct Al cl, .int .i64 r.2]) ∧ ResC w' r.1 At ct Al cl) ∧ Below w.heap.size w w'
theorem ResR.none (w : World) : ResR w noR Option.none 0 Option.none 0 := ⟨Kd.C_nil _ _, Nat.le_refl _, Kd.C_nil _ _, Nat.le_refl _⟩
theorem ResC.none (w : World) : ResC w noR Option.none 0 Option.none 0 := ⟨ResR.none w, fun _ w1 _ _ => ResR.none w1⟩
/-- the log of an evaluation, read. -/
theorem rows_logC {B : Nat} {Al : Option Addr} {log : List (List Int × Int)} {ents : List Ent} {n cl : Nat} {w : World} (hlog : kEnt.R 54 w B (fun _ => True) (.slice Al n cl) ents) (hok : EntsOk w ents log) : n = log.length ∧ n ≤ cl ∧ k54.C w Al log.length (log.map entS) := by
  have hq := Kd.R_reads' hlog
  have hl := hok.1
  refine ⟨hq.1.trans hl, by have := hq.2.1; omega, by simp, by have h4 := hq.2.2.2.1; rw [hl] at h4; exact h4, fun hp => ?_⟩
  obtain ⟨ad, e1, hc⟩ := hq.2.2.2.2 (by omega)
  refine ⟨ad, e1, fun j p hj => ?_⟩
  rw [List.getElem?_map] at hj
  have hjl : j < log.length := by
    by_cases hlt : j < log.length
    · exact hlt
    · rw [List.getElem?_eq_none (by omega)] at hj; cases hj
  have hje : j < ents.length := by omega
  rw [List.getElem?_eq_getElem hjl] at hj
  have hj : entS log[j] = p := Option.some.inj hj
  subst hj
  obtain ⟨cs, h1, h2, h3⟩ := hc j _ (List.getElem?_eq_getElem hje)
  refine ⟨cs, h1, ?_, h3⟩
  obtain rfl := kEnt_open h2
  obtain ⟨a1, a2, a3, a4, a5⟩ := hok.2 j hje hjl
  have hm := k54_mk w (entS log[j]) (A0 := ents[j].A) (c0 := ents[j].c) (by show log[j].1.length ≤ ents[j].c; omega) (a5.C a4)
  have e : [Value.slice ents[j].A (entS log[j]).f0.length ents[j].c, .int .i64 (entS log[j]).f1] = [.slice ents[j].A ents[j].n ents[j].c, .int .i64 ents[j].s] := by
    rw [a1, a2]; rfl
  rw [← e]
  exact hm
theorem EG.resR {B wb np cp : Nat} {Ap At Al : Option Addr} {budget depth : Int} {G : Gs} {ents : List Ent} {nt ct nl cl : Nat} {w w1 : World} {S : Nat → Prop} (h : EG B wb Ap np cp budget depth G ents (.slice At nt ct) (.slice Al nl cl) w) (hk : Keep S w w1) (hS : ∀ q, S q → ∃ cs t, w.heap[q]? = some (.cells cs t (0, 0)) ∧ t ≠ 2 ∧ t ≠ 54 ∧ t ≠ 3) (v f : Int) : nt = G.told.length ∧ nl = G.log.length ∧ ResR w1 (v, f, G.told, G.log) At ct Al cl := by
  have ht : (Kd.int .i64).R 2 w1 B (fun _ => True) (.slice At nt ct) G.told := nums_flat h.told (fun _ _ => trivial) (fun q hq => hk.block q (nums_own h.told q hq).2.2 (fun hs => by
    obtain ⟨cs, t, h1, h2, _⟩ := hS q hs
    obtain ⟨cs', h3⟩ := Kd.R_typed h.told q hq
    rw [h1] at h3; cases h3; exact h2 rfl))
  have hl : kEnt.R 54 w1 B (fun _ => True) (.slice Al nl cl) ents := R_flat kEnt_flat h.log (fun _ _ => trivial) (fun q hq => hk.block q (R_own h.log q hq).2.2 (fun hs => by
    obtain ⟨cs, t, h1, _, h2, _⟩ := hS q hs
    obtain ⟨cs', h3⟩ := Kd.R_typed h.log q hq
    rw [h1] at h3; cases h3; exact h2 rfl))
  have hok : EntsOk w1 ents G.log := h.ok.keep hk (fun q cs hq hs => by
    obtain ⟨cs', t, h1, _, _, h2⟩ := hS q hs
    rw [hq] at h1; cases h1; exact h2 rfl)
  have hq := Kd.R_reads' ht
  have hl := rows_logC hl hok
  refine ⟨hq.1, hl.1, hq.2.2, by have := hq.2.1; show G.told.length ≤ ct; omega, hl.2.2, by have := hl.2.1; show G.log.length ≤ cl; omega⟩
theorem EG.resC {B wb np cp : Nat} {Ap At Al : Option Addr} {budget depth : Int} {G : Gs} {ents : List Ent} {nt ct nl cl : Nat} {w w1 : World} {S : Nat → Prop} (h : EG B wb Ap np cp budget depth G ents (.slice At nt ct) (.slice Al nl cl) w) (hk : Keep S w w1) (hS : ∀ q, S q → ∃ cs t, w.heap[q]? = some (.cells cs t (0, 0)) ∧ t ≠ 2 ∧ t ≠ 54 ∧ t ≠ 3) (v f : Int) : nt = G.told.length ∧ nl = G.log.length ∧ ResC w1 (v, f, G.told, G.log) At ct Al cl := by
  obtain ⟨h1, h2, h3⟩ := h.resR hk hS v f
  refine ⟨h1, h2, h3, fun T w2 hk2 hT => ?_⟩
  obtain ⟨k, hq⟩ := keep_two hk (fun q _ hs => hS q hs) hk2 hT
  exact (h.resR k hq v f).2.2
structure EvW (w : World) (b d : Int) (W : World) : Prop where
  below : Below w.heap.size w W
  c0 : W.heap[w.heap.size]? = some (.cells #[.int .i64 b, .int .i64 d] 40 (0, 0))
  c1 : W.heap[w.heap.size + 1]? = some (.cells #[.int .i64 0, .int .i64 0, .slice none 0 0, .slice none 0 0] 77 (0, 0))
  c2 : W.heap[w.heap.size + 1 + 1]? = some (.cells #[.int .i64 0] 34 (0, 0))
theorem EvW.size {w W : World} {b d : Int} (h : EvW w b d W) : w.heap.size + 3 ≤ W.heap.size := by
  have := blk_lt h.c2; omega
theorem EvW.keep {w w' w'' : World} {b d : Int} (h : EvW w b d w') (k : Below (w.heap.size + 3) w' w'') : EvW w b d w'' :=
  ⟨h.below.trans (k.mono (by omega)), (k.block _ (by omega)).trans h.c0, (k.block _ (by omega)).trans h.c1, (k.block _ (by omega)).trans h.c2⟩
theorem EvW.start (w : World) (b d : Int) : EvW w b d (((w.alloc (.cells #[.int .i64 b, .int .i64 d] 40)).alloc (.cells #[.int .i64 0, .int .i64 0, .slice none 0 0, .slice none 0 0] 77)).alloc (.cells #[.int .i64 0] 34)) := by
  have e1 : (w.alloc (.cells #[.int .i64 b, .int .i64 d] 40)).heap.size = w.heap.size + 1 := Array.size_push _
  have e2 : ((w.alloc (.cells #[.int .i64 b, .int .i64 d] 40)).alloc (.cells #[.int .i64 0, .int .i64 0, .slice none 0 0, .slice none 0 0] 77)).heap.size = w.heap.size + 1 + 1 := by
    rw [← e1]; exact Array.size_push _
  have b1 := (Below.refl w.heap.size w).alloc (Nat.le_refl _) (.cells #[.int .i64 b, .int .i64 d] 40)
  have b2 := b1.alloc b1.size (.cells #[.int .i64 0, .int .i64 0, .slice none 0 0, .slice none 0 0] 77)
  refine ⟨b2.alloc b2.size _, blk_alloc (blk_alloc (alloc_blk w _) _) _, ?_, ?_⟩
  · have := alloc_blk (w.alloc (.cells #[.int .i64 b, .int .i64 d] 40)) (.cells #[.int .i64 0, .int .i64 0, .slice none 0 0, .slice none 0 0] 77)
    rw [e1] at this
    exact blk_alloc this _
  · have := alloc_blk ((w.alloc (.cells #[.int .i64 b, .int .i64 d] 40)).alloc (.cells #[.int .i64 0, .int .i64 0, .slice none 0 0, .slice none 0 0] 77)) (.cells #[.int .i64 0] 34)
    rw [e2] at this
    exact this
theorem eval_results {tmps : Array Value} {w : World} {h : Nat} {x0 x1 x2 x3 : Value} {e : Int} (t8 : tmps.getD 8 undef = .pointer (some ⟨h + 1, 0, none⟩)) (t9 : tmps.getD 9 undef = .pointer (some ⟨h + 1 + 1, 0, none⟩)) (c1 : w.heap[h + 1]? = some (.cells #[x0, x1, x2, x3] 77 (0, 0))) (c2 : w.heap[h + 1 + 1]? = some (.cells #[.int .i64 e] 34 (0, 0))) :
    (results Try.f21 tmps).run Try.prog w = .ok (.tuple #[.agg #[x0, x1, x2, x3], .int .i64 e]) w := by
  have q0 := blk_cell c1 0
  have q1 := blk_cell c1 1
  have q2 := blk_cell c1 2
  have q3 := blk_cell c1 3
  have p0 := blk_cell c2 0
  simp only [Array.getD_eq_getD_getElem?] at t8 t9
  simp [results, Try.results21, go_sem, t8, t9, q0, q1, q2, q3, p0]
section
variable {A Aa : Option Addr} {c ca : Nat} {l : List S64} {args : List Int} {b d most : Int} {w : World}
set_option maxRecDepth 100000 in
set_option maxHeartbeats 8000000 in
theorem Eval_any (hC : k64.C w A l.length l) (hc : l.length ≤ c) (hCa : (Kd.int .i64).C w Aa args.length args) (hca : args.length ≤ ca) (hmost : most ≤ 900000) :
    Calls Try.prog 21 #[.slice A l.length c, .slice Aa args.length ca, .agg #[.int .i64 b, .int .i64 d], .int .i64 most] w (EvalPost w (evalR l args b d most.toNat)) := by
  obtain ⟨r, hr⟩ : ∃ r, r = evalR l args b d most.toNat := ⟨_, rfl⟩
  rw [← hr]
  obtain ⟨W3, hW3⟩ : ∃ W3, W3 = ((w.alloc (.cells #[.int .i64 b, .int .i64 d] 40)).alloc (.cells #[.int .i64 0, .int .i64 0, .slice none 0 0, .slice none 0 0] 77)).alloc (.cells #[.int .i64 0] 34) := ⟨_, rfl⟩
  have hE3 : EvW w b d W3 := by rw [hW3]; exact EvW.start w b d
  have H0 := Aside0.mk (And.intro hC (And.intro hc (And.intro hCa (And.intro hca (And.intro hmost hr)))))
  have HW3 := Aside0.mk hW3
  have H3 := Aside0.mk hE3
  have y0 := blk_cell hE3.c0 0
  have y1 := blk_cell hE3.c0 1
  clear hW3 hC hc hCa hca hmost hr hE3
  go_enter_defers Try.func21, Try.ntmps21
  go_upto_region 1 with (fail)
  rw [← HW3.out]
  go_wp2_with fail
  refine (eval_Right.calls A c l Aa ca args b d _ W3 (Kd.C_below H0.out.1 H3.out.below) H0.out.2.1 (Kd.C_below H0.out.2.2.1 H3.out.below) H0.out.2.2.2.1 (evRight_f l args b d)).mono ?_
  rintro e w4 ⟨rfl, hb4⟩
  have hE4 := H3.out.keep (hb4.mono H3.out.size)
  have H4 := Aside0.mk hE4
  clear y0 y1 hE4 hb4
  cases hRt : evRight l args.length b d with
  | false =>
    have hr := H0.out.2.2.2.2.2
    unfold evalR at hr
    rw [if_neg (by rw [hRt]; decide)] at hr
    have HR := Aside0.mk hr
    have s0 := blk_cell H4.out.c1 0
    have s1 := blk_cell H4.out.c1 1
    have s2 := blk_cell H4.out.c1 2
    have s3 := blk_cell H4.out.c1 3
    have z0 := blk_frozen H4.out.c1 0
    have z1 := blk_frozen H4.out.c1 1
    have z2 := blk_frozen H4.out.c1 2
    have z3 := blk_frozen H4.out.c1 3
    have e0 := blk_cell H4.out.c2 0
    have f0 := blk_frozen H4.out.c2 0
    clear hr hRt
    go_wp2_with fail
    have n3 : w.heap.size + 1 + 1 ≠ w.heap.size + 1 := by omega
    have d1 := blk_set (blk_set (blk_set (blk_set H4.out.c1 0 (.int .i64 0)) 1 (.int .i64 0)) 2 (.slice none 0 0)) 3 (.slice none 0 0)
    have e2 := blk_set (blk_farC (p := ⟨w.heap.size + 1, 3, none⟩) (blk_farC (p := ⟨w.heap.size + 1, 2, none⟩) (blk_farC (p := ⟨w.heap.size + 1, 1, none⟩) (blk_farC (p := ⟨w.heap.size + 1, 0, none⟩) H4.out.c2 n3 (.int .i64 0)) n3 (.int .i64 0)) n3 (.slice none 0 0)) n3 (.slice none 0 0)) 0 (.int .i64 1)
    have d2 := blk_farC (p := ⟨w.heap.size + 1 + 1, 0, none⟩) d1 (Ne.symm n3) (.int .i64 1)
    have hk9 := ((((((Keep.refl (fun q => q = w.heap.size + 1 ∨ q = w.heap.size + 1 + 1) w4).set (p := ⟨w.heap.size + 1, 0, none⟩) (.inr (.inl rfl)) (.int .i64 0)).set (p := ⟨w.heap.size + 1, 1, none⟩) (.inr (.inl rfl)) (.int .i64 0)).set (p := ⟨w.heap.size + 1, 2, none⟩) (.inr (.inl rfl)) (.slice none 0 0)).set (p := ⟨w.heap.size + 1, 3, none⟩) (.inr (.inl rfl)) (.slice none 0 0)).set (p := ⟨w.heap.size + 1 + 1, 0, none⟩) (.inr (.inr rfl)) (.int .i64 1)).below H4.out.below.size (B := w.heap.size) (fun q hq hp => by omega)
    refine ⟨_, eval_results rfl rfl d2 e2, ⟨none, 0, none, 0, ?_, ?_⟩, H4.out.below.trans hk9⟩
    · rw [HR.out]; rfl
    · rw [HR.out]; exact ResC.none _
  | true =>
    obtain ⟨hl, hb, hd, hn, hn4⟩ := evRight_ok hRt
    have hr := H0.out.2.2.2.2.2
    unfold evalR at hr
    rw [if_pos hRt] at hr
    have HR := Aside0.mk (And.intro hr (And.intro hl (And.intro hb (And.intro hd (And.intro hn hn4)))))
    clear hr hRt hl hb hd hn hn4
    have y0 := blk_cell H4.out.c0 0
    have y1 := blk_cell H4.out.c0 1
    have hmax := max_most most
    obtain ⟨n, hn⟩ : ∃ n, n = most.toNat := ⟨_, rfl⟩
    have HN := Aside0.mk hn
    rw [← hn] at hmax
    clear hn
    obtain ⟨wb, hwb⟩ : ∃ wb, wb = w4.heap.size := ⟨_, rfl⟩
    obtain ⟨W5, hW5⟩ : ∃ W5, W5 = (w4.alloc (.cells #[.slice A l.length c, .int .i64 b, .int .i64 d, .int .i64 n, .int .i64 0, .int .i64 0, .slice none 0 0, .slice none 0 0] 111)).alloc (.cells #[.pointer (some ⟨wb, 0, none⟩)] 109) := ⟨_, rfl⟩
    have hsz : (w4.alloc (.cells #[.slice A l.length c, .int .i64 b, .int .i64 d, .int .i64 n, .int .i64 0, .int .i64 0, .slice none 0 0, .slice none 0 0] 111)).heap.size = wb + 1 := by rw [hwb]; exact Array.size_push _
    have hn5 : W5.heap[wb]? = some (.cells #[.slice A l.length c, .int .i64 b, .int .i64 d, .int .i64 n, .int .i64 0, .int .i64 0, .slice none 0 0, .slice none 0 0] 111 (0, 0)) := by rw [hW5]; exact blk_alloc (by rw [hwb]; exact alloc_blk w4 _) _
    have hp5 : W5.heap[wb + 1]? = some (.cells #[.pointer (some ⟨wb, 0, none⟩)] 109 (0, 0)) := by
      rw [hW5]
      have := alloc_blk (w4.alloc (.cells #[.slice A l.length c, .int .i64 b, .int .i64 d, .int .i64 n, .int .i64 0, .int .i64 0, .slice none 0 0, .slice none 0 0] 111)) (.cells #[.pointer (some ⟨wb, 0, none⟩)] 109)
      rwa [hsz] at this
    have hb5 : Below w4.heap.size w4 W5 := by
      have b1 := (Below.refl w4.heap.size w4).alloc (Nat.le_refl _) (.cells #[.slice A l.length c, .int .i64 b, .int .i64 d, .int .i64 n, .int .i64 0, .int .i64 0, .slice none 0 0, .slice none 0 0] 111)
      rw [hW5]; exact b1.alloc b1.size _
    have HWB := Aside0.mk (And.intro hwb hW5)
    have H5 := Aside0.mk (And.intro hn5 (And.intro hp5 hb5))
    clear hsz hn5 hp5 hb5 hwb hW5
    go_wp2_with fail
    rw [← HWB.out.1, ← HWB.out.2]
    have ES5 := Aside0.mk (show ∀ {w' : World}, Below W5.heap.size W5 w' → ES ⟨w4, wb, wb, A, c, b, d⟩ l ⟨n, [], []⟩ [] (.slice none 0 0) (.slice none 0 0) w' from fun hb => ⟨⟨(hb.block _ (blk_lt H5.out.1)).trans H5.out.1, Kd.R_nil _ _ _ _ _, Kd.R_nil _ _ _ _ _, ⟨rfl, fun j h1 => absurd h1 (Nat.not_lt_zero _)⟩, Nat.le_refl _⟩, H5.out.2.2.trans (hb.mono H5.out.2.2.size), Kd.C_below H0.out.1 H4.out.below, by show w4.heap.size ≤ wb; rw [HWB.out.1]; exact Nat.le_refl _⟩)
    have t10 := blk_cell H5.out.2.1 0
    have HT := Aside0.mk t10
    clear t10
    refine wp_region_seq2 (fun w' => w'.heap[wb + 1]? = W5.heap[wb + 1]?) [] [.take 0, .take 1, .take 2, .op 3, .op 4, .op 5, .op 6, .op 7, .op 8] (by kernel_rfl) (by kernel_rfl) rfl (by kernel_rfl) (panic_put2 rfl (by kernel_rfl)) ?_
    have hs : W5.drew.heap[wb + 1]? = W5.heap[wb + 1]? := rfl
    repeat (
      (first
        | (refine runSeq2_take (v := ?_) (by rfl) (by rfl) (fun w' hS => ?_) hs ?_
           rotate_left
           · (have t10 := blk_cell (hS.trans H5.out.2.1) 0; go_simp; exact rfl))
        | refine runSeq2_skip (by rfl) (by rfl) hs ?_)
      (try simp only [Act.put, List.setIfInBounds_toArray, List.set_cons_zero, List.set_cons_succ]))
    refine runSeq2_op (by rfl) (by rfl) (fun K hK => ?_)
    go_simp
    refine hK _ _ hs ?_
    clear hK K
    have hbeg := begin_all (c := ⟨w4, wb, wb, A, c, b, d⟩) (M := n + 1) HR.out.2.1 (by have := H0.out.2.2.2.2.1; have := HN.out; omega) (by have := HR.out.2.2.2.1; show d ≤ 900; omega) (by have := HR.out.2.2.1; show 0 ≤ b ∧ b ≤ 1000000; omega) (n + 1) ⟨n, [], []⟩ [] (.slice none 0 0) (.slice none 0 0) W5.drew 0 none 0 [] Aa ca args noHands (ES5.out (Below.refl _ _).drew) ⟨by show 0 + n ≤ n + 1; omega, by show 0 + n ≤ n + 1; omega, fun e he => by cases he⟩ (by show 0 + 1 + n ≤ n + 1; omega) (by have := HR.out.2.1.len; omega) (PathAt.nil _) (Nat.le_refl _) (fun _ => rfl) (by have := HR.out.2.2.2.1.1; show ((0 : Nat) : Int) ≤ d; omega) (by have := HR.out.2.2.2.2.2; omega) (Kd.C_below (Kd.C_below H0.out.2.2.1 (H4.out.below.trans (H5.out.2.2.mono H4.out.below.size))) ((Below.refl _ _).drew)) H0.out.2.2.2.1 rfl (by show n < n + 1; omega)
    have HBG := Aside0.mk hbeg
    clear hbeg
    refine runSeq2_op (by rfl) (by rfl) (fun K hK => ?_)
    go_simp
    refine HBG.out.mono ?_
    clear HBG
    intro e w6 hpost
    obtain ⟨q, hq⟩ : ∃ q, q = beginP l b d (n + 1) ⟨n, [], []⟩ ((0 : Nat) : Int) [] args noHands := ⟨_, rfl⟩
    have hq2 : r = endR q := by
      rw [HR.out.1]
      unfold evalP
      have hq' : beginP l b d (most.toNat + 1) ⟨most.toNat, [], []⟩ 0 [] args noHands = q := by rw [← HN.out, hq]; rfl
      rw [hq']
      obtain ⟨o, G⟩ := q
      cases o <;> rfl
    replace hpost : EndP ⟨w4, wb, wb, A, c, b, d⟩ l (PG wb (.slice none 0 0) (.slice none 0 0)) q.1 q.2 W5.drew e w6 := by rw [hq]; exact hpost
    have HQ := Aside0.mk hq2
    clear hq hq2
    obtain ⟨hend, hk6, ents, vt, vl, hE6, hq6⟩ := hpost
    have hpg : ∀ x, PG wb (.slice none 0 0) (.slice none 0 0) x → x = wb := by
      intro x hx
      rcases hx with hx | hx | hx
      · exact hx
      · cases hx
      · cases hx
    have hk6' : Keep (fun x => x = wb) W5.drew w6 := hk6.mono (fun x _ hx => hpg x hx)
    have hb6 : Below w4.heap.size w4 w6 := H5.out.2.2.drew.trans (hk6'.below H5.out.2.2.drew.size (fun x hx e => by rw [HWB.out.1] at e; omega))
    have hE9 := H4.out.keep (hb6.mono H4.out.size)
    have hp6 : w6.heap[wb + 1]? = some (.cells #[.pointer (some ⟨wb, 0, none⟩)] 109 (0, 0)) := hk6'.blk (show W5.drew.heap[wb + 1]? = _ from H5.out.2.1) (by omega)
    obtain ⟨At, ct, rfl⟩ := Kd.R_slice hE6.eg.told
    obtain ⟨Al, cl, rfl⟩ := Kd.R_slice hE6.eg.log
    have H6 := Aside0.mk (And.intro hE6 (And.intro hb6 (And.intro hE9 (And.intro hp6 hk6'))))
    have hnode := hE6.eg.node
    have HND := Aside0.mk hnode
    have y4 := blk_cell hnode 4
    have z4 := blk_frozen hnode 4
    obtain ⟨o, G⟩ := q
    clear hk6 hq6 hpg hk6' hb6 hE9 hE6 hnode hs
    cases o with
    | val v =>
      have he : e = .returned (.int .i64 v) := hend
      clear hend
      subst he
      refine hK _ _ (hp6.trans H5.out.2.1.symm) ?_
      clear hK K
      (try simp only [Act.put, List.setIfInBounds_toArray, List.set_cons_zero, List.set_cons_succ])
      refine runSeq2_op (by rfl) (by rfl) (fun K hK => ?_)
      go_simp
      refine hK _ _ (hp6.trans H5.out.2.1.symm) ?_
      clear hK K
      refine runSeq2_op (by rfl) (by rfl) (fun K hK => ?_)
      go_simp
      refine hK _ _ (hp6.trans H5.out.2.1.symm) ?_
      clear hK K
      refine runSeq2_op (by rfl) (by rfl) (fun K hK => ?_)
      go_simp
      refine hK _ _ (hp6.trans H5.out.2.1.symm) ?_
      clear hK K
      obtain ⟨W7, hW7⟩ : ∃ W7, W7 = w6.setCell ⟨wb, 4, none⟩ (.int .i64 v) := ⟨_, rfl⟩
      have hk7 : Keep (fun x => x = wb) w6 W7 := by rw [hW7]; exact (Keep.refl (fun x => x = wb) w6).set (p := ⟨wb, 4, none⟩) (.inr rfl) _
      have hp7 := hk7.blk hp6 (by omega)
      have hn7 := blk_set HND.out 4 (.int .i64 v)
      rw [← hW7] at hn7
      have HW7 := Aside0.mk hW7
      have hE7 := H6.out.2.2.1.keep ((hk7.below H6.out.2.1.size (fun x hx e => by rw [HWB.out.1] at e; omega)).mono H4.out.size)
      have H7 := Aside0.mk (And.intro hk7 (And.intro hp7 (And.intro hn7 hE7)))
      clear hW7 hp6
      refine runSeq2_op (by rfl) (by rfl) (fun K hK => ?_)
      go_simp
      rw [← HW7.out]
      refine hK _ _ (hp7.trans H5.out.2.1.symm) ?_
      clear hK K y4 z4
      refine runSeq2_nil ?_
      have p0 := blk_cell hp7 0
      have r4 := blk_cell hn7 4
      have r5 := blk_cell hn7 5
      have r6 := blk_cell hn7 6
      have r7 := blk_cell hn7 7
      have s0 := blk_cell hE7.c1 0
      have s1 := blk_cell hE7.c1 1
      have s2 := blk_cell hE7.c1 2
      have s3 := blk_cell hE7.c1 3
      have z0 := blk_frozen hE7.c1 0
      have z1 := blk_frozen hE7.c1 1
      have z2 := blk_frozen hE7.c1 2
      have z3 := blk_frozen hE7.c1 3
      have e0 := blk_cell hE7.c2 0
      have f0 := blk_frozen hE7.c2 0
      clear hk7 hp7 hn7 hE7
      go_wp2_with fail
      have n3 : w.heap.size + 1 + 1 ≠ w.heap.size + 1 := by omega
      have hnw : w.heap.size + 1 ≠ wb := by have h1 := H4.out.size; have h2 := HWB.out.1; omega
      have hnw2 : w.heap.size + 1 + 1 ≠ wb := by have h1 := H4.out.size; have h2 := HWB.out.1; omega
      obtain ⟨hk7, hp7, hn7, hE7⟩ := H7.out
      obtain ⟨hE6, hb6, hE9, hp6, hk6⟩ := H6.out
      have d1 := blk_set (blk_set (blk_set (blk_set hE7.c1 0 (.int .i64 v)) 1 (.int .i64 0)) 2 (.slice At G.told.length ct)) 3 (.slice Al ents.length cl)
      have e2 := blk_set (blk_farC (p := ⟨w.heap.size + 1, 3, none⟩) (blk_farC (p := ⟨w.heap.size + 1, 2, none⟩) (blk_farC (p := ⟨w.heap.size + 1, 1, none⟩) (blk_farC (p := ⟨w.heap.size + 1, 0, none⟩) hE7.c2 n3 (.int .i64 v)) n3 (.int .i64 0)) n3 (.slice At G.told.length ct)) n3 (.slice Al ents.length cl)) 0 (.int .i64 0)
      have d2 := blk_farC (p := ⟨w.heap.size + 1 + 1, 0, none⟩) d1 (Ne.symm n3) (.int .i64 0)
      have hk8 := hk7.mono (T := fun q => q = wb ∨ q = w.heap.size + 1 ∨ q = w.heap.size + 1 + 1) (fun q _ e => .inl e)
      have hk9 := ((((hk8.set (p := ⟨w.heap.size + 1, 0, none⟩) (.inr (.inr (.inl rfl))) (.int .i64 v)).set (p := ⟨w.heap.size + 1, 1, none⟩) (.inr (.inr (.inl rfl))) (.int .i64 0)).set (p := ⟨w.heap.size + 1, 2, none⟩) (.inr (.inr (.inl rfl))) (.slice At G.told.length ct)).set (p := ⟨w.heap.size + 1, 3, none⟩) (.inr (.inr (.inl rfl))) (.slice Al ents.length cl)).set (p := ⟨w.heap.size + 1 + 1, 0, none⟩) (.inr (.inr (.inr rfl))) (.int .i64 0)
      have hrc := hE6.eg.resC hk9 (fun q hq => by
        rcases hq with rfl | rfl | rfl
        · exact ⟨_, _, hE6.eg.node, by decide, by decide, by decide⟩
        · exact ⟨_, _, hE9.c1, by decide, by decide, by decide⟩
        · exact ⟨_, _, hE9.c2, by decide, by decide, by decide⟩) v 0
      have hbw : Below w.heap.size w _ := (H4.out.below.trans (hb6.mono (by have := H4.out.below.size; omega))).trans (hk9.below (B := w.heap.size) (by have h1 := hE9.below.size; omega) (fun q hq hs => by have h1 := H4.out.size; have h2 := HWB.out.1; rcases hs with h3 | h3 | h3 <;> omega))
      refine leaves_cons (f := 37) (args := #[.pointer (some ⟨wb + 1, 0, none⟩), .pointer (some ⟨w.heap.size + 1, 0, none⟩), .pointer (some ⟨w.heap.size + 1 + 1, 0, none⟩)]) (by simp) (by simp [go_sem]) ?_
      refine (ecatch_idle _ _ _ _).mono ?_
      rintro e u' w2 ⟨rfl, rfl, rfl⟩
      refine ⟨_, eval_results rfl rfl d2 e2, ⟨At, ct, Al, cl, ?_, ?_⟩, hbw⟩
      · rw [HQ.out]
        show _ = _
        rw [hrc.2.1]
        rfl
      · rw [HQ.out]; exact hrc.2.2
    | fail why =>
      have he : e = .panicked [{ v := failV why, recovered := false }] := hend
      clear hend
      subst he
      refine leaves_cons (f := 37) (args := #[.pointer (some ⟨wb + 1, 0, none⟩), .pointer (some ⟨w.heap.size + 1, 0, none⟩), .pointer (some ⟨w.heap.size + 1 + 1, 0, none⟩)]) (by simp) (by simp [go_sem]) ?_
      obtain ⟨hE6, hb6, hE9, hp6, hk6⟩ := H6.out
      refine (ecatch_fail why hp6 HND.out hE9.c1 hE9.c2).mono ?_
      rintro e u' w9 ⟨rfl, rfl, hk9, d2, e2⟩
      have hrc := hE6.eg.resC hk9 (fun q hq => by
        rcases hq with rfl | rfl | rfl
        · exact ⟨_, _, hE6.eg.node, by decide, by decide, by decide⟩
        · exact ⟨_, _, hE9.c1, by decide, by decide, by decide⟩
        · exact ⟨_, _, hE9.c2, by decide, by decide, by decide⟩) 0 why
      have hbw : Below w.heap.size w _ := (H4.out.below.trans (hb6.mono (by have := H4.out.below.size; omega))).trans (hk9.below (B := w.heap.size) (by have h1 := hE9.below.size; omega) (fun q hq hs => by have h1 := H4.out.size; have h2 := HWB.out.1; rcases hs with h3 | h3 | h3 <;> omega))
      refine ⟨_, eval_results rfl rfl d2 e2, ⟨At, ct, Al, cl, ?_, ?_⟩, hbw⟩
      · rw [HQ.out]
        show _ = _
        rw [hrc.2.1]
        rfl
      · rw [HQ.out]; exact hrc.2.2
    | long =>
      have he : e = .panicked [{ v := longV, recovered := false }] := hend
      clear hend
      subst he
      refine leaves_cons (f := 37) (args := #[.pointer (some ⟨wb + 1, 0, none⟩), .pointer (some ⟨w.heap.size + 1, 0, none⟩), .pointer (some ⟨w.heap.size + 1 + 1, 0, none⟩)]) (by simp) (by simp [go_sem]) ?_
      obtain ⟨hE6, hb6, hE9, hp6, hk6⟩ := H6.out
      refine (ecatch_long hp6 hE9.c1 hE9.c2).mono ?_
      rintro e u' w9 ⟨rfl, rfl, hk9, d2, e2⟩
      have hbw : Below w.heap.size w _ := (H4.out.below.trans (hb6.mono (by have := H4.out.below.size; omega))).trans (hk9.below (B := w.heap.size) (by have h1 := hE9.below.size; omega) (fun q hq hs => by have h1 := H4.out.size; have h2 := HWB.out.1; rcases hs with h3 | h3 <;> omega))
      refine ⟨_, eval_results rfl rfl d2 e2, ⟨none, 0, none, 0, ?_, ?_⟩, hbw⟩
      · rw [HQ.out]; rfl
      · rw [HQ.out]; exact ResC.none _
end
end Go.Proofs.Ytbekjccehhaljaa.H

set_option linter.unusedVariables false
set_option linter.unusedSimpArgs false
namespace Go.Proofs.Ytbekjccehhaljaa.H
open Go.RowKit Go.Hay Go.Proofs.YtbekjccehhaljaaW.PrintWords Go.Proofs.YtbekjccehhaljaaW.PrintLast Go.Proofs.YtbekjccehhaljaaW.PrintMore
theorem eval_of (A : Option Addr) (c : Nat) (P : List S83) (Aa : Option Addr) (ca : Nat) (args : List Int) (b d most : Int) (w : World) (hC : k64.C w A (P.map ofF).length (P.map ofF)) (hc : P.length ≤ c) (hA : (Kd.int .i64).C w Aa args.length args) (hca : args.length ≤ ca) (hm : most ≤ 900000) {r : EvR} (hr : r = evalR (P.map ofF) args b d most.toNat) :
    Calls Try.prog 21 #[.slice A P.length c, .slice Aa args.length ca, .agg #[.int .i64 b, .int .i64 d], .int .i64 most] w (EvalPost w r) := by
  rw [hr]
  have := Eval_any (b := b) (d := d) (most := most) (c := c) hC (by rw [List.length_map]; exact hc) hA hca hm
  rwa [List.length_map] at this
/-- behind an evaluation whose result is stored at bx. -/
structure AfterE (w W : World) (bx : Nat) (rv rf : Int) (told : List Int) (log : List (List Int × Int)) (At : Option Addr) (ct : Nat) (Al : Option Addr) (cl : Nat) : Prop where
  below : Below w.heap.size w W
  box : W.heap[bx]? = some (.cells #[.int .i64 rv, .int .i64 rf, .slice At told.length ct, .slice Al log.length cl] 77 (0, 0))
  res : ResC W (rv, rf, told, log) At ct Al cl
  new : w.heap.size ≤ bx
/-- ways that meet again: the frame is found where the first one ends. -/
theorem with_act {G : Prop} {F : Nat → Option Addr → Nat → Option Addr → Nat → Option Addr → Nat → World → Prop} {K : Act → World → Prop} (act : Nat → Option Addr → Nat → Option Addr → Nat → Option Addr → Nat → Act)
    (H : (∀ bx A c At ct Al cl W, F bx A c At ct Al cl W → K (act bx A c At ct Al cl) W) → G) (h : ∀ bx A c At ct Al cl W, F bx A c At ct Al cl W → K (act bx A c At ct Al cl) W) : G := H h
def zRes : Obj := .cells #[.int .i64 0, .int .i64 0, .slice none 0 0, .slice none 0 0] 77
theorem after_store {w w4 : World} {bx : Nat} {rv rf : Int} {told : List Int} {log : List (List Int × Int)} {At : Option Addr} {ct : Nat} {Al : Option Addr} {cl : Nat} (hb : Below w.heap.size w w4) (hx : w4.heap[bx]? = some zRes) (hn : w.heap.size ≤ bx) (hr : ResC w4 (rv, rf, told, log) At ct Al cl) {W : World}
    (hW : W = (((w4.setCell ⟨bx, 0, none⟩ (.int .i64 rv)).setCell ⟨bx, 1, none⟩ (.int .i64 rf)).setCell ⟨bx, 2, none⟩ (.slice At told.length ct)).setCell ⟨bx, 3, none⟩ (.slice Al log.length cl)) : AfterE w W bx rv rf told log At ct Al cl := by
  have hk : Keep (fun q => q = bx) w4 W := by
    rw [hW]
    exact ((((Keep.refl (fun q => q = bx) w4).set (p := ⟨bx, 0, none⟩) (.inr rfl) _).set (p := ⟨bx, 1, none⟩) (.inr rfl) _).set (p := ⟨bx, 2, none⟩) (.inr rfl) _).set (p := ⟨bx, 3, none⟩) (.inr rfl) _
  refine ⟨hb.trans (hk.below (B := w.heap.size) hb.size (fun q hq e => by subst e; omega)), ?_, hr.step hk (fun q _ e => by subst e; exact ⟨_, _, hx, by decide, by decide, by decide⟩), hn⟩
  have := blk_set (blk_set (blk_set (blk_set hx 0 (.int .i64 rv)) 1 (.int .i64 rf)) 2 (.slice At told.length ct)) 3 (.slice Al log.length cl)
  rw [hW]
  exact this
/-- the log of a result, entry by entry. -/
theorem log_cells {w : World} {rv rf : Int} {told : List Int} {log : List (List Int × Int)} {At : Option Addr} {ct : Nat} {Al : Option Addr} {cl : Nat} (h : ResC w (rv, rf, told, log) At ct Al cl) (h0 : 0 < log.length) :
    ∃ ad, Al = some ad ∧ ∀ i (hi : i < log.length), ∃ A0 c0, w.cell? (ad.add (i * 2)) = some (.slice A0 log[i].1.length c0) ∧ w.cell? ⟨(ad.add (i * 2)).block, (ad.add (i * 2)).off + 1, none⟩ = some (.int .i64 log[i].2) ∧ log[i].1.length ≤ c0 ∧ (Kd.int .i64).C w A0 log[i].1.length log[i].1 := by
  have hlogc : k54.C w Al log.length (log.map entS) := h.log
  obtain ⟨ad2, hA2, _⟩ := hlogc.2.2 h0
  refine ⟨ad2, hA2, fun i hi => ?_⟩
  obtain ⟨ad, A0, c0, e2, u0, u1, u2, u3⟩ := at_T54 hlogc (i : Int) (by omega) (by omega)
  rw [hA2] at e2
  cases e2
  have e : rd_T54 (log.map entS) (i : Int) = entS log[i] := by simp [rd_T54, hi]
  rw [Int.toNat_natCast] at u0 u1
  rw [e] at u0 u1 u2 u3
  exact ⟨A0, c0, u0, u1, u2, u3⟩
end Go.Proofs.Ytbekjccehhaljaa.H

set_option linter.unusedVariables false
set_option linter.unusedSimpArgs false
namespace Go.Proofs.Ytbekjccehhaljaa.H
open Go.RowKit Go.Hay Go.Proofs.YtbekjccehhaljaaW.PrintWords Go.Proofs.YtbekjccehhaljaaW.PrintLast Go.Proofs.YtbekjccehhaljaaW.PrintMore
/-- nothing of it is told, begun or counted. -/
structure Quiet (T T' : Tu) : Prop where
  kids : T'.kids = T.kids
  ps : T'.ps = T.ps
  told : T'.told = T.told
  steps : T'.steps = T.steps
  hands : T'.hands = T.hands
  wait : T'.wait = T.wait ∨ syncBad T = false
theorem Quiet.refl (T : Tu) : Quiet T T := ⟨rfl, rfl, rfl, rfl, rfl, .inl rfl⟩
inductive StepC (l : List S64) (depth : Int) (rec : Gu → List Int → List S61 → Tu → RU) (path : List Int) (x : S61) (T : Tu) (G : Gu) : SU → Prop
  | quiet (T' : Tu) (h : Quiet T T') : StepC l depth rec path x T G (.go T' G)
  | emit (T' : Tu) (n : Int) (h1 : T'.kids = T.kids) (h2 : T'.ps = T.ps ++ [⟨false, n⟩]) (h3 : T'.told = T.told + 1) (h4 : T'.steps = T.steps) (h5 : T'.hands = T.hands) (h6 : T'.wait = T.wait) : StepC l depth rec path x T G (.go T' G)
  | stop (v f : Int) (T' : Tu) (h : Quiet T T') (hv : f = 0 ∨ v = 0) (hf : f ≠ 0 ∨ syncBad T = false ∨ (x.f0 = 16 ∧ f = x.f4)) : StepC l depth rec path x T G (.stop v f T' G)
  | long : StepC l depth rec path x T G .long
  | kid (v f r : Int) (T2 T' : Tu) (G2 : Gu) (e : Nat) (hop : x.f0 = 11 ∨ x.f0 = 13) (hd : (path.length : Int) ≠ depth) (hr : rec G (path ++ [(T.kids.length : Int)]) (rd_T64 l x.f3).f1 (newTu (argsU l x T) T.hands) = some (v, f, T2, G2))
      (h1 : T'.kids = T.kids ++ [(mkNode T2 v f, r)]) (h2 : T'.ps = T.ps ++ [⟨true, (T.kids.length : Int)⟩]) (h3 : T'.told = T.told) (h4 : T'.steps = T.steps) (h6 : T'.wait = T.wait) (he : e ≤ 1) :
      StepC l depth rec path x T G (.go T' { noteU (path ++ [(T.kids.length : Int)]) T2 G2 with cells := G2.cells + e })
theorem stepU_c (l : List S64) (depth : Int) (rec : Gu → List Int → List S61 → Tu → RU) (path : List Int) (x : S61) (T : Tu) (G : Gu) : StepC l depth rec path x T G (stepU l depth rec path x T G) := by
  unfold stepU
  refine ite_i (fun e => ?_) (fun n1 => ite_i (fun e => ?_) (fun n2 => ite_i (fun e => ?_) (fun n8 => ite_i (fun e => ?_) (fun n9 => ite_i (fun e => ?_) (fun n10 => ite_i (fun e => ?_) (fun n11 => ite_i (fun e => ?_) (fun n12 => ite_i (fun e => ?_) (fun n14 => ite_i (fun e => ?_) (fun n15 => ite_i (fun e => ?_) (fun n16 => ?_))))))))))
  · exact .quiet _ ⟨rfl, rfl, rfl, rfl, rfl, .inl rfl⟩
  · exact .quiet _ ⟨rfl, rfl, rfl, rfl, rfl, .inl rfl⟩
  · cases reckonU x.f0 (uR T x.f2) (uR T x.f3) with
    | some n => exact .quiet _ ⟨rfl, rfl, rfl, rfl, rfl, .inl rfl⟩
    | none => exact .stop _ _ _ (Quiet.refl T) (.inr rfl) (.inl (by decide))
  · exact .quiet _ ⟨rfl, rfl, rfl, rfl, rfl, .inl rfl⟩
  · exact .quiet _ (ite_i (fun _ => ⟨rfl, rfl, rfl, rfl, rfl, .inl rfl⟩) (fun _ => Quiet.refl T))
  · refine ite_i (fun _ => .stop _ _ _ (Quiet.refl T) (.inr rfl) (.inl (by decide))) (fun hd => ?_)
    cases hq : rec G (path ++ [(T.kids.length : Int)]) (rd_T64 l x.f3).f1 (newTu (argsU l x T) T.hands) with
    | none => exact .long
    | some r =>
      obtain ⟨v, f, T2, G2⟩ := r
      show StepC l depth rec path x T G (kidGo x T (mkNode T2 v f) (noteU (path ++ [(T.kids.length : Int)]) T2 G2))
      unfold kidGo
      refine ite_i (fun e11 => ?_) (fun e13 => ?_)
      · exact .kid v f x.f1 T2 _ G2 0 e hd hq rfl rfl rfl rfl rfl (by omega)
      · exact .kid v f (-1) T2 _ G2 1 e hd hq rfl rfl rfl rfl rfl (by omega)
  · exact ite_i (fun _ => .stop _ _ _ (Quiet.refl T) (.inr rfl) (.inl (by decide))) (fun hs => .quiet _ ⟨rfl, rfl, rfl, rfl, rfl, .inr (by simpa using hs)⟩)
  · cases uH T x.f2 with
    | nil => exact .stop _ _ _ (Quiet.refl T) (.inr rfl) (.inl (by decide))
    | node ps ks v f => exact ite_i (fun _ => .stop _ _ _ (Quiet.refl T) (.inr rfl) (.inl (by decide))) (fun _ => .quiet _ ⟨rfl, rfl, rfl, rfl, rfl, .inl rfl⟩)
  · exact .emit _ _ rfl rfl rfl rfl rfl rfl
  · exact .stop _ _ _ (Quiet.refl T) (.inr rfl) (.inr (.inr ⟨e, rfl⟩))
  · exact ite_i (fun _ => .stop _ _ _ (Quiet.refl T) (.inr rfl) (.inl (by decide))) (fun hs => .stop _ _ _ ⟨rfl, rfl, rfl, rfl, rfl, .inr (by simpa using hs)⟩ (.inl rfl) (.inr (.inl (by simpa using hs))))
end Go.Proofs.Ytbekjccehhaljaa.H

set_option linter.unusedVariables false
set_option linter.unusedSimpArgs false
namespace Go.Proofs.Ytbekjccehhaljaa.H
open Go.RowKit Go.Hay Go.Proofs.YtbekjccehhaljaaW.PrintWords Go.Proofs.YtbekjccehhaljaaW.PrintLast Go.Proofs.YtbekjccehhaljaaW.PrintMore
mutual
def nodesT : Tr → Int
  | .nil => 0
  | .node ps ks v f => 1 + nodesTs ks
def nodesTs : List Tr → Int
  | [] => 0
  | k :: r => nodesT k + nodesTs r
end
mutual
def numsT : Tr → Int
  | .nil => 0
  | .node ps ks v f => ((ps.length : Int) - (ks.length : Int)) + numsTs ks
def numsTs : List Tr → Int
  | [] => 0
  | k :: r => numsT k + numsTs r
end
theorem metP_len : ∀ {l : List Pc} {m r : Int}, metP m l = some r → r ≤ m + (l.length : Int)
  | [], m, r, h => by rw [metP] at h; cases h; simp
  | p :: l, m, r, h => by
    rw [metP] at h
    rw [List.length_cons]
    by_cases h1 : p.f0 = true
    · rw [if_pos h1] at h
      by_cases h2 : p.f1 = m
      · rw [if_pos h2] at h; have := metP_len h; omega
      · rw [if_neg h2] at h; cases h
    · rw [if_neg h1] at h; have := metP_len h; omega
end Go.Proofs.Ytbekjccehhaljaa.H

set_option linter.unusedVariables false
set_option linter.unusedSimpArgs false
namespace Go.Proofs.Ytbekjccehhaljaa.H
open Go.RowKit Go.Hay Go.Proofs.YtbekjccehhaljaaW.PrintWords Go.Proofs.YtbekjccehhaljaaW.PrintLast Go.Proofs.YtbekjccehhaljaaW.PrintMore
theorem nodesTs_app (a b : List Tr) : nodesTs (a ++ b) = nodesTs a + nodesTs b := by
  induction a with
  | nil => simp [nodesTs]
  | cons x a ih => simp only [List.cons_append, nodesTs, ih]; omega
theorem numsTs_app (a b : List Tr) : numsTs (a ++ b) = numsTs a + numsTs b := by
  induction a with
  | nil => simp [numsTs]
  | cons x a ih => simp only [List.cons_append, numsTs, ih]; omega
theorem metP_app (p : Pc) : ∀ (l : List Pc) (m : Int), metP m (l ++ [p]) = (metP m l).bind (fun r => metP r [p])
  | [], m => rfl
  | q :: l, m => by
    rw [List.cons_append, metP, metP]
    by_cases h1 : q.f0 = true
    · rw [if_pos h1, if_pos h1]
      by_cases h2 : q.f1 = m
      · rw [if_pos h2, if_pos h2]; exact metP_app p l _
      · rw [if_neg h2, if_neg h2]; rfl
    · rw [if_neg h1, if_neg h1]; exact metP_app p l _
theorem rightTs_of : ∀ {ks : List Tr} {d : Int}, (∀ k ∈ ks, rightT k d = true) → rightTs ks d = true
  | [], d, _ => rfl
  | k :: r, d, h => by rw [rightTs, h k (List.mem_cons_self ..), rightTs_of (fun x hx => h x (List.mem_cons_of_mem _ hx))]; rfl
/-- what stays right within a task that began at G0. -/
structure NeedI (depth : Int) (path : List Int) (G0 : Gu) (T : Tu) (G : Gu) : Prop where
  met : metP 0 T.ps = some (T.kids.length : Int)
  right : ∀ k ∈ T.kids, rightT k.1 ((path.length : Int) + 1) = true
  pl : T.ps.length = T.kids.length + T.told
  path_ : (path.length : Int) ≤ depth
  frames : (G.frames : Int) = G0.frames + nodesTs (T.kids.map (·.1))
  cells : (G.cells : Int) ≤ G0.cells + nodesTs (T.kids.map (·.1))
  chl : (G.chunks : Int) - G0.chunks ≤ numsTs (T.kids.map (·.1))
  chh : numsTs (T.kids.map (·.1)) ≤ 4 * ((G.chunks : Int) - G0.chunks)
  left : G.left + G.steps + T.steps = G0.left + G0.steps
  steps : (G.frames : Int) - G0.frames ≤ (G.steps : Int) - G0.steps
theorem NeedI.quiet {depth : Int} {path : List Int} {G0 G : Gu} {T T' : Tu} (h : NeedI depth path G0 T G) (q : Quiet T T') : NeedI depth path G0 T' G :=
  ⟨by rw [q.ps, q.kids]; exact h.met, by rw [q.kids]; exact h.right, by rw [q.ps, q.kids, q.told]; exact h.pl, h.path_, by rw [q.kids]; exact h.frames, by rw [q.kids]; exact h.cells, by rw [q.kids]; exact h.chl, by rw [q.kids]; exact h.chh, by rw [q.steps]; exact h.left, h.steps⟩
theorem NeedI.start {depth : Int} {path : List Int} (G : Gu) (args : List Int) (hands : List Tr) (hp : (path.length : Int) ≤ depth) : NeedI depth path G (newTu args hands) G :=
  ⟨rfl, (fun k hk => by cases hk), rfl, hp, by simp [newTu, nodesTs], by simp [newTu, nodesTs], by simp [newTu, numsTs], by simp [newTu, numsTs], rfl, by omega⟩
/-- the node that a task comes to, and what is noted. -/
structure NeedE (d : Int) (G0 : Gu) (t : Tr) (G : Gu) : Prop where
  right : rightT t d = true
  frames : (G.frames : Int) = G0.frames + nodesT t
  cells : (G.cells : Int) + 1 ≤ G0.cells + nodesT t
  chl : (G.chunks : Int) - G0.chunks ≤ numsT t
  chh : numsT t ≤ 4 * ((G.chunks : Int) - G0.chunks)
  left : G.left + G.steps = G0.left + G0.steps
  steps : (G.frames : Int) - G0.frames ≤ (G.steps : Int) - G0.steps
theorem NeedI.fin {depth : Int} {path p2 : List Int} {G0 G : Gu} {T : Tu} (hd30 : depth ≤ 30) (h : NeedI depth path G0 T G) (h1 : 1 ≤ T.steps) {v f : Int} (hv : f = 0 ∨ v = 0) : NeedE (path.length : Int) G0 (mkNode T v f) (noteU p2 T G) := by
  have hm := h.met
  have hp := h.path_
  have hpl := h.pl
  have e1 : nodesT (mkNode T v f) = 1 + nodesTs (T.kids.map (·.1)) := rfl
  have e2 : numsT (mkNode T v f) = ((T.ps.length : Int) - ((T.kids.map (·.1)).length : Int)) + numsTs (T.kids.map (·.1)) := rfl
  rw [List.length_map] at e2
  have ht : numsT (mkNode T v f) = T.told + numsTs (T.kids.map (·.1)) := by rw [e2]; omega
  have a1 := h.frames
  have a2 := h.cells
  have a3 := h.chl
  have a4 := h.chh
  have a5 := h.left
  have a6 := h.steps
  refine ⟨?_, ?_, ?_, ?_, ?_, ?_, ?_⟩
  · show rightT (.node T.ps (T.kids.map (·.1)) v f) (path.length : Int) = true
    rw [rightT, if_neg (by rintro (h | ⟨h3, h4⟩); · omega
                           · rcases hv with h | h <;> contradiction), hm]
    show (if (T.kids.length : Int) = ((T.kids.map (·.1)).length : Int) then _ else _) = true
    rw [List.length_map, if_pos rfl]
    exact rightTs_of (fun k hk => by
      obtain ⟨q, hq, rfl⟩ := List.mem_map.1 hk
      exact h.right q hq)
  · show ((G.frames + 1 : Nat) : Int) = _; omega
  · show (G.cells : Int) + 1 ≤ _; omega
  · show ((G.chunks + (T.told + 3) / 4 : Nat) : Int) - G0.chunks ≤ _; omega
  · show _ ≤ 4 * (((G.chunks + (T.told + 3) / 4 : Nat) : Int) - G0.chunks); omega
  · show G.left + (G.steps + T.steps) = _; omega
  · show ((G.frames + 1 : Nat) : Int) - G0.frames ≤ ((G.steps + T.steps : Nat) : Int) - G0.steps; omega
def RunN (budget depth : Int) (rec : Gu → List Int → List S61 → Tu → RU) : Prop :=
  ∀ (G0 G : Gu) (path : List Int) (code : List S61) (T : Tu), NeedI depth path G0 T G → ∀ v f T' G', rec G path code T = some (v, f, T', G') → NeedI depth path G0 T' G' ∧ (f = 0 ∨ v = 0) ∧ 1 ≤ T'.steps
theorem NeedI.tick {depth : Int} {path : List Int} {G0 G : Gu} {T : Tu} (h : NeedI depth path G0 T G) (h2 : G.left ≠ 0) : NeedI depth path G0 (tickT T) (tickG G) :=
  ⟨h.met, h.right, h.pl, h.path_, h.frames, h.cells, h.chl, h.chh, by have := h.left; show G.left - 1 + G.steps + (T.steps + 1) = _; omega, h.steps⟩
def NeedR (depth : Int) (path : List Int) (G0 : Gu) (s : Nat) : SU → Prop
  | .go T' G' => NeedI depth path G0 T' G'
  | .stop v f T' G' => NeedI depth path G0 T' G' ∧ (f = 0 ∨ v = 0) ∧ T'.steps = s
  | .long => True
theorem need_step {l : List S64} {budget depth : Int} (hd30 : depth ≤ 30) {rec : Gu → List Int → List S61 → Tu → RU} (hrec : RunN budget depth rec) {path : List Int} {x : S61} {T1 : Tu} {G0 G1 : Gu} {r : SU} (hst : StepC l depth rec path x T1 G1 r) (ht : NeedI depth path G0 T1 G1) : NeedR depth path G0 T1.steps r := by
  cases hst with
  | quiet T2 q => exact ht.quiet q
  | emit T2 n e1 e2 e3 e4 _ _ =>
    refine ⟨?_, by rw [e1]; exact ht.right, by rw [e1, e2, e3, List.length_append]; have := ht.pl; simp; omega, ht.path_, by rw [e1]; exact ht.frames, by rw [e1]; exact ht.cells, by rw [e1]; exact ht.chl, by rw [e1]; exact ht.chh, by rw [e4]; exact ht.left, ht.steps⟩
    rw [e1, e2, metP_app, ht.met]
    rfl
  | stop v2 f2 T2 q hv _ => exact ⟨ht.quiet q, hv, q.steps⟩
  | long => trivial
  | kid v2 f2 r T2 T3 G2 c hop hd hr e1 e2 e3 e4 _ he =>
    have hp : ((path ++ [(T1.kids.length : Int)]).length : Int) = (path.length : Int) + 1 := by rw [List.length_append]; simp
    have hpd := ht.path_
    obtain ⟨a1, a2, a3⟩ := hrec G1 G1 _ _ _ (NeedI.start G1 _ _ (by rw [hp]; omega)) v2 f2 T2 G2 hr
    have hE := a1.fin (p2 := path ++ [(T1.kids.length : Int)]) hd30 a3 a2
    rw [hp] at hE
    obtain ⟨NG, hNG⟩ : ∃ NG, NG = noteU (path ++ [(T1.kids.length : Int)]) T2 G2 := ⟨_, rfl⟩
    have hc0 : NG.cells = G2.cells := by rw [hNG]; rfl
    rw [← hNG] at hE ⊢
    have e5 : T3.kids.map (·.1) = T1.kids.map (·.1) ++ [mkNode T2 v2 f2] := by rw [e1, List.map_append]; rfl
    have n1 : nodesTs (T3.kids.map (·.1)) = nodesTs (T1.kids.map (·.1)) + nodesT (mkNode T2 v2 f2) := by rw [e5, nodesTs_app]; simp [nodesTs]
    have n2 : numsTs (T3.kids.map (·.1)) = numsTs (T1.kids.map (·.1)) + numsT (mkNode T2 v2 f2) := by rw [e5, numsTs_app]; simp [numsTs]
    have b1 := ht.frames
    have b2 := ht.cells
    have b3 := ht.chl
    have b4 := ht.chh
    have b5 := ht.left
    have b6 := ht.steps
    have c1 := hE.frames
    have c2 := hE.cells
    have c3 := hE.chl
    have c4 := hE.chh
    have c5 := hE.left
    have c6 := hE.steps
    refine ⟨?_, ?_, ?_, ht.path_, ?_, ?_, ?_, ?_, ?_, ?_⟩
    · rw [e1, e2, metP_app, ht.met, List.length_append]
      show metP _ _ = _
      rw [metP, if_pos rfl, if_pos rfl, metP]
      simp
    · intro k hk
      rw [e1] at hk
      rcases List.mem_append.1 hk with hk | hk
      · exact ht.right k hk
      · rw [List.mem_singleton.1 hk]; exact hE.right
    · rw [e1, e2, e3, List.length_append, List.length_append]; have := ht.pl; simp; omega
    · show (NG.frames : Int) = _; omega
    · show ((G2.cells + c : Nat) : Int) ≤ _; omega
    · show (NG.chunks : Int) - _ ≤ _; omega
    · show _ ≤ 4 * ((NG.chunks : Int) - _); omega
    · show NG.left + NG.steps + T3.steps = _; omega
    · show (NG.frames : Int) - _ ≤ (NG.steps : Int) - _; omega
theorem runU_need (l : List S64) {budget depth : Int} (hb : 1 ≤ budget) (hd30 : depth ≤ 30) : ∀ k, RunN budget depth (runU l budget depth k) := by
  intro k
  induction k with
  | zero => intro G0 G path code T h v f T' G' e; cases e
  | succ k ih =>
    intro G0 G path code T h v f T' G' e
    rw [runU] at e
    by_cases h1 : (T.steps : Int) = budget
    · rw [if_pos h1] at e; cases e; exact ⟨h, .inr rfl, by omega⟩
    rw [if_neg h1] at e
    by_cases h2 : G.left = 0
    · rw [if_pos h2] at e; cases e
    rw [if_neg h2] at e
    have hst := need_step hd30 ih (stepU_c l depth (runU l budget depth k) path (rd_T61 code T.at_) (tickT T) (tickG G)) (h.tick h2)
    have hts : (tickT T).steps = T.steps + 1 := rfl
    generalize stepU l depth (runU l budget depth k) path (rd_T61 code T.at_) (tickT T) (tickG G) = r at hst e
    cases r with
    | go T2 G2 =>
      exact ih G0 G2 path code T2 hst v f T' G' e
    | stop v2 f2 T2 G2 =>
      cases e
      exact ⟨hst.1, hst.2.1, by rw [hst.2.2, hts]; omega⟩
    | long => cases e
/-- an unfolding's blocks. -/
theorem unfoldP_need {l : List S64} {args : List Int} {b d : Int} (hl : POk l) (hb : 1 ≤ b) (hd : 0 ≤ d ∧ d ≤ 30) (ha : args.length ≤ 8) {most : Nat} {t : Tr} {G : Gu} (h : unfoldP l args b d most = some (t, G)) :
    NeedE 0 ⟨most, [], 0, 0, 0, 0⟩ t G ∧ GUI (most + 1) b G := by
  unfold unfoldP beginU at h
  cases hq : runU l b d (most + 1) ⟨most, [], 0, 0, 0, 0⟩ [] (rd_T64 l 0).f1 (newTu args noHandsU) with
  | none => rw [hq] at h; cases h
  | some r =>
    obtain ⟨v, f, T, G1⟩ := r
    rw [hq] at h
    obtain ⟨a1, a2, a3⟩ := runU_need l hb hd.2 (most + 1) _ _ _ _ _ (NeedI.start (depth := d) (path := []) _ args noHandsU (by simpa using hd.1)) v f T G1 hq
    have hE := a1.fin (p2 := []) hd.2 a3 a2
    have hl1 := hl.len
    have hrd : rd_T64 l 0 = l[0] := by simp [rd_T64, show 0 < l.length by omega]
    rw [hrd] at hq
    obtain ⟨g1, g2, g3, g4⟩ := runU_ok hl (by omega) (most + 1) (most + 1) ⟨most, [], 0, 0, 0, 0⟩ [] 0 (by omega) _ ⟨by show 0 + most ≤ most + 1; omega, rfl, Nat.le_refl _, by show ((0 : Nat) : Int) ≤ b * ((0 : Nat) : Int); simp, by show ((0 : Nat) : Int) ≤ b * ((0 : Nat) : Int); simp, fun e he => by cases he⟩ (by show 0 + 1 + most ≤ most + 1; omega) (new_inv hl (by omega) 0 (by omega) (by simpa using hd.1) args ha noHandsU rfl) v f T G1 hq
    have hn := note_inv (p2 := []) (by omega) g1 g2 g4
    cases h
    exact ⟨hE, hn⟩
/-- in numbers. -/
theorem unfoldP_need3 {l : List S64} {args : List Int} {b d : Int} {t : Tr} {G : Gu} (h : unfoldP l args b d 3000 = some (t, G)) (hl : POk l) (hb : 1 ≤ b ∧ b ≤ 10000) (hd : 0 ≤ d ∧ d ≤ 30) (ha : args.length ≤ 4) :
    rightT t 0 = true ∧ nodesT t = G.frames ∧ G.log.length = G.frames ∧ G.cells < G.frames ∧ numsT t ≤ 4 * (G.chunks : Int) ∧ (G.chunks : Int) ≤ numsT t ∧ G.steps ≤ 3000 ∧ G.frames ≤ G.steps ∧ G.frames ≤ 3001 ∧ (G.chunks : Int) ≤ 100000000 := by
  obtain ⟨hE, hG⟩ := unfoldP_need hl hb.1 hd (by omega) h
  have a1 : (G.frames : Int) = ((0 : Nat) : Int) + nodesT t := hE.frames
  have a2 : (G.cells : Int) + 1 ≤ ((0 : Nat) : Int) + nodesT t := hE.cells
  have a3 : (G.chunks : Int) - ((0 : Nat) : Int) ≤ numsT t := hE.chl
  have a4 : numsT t ≤ 4 * ((G.chunks : Int) - ((0 : Nat) : Int)) := hE.chh
  have a5 : G.left + G.steps = 3000 + 0 := hE.left
  have a6 : (G.frames : Int) - ((0 : Nat) : Int) ≤ (G.steps : Int) - ((0 : Nat) : Int) := hE.steps
  have b1 := hG.frames
  have b2 := hG.log
  have b3 := hG.chunks
  have hm : b * (G.log.length : Int) ≤ 10000 * 3001 := Int.mul_le_mul hb.2 (by omega) (by omega) (by omega)
  exact ⟨hE.right, by omega, b1.symm, by omega, by omega, by omega, by omega, by omega, by omega, by omega⟩
end Go.Proofs.Ytbekjccehhaljaa.H

set_option linter.unusedVariables false
set_option linter.unusedSimpArgs false
namespace Go.Proofs.Ytbekjccehhaljaa.H
open Go.RowKit Go.Hay Go.Proofs.YtbekjccehhaljaaW.PrintWords Go.Proofs.YtbekjccehhaljaaW.PrintLast Go.Proofs.YtbekjccehhaljaaW.PrintMore
/-! ### fails' numbers -/
theorem instrE_16 {l : List S64} {lc : Nat} {x : S61} (h : instrE lc l x = none) (e : x.f0 = 16) : 16 ≤ x.f4 := by
  obtain ⟨a, b, c, k, is, hsh⟩ : ∃ a b c k is, shapeP x.f0 = (a, b, c, k, is) := ⟨_, _, _, _, _, rfl⟩
  rw [instrE_eq hsh] at h
  rw [e] at hsh
  simp [shapeP] at hsh
  obtain ⟨rfl, rfl, rfl, rfl, rfl⟩ := hsh
  by_cases h1 : x.f1 = 0
  · by_cases h2 : x.f2 = 0
    · by_cases h3 : x.f3 = 0
      · simp only [h1, h2, h3] at h
        simp at h
        have hk : fieldE l.length lc x.f4 6 = none := by first | exact h.2.2.2.1 | exact h.2.2.1 | exact h.2.1 | exact h.1
        exact ((fieldE_none hk).2.2.2.2.1 rfl).1
      · simp [h1, h2, h3] at h
    · simp [h1, h2] at h
  · simp [h1] at h
def K16 (l : List S64) : Prop := ∀ f (h : f < l.length) k (hk : k < l[f].f1.length), l[f].f1[k].f0 = 16 → 16 ≤ l[f].f1[k].f4
theorem check_16 {l : List S64} (h : (checkP l).2.2 = 0) : K16 l := by
  unfold checkP at h
  split at h
  · cases hf : funcsE l 0 l with
    | some e => rw [hf] at h; exact absurd h (funcsE_code hf)
    | none =>
      intro f hfl k hk e
      have h1 := funcsE_none hf f hfl
      unfold funcE at h1
      split at h1
      · split at h1
        · rw [Option.or_eq_none_iff] at h1
          exact instrE_16 (instrsE_none h1.1 k hk) e
        · cases h1
      · cases h1
  · cases h
theorem evRight_16 {l : List S64} {n : Nat} {b d : Int} (h : evRight l n b d = true) : K16 l := by
  unfold evRight at h
  split at h
  · rename_i hc; exact check_16 hc
  · exact absurd h (by decide)
/-! ### walking pieces -/
abbrev WR := List Int × Int × Option (List Int)
theorem preT_pre (a b : List Int) (r : WR) : preT a (preT b r) = preT (a ++ b) r := by simp [preT]
theorem walkPs_ok_app (qs : List Pc) (W : List WR) : ∀ ps : List Pc, (walkPs ps W).2.1 = 0 → walkPs (ps ++ qs) W = preT (walkPs ps W).1 (walkPs qs W)
  | [], _ => rfl
  | p :: ps, h => by
    rw [List.cons_append, walkPs, walkPs]
    rw [walkPs] at h
    by_cases hp : p.f0 = true
    · rw [if_pos hp] at h ⊢
      rw [if_pos hp]
      by_cases hk : (W.getD p.f1.toNat ([], 0, none)).2.1 = 0
      · rw [if_pos hk] at h ⊢
        rw [if_pos hk, walkPs_ok_app qs W ps h, preT_pre]
        rfl
      · rw [if_neg hk] at h
        exact absurd h hk
    · rw [if_neg hp] at h ⊢
      rw [if_neg hp, walkPs_ok_app qs W ps h, preT_pre]
      rfl
theorem walkPs_bad_app (qs : List Pc) (W : List WR) : ∀ ps : List Pc, (walkPs ps W).2.1 ≠ 0 → walkPs (ps ++ qs) W = walkPs ps W
  | [], h => absurd rfl h
  | p :: ps, h => by
    rw [List.cons_append, walkPs, walkPs]
    rw [walkPs] at h
    by_cases hp : p.f0 = true
    · rw [if_pos hp] at h ⊢
      rw [if_pos hp]
      by_cases hk : (W.getD p.f1.toNat ([], 0, none)).2.1 = 0
      · rw [if_pos hk] at h ⊢
        rw [if_pos hk, walkPs_bad_app qs W ps h]
      · rw [if_neg hk, if_neg hk]
    · rw [if_neg hp] at h ⊢
      rw [if_neg hp, walkPs_bad_app qs W ps h]
theorem walkPs_more (W X : List WR) : ∀ ps : List Pc, (∀ p ∈ ps, p.f0 = true → 0 ≤ p.f1 ∧ p.f1 < (W.length : Int)) → walkPs ps (W ++ X) = walkPs ps W
  | [], _ => rfl
  | p :: ps, h => by
    rw [walkPs, walkPs, walkPs_more W X ps (fun q hq => h q (List.mem_cons_of_mem _ hq))]
    by_cases hp : p.f0 = true
    · have h1 := h p (List.mem_cons_self ..) hp
      have e : (W ++ X).getD p.f1.toNat ([], 0, none) = W.getD p.f1.toNat ([], 0, none) := by
        rw [List.getD_eq_getElem?_getD, List.getD_eq_getElem?_getD, List.getElem?_append_left (by omega)]
      rw [e]
    · rw [if_neg hp, if_neg hp]
theorem metP_lt : ∀ {ps : List Pc} {m r : Int}, metP m ps = some r → ∀ p ∈ ps, p.f0 = true → m ≤ p.f1 ∧ p.f1 < r
  | [], m, r, _ => fun p hp => by cases hp
  | q :: ps, m, r, h => by
    intro p hp hf
    rw [metP] at h
    by_cases h1 : q.f0 = true
    · rw [if_pos h1] at h
      by_cases h2 : q.f1 = m
      · rw [if_pos h2] at h
        have hle := metP_le h
        rcases List.mem_cons.1 hp with rfl | hp
        · omega
        · have := metP_lt h p hp hf; omega
      · rw [if_neg h2] at h; cases h
    · rw [if_neg h1] at h
      rcases List.mem_cons.1 hp with rfl | hp
      · exact absurd hf h1
      · exact metP_lt h p hp hf
theorem walkKs_app (b : List Tr) (path : List Int) : ∀ (a : List Tr) (i : Nat), walkKs (a ++ b) path i = walkKs a path i ++ walkKs b path (i + a.length)
  | [], i => rfl
  | k :: a, i => by
    rw [List.cons_append, walkKs, walkKs, walkKs_app b path a (i + 1), List.cons_append, List.length_cons, show i + 1 + a.length = i + (a.length + 1) by omega]
theorem walkKs_length (path : List Int) : ∀ (a : List Tr) (i : Nat), (walkKs a path i).length = a.length
  | [], i => rfl
  | k :: a, i => by rw [walkKs, List.length_cons, List.length_cons, walkKs_length path a (i + 1)]
/-- what is told so far. -/
def toldT (path : List Int) (T : Tu) : WR := walkPs T.ps (walkKs (T.kids.map (·.1)) path 0)
theorem toldT_quiet {path : List Int} {T T' : Tu} (q : Quiet T T') : toldT path T' = toldT path T := by unfold toldT; rw [q.ps, q.kids]
theorem toldT_emit {path : List Int} {T T' : Tu} {n : Int} (e1 : T'.kids = T.kids) (e2 : T'.ps = T.ps ++ [⟨false, n⟩]) (h : (toldT path T).2.1 = 0) : toldT path T' = ((toldT path T).1 ++ [n], 0, none) := by
  unfold toldT at h ⊢
  rw [e1, e2, walkPs_ok_app _ _ _ h]
  rfl
theorem toldT_kid {path : List Int} {T T' : Tu} {t : Tr} {r : Int} (hm : metP 0 T.ps = some (T.kids.length : Int)) (e1 : T'.kids = T.kids ++ [(t, r)]) (e2 : T'.ps = T.ps ++ [⟨true, (T.kids.length : Int)⟩]) :
    ((toldT path T).2.1 = 0 → toldT path T' = preT (toldT path T).1 (if (walkT t (path ++ [(T.kids.length : Int)])).2.1 = 0 then ((walkT t (path ++ [(T.kids.length : Int)])).1, 0, none) else walkT t (path ++ [(T.kids.length : Int)]))) ∧ ((toldT path T).2.1 ≠ 0 → toldT path T' = toldT path T) := by
  have hk : walkKs (T'.kids.map (·.1)) path 0 = walkKs (T.kids.map (·.1)) path 0 ++ [walkT t (path ++ [(T.kids.length : Int)])] := by
    rw [e1, List.map_append, walkKs_app, List.length_map, Nat.zero_add]; rfl
  have hlt : ∀ p ∈ T.ps, p.f0 = true → 0 ≤ p.f1 ∧ p.f1 < ((walkKs (T.kids.map (·.1)) path 0).length : Int) := by
    intro p hp hf
    rw [walkKs_length, List.length_map]
    exact metP_lt hm p hp hf
  have hmore := walkPs_more (walkKs (T.kids.map (·.1)) path 0) [walkT t (path ++ [(T.kids.length : Int)])] T.ps hlt
  unfold toldT
  rw [e2, hk]
  refine ⟨fun h => ?_, fun h => ?_⟩
  · rw [walkPs_ok_app _ _ _ (by rw [hmore]; exact h), hmore]
    have e : (walkKs (T.kids.map (·.1)) path 0 ++ [walkT t (path ++ [(T.kids.length : Int)])]).getD (T.kids.length : Int).toNat ([], 0, none) = walkT t (path ++ [(T.kids.length : Int)]) := by
      rw [List.getD_eq_getElem?_getD, Int.toNat_natCast, List.getElem?_append_right (by rw [walkKs_length, List.length_map]; exact Nat.le_refl _), walkKs_length, List.length_map, Nat.sub_self]; rfl
    rw [walkPs, if_pos rfl, e]
    by_cases hz : (walkT t (path ++ [(T.kids.length : Int)])).2.1 = 0
    · rw [if_pos hz, if_pos hz]
      show preT _ (preT _ ([], 0, none)) = _
      simp [preT]
    · rw [if_neg hz, if_neg hz]
  · rw [walkPs_bad_app _ _ _ (by rw [hmore]; exact h), hmore]
theorem walkT_node {path : List Int} {T : Tu} (v f : Int) : walkT (mkNode T v f) path = if (toldT path T).2.1 = 0 then ((toldT path T).1, f, if f = 0 then none else some path) else toldT path T := by
  unfold mkNode toldT
  rw [walkT]
/-! ### tasks beside each other -/
def hOf : Tr → Bool × Int
  | .nil => (false, 0)
  | .node _ _ v _ => (true, v)
def wOf (k : Tr × Int) : Option (Int × Int) := if 0 ≤ k.2 then some (k.2, nv k.1) else none
/-- the evaluation's task beside an unfolding's. -/
def toE (T : Tu) : Ts := ⟨T.regs, T.hands.map hOf, (T.kids.drop T.wait).filterMap wOf, T.kids.length, T.at_⟩
theorem hd_toE (T : Tu) (i : Int) : hd (toE T) i = hOf (uH T i) := by
  unfold hd uH toE
  show (T.hands.map hOf).getD i.toNat (false, 0) = hOf (T.hands.getD i.toNat .nil)
  rw [List.getD_eq_getElem?_getD, List.getD_eq_getElem?_getD, List.getElem?_map]
  cases T.hands[i.toNat]? <;> rfl
theorem putK_fold : ∀ (ks : List (Tr × Int)) (r : List Int), (ks.filterMap wOf).foldl (fun r s => r.set s.1.toNat s.2) r = ks.foldl putK r
  | [], r => rfl
  | k :: ks, r => by
    rw [List.foldl_cons, ← putK_fold ks (putK r k), List.filterMap_cons]
    unfold wOf putK
    by_cases h : 0 ≤ k.2
    · rw [if_pos h, if_pos h]; rfl
    · rw [if_neg h, if_neg h]
theorem toE_sync (T : Tu) : syncP (toE T) = toE (syncU T) := by
  unfold syncP toE syncU
  simp only [putK_fold, List.drop_length, List.filterMap_nil]
/-- no kid failed, and what was handed did not. -/
structure HS (path : List Int) (T : Tu) : Prop where
  kids : ∀ k ∈ T.kids, nf k.1 = 0
  hands : ∀ t ∈ T.hands, nf t = 0
  told : (toldT path T).2.1 = 0
theorem HS.bad {path : List Int} {T : Tu} (h : HS path T) : syncBad T = false := by
  unfold syncBad
  rw [List.any_eq_false]
  intro k hk
  have := h.kids k (List.mem_of_mem_drop hk)
  simp [this]
theorem HS.quiet {path : List Int} {T T' : Tu} (h : HS path T) (q : Quiet T T') : HS path T' :=
  ⟨by rw [q.kids]; exact h.kids, by rw [q.hands]; exact h.hands, by rw [toldT_quiet q]; exact h.told⟩
/-- an instruction that concerns the task alone, on both sides. -/
theorem sim_simple {l : List S64} {depth : Int} {rec : Gu → List Int → List S61 → Tu → RU} {path : List Int} {x : S61} {T : Tu} {G : Gu} (hs : HS path T) (hop : 1 ≤ x.f0 ∧ x.f0 ≤ 17) (h3 : ¬ (x.f0 = 11 ∨ x.f0 = 13)) (h15 : x.f0 ≠ 15) (h17 : x.f0 ≠ 17) (h16 : x.f0 = 16 → 16 ≤ x.f4) :
    (∃ T', stepU l depth rec path x T G = .go T' G ∧ simple x (toE T) = .go (toE T') ∧ Quiet T T') ∨ (∃ f, f ≠ 0 ∧ stepU l depth rec path x T G = .stop 0 f T G ∧ simple x (toE T) = .stop f) := by
  have hset : ∀ i v, Quiet T (uSet T i v) := fun i v => ⟨rfl, rfl, rfl, rfl, rfl, .inl rfl⟩
  have hcases : x.f0 = 1 ∨ x.f0 = 2 ∨ x.f0 = 3 ∨ x.f0 = 4 ∨ x.f0 = 5 ∨ x.f0 = 6 ∨ x.f0 = 7 ∨ x.f0 = 8 ∨ x.f0 = 9 ∨ x.f0 = 10 ∨ x.f0 = 12 ∨ x.f0 = 14 ∨ x.f0 = 16 := by omega
  rcases hcases with e | e | e | e | e | e | e | e | e | e | e | e | e
  · exact .inl ⟨uSet T x.f1 x.f4, by simp [stepU, e], by simp [simple, e]; rfl, hset _ _⟩
  · exact .inl ⟨uSet T x.f1 (uR T x.f2), by simp [stepU, e], by simp [simple, e]; rfl, hset _ _⟩
  · exact .inl ⟨uSet T x.f1 (wrap64 (uR T x.f2 + uR T x.f3)), by simp [stepU, reckonU, e], by simp [simple, e]; rfl, hset _ _⟩
  · exact .inl ⟨uSet T x.f1 (wrap64 (uR T x.f2 - uR T x.f3)), by simp [stepU, reckonU, e], by simp [simple, e]; rfl, hset _ _⟩
  · exact .inl ⟨uSet T x.f1 (wrap64 (uR T x.f2 * uR T x.f3)), by simp [stepU, reckonU, e], by simp [simple, e]; rfl, hset _ _⟩
  · by_cases hz : uR T x.f3 = 0
    · have hz' : rg (toE T) x.f3 = 0 := hz
      exact .inr ⟨1, by decide, by simp [stepU, reckonU, e, hz], by simp [simple, e, hz']⟩
    · have hz' : rg (toE T) x.f3 ≠ 0 := hz
      exact .inl ⟨uSet T x.f1 (wrap64 ((uR T x.f2).tdiv (uR T x.f3))), by simp [stepU, reckonU, e, hz], by simp [simple, e, hz']; rfl, hset _ _⟩
  · exact .inl ⟨uSet T x.f1 (lessV (uR T x.f2) (uR T x.f3)), by simp [stepU, reckonU, e], by simp [simple, e]; rfl, hset _ _⟩
  · exact .inl ⟨uSet T x.f1 (sameV (uR T x.f2) (uR T x.f3)), by simp [stepU, reckonU, e], by simp [simple, e]; rfl, hset _ _⟩
  · exact .inl ⟨{ T with at_ := x.f4 }, by simp [stepU, e], by simp [simple, e]; rfl, ⟨rfl, rfl, rfl, rfl, rfl, .inl rfl⟩⟩
  · by_cases hz : uR T x.f1 = 0
    · have hz' : rg (toE T) x.f1 = 0 := hz
      exact .inl ⟨{ T with at_ := x.f4 }, by simp [stepU, e, hz], by simp [simple, e, hz']; rfl, ⟨rfl, rfl, rfl, rfl, rfl, .inl rfl⟩⟩
    · have hz' : rg (toE T) x.f1 ≠ 0 := hz
      exact .inl ⟨T, by simp [stepU, e, hz], by simp [simple, e, hz'], Quiet.refl T⟩
  · have hb := hs.bad
    exact .inl ⟨syncU T, by simp [stepU, e, hb], by simp [simple, e, toE_sync], ⟨rfl, rfl, rfl, rfl, rfl, .inr hb⟩⟩
  · have hh := hd_toE T x.f2
    cases hu : uH T x.f2 with
    | nil =>
      rw [hu] at hh
      have h1 : (hd (toE T) x.f2).1 = false := by rw [hh]; rfl
      exact .inr ⟨2, by decide, by simp [stepU, e, hu], by simp [simple, e, h1]⟩
    | node ps ks v f =>
      rw [hu] at hh
      have h1 : (hd (toE T) x.f2).1 = true := by rw [hh]; rfl
      have h2 : (hd (toE T) x.f2).2 = v := by rw [hh]; rfl
      have hf : f = 0 := by
        have hm : uH T x.f2 ∈ T.hands := by
          unfold uH at hu ⊢
          rw [List.getD_eq_getElem?_getD] at hu ⊢
          cases hq : T.hands[x.f2.toNat]? with
          | none => rw [hq] at hu; cases hu
          | some t => exact List.mem_of_getElem? hq
        have := hs.hands _ hm
        rw [hu] at this
        exact this
      exact .inl ⟨uSet T x.f1 v, by simp [stepU, e, hu, hf], by simp [simple, e, h1, h2]; rfl, hset _ _⟩
  · exact .inr ⟨x.f4, by have := h16 e; omega, by simp [stepU, e], by simp [simple, e]⟩
end Go.Proofs.Ytbekjccehhaljaa.H

set_option linter.unusedVariables false
set_option linter.unusedSimpArgs false
namespace Go.Proofs.Ytbekjccehhaljaa.H
open Go.RowKit Go.Hay Go.Proofs.YtbekjccehhaljaaW.PrintWords Go.Proofs.YtbekjccehhaljaaW.PrintLast Go.Proofs.YtbekjccehhaljaaW.PrintMore
/-- a kid failed that is not waited for yet. -/
structure Sick (path : List Int) (T : Tu) : Prop where
  bad : syncBad T = true
  told : (toldT path T).2.1 ≠ 0
theorem Sick.quiet {path : List Int} {T T' : Tu} (h : Sick path T) (q : Quiet T T') : Sick path T' := by
  refine ⟨?_, by rw [toldT_quiet q]; exact h.told⟩
  rcases q.wait with hw | hw
  · unfold syncBad; rw [q.kids, hw]; exact h.bad
  · rw [h.bad] at hw; cases hw
theorem at_code {l : List S64} {f : Nat} (hf : f < l.length) {a : Int} (h0 : 0 ≤ a) (h1 : a < l[f].f1.length) (h16 : K16 l) : (rd_T61 l[f].f1 a).f0 = 16 → 16 ≤ (rd_T61 l[f].f1 a).f4 := by
  have e : rd_T61 l[f].f1 a = l[f].f1[a.toNat]'(by omega) := by simp [rd_T61, show a.toNat < l[f].f1.length by omega]
  rw [e]
  exact h16 f hf a.toNat (by omega)
section
variable {l : List S64} (hl : POk l) (h16 : K16 l) {budget depth : Int} (hb : 1 ≤ budget) (hd30 : depth ≤ 30)
include hl h16 hb hd30
/-- behind a kid that failed nothing changes what merging meets, and the task fails. -/
theorem sick_run : ∀ (k M : Nat) (G G0 : Gu) (path : List Int) (f : Nat) (hf : f < l.length) (T : Tu), GUI M budget G → G.log.length + 1 + G.left ≤ M → TUI l[f].f1 depth budget path T → NeedI depth path G0 T G → Sick path T →
    ∀ v f' T' G', runU l budget depth k G path l[f].f1 T = some (v, f', T', G') → toldT path T' = toldT path T ∧ f' ≠ 0 := by
  intro k
  induction k with
  | zero => intro M G G0 path f hf T hg hleft ht hn hs v f' T' G' e; cases e
  | succ k ih =>
    intro M G G0 path f hf T hg hleft ht hn hs v f' T' G' e
    rw [runU] at e
    by_cases h1 : (T.steps : Int) = budget
    · rw [if_pos h1] at e; cases e; exact ⟨rfl, by decide⟩
    rw [if_neg h1] at e
    by_cases h2 : G.left = 0
    · rw [if_pos h2] at e; cases e
    rw [if_neg h2] at e
    have hna := nextU_at hl f hf ht.at_.1 ht.at_.2
    have hx16 := at_code hf ht.at_.1 ht.at_.2 h16
    have htk := tick_inv ht.toTU0 h1
    have htg := tickG_inv hg hleft h2
    have hsi := stepU_inv hl (by omega) (runU_ok hl (by omega) k) hna.1 htg.1 htg.2 htk.1 htk.2 hna.2
    have hsc := stepU_c l depth (runU l budget depth k) path (rd_T61 l[f].f1 T.at_) (tickT T) (tickG G)
    have hsn := need_step hd30 (runU_need l hb hd30 k) hsc (hn.tick h2)
    have hs1 : Sick path (tickT T) := ⟨hs.bad, hs.told⟩
    have hmet : metP 0 (tickT T).ps = some ((tickT T).kids.length : Int) := hn.met
    have hwt : (tickT T).wait ≤ (tickT T).kids.length := ht.wait
    have e0 : toldT path (tickT T) = toldT path T := rfl
    rw [← e0]
    generalize rd_T61 l[f].f1 T.at_ = x at hna hx16 hsi hsc hsn e
    generalize stepU l depth (runU l budget depth k) path x (tickT T) (tickG G) = r at hsi hsc hsn e
    generalize tickT T = T1 at *
    generalize tickG G = G1 at *
    cases hsc with
    | quiet T2 q =>
      obtain ⟨a1, a2, a3, a4⟩ := hsi
      have := ih M _ G0 path f hf T2 a1 a2 a4 hsn (hs1.quiet q) v f' T' G' e
      rw [toldT_quiet q] at this
      exact this
    | emit T2 n e1 e2 e3 e4 e5 e6 =>
      obtain ⟨a1, a2, a3, a4⟩ := hsi
      have ht2 : toldT path T2 = toldT path T1 := by
        have := hs1.told
        unfold toldT at this ⊢
        rw [e1, e2, walkPs_bad_app _ _ _ this]
      have := ih M _ G0 path f hf T2 a1 a2 a4 hsn ⟨by unfold syncBad; rw [e1, e6]; exact hs1.bad, by rw [ht2]; exact hs1.told⟩ v f' T' G' e
      rw [ht2] at this
      exact this
    | stop v2 f2 T2 q hv hf2 =>
      cases e
      refine ⟨toldT_quiet q, ?_⟩
      rcases hf2 with h | h | ⟨h, h'⟩
      · exact h
      · rw [hs1.bad] at h; cases h
      · have := hx16 h; omega
    | long => cases e
    | kid v2 f2 r T2 T3 G2 c hop hd hr e1 e2 e3 e4 e6 he =>
      obtain ⟨a1, a2, a3, a4⟩ := hsi
      have ht2 : toldT path T3 = toldT path T1 := (toldT_kid hmet e1 e2).2 hs1.told
      have := ih M _ G0 path f hf T3 a1 a2 a4 hsn ⟨by
        unfold syncBad
        rw [e1, e6, List.drop_append_of_le_length hwt, List.any_append]
        have := hs1.bad
        unfold syncBad at this
        rw [this]; rfl, by rw [ht2]; exact hs1.told⟩ v f' T' G' e
      rw [ht2] at this
      exact this
/-- how an evaluation's run ends beside an unfolding's. -/
structure SimP (path : List Int) (told0 : List Int) (me : Nat) (Ge : Gs) (v f : Int) (T : Tu) (Gu' : Gu) (o : Out) (Ge' : Gs) : Prop where
  len : Ge.log.length ≤ Ge'.log.length
  old : ∀ j, j < Ge.log.length → j ≠ me → Ge'.log.getD j ([], 0) = Ge.log.getD j ([], 0)
  told : Ge'.told = told0 ++ (walkT (mkNode T v f) path).1
  fin : ((walkT (mkNode T v f) path).2.1 = 0 ∧ f = 0 ∧ o = .val v ∧ Ge'.left = Gu'.left) ∨ ((walkT (mkNode T v f) path).2.1 ≠ 0 ∧ f ≠ 0 ∧ o = .fail (walkT (mkNode T v f) path).2.1)
/-- the states beside each other. -/
structure SimR (path : List Int) (told0 : List Int) (me : Nat) (T : Tu) (G : Gu) (Ge : Gs) : Prop where
  hs : HS path T
  left : Ge.left = G.left
  mel : me < Ge.log.length
  steps : (Ge.log.getD me ([], 0)).2 = (T.steps : Int)
  told : Ge.told = told0 ++ (toldT path T).1
omit hl h16 hb hd30 in
theorem bump_at (log : List (List Int × Int)) {me : Nat} (hme : me < log.length) : (bump log me).length = log.length ∧ ((bump log me).getD me ([], 0)).2 = (log.getD me ([], 0)).2 + 1 ∧ ∀ j, j ≠ me → (bump log me).getD j ([], 0) = log.getD j ([], 0) := by
  unfold bump
  refine ⟨List.length_set .., ?_, fun j hj => ?_⟩
  · rw [List.getD_eq_getElem?_getD, List.getElem?_set_self hme]; rfl
  · rw [List.getD_eq_getElem?_getD, List.getElem?_set_ne (Ne.symm hj), ← List.getD_eq_getElem?_getD]
end
end Go.Proofs.Ytbekjccehhaljaa.H

set_option linter.unusedVariables false
set_option linter.unusedSimpArgs false
namespace Go.Proofs.Ytbekjccehhaljaa.H
open Go.RowKit Go.Hay Go.Proofs.YtbekjccehhaljaaW.PrintWords Go.Proofs.YtbekjccehhaljaaW.PrintLast Go.Proofs.YtbekjccehhaljaaW.PrintMore
/-- a path behind p, by a kid from i on. -/
def ExtU (p : List Int) (i : Nat) (q : List Int) : Prop := ∃ (j : Nat) (r : List Int), i ≤ j ∧ q = p ++ (j : Int) :: r
theorem ExtU.weak {p q : List Int} {i j : Nat} (h : i ≤ j) (hq : ExtU p j q) : ExtU p i q := by
  obtain ⟨k, r, h1, h2⟩ := hq
  exact ⟨k, r, Nat.le_trans h h1, h2⟩
theorem ExtU.up {p q : List Int} {n : Nat} {i : Nat} (hq : ExtU (p ++ [(n : Int)]) i q) : ExtU p n q := by
  obtain ⟨k, r, h1, h2⟩ := hq
  exact ⟨n, (k : Int) :: r, Nat.le_refl _, by rw [h2]; simp⟩
/-- what a run adds. -/
structure AddU (path : List Int) (i : Nat) (G G' : Gu) (s s' : Nat) : Prop where
  steps : s ≤ s'
  log : ∃ add, G'.log = G.log ++ add ∧ (∀ u ∈ add, ExtU path i u.1) ∧ add.Pairwise (fun x y => x.1 ≠ y.1)
theorem runU_add (l : List S64) (budget depth : Int) : ∀ (k : Nat) (G : Gu) (path : List Int) (code : List S61) (T : Tu) (v f : Int) (T' : Tu) (G' : Gu), runU l budget depth k G path code T = some (v, f, T', G') → AddU path T.kids.length G G' T.steps T'.steps := by
  intro k
  induction k with
  | zero => intro G path code T v f T' G' e; cases e
  | succ k ih =>
    intro G path code T v f T' G' e
    rw [runU] at e
    by_cases h1 : (T.steps : Int) = budget
    · rw [if_pos h1] at e; cases e; exact ⟨Nat.le_refl _, [], (List.append_nil _).symm, (fun u hu => by cases hu), List.Pairwise.nil⟩
    rw [if_neg h1] at e
    by_cases h2 : G.left = 0
    · rw [if_pos h2] at e; cases e
    rw [if_neg h2] at e
    have hsc := stepU_c l depth (runU l budget depth k) path (rd_T61 code T.at_) (tickT T) (tickG G)
    have hts : (tickT T).steps = T.steps + 1 := rfl
    have htk : (tickT T).kids.length = T.kids.length := rfl
    have htl : (tickG G).log = G.log := rfl
    generalize stepU l depth (runU l budget depth k) path (rd_T61 code T.at_) (tickT T) (tickG G) = r at hsc e
    suffices hm : AddU path (tickT T).kids.length (tickG G) G' (tickT T).steps T'.steps by
      obtain ⟨s, add, h3, h4, h5⟩ := hm
      exact ⟨by omega, add, by rw [h3, htl], by rw [htk] at h4; exact h4, h5⟩
    clear hts htk htl
    generalize tickT T = T1 at *
    generalize tickG G = G1 at *
    cases hsc with
    | quiet T2 q =>
      have := ih _ path code T2 v f T' G' e
      rw [q.kids, q.steps] at this
      exact this
    | emit T2 n e1 e2 e3 e4 e5 e6 =>
      have := ih _ path code T2 v f T' G' e
      rw [e1, e4] at this
      exact this
    | stop v2 f2 T2 q hv hf2 =>
      cases e
      exact ⟨by rw [q.steps]; exact Nat.le_refl _, [], (List.append_nil _).symm, (fun u hu => by cases hu), List.Pairwise.nil⟩
    | long => cases e
    | kid v2 f2 r T2 T3 G2 c hop hd hr e1 e2 e3 e4 e6 he =>
      obtain ⟨s1, add1, a1, a2, a3⟩ := ih G1 _ _ _ v2 f2 T2 G2 hr
      obtain ⟨s2, add2, b1, b2, b3⟩ := ih _ path code T3 v f T' G' e
      rw [e4] at s2
      have hk3 : T3.kids.length = T1.kids.length + 1 := by rw [e1, List.length_append]; rfl
      refine ⟨s2, add1 ++ [(path ++ [(T1.kids.length : Int)], (T2.steps : Int))] ++ add2, ?_, fun u hu => ?_, ?_⟩
      · rw [b1]
        show (G2.log ++ [(path ++ [(T1.kids.length : Int)], (T2.steps : Int))]) ++ add2 = _
        rw [a1, List.append_assoc, List.append_assoc, List.append_assoc]
      · rcases List.mem_append.1 hu with hu | hu
        · rcases List.mem_append.1 hu with hu | hu
          · exact (a2 u hu).up
          · rw [List.mem_singleton.1 hu]; exact ⟨T1.kids.length, [], Nat.le_refl _, rfl⟩
        · exact (b2 u hu).weak (by omega)
      · have hkp : ∀ u ∈ add1 ++ [(path ++ [(T1.kids.length : Int)], (T2.steps : Int))], ∃ r, u.1 = path ++ (T1.kids.length : Int) :: r := by
          intro u hu
          rcases List.mem_append.1 hu with hu | hu
          · obtain ⟨j, r, _, e⟩ := a2 u hu
            exact ⟨(j : Int) :: r, by rw [e]; simp⟩
          · rw [List.mem_singleton.1 hu]; exact ⟨[], rfl⟩
        refine List.pairwise_append.2 ⟨List.pairwise_append.2 ⟨a3, List.pairwise_singleton _ _, fun x hx y hy => ?_⟩, b3, fun x hx y hy => ?_⟩
        · rw [List.mem_singleton.1 hy]
          obtain ⟨j, r, _, e⟩ := a2 x hx
          rw [e]
          intro h
          have := congrArg List.length h
          simp at this
        · obtain ⟨r, e⟩ := hkp x hx
          obtain ⟨j, r', hj, e'⟩ := b2 y hy
          rw [e, e']
          intro h
          have h := List.append_cancel_left h
          injection h with h _
          omega
end Go.Proofs.Ytbekjccehhaljaa.H

set_option linter.unusedVariables false
set_option linter.unusedSimpArgs false
namespace Go.Proofs.Ytbekjccehhaljaa.H
open Go.RowKit Go.Hay Go.Proofs.YtbekjccehhaljaaW.PrintWords Go.Proofs.YtbekjccehhaljaaW.PrintLast Go.Proofs.YtbekjccehhaljaaW.PrintMore
theorem ltP_extU (p : List Int) (c : Int) (r : List Int) : ltP p (p ++ c :: r) = true := by
  induction p with
  | nil => rfl
  | cons a p ih => rw [List.cons_append, ltP_cons, ih]; simp
theorem ltP_forkU (p : List Int) {a b : Int} (h : a < b) (r s : List Int) : ltP (p ++ a :: r) (p ++ b :: s) = true := by
  induction p with
  | nil => show ltP (a :: r) (b :: s) = true; rw [ltP_cons]; simp [h]
  | cons c p ih => rw [List.cons_append, List.cons_append, ltP_cons, ih]; simp
/-- entries beside each other: own steps s (evaluated) and st (unfolded), the others' entries. -/
def LogF (path : List Int) (r : WR) (s st : Int) (addE addU : List (List Int × Int)) : Prop :=
  (r.2.1 = 0 ∧ addU.Perm addE ∧ s = st) ∨ (r.2.1 ≠ 0 ∧ s ≤ st ∧ ∃ q, r.2.2 = some q ∧ (q = path ∨ ∃ i, ExtU path i q) ∧ (∀ e ∈ addE, ∃ u ∈ addU, u.1 = e.1 ∧ e.2 ≤ u.2) ∧ ∀ u ∈ addU, (∃ e ∈ addE, e.1 = u.1) ∨ ltP q u.1 = true)
def LogV (path : List Int) (me : Nat) (G : Gu) (Ge : Gs) (v f : Int) (T : Tu) (Gu' : Gu) (Ge' : Gs) : Prop :=
  ∃ addE addU s, Ge'.log = Ge.log.set me ((Ge.log.getD me ([], 0)).1, s) ++ addE ∧ Gu'.log = G.log ++ addU ∧ LogF path (walkT (mkNode T v f) path) s T.steps addE addU
theorem set_self {log : List (List Int × Int)} {me : Nat} (hme : me < log.length) : log.set me ((log.getD me ([], 0)).1, (log.getD me ([], 0)).2) = log := by
  have e : log.getD me ([], 0) = log[me] := by rw [List.getD_eq_getElem?_getD, List.getElem?_eq_getElem hme]; rfl
  rw [e]
  exact List.set_getElem_self hme
theorem LogV.same {path : List Int} {me : Nat} {G : Gu} {Ge : Gs} {v f : Int} {T : Tu} (hme : me < Ge.log.length) (hs : (Ge.log.getD me ([], 0)).2 = (T.steps : Int)) (ht : (toldT path T).2.1 = 0) : LogV path me G Ge v f T G Ge := by
  refine ⟨[], [], (Ge.log.getD me ([], 0)).2, by rw [set_self hme, List.append_nil], (List.append_nil _).symm, ?_⟩
  rw [walkT_node, if_pos ht]
  by_cases hf : f = 0
  · exact .inl ⟨hf, List.Perm.nil, hs⟩
  · exact .inr ⟨hf, by omega, path, by show (if f = 0 then none else some path) = _; rw [if_neg hf], .inl rfl, fun e he => (by cases he), fun u hu => (by cases hu)⟩
theorem LogV.bump {path : List Int} {me : Nat} {G G1 : Gu} {Ge Ge1 : Gs} {v f : Int} {T : Tu} {Gu' : Gu} {Ge' : Gs} (hme : me < Ge.log.length) (h1 : Ge1.log = Proofs.Ytbekjccehhaljaa.H.bump Ge.log me) (h2 : G1.log = G.log) (h : LogV path me G1 Ge1 v f T Gu' Ge') : LogV path me G Ge v f T Gu' Ge' := by
  obtain ⟨addE, addU, s, a1, a2, a3⟩ := h
  refine ⟨addE, addU, s, ?_, by rw [a2, h2], a3⟩
  rw [a1, h1]
  unfold Proofs.Ytbekjccehhaljaa.H.bump
  rw [List.set_set, List.getD_eq_getElem?_getD, List.getElem?_set_self hme]
  rfl
/-- a kid ran well, and what comes behind it. -/
theorem LogV.kid_ok {path kp : List Int} {me : Nat} {G1 G2 G3 G' : Gu} {Ge1 Ge2 Ge' : Gs} {v f : Int} {T T2 : Tu} {sk : Int} {addEk addUk : List (List Int × Int)} (hme : me < Ge1.log.length) (h1 : Ge2.log = Ge1.log ++ (kp, sk) :: addEk) (h2 : G2.log = G1.log ++ addUk) (h3 : G3.log = G2.log ++ [(kp, (T2.steps : Int))]) (hp : addUk.Perm addEk) (hs : sk = (T2.steps : Int))
    (h : LogV path me G3 Ge2 v f T G' Ge') : LogV path me G1 Ge1 v f T G' Ge' := by
  obtain ⟨addE, addU, s, a1, a2, a3⟩ := h
  have hp2 : (addUk ++ [(kp, (T2.steps : Int))]).Perm ((kp, sk) :: addEk) := by
    rw [hs]
    exact (List.perm_append_singleton _ _).trans (hp.cons _)
  refine ⟨(kp, sk) :: addEk ++ addE, addUk ++ [(kp, (T2.steps : Int))] ++ addU, s, ?_, by rw [a2, h3, h2]; simp, ?_⟩
  · have hg : Ge2.log.getD me ([], 0) = Ge1.log.getD me ([], 0) := by rw [h1, List.getD_eq_getElem?_getD, List.getElem?_append_left hme, ← List.getD_eq_getElem?_getD]
    rw [a1, hg, h1, List.set_append_left _ _ hme, List.append_assoc]
  · rcases a3 with ⟨b1, b2, b3⟩ | ⟨b1, b2, q, b3, b4, b5, b6⟩
    · exact .inl ⟨b1, hp2.append b2, b3⟩
    · refine .inr ⟨b1, b2, q, b3, b4, fun e he => ?_, fun u hu => ?_⟩
      · rcases List.mem_append.1 he with he | he
        · exact ⟨e, List.mem_append_left _ (hp2.mem_iff.2 he), rfl, Int.le_refl _⟩
        · obtain ⟨u, hu, hh⟩ := b5 e he
          exact ⟨u, List.mem_append_right _ hu, hh⟩
      · rcases List.mem_append.1 hu with hu | hu
        · exact .inl ⟨u, List.mem_append_left _ (hp2.mem_iff.1 hu), rfl⟩
        · rcases b6 u hu with ⟨e, he, hh⟩ | hh
          · exact .inl ⟨e, List.mem_append_right _ he, hh⟩
          · exact .inr hh
/-- a kid failed: the evaluation stops, the unfolding goes on behind it. -/
theorem LogV.kid_bad {path : List Int} {n me : Nat} {G1 G2 G3 G' : Gu} {Ge1 Ge2 : Gs} {v f : Int} {T1 T T2 : Tu} {sk : Int} {addEk addUk : List (List Int × Int)} {told : List Int} {rk : WR} (hme : me < Ge1.log.length) (hst : (Ge1.log.getD me ([], 0)).2 = (T1.steps : Int)) (h1 : Ge2.log = Ge1.log ++ (path ++ [(n : Int)], sk) :: addEk) (h2 : G2.log = G1.log ++ addUk) (h3 : G3.log = G2.log ++ [(path ++ [(n : Int)], (T2.steps : Int))])
    (hf : LogF (path ++ [(n : Int)]) rk sk T2.steps addEk addUk) (hz : rk.2.1 ≠ 0) (ha : AddU path (n + 1) G3 G' T1.steps T.steps) (hw : walkT (mkNode T v f) path = preT told rk) : LogV path me G1 Ge1 v f T G' Ge2 := by
  obtain ⟨hs, addU, a1, a2, _⟩ := ha
  rcases hf with ⟨b1, _⟩ | ⟨_, b2, q, b3, b4, b5, b6⟩
  · exact absurd b1 hz
  have hq : ∃ r, q = path ++ (n : Int) :: r := by
    rcases b4 with rfl | ⟨i, j, r, _, rfl⟩
    · exact ⟨[], rfl⟩
    · exact ⟨(j : Int) :: r, by simp⟩
  obtain ⟨rq, rfl⟩ := hq
  refine ⟨(path ++ [(n : Int)], sk) :: addEk, addUk ++ [(path ++ [(n : Int)], (T2.steps : Int))] ++ addU, (Ge1.log.getD me ([], 0)).2, by rw [set_self hme, h1], by rw [a1, h3, h2]; simp, .inr ⟨by rw [hw]; exact hz, by omega, _, by rw [hw]; exact b3, .inr ⟨n, n, rq, Nat.le_refl _, rfl⟩, fun e he => ?_, fun u hu => ?_⟩⟩
  · rcases List.mem_cons.1 he with rfl | he
    · exact ⟨(path ++ [(n : Int)], (T2.steps : Int)), by simp, rfl, b2⟩
    · obtain ⟨u, hu, hh⟩ := b5 e he
      exact ⟨u, by simp [hu], hh⟩
  · rcases List.mem_append.1 hu with hu | hu
    · rcases List.mem_append.1 hu with hu | hu
      · rcases b6 u hu with ⟨e, he, hh⟩ | hh
        · exact .inl ⟨e, List.mem_cons_of_mem _ he, hh⟩
        · exact .inr hh
      · rw [List.mem_singleton.1 hu]; exact .inl ⟨_, List.mem_cons_self .., rfl⟩
    · obtain ⟨j, r, hj, e⟩ := a2 u hu
      rw [e]
      exact .inr (ltP_forkU path (by omega) _ _)
theorem kid_log {log log2 : List (List Int × Int)} {kp : List Int} {sk : Int} {add : List (List Int × Int)} (h : log2 = (log ++ [(kp, 0)]).set log.length (((log ++ [(kp, (0 : Int))]).getD log.length ([], 0)).1, sk) ++ add) : log2 = log ++ (kp, sk) :: add := by
  rw [h, List.getD_eq_getElem?_getD, List.getElem?_append_right (Nat.le_refl _), List.set_append_right _ _ (Nat.le_refl _)]
  simp
section
variable {l : List S64} (hl : POk l) (h16 : K16 l) {budget depth : Int} (hb : 1 ≤ budget) (hd30 : depth ≤ 30)
include hl h16 hb hd30
omit hl h16 hb hd30 in
/-- a kid is noted, on both sides. -/
theorem kid_bothV {rec : Gu → List Int → List S61 → Tu → RU} {path : List Int} {x : S61} {T1 T2 : Tu} {G1 G2 : Gu} {v2 f2 : Int} (h3 : x.f0 = 11 ∨ x.f0 = 13) (h4 : (path.length : Int) ≠ depth) (hx : x.f0 = 11 → 0 ≤ x.f1) (hw : T1.wait ≤ T1.kids.length)
    (hq : rec G1 (path ++ [(T1.kids.length : Int)]) (rd_T64 l x.f3).f1 (newTu (argsU l x T1) T1.hands) = some (v2, f2, T2, G2)) :
    ∃ T3 G3 r, stepU l depth rec path x T1 G1 = .go T3 G3 ∧ T3.kids = T1.kids ++ [(mkNode T2 v2 f2, r)] ∧ T3.ps = T1.ps ++ [⟨true, (T1.kids.length : Int)⟩] ∧ T3.steps = T1.steps ∧ T3.wait = T1.wait ∧ (∀ h ∈ T3.hands, h ∈ T1.hands ∨ h = mkNode T2 v2 f2) ∧ G3.left = G2.left ∧ G3.log = G2.log ++ [(path ++ [(T1.kids.length : Int)], (T2.steps : Int))] ∧
      (if x.f0 = 11 then { (toE T1) with kids := (toE T1).kids + 1, wait := (toE T1).wait ++ [(x.f1, v2)] } else { (toE T1) with kids := (toE T1).kids + 1, hands := (toE T1).hands.set x.f1.toNat (true, v2) } : Ts) = toE T3 := by
  have e9 : stepU l depth rec path x T1 G1 = kidGo x T1 (mkNode T2 v2 f2) (noteU (path ++ [(T1.kids.length : Int)]) T2 G2) := by
    rcases h3 with h | h <;> simp [stepU, h, h4, hq]
  rw [e9]
  unfold kidGo
  by_cases h11 : x.f0 = 11
  · rw [if_pos h11, if_pos h11]
    refine ⟨_, _, x.f1, rfl, rfl, rfl, rfl, rfl, fun h hh => .inl hh, rfl, rfl, ?_⟩
    unfold toE
    simp only [List.drop_append_of_le_length hw, List.filterMap_append, List.length_append]
    congr 1
    show _ ++ [(x.f1, v2)] = _ ++ [(mkNode T2 v2 f2, x.f1)].filterMap wOf
    rw [List.filterMap_cons]
    unfold wOf
    rw [if_pos (show 0 ≤ ((mkNode T2 v2 f2, x.f1) : Tr × Int).2 from hx h11)]
    rfl
  · rw [if_neg h11, if_neg h11]
    refine ⟨_, _, -1, rfl, rfl, rfl, rfl, rfl, fun h hh => ?_, rfl, rfl, ?_⟩
    · exact (List.mem_or_eq_of_mem_set hh)
    · unfold toE
      simp only [List.drop_append_of_le_length hw, List.filterMap_append, List.length_append, List.map_set]
      congr 1
      show _ = _ ++ [(mkNode T2 v2 f2, (-1 : Int))].filterMap wOf
      rw [List.filterMap_cons]
      unfold wOf
      rw [if_neg (show ¬ (0 : Int) ≤ ((mkNode T2 v2 f2, (-1 : Int)) : Tr × Int).2 by show ¬ (0 : Int) ≤ -1; decide)]
      simp
theorem log_run : ∀ (k M : Nat) (G G0 : Gu) (Ge : Gs) (path told0 : List Int) (f : Nat) (hf : f < l.length) (me : Nat) (T : Tu), GUI M budget G → G.log.length + 1 + G.left ≤ M → TUI l[f].f1 depth budget path T → NeedI depth path G0 T G → SimR path told0 me T G Ge →
    ∀ v f' T' G', runU l budget depth k G path l[f].f1 T = some (v, f', T', G') → ∃ o Ge', runP l budget depth k Ge path l[f].f1 me (toE T) = (o, Ge') ∧ SimP path told0 me Ge v f' T' G' o Ge' ∧ LogV path me G Ge v f' T' G' Ge' := by
  intro k
  induction k with
  | zero => intro M G G0 Ge path told0 f hf me T hg hleft ht hn hr v f' T' G' e; cases e
  | succ k ih =>
    intro M G G0 Ge path told0 f hf me T hg hleft ht hn hr v f' T' G' e
    rw [runU] at e
    rw [runP]
    by_cases h1 : (T.steps : Int) = budget
    · rw [if_pos h1] at e
      rw [if_pos (hr.steps.trans h1)]
      cases e
      refine ⟨_, _, rfl, ⟨Nat.le_refl _, fun j _ _ => rfl, ?_, .inr ?_⟩, LogV.same hr.mel hr.steps hr.hs.told⟩
      · rw [walkT_node, if_pos hr.hs.told]; exact hr.told
      · rw [walkT_node, if_pos hr.hs.told]; exact ⟨by show (3 : Int) ≠ 0; decide, by decide, rfl⟩
    rw [if_neg h1] at e
    rw [if_neg (fun h => h1 (hr.steps.symm.trans h))]
    by_cases h2 : G.left = 0
    · rw [if_pos h2] at e; cases e
    rw [if_neg h2] at e
    rw [if_neg (by rw [hr.left]; exact h2)]
    have hna := nextU_at hl f hf ht.at_.1 ht.at_.2
    have hx16 := at_code hf ht.at_.1 ht.at_.2 h16
    have htk := tick_inv ht.toTU0 h1
    have htg := tickG_inv hg hleft h2
    have hsi := stepU_inv hl (by omega) (runU_ok hl (by omega) k) hna.1 htg.1 htg.2 htk.1 htk.2 hna.2
    have hsn := need_step hd30 (runU_need l hb hd30 k) (stepU_c l depth (runU l budget depth k) path (rd_T61 l[f].f1 T.at_) (tickT T) (tickG G)) (hn.tick h2)
    have hmet : metP 0 (tickT T).ps = some ((tickT T).kids.length : Int) := hn.met
    obtain ⟨hb1, hb2, hb3⟩ := bump_at Ge.log hr.mel
    have hr1 : SimR path told0 me (tickT T) (tickG G) { Ge with left := Ge.left - 1, log := bump Ge.log me } := ⟨⟨hr.hs.kids, hr.hs.hands, hr.hs.told⟩, by show Ge.left - 1 = G.left - 1; rw [hr.left], by show me < (bump Ge.log me).length; rw [hb1]; exact hr.mel, by show ((bump Ge.log me).getD me ([], 0)).2 = ((T.steps + 1 : Nat) : Int); rw [hb2, hr.steps]; rfl, hr.told⟩
    have htE : ({ (toE T) with at_ := (toE T).at_ + 1 } : Ts) = toE (tickT T) := rfl
    have hatE : (toE T).at_ = T.at_ := rfl
    rw [htE, hatE]
    -- what comes behind is said of the next state
    have hpost : ∀ {o : Out} {Ge' : Gs}, SimP path told0 me { Ge with left := Ge.left - 1, log := bump Ge.log me } v f' T' G' o Ge' → SimP path told0 me Ge v f' T' G' o Ge' := fun h =>
      ⟨by have := h.len; rw [show ({ Ge with left := Ge.left - 1, log := bump Ge.log me } : Gs).log.length = Ge.log.length from hb1] at this; exact this,
       fun j hj hne => (h.old j (by show j < (bump Ge.log me).length; rw [hb1]; exact hj) hne).trans (hb3 j hne), h.told, h.fin⟩
    suffices hmain : ∃ o Ge', (if (rd_T61 l[f].f1 T.at_).f0 = 17 then (.val (rg (syncP (toE (tickT T))) (rd_T61 l[f].f1 T.at_).f1), { Ge with left := Ge.left - 1, log := bump Ge.log me })
      else match stepP l depth (runP l budget depth k) path (rd_T61 l[f].f1 T.at_) (toE (tickT T)) { Ge with left := Ge.left - 1, log := bump Ge.log me } with
        | .go T' G' => runP l budget depth k G' path l[f].f1 me T'
        | .stop o G' => (o, G') : Out × Gs) = (o, Ge') ∧ SimP path told0 me { Ge with left := Ge.left - 1, log := bump Ge.log me } v f' T' G' o Ge' ∧ LogV path me (tickG G) { Ge with left := Ge.left - 1, log := bump Ge.log me } v f' T' G' Ge' by
      obtain ⟨o, Ge', q1, q2, q3⟩ := hmain
      exact ⟨o, Ge', q1, hpost q2, q3.bump hr.mel rfl rfl⟩
    clear hpost hb1 hb2 hb3 htE hatE hr
    generalize ({ Ge with left := Ge.left - 1, log := bump Ge.log me } : Gs) = Ge1 at *
    have hop := hna.1.op
    generalize rd_T61 l[f].f1 T.at_ = x at *
    have hTU := htk.1
    have hG1 := htg
    generalize tickT T = T1 at *
    generalize tickG G = G1 at *
    clear htk htg ht hg hleft hn h1 h2
    by_cases h17 : x.f0 = 17
    · rw [if_pos h17]
      have e9 : stepU l depth (runU l budget depth k) path x T1 G1 = .stop (uR (syncU T1) x.f1) 0 (syncU T1) G1 := by simp [stepU, h17, hr1.hs.bad]
      rw [e9] at e
      cases e
      have hq : toldT path (syncU T1) = toldT path T1 := rfl
      refine ⟨_, _, rfl, ⟨Nat.le_refl _, fun j _ _ => rfl, ?_, .inl ?_⟩, LogV.same hr1.mel hr1.steps (by rw [hq]; exact hr1.hs.told)⟩
      · rw [walkT_node, hq, if_pos hr1.hs.told]; exact hr1.told
      · rw [walkT_node, hq, if_pos hr1.hs.told]
        exact ⟨rfl, rfl, by rw [toE_sync]; rfl, hr1.left⟩
    rw [if_neg h17]
    by_cases h3 : x.f0 = 11 ∨ x.f0 = 13
    · have hkp : (toE T1).kids = T1.kids.length := rfl
      by_cases h4 : (path.length : Int) = depth
      · have e9 : stepU l depth (runU l budget depth k) path x T1 G1 = .stop 0 4 T1 G1 := by rcases h3 with h | h <;> simp [stepU, h, h4]
        have e8 : stepP l depth (runP l budget depth k) path x (toE T1) Ge1 = .stop (.fail 4) Ge1 := by unfold stepP; rw [if_pos h3, if_pos h4]
        rw [e9] at e
        rw [e8]
        cases e
        refine ⟨_, _, rfl, ⟨Nat.le_refl _, fun j _ _ => rfl, ?_, .inr ?_⟩, LogV.same hr1.mel hr1.steps hr1.hs.told⟩
        · rw [walkT_node, if_pos hr1.hs.told]; exact hr1.told
        · rw [walkT_node, if_pos hr1.hs.told]; exact ⟨by show (4 : Int) ≠ 0; decide, by decide, rfl⟩
      have hcf := hna.1.cf h3
      obtain ⟨fn, hfn⟩ : ∃ fn : Nat, x.f3 = fn := ⟨x.f3.toNat, by omega⟩
      have hfl : fn < l.length := by omega
      have hrd : rd_T64 l x.f3 = l[fn] := by rw [hfn]; simp [rd_T64, hfl]
      have hpl : (path.length : Int) ≤ depth := hTU.path_
      obtain ⟨kp, hkpe⟩ : ∃ kp, kp = path ++ [(T1.kids.length : Int)] := ⟨_, rfl⟩
      have hkl : (kp.length : Int) = (path.length : Int) + 1 := by rw [hkpe, List.length_append]; simp
      cases hq : runU l budget depth k G1 (path ++ [(T1.kids.length : Int)]) (rd_T64 l x.f3).f1 (newTu (argsU l x T1) T1.hands) with
      | none =>
        have e9 : stepU l depth (runU l budget depth k) path x T1 G1 = .long := by rcases h3 with h | h <;> simp [stepU, h, h4, hq]
        rw [e9] at e
        cases e
      | some r2 =>
        obtain ⟨v2, f2, T2, G2⟩ := r2
        have hx11 : x.f0 = 11 → 0 ≤ x.f1 := fun h => (hna.1.a (by omega) (by omega) (by omega) (by omega)).1
        obtain ⟨T3, G3, rg3, e9, k1, k2, k3, k4, k5, k6, k8, k7⟩ := kid_bothV (l := l) (depth := depth) (rec := runU l budget depth k) h3 h4 hx11 hTU.wait hq
        rw [e9] at e hsi hsn
        obtain ⟨a1, a2, a3, a4⟩ := hsi
        rw [hrd] at hq
        have hni := new_inv hl (by omega : (0 : Int) ≤ budget) fn hfl (path := path ++ [(T1.kids.length : Int)]) (depth := depth) (by rw [← hkpe, hkl]; omega) (argsU l x T1) (argsU_len l x T1 hTU.rl) T1.hands hTU.hl
        have hGe : ∀ j, j < Ge1.log.length → (Ge1.log ++ [(path ++ [(T1.kids.length : Int)], (0 : Int))]).getD j ([], 0) = Ge1.log.getD j ([], 0) := fun j hj => by
          rw [List.getD_eq_getElem?_getD, List.getElem?_append_left hj, ← List.getD_eq_getElem?_getD]
        obtain ⟨o2, Ge2, q1, q2, addEk, addUk, sk, l1, l2, l3⟩ := ih (M - 1) G1 G1 { Ge1 with log := Ge1.log ++ [(path ++ [(T1.kids.length : Int)], 0)] } (path ++ [(T1.kids.length : Int)]) Ge1.told fn hfl Ge1.log.length (newTu (argsU l x T1) T1.hands) ⟨by have := hG1.1.log; have := hG1.2; omega, hG1.1.frames, hG1.1.cells, hG1.1.steps, hG1.1.chunks, hG1.1.each⟩ (by have := hG1.2; omega) hni
          (NeedI.start G1 _ _ (by rw [← hkpe, hkl]; omega)) ⟨⟨fun k hk => (by cases hk), hr1.hs.hands, rfl⟩, hr1.left, by show Ge1.log.length < (Ge1.log ++ [_]).length; rw [List.length_append]; simp, by
            show ((Ge1.log ++ [(path ++ [(T1.kids.length : Int)], (0 : Int))]).getD Ge1.log.length ([], 0)).2 = ((0 : Nat) : Int)
            rw [List.getD_eq_getElem?_getD, List.getElem?_append_right (Nat.le_refl _)]; simp, by show Ge1.told = Ge1.told ++ []; rw [List.append_nil]⟩ v2 f2 T2 G2 hq
        have hlen2 : Ge1.log.length + 1 ≤ Ge2.log.length := by have := q2.len; have e5 : ({ Ge1 with log := Ge1.log ++ [(path ++ [(T1.kids.length : Int)], 0)] } : Gs).log.length = Ge1.log.length + 1 := List.length_append; omega
        have hold2 : ∀ j, j < Ge1.log.length → Ge2.log.getD j ([], 0) = Ge1.log.getD j ([], 0) := fun j hj => (q2.old j (by show j < (Ge1.log ++ [_]).length; rw [List.length_append]; omega) (by omega)).trans (hGe j hj)
        have htk := (toldT_kid hmet k1 k2).1 hr1.hs.told
        have hq1 : runP l budget depth k { Ge1 with log := Ge1.log ++ [(path ++ [((toE T1).kids : Int)], 0)] } (path ++ [((toE T1).kids : Int)]) (rd_T64 l x.f3).f1 Ge1.log.length (newTask (argsOf l x (toE T1)) (toE T1).hands) = (o2, Ge2) := by rw [hrd]; exact q1
        have hnd : ∀ r, walkT (mkNode T2 v2 f2) (path ++ [(T1.kids.length : Int)]) = r → (if r.2.1 = 0 then toldT path T3 = preT (toldT path T1).1 (r.1, 0, none) else toldT path T3 = preT (toldT path T1).1 r) := by
          intro r hr
          rw [hr] at htk
          by_cases hz : r.2.1 = 0
          · rw [if_pos hz] at htk ⊢; exact htk
          · rw [if_neg hz] at htk ⊢; exact htk
        obtain ⟨rk, hrk⟩ : ∃ rk, rk = walkT (mkNode T2 v2 f2) (path ++ [(T1.kids.length : Int)]) := ⟨_, rfl⟩
        have hnd := hnd rk hrk.symm
        obtain ⟨_, _, qt, qf⟩ := q2
        rw [← hrk] at qt qf l3
        have l1 := kid_log l1
        rcases qf with ⟨z1, z2, z3, z4⟩ | ⟨z1, z2, z3⟩
        · subst z3
          rw [if_pos z1] at hnd
          have e8 : stepP l depth (runP l budget depth k) path x (toE T1) Ge1 = .go (toE T3) Ge2 := by
            unfold stepP; rw [if_pos h3, if_neg h4, hq1]; show SR.go _ _ = _; rw [k7]
          rw [e8]
          have hs3 : HS path T3 := ⟨fun k hk => by
            rw [k1] at hk
            rcases List.mem_append.1 hk with hk | hk
            · exact hr1.hs.kids k hk
            · rw [List.mem_singleton.1 hk]; exact z2, fun h hh => (k5 h hh).elim (hr1.hs.hands h) (fun e => by rw [e]; exact z2), by rw [hnd]; rfl⟩
          obtain ⟨o, Ge', w1, w2, w3⟩ := ih M G3 G0 Ge2 path told0 f hf me T3 a1 a2 a4 hsn ⟨hs3, by rw [k6]; exact z4, by have := hr1.mel; omega, by rw [hold2 me hr1.mel, k3]; exact hr1.steps, by rw [hnd, qt, hr1.told]; show _ = told0 ++ ((toldT path T1).1 ++ rk.1); rw [List.append_assoc]⟩ v f' T' G' e
          rcases l3 with ⟨_, l4, l5⟩ | ⟨l4, _⟩
          · exact ⟨o, Ge', w1, ⟨by have := w2.len; omega, fun j hj hne => (w2.old j (by omega) hne).trans (hold2 j hj), w2.told, w2.fin⟩, LogV.kid_ok hr1.mel l1 l2 k8 l4 l5 w3⟩
          · exact absurd z1 l4
        · subst z3
          rw [if_neg z1] at hnd
          have e8 : stepP l depth (runP l budget depth k) path x (toE T1) Ge1 = .stop (.fail rk.2.1) Ge2 := by
            unfold stepP; rw [if_pos h3, if_neg h4, hq1]
          rw [e8]
          have hsick : Sick path T3 := ⟨by
            unfold syncBad
            rw [k1, k4, List.drop_append_of_le_length hTU.wait, List.any_append]
            have : ([(mkNode T2 v2 f2, rg3)].any fun k => decide (nf k.1 ≠ 0)) = true := by
              rw [List.any_cons, show nf ((mkNode T2 v2 f2, rg3) : Tr × Int).1 = f2 from rfl]; simp [z2]
            rw [this, Bool.or_true], by rw [hnd]; exact z1⟩
          obtain ⟨y1, y2⟩ := sick_run hl h16 hb hd30 k M G3 G0 path f hf T3 a1 a2 a4 hsn hsick v f' T' G' e
          have hwn : walkT (mkNode T' v f') path = preT (toldT path T1).1 rk := by
            rw [walkT_node, y1, hnd, if_neg (show ¬ (preT (toldT path T1).1 rk).2.1 = 0 from z1)]
          have hadd := runU_add l budget depth k G3 path l[f].f1 T3 v f' T' G' e
          rw [k1, List.length_append, k3] at hadd
          refine ⟨_, _, rfl, ⟨by omega, fun j hj _ => hold2 j hj, ?_, .inr ?_⟩, LogV.kid_bad (T1 := T1) hr1.mel hr1.steps l1 l2 k8 l3 z1 hadd hwn⟩
          · rw [hwn, qt, hr1.told]; show _ = told0 ++ ((toldT path T1).1 ++ rk.1); rw [List.append_assoc]
          · rw [hwn]; exact ⟨z1, y2, rfl⟩
    · by_cases h15 : x.f0 = 15
      · have e9 : stepU l depth (runU l budget depth k) path x T1 G1 = .go { T1 with ps := T1.ps ++ [⟨false, uR T1 x.f1⟩], told := T1.told + 1 } G1 := by simp [stepU, h15]
        have e8 : stepP l depth (runP l budget depth k) path x (toE T1) Ge1 = .go (toE T1) { Ge1 with told := Ge1.told ++ [rg (toE T1) x.f1] } := by unfold stepP; rw [if_neg h3, if_pos h15]
        rw [e9] at e hsi hsn
        rw [e8]
        obtain ⟨a1, a2, a3, a4⟩ := hsi
        have htl := toldT_emit (path := path) (T := T1) (T' := { T1 with ps := T1.ps ++ [⟨false, uR T1 x.f1⟩], told := T1.told + 1 }) rfl rfl hr1.hs.told
        obtain ⟨o, Ge', q1, q2⟩ := ih M G1 G0 { Ge1 with told := Ge1.told ++ [rg (toE T1) x.f1] } path told0 f hf me _ a1 a2 a4 hsn ⟨⟨hr1.hs.kids, hr1.hs.hands, by rw [htl]⟩, hr1.left, hr1.mel, hr1.steps, by rw [htl]; show Ge1.told ++ [uR T1 x.f1] = _; rw [hr1.told, List.append_assoc]⟩ v f' T' G' e
        exact ⟨o, Ge', q1, ⟨q2.1.len, q2.1.old, q2.1.told, q2.1.fin⟩, q2.2⟩
      · rcases sim_simple (l := l) (depth := depth) (rec := runU l budget depth k) (G := G1) hr1.hs hop h3 h15 h17 hx16 with ⟨T2, e9, e8, q⟩ | ⟨w, hw, e9, e8⟩
        · have e7 : stepP l depth (runP l budget depth k) path x (toE T1) Ge1 = .go (toE T2) Ge1 := by unfold stepP; rw [if_neg h3, if_neg h15, e8]
          rw [e9] at e hsi hsn
          rw [e7]
          obtain ⟨a1, a2, a3, a4⟩ := hsi
          obtain ⟨o, Ge', q1, q2⟩ := ih M G1 G0 Ge1 path told0 f hf me T2 a1 a2 a4 hsn ⟨hr1.hs.quiet q, hr1.left, hr1.mel, by rw [q.steps]; exact hr1.steps, by rw [toldT_quiet q]; exact hr1.told⟩ v f' T' G' e
          exact ⟨o, Ge', q1, q2⟩
        · have e7 : stepP l depth (runP l budget depth k) path x (toE T1) Ge1 = .stop (.fail w) Ge1 := by unfold stepP; rw [if_neg h3, if_neg h15, e8]
          rw [e9] at e
          rw [e7]
          cases e
          refine ⟨_, _, rfl, ⟨Nat.le_refl _, fun j _ _ => rfl, ?_, .inr ?_⟩, LogV.same hr1.mel hr1.steps hr1.hs.told⟩
          · rw [walkT_node, if_pos hr1.hs.told]; exact hr1.told
          · rw [walkT_node, if_pos hr1.hs.told]; exact ⟨hw, hw, rfl⟩
end
/-- the logs of a whole program. -/
theorem unfold_logs {l : List S64} {args : List Int} {b d : Int} {most : Nat} {t : Tr} {G : Gu} (hr : evRight l args.length b d = true) (h : unfoldP l args b d most = some (t, G)) :
    ∃ v f told log, evalP l args b d most = some (v, f, told, log) ∧ rightT t 0 = true ∧ walkT t [] = (told, f, (walkT t []).2.2) ∧ v = (if f = 0 then nv t else 0) ∧ ∃ s st addE addU, log = ([], s) :: addE ∧ G.log = addU ++ [([], st)] ∧ LogF [] (walkT t []) s st addE addU := by
  obtain ⟨hl, hb, hd, hn, hn4⟩ := evRight_ok hr
  have h16 := evRight_16 hr
  have hrt := (unfoldP_need hl hb.1 hd (by omega) h).1.right
  unfold unfoldP beginU at h
  have hl1 := hl.len
  have hrd : rd_T64 l 0 = l[0] := by simp [rd_T64, show 0 < l.length by omega]
  rw [hrd] at h
  cases hq : runU l b d (most + 1) ⟨most, [], 0, 0, 0, 0⟩ [] l[0].f1 (newTu args noHandsU) with
  | none => rw [hq] at h; cases h
  | some r =>
    obtain ⟨v, f, T, G1⟩ := r
    rw [hq] at h
    cases h
    obtain ⟨o, Ge', q1, q2, addE, addU, s, l1, l2, l3⟩ := log_run hl h16 hb.1 hd.2 (most + 1) (most + 1) ⟨most, [], 0, 0, 0, 0⟩ ⟨most, [], 0, 0, 0, 0⟩ ⟨most, [], [([], 0)]⟩ [] [] 0 (by omega) 0 (newTu args noHandsU) ⟨by show 0 + most ≤ most + 1; omega, rfl, Nat.le_refl _, by show ((0 : Nat) : Int) ≤ b * ((0 : Nat) : Int); simp, by show ((0 : Nat) : Int) ≤ b * ((0 : Nat) : Int); simp, fun e he => by cases he⟩ (by show 0 + 1 + most ≤ most + 1; omega) (new_inv hl (by omega) 0 (by omega) (by simpa using hd.1) args (by omega) noHandsU rfl) (NeedI.start _ _ _ (by simpa using hd.1)) ⟨⟨fun k hk => (by cases hk), fun t ht => (by simp [newTu, noHandsU] at ht; rw [ht]; rfl), rfl⟩, rfl, Nat.zero_lt_one, rfl, rfl⟩ v f T G1 hq
    have he : evalP l args b d most = match (o, Ge') with
        | (.val v, G) => some (v, 0, G.told, G.log)
        | (.fail why, G) => some (0, why, G.told, G.log)
        | (.long, _) => none := by
      unfold evalP beginP
      rw [hrd]
      have q1 : runP l b d (most + 1) ⟨most, [], [] ++ [([], 0)]⟩ [] l[0].f1 0 (newTask args noHands) = (o, Ge') := q1
      show (match runP l b d (most + 1) ⟨most, [], [] ++ [([], 0)]⟩ [] l[0].f1 0 (newTask args noHands) with
        | (.val v, G) => some (v, 0, G.told, G.log)
        | (.fail why, G) => some (0, why, G.told, G.log)
        | (.long, _) => none) = _
      rw [q1]
    have qt : Ge'.told = [] ++ (walkT (mkNode T v f) []).1 := q2.told
    rw [List.nil_append] at qt
    have l1 : Ge'.log = ([], s) :: addE := l1
    have l2 : G1.log = addU := l2
    have l4 : (noteU [] T G1).log = addU ++ [([], (T.steps : Int))] := by show G1.log ++ _ = _; rw [l2]
    rcases q2.fin with ⟨z1, z2, z3, z4⟩ | ⟨z1, z2, z3⟩
    · subst z3
      refine ⟨v, 0, Ge'.told, Ge'.log, he, hrt, ?_, rfl, s, _, addE, addU, l1, l4, l3⟩
      rw [qt]
      exact Prod.ext rfl (Prod.ext z1 rfl)
    · subst z3
      refine ⟨0, _, Ge'.told, Ge'.log, he, hrt, ?_, by rw [if_neg z1], s, _, addE, addU, l1, l4, l3⟩
      rw [qt]
/-- no path is noted twice. -/
theorem unfold_nd {l : List S64} {args : List Int} {b d : Int} {most : Nat} {t : Tr} {G : Gu} (h : unfoldP l args b d most = some (t, G)) : G.log.Pairwise (fun x y => x.1 ≠ y.1) := by
  unfold unfoldP beginU at h
  cases hq : runU l b d (most + 1) ⟨most, [], 0, 0, 0, 0⟩ [] (rd_T64 l 0).f1 (newTu args noHandsU) with
  | none => rw [hq] at h; cases h
  | some r =>
    obtain ⟨v, f, T, G1⟩ := r
    rw [hq] at h
    cases h
    obtain ⟨_, add, a1, a2, a3⟩ := runU_add l b d _ _ _ _ _ _ _ _ _ hq
    have a1 : G1.log = add := a1
    show (G1.log ++ [([], (T.steps : Int))]).Pairwise _
    rw [a1]
    refine List.pairwise_append.2 ⟨a3, List.pairwise_singleton _ _, fun x hx y hy => ?_⟩
    rw [List.mem_singleton.1 hy]
    obtain ⟨j, r, _, e⟩ := a2 x hx
    rw [e]
    simp
end Go.Proofs.Ytbekjccehhaljaa.H

set_option linter.unusedVariables false
set_option linter.unusedSimpArgs false
namespace Go.Proofs.Ytbekjccehhaljaa.H
open Go.RowKit Go.Hay Go.Proofs.YtbekjccehhaljaaW.PrintWords Go.Proofs.YtbekjccehhaljaaW.PrintLast Go.Proofs.YtbekjccehhaljaaW.PrintMore
abbrev LE := List (List Int × Int)
/-- what the loop keeps: what is left of the unfolding's log, and of the evaluation's. -/
structure Cov (is : Bool) (first : List Int) (L Le : LE) : Prop where
  up : L.Pairwise (fun x y => ltP x.1 y.1 = true)
  upE : Le.Pairwise (fun x y => ltP x.1 y.1 = true)
  inn : ∀ e ∈ Le, ∃ u ∈ L, u.1 = e.1 ∧ e.2 ≤ u.2 ∧ (is = false → u.2 = e.2)
  out : ∀ u ∈ L, (∃ e ∈ Le, e.1 = u.1) ∨ (is = true ∧ ltP first u.1 = true)
theorem Cov.nil {is : Bool} {first : List Int} {Le : LE} (h : Cov is first [] Le) : Le = [] := by
  cases Le with
  | nil => rfl
  | cons e Le => obtain ⟨u, hu, _⟩ := h.inn e (List.mem_cons_self ..); cases hu
theorem Cov.same {is : Bool} {first : List Int} {u e : List Int × Int} {L Le : LE} (h : Cov is first (u :: L) (e :: Le)) (he : e.1 = u.1) : e.2 ≤ u.2 ∧ (is = false → u.2 = e.2) ∧ Cov is first L Le := by
  have hu := List.pairwise_cons.1 h.up
  have hE := List.pairwise_cons.1 h.upE
  obtain ⟨u0, h0, h1, h2, h3⟩ := h.inn e (List.mem_cons_self ..)
  have e0 : u0 = u := by
    rcases List.mem_cons.1 h0 with rfl | h0
    · rfl
    · have := hu.1 u0 h0
      rw [h1, he, ltP_irrefl] at this
      cases this
  subst e0
  refine ⟨h2, h3, hu.2, hE.2, fun e' he' => ?_, fun u' hu' => ?_⟩
  · obtain ⟨u1, k0, k1, k2⟩ := h.inn e' (List.mem_cons_of_mem _ he')
    rcases List.mem_cons.1 k0 with rfl | k0
    · have := hE.1 e' he'
      rw [he, ← k1, ltP_irrefl] at this
      cases this
    · exact ⟨u1, k0, k1, k2⟩
  · rcases h.out u' (List.mem_cons_of_mem _ hu') with ⟨e', k0, k1⟩ | k
    · rcases List.mem_cons.1 k0 with rfl | k0
      · have := hu.1 u' hu'
        rw [← k1, he, ltP_irrefl] at this
        cases this
      · exact .inl ⟨e', k0, k1⟩
    · exact .inr k
theorem Cov.other {is : Bool} {first : List Int} {u : List Int × Int} {L Le : LE} (h : Cov is first (u :: L) Le) (he : ∀ e r, Le = e :: r → e.1 ≠ u.1) : is = true ∧ ltP first u.1 = true ∧ Cov is first L Le := by
  have hu := List.pairwise_cons.1 h.up
  have hno : ∀ e ∈ Le, e.1 ≠ u.1 := by
    intro e0 h0 heq
    cases hL : Le with
    | nil => rw [hL] at h0; cases h0
    | cons e r =>
      have hne := he e r hL
      rw [hL] at h0
      have hE := List.pairwise_cons.1 (hL ▸ h.upE)
      rcases List.mem_cons.1 h0 with rfl | h0
      · exact hne heq
      · have h1 := hE.1 e0 h0
        obtain ⟨u1, k0, k1, _⟩ := h.inn e (by rw [hL]; exact List.mem_cons_self ..)
        rcases List.mem_cons.1 k0 with rfl | k0
        · exact hne k1.symm
        · have h2 := hu.1 u1 k0
          rw [k1] at h2
          rw [heq] at h1
          have h3 := ltP_trans _ _ _ h2 h1
          rw [ltP_irrefl] at h3
          cases h3
  have ho : is = true ∧ ltP first u.1 = true := by
    rcases h.out u (List.mem_cons_self ..) with ⟨e, k0, k1⟩ | k
    · exact absurd k1 (hno e k0)
    · exact k
  refine ⟨ho.1, ho.2, hu.2, h.upE, fun e he' => ?_, fun u' hu' => h.out u' (List.mem_cons_of_mem _ hu')⟩
  obtain ⟨u1, k0, k1, k2⟩ := h.inn e he'
  rcases List.mem_cons.1 k0 with rfl | k0
  · exact absurd k1.symm (hno e he')
  · exact ⟨u1, k0, k1, k2⟩
end Go.Proofs.Ytbekjccehhaljaa.H

set_option linter.unusedVariables false
set_option linter.unusedSimpArgs false
namespace Go.Proofs.Ytbekjccehhaljaa.H
open Go.RowKit Go.Hay Go.Proofs.YtbekjccehhaljaaW.PrintWords Go.Proofs.YtbekjccehhaljaaW.PrintLast Go.Proofs.YtbekjccehhaljaaW.PrintMore
def goOn (x : S61) (T : Ts) (v : Int) : Ts := if x.f0 = 11 then { T with kids := T.kids + 1, wait := T.wait ++ [(x.f1, v)] } else { T with kids := T.kids + 1, hands := T.hands.set x.f1.toNat (true, v) }
/-- a path ahead of another one. -/
def ltR : List Int → List Int → Prop
  | _, [] => False
  | [], _ :: _ => True
  | a :: x, b :: y => a < b ∨ (a = b ∧ ltR x y)
theorem ltR_ext (p : List Int) (c : Int) (r : List Int) : ltR p (p ++ c :: r) := by
  induction p with
  | nil => exact trivial
  | cons a p ih => exact .inr ⟨rfl, ih⟩
theorem ltR_fork (p : List Int) {a b : Int} (h : a < b) (r s : List Int) : ltR (p ++ a :: r) (p ++ b :: s) := by
  induction p with
  | nil => exact .inl h
  | cons c p ih => exact .inr ⟨rfl, ih⟩
def Ext (p : List Int) (i : Nat) (q : List Int) : Prop := ∃ (j : Nat) (r : List Int), i ≤ j ∧ q = p ++ (j : Int) :: r
def tot : List (List Int × Int) → Int
  | [] => 0
  | e :: r => e.2 + tot r
theorem tot_app (x y : List (List Int × Int)) : tot (x ++ y) = tot x + tot y := by
  induction x with
  | nil => simp [tot]
  | cons e r ih => simp only [List.cons_append, tot, ih]; omega
/-- what is noted behind a task's run: its own number turned, others' behind it. -/
structure Ran (b d : Int) (me : Nat) (path : List Int) (i : Nat) (G G' : Gs) (s : Int) (add : List (List Int × Int)) : Prop where
  log : G'.log = G.log.set me ((G.log.getD me ([], 0)).1, s) ++ add
  sb : s ≤ b
  s0 : (G.log.getD me ([], 0)).2 ≤ s
  ext : ∀ e ∈ add, Ext path i e.1 ∧ (e.1.length : Int) ≤ d ∧ e.2 ≤ b ∧ 0 ≤ e.2
  up : add.Pairwise (fun x y => ltR x.1 y.1)
  sum : (G'.left : Int) + s + tot add = G.left + (G.log.getD me ([], 0)).2
def RanP (b d : Int) (me : Nat) (path : List Int) (i : Nat) (G G' : Gs) : Prop := ∃ s add, Ran b d me path i G G' s add
section
variable {b d : Int} {me i : Nat} {path : List Int} {G G' : Gs}
theorem Ran.refl (hme : me < G.log.length) (hb : (G.log.getD me ([], 0)).2 ≤ b) : RanP b d me path i G G := by
  refine ⟨(G.log.getD me ([], 0)).2, [], ?_, hb, Int.le_refl _, fun e he => (by cases he), List.Pairwise.nil, by simp [tot]⟩
  have e : G.log.getD me ([], 0) = G.log[me] := by rw [List.getD_eq_getElem?_getD, List.getElem?_eq_getElem hme]; rfl
  rw [e, List.append_nil]
  exact (List.set_getElem_self hme).symm
theorem bump_getD (log : List (List Int × Int)) (hme : me < log.length) : (bump log me).getD me ([], 0) = ((log.getD me ([], 0)).1, (log.getD me ([], 0)).2 + 1) := by
  rw [List.getD_eq_getElem?_getD, bump, List.getElem?_set_self hme]
  rfl
theorem bump_set (log : List (List Int × Int)) (hme : me < log.length) (s : Int) : (bump log me).set me (((bump log me).getD me ([], 0)).1, s) = log.set me ((log.getD me ([], 0)).1, s) := by
  rw [bump_getD log hme, bump, List.set_set]
theorem Ran.bump {told : List Int} (hme : me < G.log.length) (hl : G.left ≠ 0) (h : RanP b d me path i ⟨G.left - 1, told, Proofs.Ytbekjccehhaljaa.H.bump G.log me⟩ G') : RanP b d me path i G G' := by
  obtain ⟨s, add, h1, h2, h3, h4, h5, h6⟩ := h
  rw [bump_set G.log hme] at h1
  simp only [bump_getD G.log hme] at h3 h6
  refine ⟨s, add, h1, h2, by omega, h4, h5, ?_⟩
  have e : ((G.left - 1 : Nat) : Int) = (G.left : Int) - 1 := by omega
  rw [e] at h6
  omega
theorem Ran.weak {j : Nat} (hij : i ≤ j) (h : RanP b d me path j G G') : RanP b d me path i G G' := by
  obtain ⟨s, add, h1, h2, h3, h4, h5, h6⟩ := h
  refine ⟨s, add, h1, h2, h3, fun e he => ?_, h5, h6⟩
  obtain ⟨⟨j', r, hj, e1⟩, h7⟩ := h4 e he
  exact ⟨⟨j', r, Nat.le_trans hij hj, e1⟩, h7⟩
/-- a kid's run stands behind. -/
theorem Ran.kid {G1 : Gs} {told : List Int} {left : Nat} (hme : me < G.log.length) (hb : (G.log.getD me ([], 0)).2 ≤ b) (hd : (path.length : Int) + 1 ≤ d) (h1 : RanP b d G.log.length (path ++ [(i : Int)]) 0 ⟨G.left, told, G.log ++ [(path ++ [(i : Int)], 0)]⟩ G1) :
    RanP b d me path i G G1 ∧ me < G1.log.length ∧ (G1.log.getD me ([], 0)).2 ≤ b ∧ (∀ G', RanP b d me path (i + 1) G1 G' → RanP b d me path i G G') := by
  obtain ⟨s, add, a1, a2, a3, a4, a5, a6⟩ := h1
  have hg : (G.log ++ [(path ++ [(i : Int)], (0 : Int))]).getD G.log.length ([], 0) = (path ++ [(i : Int)], 0) := by
    rw [List.getD_eq_getElem?_getD, List.getElem?_append_right (Nat.le_refl _)]; simp
  simp only [hg] at a1 a3 a6
  have hlog : G1.log = G.log ++ (path ++ [(i : Int)], s) :: add := by
    rw [a1, List.set_append_right _ _ (Nat.le_refl _)]
    simp
  have hgm : G1.log.getD me ([], 0) = G.log.getD me ([], 0) := by
    rw [hlog, List.getD_eq_getElem?_getD, List.getElem?_append_left hme, List.getD_eq_getElem?_getD]
  have hself : G.log.set me ((G.log.getD me ([], 0)).1, (G.log.getD me ([], 0)).2) = G.log := by
    have e : G.log.getD me ([], 0) = G.log[me] := by rw [List.getD_eq_getElem?_getD, List.getElem?_eq_getElem hme]; rfl
    rw [e]
    exact List.set_getElem_self hme
  have hext : ∀ e ∈ ((path ++ [(i : Int)], s) :: add), (∃ r, e.1 = path ++ (i : Int) :: r) ∧ (e.1.length : Int) ≤ d ∧ e.2 ≤ b ∧ 0 ≤ e.2 := by
    intro e he
    rcases List.mem_cons.1 he with rfl | he
    · refine ⟨⟨[], rfl⟩, ?_, a2, a3⟩
      show ((path ++ [(i : Int)]).length : Int) ≤ d
      rw [List.length_append, List.length_singleton]; omega
    · obtain ⟨⟨j', r, _, e1⟩, h7⟩ := a4 e he
      exact ⟨⟨(j' : Int) :: r, by rw [e1]; simp⟩, h7⟩
  have hup : ((path ++ [(i : Int)], s) :: add).Pairwise (fun x y => ltR x.1 y.1) := by
    refine List.pairwise_cons.2 ⟨fun e he => ?_, a5⟩
    obtain ⟨⟨j', r, _, e1⟩, _⟩ := a4 e he
    rw [e1]
    exact ltR_ext _ _ _
  refine ⟨⟨(G.log.getD me ([], 0)).2, (path ++ [(i : Int)], s) :: add, by rw [hself]; exact hlog, hb, Int.le_refl _, fun e he => ?_, hup, ?_⟩, ?_, by rw [hgm]; exact hb, fun G' h2 => ?_⟩
  · obtain ⟨⟨r, e1⟩, h7⟩ := hext e he
    exact ⟨⟨i, r, Nat.le_refl _, e1⟩, h7⟩
  · show (G1.left : Int) + (G.log.getD me ([], 0)).2 + (s + tot add) = _
    omega
  · rw [hlog, List.length_append]; omega
  · obtain ⟨s2, add2, b1, b2, b3, b4, b5, b6⟩ := h2
    rw [hgm] at b1 b3 b6
    rw [hlog, List.set_append_left _ _ hme] at b1
    refine ⟨s2, ((path ++ [(i : Int)], s) :: add) ++ add2, by rw [b1, List.append_assoc], b2, b3, fun e he => ?_, List.pairwise_append.2 ⟨hup, b5, fun x hx y hy => ?_⟩, ?_⟩
    · rcases List.mem_append.1 he with he | he
      · obtain ⟨⟨r, e1⟩, h7⟩ := hext e he
        exact ⟨⟨i, r, Nat.le_refl _, e1⟩, h7⟩
      · obtain ⟨⟨j', r, hj, e1⟩, h7⟩ := b4 e he
        exact ⟨⟨j', r, by omega, e1⟩, h7⟩
    · obtain ⟨⟨r, e1⟩, _⟩ := hext x hx
      obtain ⟨⟨j', r', hj, e2⟩, _⟩ := b4 y hy
      rw [e1, e2]
      exact ltR_fork path (by omega) _ _
    · rw [tot_app]
      show (G'.left : Int) + s2 + (s + tot add + tot add2) = _
      omega
end
def kidSR (x : S61) (T : Ts) (G2 : Gs) : Out → SR
  | .val v => .go (goOn x T v) G2
  | .fail w => .stop (.fail w) G2
  | .long => .stop .long G2
theorem step_kid {l : List S64} {b d : Int} {k : Nat} {path : List Int} {x : S61} {T : Ts} {G G2 : Gs} {o : Out} (h3 : x.f0 = 11 ∨ x.f0 = 13) (h4 : (path.length : Int) ≠ d)
    (hq : runP l b d k { G with log := G.log ++ [(path ++ [(T.kids : Int)], 0)] } (path ++ [(T.kids : Int)]) (rd_T64 l x.f3).f1 G.log.length (newTask (argsOf l x T) T.hands) = (o, G2)) :
    stepP l d (runP l b d k) path x T G = kidSR x T G2 o := by
  unfold stepP
  rw [if_pos h3, if_neg h4, hq]
  cases o <;> rfl
theorem simple_kids {x : S61} {T T' : Ts} (h : simple x T = .go T') : T'.kids = T.kids := by
  unfold simple at h
  by_cases e1 : x.f0 = 1
  · rw [if_pos e1] at h
    cases h; rfl
  rw [if_neg e1] at h
  by_cases e2 : x.f0 = 2
  · rw [if_pos e2] at h
    cases h; rfl
  rw [if_neg e2] at h
  by_cases e3 : x.f0 = 3
  · rw [if_pos e3] at h
    cases h; rfl
  rw [if_neg e3] at h
  by_cases e4 : x.f0 = 4
  · rw [if_pos e4] at h
    cases h; rfl
  rw [if_neg e4] at h
  by_cases e5 : x.f0 = 5
  · rw [if_pos e5] at h
    cases h; rfl
  rw [if_neg e5] at h
  by_cases e6 : x.f0 = 6
  · rw [if_pos e6] at h
    by_cases z : rg T x.f3 = 0
    · rw [if_pos z] at h; cases h
    · rw [if_neg z] at h; cases h; rfl
  rw [if_neg e6] at h
  by_cases e7 : x.f0 = 7
  · rw [if_pos e7] at h
    cases h; rfl
  rw [if_neg e7] at h
  by_cases e8 : x.f0 = 8
  · rw [if_pos e8] at h
    cases h; rfl
  rw [if_neg e8] at h
  by_cases e9 : x.f0 = 9
  · rw [if_pos e9] at h
    cases h; rfl
  rw [if_neg e9] at h
  by_cases e10 : x.f0 = 10
  · rw [if_pos e10] at h
    injection h with h; subst h; (split <;> rfl)
  rw [if_neg e10] at h
  by_cases e12 : x.f0 = 12
  · rw [if_pos e12] at h
    cases h; rfl
  rw [if_neg e12] at h
  by_cases e14 : x.f0 = 14
  · rw [if_pos e14] at h
    by_cases z : (hd T x.f2).1 = true
    · rw [if_pos z] at h; cases h; rfl
    · rw [if_neg z] at h; cases h
  rw [if_neg e14] at h
  cases h
/-- every run keeps the book. -/
theorem run_ran (l : List S64) (b d : Int) (hb0 : 0 ≤ b) : ∀ (k : Nat) (G : Gs) (path : List Int) (code : List S61) (me : Nat) (T : Ts), me < G.log.length → (G.log.getD me ([], 0)).2 ≤ b → (path.length : Int) ≤ d → RanP b d me path T.kids G (runP l b d k G path code me T).2 := by
  intro k
  induction k with
  | zero => intro G path code me T hme hb hd; exact Ran.refl hme hb
  | succ k ih =>
    intro G path code me T hme hb hd
    rw [runP.eq_2]
    by_cases h1 : (G.log.getD me ([], 0)).2 = b
    · rw [if_pos h1]; exact Ran.refl hme hb
    rw [if_neg h1]
    by_cases h2 : G.left = 0
    · rw [if_pos h2]; exact Ran.refl hme hb
    rw [if_neg h2]
    have hme' : me < (bump G.log me).length := by rw [bump_len]; exact hme
    have hb' : ((bump G.log me).getD me ([], 0)).2 ≤ b := by rw [bump_getD G.log hme]; show _ + 1 ≤ b; omega
    split
    · exact Ran.bump (told := G.told) hme h2 (Ran.refl hme' hb')
    · obtain ⟨x, hx⟩ : ∃ x, x = rd_T61 code T.at_ := ⟨_, rfl⟩
      rw [← hx]
      by_cases h3 : x.f0 = 11 ∨ x.f0 = 13
      · by_cases h4 : (path.length : Int) = d
        · unfold stepP
          rw [if_pos h3, if_pos h4]
          exact Ran.bump (told := G.told) hme h2 (Ran.refl hme' hb')
        have hk := Ran.kid (G := ⟨G.left - 1, G.told, bump G.log me⟩) (i := T.kids) (told := G.told) (left := G.left - 1) hme' hb' (by omega) (ih ⟨G.left - 1, G.told, bump G.log me ++ [(path ++ [(T.kids : Int)], 0)]⟩ (path ++ [(T.kids : Int)]) (rd_T64 l x.f3).f1 (bump G.log me).length (newTask (argsOf l x { T with at_ := T.at_ + 1 }) T.hands) (by simp) (by
          rw [List.getD_eq_getElem?_getD, List.getElem?_append_right (Nat.le_refl _)]; simpa using hb0) (by rw [List.length_append, List.length_singleton]; omega))
        generalize hq : runP l b d k ⟨G.left - 1, G.told, bump G.log me ++ [(path ++ [(T.kids : Int)], 0)]⟩ (path ++ [(T.kids : Int)]) (rd_T64 l x.f3).f1 (bump G.log me).length (newTask (argsOf l x { T with at_ := T.at_ + 1 }) T.hands) = q at hk
        obtain ⟨o, G2⟩ := q
        obtain ⟨k1, k2, k3, k4⟩ := hk
        rw [step_kid (T := { T with at_ := T.at_ + 1 }) (G := ⟨G.left - 1, G.told, bump G.log me⟩) h3 h4 hq]
        cases o with
        | val v =>
          have e : (goOn x { T with at_ := T.at_ + 1 } v).kids = T.kids + 1 := by unfold goOn; split <;> rfl
          have := ih G2 path code me (goOn x { T with at_ := T.at_ + 1 } v) k2 k3 hd
          rw [e] at this
          exact Ran.bump (told := G.told) hme h2 (k4 _ this)
        | fail why => exact Ran.bump (told := G.told) hme h2 k1
        | long => exact Ran.bump (told := G.told) hme h2 k1
      · unfold stepP
        rw [if_neg h3]
        by_cases h4 : x.f0 = 15
        · rw [if_pos h4]
          exact Ran.bump hme h2 (ih ⟨G.left - 1, G.told ++ [rg { T with at_ := T.at_ + 1 } x.f1], bump G.log me⟩ path code me { T with at_ := T.at_ + 1 } hme' hb' hd)
        rw [if_neg h4]
        cases hs : simple x { T with at_ := T.at_ + 1 } with
        | go T' =>
          have e := simple_kids hs
          have := ih ⟨G.left - 1, G.told, bump G.log me⟩ path code me T' hme' hb' hd
          rw [e] at this
          exact Ran.bump (told := G.told) hme h2 this
        | stop why => exact Ran.bump (told := G.told) hme h2 (Ran.refl hme' hb')
theorem ltR_P : ∀ (x y : List Int), ltR x y → ltP x y = true := by
  intro x
  induction x with
  | nil =>
    intro y h
    cases y with
    | nil => exact False.elim h
    | cons b y => rfl
  | cons a x ih =>
    intro y h
    cases y with
    | nil => exact False.elim h
    | cons b y =>
      rw [ltP_cons]
      rcases h with h | ⟨h1, h2⟩
      · simp [h]
      · rw [ih y h2, h1]; simp
end Go.Proofs.Ytbekjccehhaljaa.H

set_option linter.unusedVariables false
set_option linter.unusedSimpArgs false
namespace Go.Proofs.Ytbekjccehhaljaa.H
open Go.RowKit Go.Hay Go.Proofs.YtbekjccehhaljaaW.PrintWords Go.Proofs.YtbekjccehhaljaaW.PrintLast Go.Proofs.YtbekjccehhaljaaW.PrintMore
theorem evalP_up {l : List S64} {args : List Int} {b d : Int} {most : Nat} {v f : Int} {told : List Int} {log : List (List Int × Int)} (hb : 0 ≤ b) (hd : 0 ≤ d) (h : evalP l args b d most = some (v, f, told, log)) : log.Pairwise (fun x y => ltP x.1 y.1 = true) := by
  unfold evalP beginP at h
  have hran := run_ran l b d hb (most + 1) ⟨most, [], [] ++ [([], 0)]⟩ [] (rd_T64 l 0).f1 0 (newTask args noHands) (by show 0 < 1; decide) (by show (0 : Int) ≤ b; exact hb) (by show ((0 : Nat) : Int) ≤ d; simpa using hd)
  have h : (match runP l b d (most + 1) ⟨most, [], [] ++ [([], 0)]⟩ [] (rd_T64 l 0).f1 0 (newTask args noHands) with
    | (.val v, G) => some (v, 0, G.told, G.log)
    | (.fail why, G) => some (0, why, G.told, G.log)
    | (.long, _) => none) = some (v, f, told, log) := h
  generalize runP l b d (most + 1) ⟨most, [], [] ++ [([], 0)]⟩ [] (rd_T64 l 0).f1 0 (newTask args noHands) = q at h hran
  obtain ⟨o, G⟩ := q
  obtain ⟨s, add, a1, a2, a3, a4, a5, a6⟩ := hran
  have a1 : G.log = ([], s) :: add := a1
  have hlog : log = G.log := by
    cases o with
    | val v => cases h; rfl
    | fail w => cases h; rfl
    | long => cases h
  rw [hlog, a1]
  refine List.pairwise_cons.2 ⟨fun e he => ?_, a5.imp (fun h => ltR_P _ _ h)⟩
  obtain ⟨⟨j, r, _, e5⟩, _⟩ := a4 e he
  rw [e5]
  exact ltP_extU [] _ _
/-- EACH TASK THAT IS EVALUATED IS UNFOLDED, TOO. -/
theorem unfold_cov {l : List S64} {args : List Int} {b d : Int} {most : Nat} {t : Tr} {G : Gu} {L : LE} (hr : evRight l args.length b d = true) (h : unfoldP l args b d most = some (t, G)) (hL : L.Perm G.log) (hs : L.Pairwise (fun x y => ltP y.1 x.1 = false)) :
    ∃ v f told log, evalP l args b d most = some (v, f, told, log) ∧ rightT t 0 = true ∧ walkT t [] = (told, f, (walkT t []).2.2) ∧ (firstP t).2 = decide (f ≠ 0) ∧ Cov (decide (f ≠ 0)) (firstP t).1 L log := by
  obtain ⟨hl, hb, hd, hn, hn4⟩ := evRight_ok hr
  obtain ⟨v, f, told, log, m1, m2, m3, m4, s, st, addE, addU, m5, m6, m7⟩ := unfold_logs hr h
  have hf : (walkT t []).2.1 = f := by rw [m3]
  have hup := evalP_up (by omega) hd.1 m1
  have hnd := unfold_nd h
  have hndL : L.Pairwise (fun x y => x.1 ≠ y.1) := (hL.pairwise_iff (fun hxy => Ne.symm hxy)).2 hnd
  have hupL : L.Pairwise (fun x y => ltP x.1 y.1 = true) := by
    refine (List.pairwise_and_iff.2 ⟨hs, hndL⟩).imp (fun {x y} hxy => ?_)
    cases hq : ltP x.1 y.1 with
    | true => rfl
    | false => exact absurd (ltP_total _ _ hq hxy.1) hxy.2
  refine ⟨v, f, told, log, m1, m2, m3, ?_⟩
  unfold firstP
  rw [if_pos m2]
  rcases m7 with ⟨b1, b2, b3⟩ | ⟨b1, b2, q, b3, b4, b5, b6⟩
  · have hf0 : f = 0 := hf.symm.trans b1
    have hnone := (walkT_fits t []).1 b1
    rw [hnone, hf0]
    have hpm : G.log.Perm log := by
      rw [m5, m6, b3]
      exact (List.perm_append_singleton _ _).trans (b2.cons _)
    refine ⟨rfl, hupL, hup, fun e he => ⟨e, hL.mem_iff.2 (hpm.mem_iff.2 he), rfl, Int.le_refl _, fun _ => rfl⟩, fun u hu => .inl ⟨u, hpm.mem_iff.1 (hL.mem_iff.1 hu), rfl⟩⟩
  · have hf0 : f ≠ 0 := fun e => b1 (hf.trans e)
    rw [b3]
    have hdec : decide (f ≠ 0) = true := by simp [hf0]
    rw [hdec]
    refine ⟨rfl, hupL, hup, fun e he => ?_, fun u hu => ?_⟩
    · rw [m5] at he
      rcases List.mem_cons.1 he with rfl | he
      · exact ⟨([], st), hL.mem_iff.2 (by rw [m6]; simp), rfl, b2, fun h => by cases h⟩
      · obtain ⟨u, hu, h1, h2⟩ := b5 e he
        exact ⟨u, hL.mem_iff.2 (by rw [m6]; simp [hu]), h1, h2, fun h => by cases h⟩
    · have hu := hL.mem_iff.1 hu
      rw [m6] at hu
      rcases List.mem_append.1 hu with hu | hu
      · rcases b6 u hu with ⟨e, he, hh⟩ | hh
        · exact .inl ⟨e, by rw [m5]; exact List.mem_cons_of_mem _ he, hh⟩
        · exact .inr ⟨rfl, hh⟩
      · rw [List.mem_singleton.1 hu]
        exact .inl ⟨([], s), by rw [m5]; exact List.mem_cons_self .., rfl⟩
end Go.Proofs.Ytbekjccehhaljaa.H

set_option linter.unusedVariables false
set_option linter.unusedSimpArgs false
namespace Go.Proofs.Ytbekjccehhaljaa.H
open Go.RowKit Go.Hay Go.Proofs.YtbekjccehhaljaaW.PrintWords Go.Proofs.YtbekjccehhaljaaW.PrintLast Go.Proofs.YtbekjccehhaljaaW.PrintMore
def sumL : List WR → Int
  | [] => 0
  | r :: l => (r.1.length : Int) + sumL l
theorem sumL_pos : ∀ l : List WR, 0 ≤ sumL l
  | [] => Int.le_refl _
  | r :: l => by have := sumL_pos l; rw [sumL]; omega
theorem walkPs_len (W : List WR) : ∀ (ps : List Pc) (m : Nat), metP (m : Int) ps = some (W.length : Int) → ((walkPs ps W).1.length : Int) ≤ (ps.length : Int) - ((W.length : Int) - m) + sumL (W.drop m)
  | [], m, h => by
    rw [metP] at h
    injection h with h
    have := sumL_pos (W.drop m)
    show ((0 : Nat) : Int) ≤ ((0 : Nat) : Int) - _ + _
    omega
  | p :: ps, m, h => by
    have hl := metP_len h
    rw [metP] at h
    rw [walkPs]
    rw [List.length_cons] at hl ⊢
    by_cases hp : p.f0 = true
    · rw [if_pos hp] at h ⊢
      by_cases h1 : p.f1 = (m : Int)
      · rw [if_pos h1] at h
        have hle := metP_le h
        have hlt : m < W.length := by omega
        have ih := walkPs_len W ps (m + 1) (by rw [← h]; rfl)
        have e : W.getD p.f1.toNat ([], 0, none) = W[m] := by rw [h1, Int.toNat_natCast, List.getD_eq_getElem?_getD, List.getElem?_eq_getElem hlt]; rfl
        rw [List.drop_eq_getElem_cons hlt, sumL, e]
        have hs := sumL_pos (W.drop (m + 1))
        split
        · simp only [preT, List.length_append]; omega
        · omega
      · rw [if_neg h1] at h; cases h
    · rw [if_neg hp] at h ⊢
      have ih := walkPs_len W ps m h
      simp only [preT, List.length_append, List.length_singleton]
      omega
mutual
theorem walkT_len : ∀ (t : Tr) (path : List Int) (d : Int), rightT t d = true → ((walkT t path).1.length : Int) ≤ numsT t
  | .nil, path, d, h => by rw [rightT] at h; cases h
  | .node ps ks v f, path, d, h => by
    obtain ⟨_, _, h3, h4⟩ := right_inv h
    have h1 := walkKs_len ks path 0 (d + 1) h4
    have h2 := walkPs_len (walkKs ks path 0) ps 0 (by rw [walkKs_length]; exact h3)
    rw [walkKs_length, List.drop_zero] at h2
    rw [numsT, walkT]
    have e : ∀ c : Prop, [Decidable c] → (if c then (((walkPs ps (walkKs ks path 0)).1, f, if f = 0 then none else some path) : WR) else walkPs ps (walkKs ks path 0)).1 = (walkPs ps (walkKs ks path 0)).1 := fun c _ => by split <;> rfl
    rw [e]
    omega
theorem walkKs_len : ∀ (ks : List Tr) (path : List Int) (i : Nat) (d : Int), rightTs ks d = true → sumL (walkKs ks path i) ≤ numsTs ks
  | [], path, i, d, h => by rw [walkKs, sumL, numsTs]; exact Int.le_refl _
  | k :: r, path, i, d, h => by
    rw [rightTs, Bool.and_eq_true] at h
    have h1 := walkT_len k (path ++ [(i : Int)]) d h.1
    have h2 := walkKs_len r path (i + 1) d h.2
    rw [walkKs, sumL, numsTs]
    omega
end
end Go.Proofs.Ytbekjccehhaljaa.H

-- made by this session's gen.py over the kit's print.py; not trusted: Lean checks it
namespace Go.Proofs.Ytbekjccehhaljaa.H
open Go.RowKit Go.Proofs.YtbekjccehhaljaaW.PrintWords Go.Proofs.YtbekjccehhaljaaW.PrintLast Go.Proofs.YtbekjccehhaljaaW.PrintMore
attribute [local go_sem] max2_int min2_int max_two min_two max_three min_three max_four min_four   -- for this text's walks alone
set_option linter.unusedVariables false
set_option linter.unusedSimpArgs false

/-! ### haymowref05_Compare: function 17 -/
mutual
def haymowref05_Compare.l0 : Nat → List Int → List Int → Int → Option (Int)
  | 0, _, _, _ => none
  | k + 1, x0, x1, x5 => if x5 < (x0.length : Int) then (haymowref05_Compare.j1 k x0 x1 x5 (decide (x5 < (x1.length : Int)))) else (haymowref05_Compare.j1 k x0 x1 x5 false)
def haymowref05_Compare.j1 : Nat → List Int → List Int → Int → Bool → Option (Int)
  | 0, _, _, _, _ => none
  | k + 1, x0, x1, x5, x15 => if x15 = true then (if 0 ≤ x5 then (if x5 < (x0.length : Int) then (if x5 < (x1.length : Int) then (if (rd x0 x5) < (rd x1 x5) then (some (-1)) else (if (rd x0 x5) > (rd x1 x5) then (some 1) else (haymowref05_Compare.l0 k x0 x1 (wrap64 (x5 + 1))))) else (none)) else (none)) else (none)) else (if (x0.length : Int) < (x1.length : Int) then (some (-1)) else (if (x0.length : Int) > (x1.length : Int) then (some 1) else (some 0)))
end
def haymowref05_Compare.f (k : Nat) (l0 : List Int) (l1 : List Int) : Option (Int) := haymowref05_Compare.l0 k l0 l1 0
theorem haymowref05_Compare.mono_l : ∀ k, (∀ y0 y1 y2, LeO (haymowref05_Compare.l0 k y0 y1 y2) (haymowref05_Compare.l0 (k + 1) y0 y1 y2)) ∧ (∀ y0 y1 y2 y3, LeO (haymowref05_Compare.j1 k y0 y1 y2 y3) (haymowref05_Compare.j1 (k + 1) y0 y1 y2 y3))
  | 0 => ⟨fun _ _ _ r h => by simp [haymowref05_Compare.l0] at h, fun _ _ _ _ r h => by simp [haymowref05_Compare.j1] at h⟩
  | k + 1 => by
    obtain ⟨ih0, ih1⟩ := haymowref05_Compare.mono_l k
    refine ⟨?_, ?_⟩
    · intro y0 y1 y2
      unfold haymowref05_Compare.l0
      repeat' first
      | (with_reducible exact ih0 _ _ _)
      | (with_reducible exact ih1 _ _ _ _)
      | (with_reducible exact LeO.refl _)
      | (with_reducible exact LeO.none _)
      | (with_reducible refine LeO.ite ?_ ?_)
      | (with_reducible refine LeO.bind ?_ (fun _ => ?_))
      | exact ih0 _ _ _
      | exact ih1 _ _ _ _
      | exact LeO.none _
      | refine LeO.ite ?_ ?_
      | refine LeO.bind ?_ (fun _ => ?_)
    · intro y0 y1 y2 y3
      unfold haymowref05_Compare.j1
      repeat' first
      | (with_reducible exact ih0 _ _ _)
      | (with_reducible exact ih1 _ _ _ _)
      | (with_reducible exact LeO.refl _)
      | (with_reducible exact LeO.none _)
      | (with_reducible refine LeO.ite ?_ ?_)
      | (with_reducible refine LeO.bind ?_ (fun _ => ?_))
      | exact ih0 _ _ _
      | exact ih1 _ _ _ _
      | exact LeO.none _
      | refine LeO.ite ?_ ?_
      | refine LeO.bind ?_ (fun _ => ?_)
theorem haymowref05_Compare.mono : ∀ a0 a1 k, LeO (haymowref05_Compare.f k a0 a1) (haymowref05_Compare.f (k + 1) a0 a1) := by
  intro a0 a1 k
  obtain ⟨ih0, ih1⟩ := haymowref05_Compare.mono_l k
  unfold haymowref05_Compare.f
  repeat' first
      | (with_reducible exact ih0 _ _ _)
      | (with_reducible exact ih1 _ _ _ _)
      | (with_reducible exact LeO.refl _)
      | (with_reducible exact LeO.none _)
      | (with_reducible refine LeO.ite ?_ ?_)
      | (with_reducible refine LeO.bind ?_ (fun _ => ?_))
      | exact ih0 _ _ _
      | exact ih1 _ _ _ _
      | exact LeO.none _
      | refine LeO.ite ?_ ?_
      | refine LeO.bind ?_ (fun _ => ?_)
set_option maxHeartbeats 8000000 in
set_option maxRecDepth 100000 in
theorem haymowref05_Compare.calls (k : Nat) (A0 : Option Addr) (c0 : Nat) (l0 : List Int) (A1 : Option Addr) (c1 : Nat) (l1 : List Int) (r : Int) (w : World) (hr0 : Kd.C (Kd.int .i64) w A0 l0.length l0) (hc0 : l0.length ≤ c0) (hr1 : Kd.C (Kd.int .i64) w A1 l1.length l1) (hc1 : l1.length ≤ c1) (h : haymowref05_Compare.f k l0 l1 = some r) :
    Calls Try.prog 17 #[.slice A0 l0.length c0, .slice A1 l1.length c1] w fun e w' => e = .returned (.int .i64 r) ∧ Drawn0 w w' := by
  have HR0 := Aside0.mk hr0
  have HC0 := Aside0.mk hc0
  clear hr0 hc0
  have HR1 := Aside0.mk hr1
  have HC1 := Aside0.mk hc1
  clear hr1 hc1
  have H : (haymowref05_Compare.l0 k l0 l1 0) = some r := h
  clear h
  have H' := Aside0.mk H
  clear H
  go_enter Try.func17, Try.ntmps17
  go_wp2
  repeat (go_quiet (fail); try go_wp2)
  go_loopg [5] k (fun kq v5 w' => ∃ (x5_1 : Int), v5 = .int .i64 x5_1 ∧ Aside0 (haymowref05_Compare.l0 kq l0 l1 x5_1 = some r) ∧ Aside0 (kq ≤ k) ∧ Drawn0 w w')
  case atStart => exact ⟨(0), (by first | rfl | (simp; done) | (simp [*]; done)), H', ⟨Nat.le_refl _⟩, by repeat (first | exact Drawn0.refl _ | apply Drawn0.step)⟩
  case round =>
    clear H'
    try clear c1
    try clear p2
    obtain ⟨x5_1, rfl, HA, HK1, ⟨m1, rfl⟩⟩ := hrel
    cases gk with
    | zero => exact absurd HA.out (by simp [haymowref05_Compare.l0])
    | succ k1 =>
      have H := HA.out
      clear HA
      simp only [haymowref05_Compare.l0] at H
      have HC3 := Aside0.mk H
      clear H
      go_upto_region 2 with (fail)
      repeat (go_quiet (fail); go_upto_region 2 with (fail))
      go_cut [15] (fun v15 wc => ∃ (kq : Nat) (x15_2 : Bool), v15 = .bool x15_2 ∧ Aside0 (haymowref05_Compare.j1 kq l0 l1 x5_1 x15_2 = some r) ∧ Aside0 (kq ≤ k1) ∧ Drawn0 w wc)
      case first =>
        have H := HC3.out
        clear HC3
        by_cases c4 : x5_1 < (l0.length : Int)
        · rw [if_pos c4] at H
          have c4b0 : decide (x5_1 < (l0.length : Int)) = true := decide_eq_true c4
          clear c4
          (first | rw [c4b0] | (simp only [i64_w, i32_w]; rw [c4b0]) | skip)
          have H' := Aside0.mk H
          clear H
          go_wp2
          repeat (go_quiet (fail); try go_wp2)
          go_meet
          case rel => exact ⟨_, (decide (x5_1 < (l1.length : Int))), (by first | rfl | (simp; done) | (simp [*]; done)), H', ⟨by have := HK1.out; first | omega | exact Nat.le_refl _⟩, by repeat (first | exact Drawn0.refl _ | apply Drawn0.step)⟩
        · rw [if_neg c4] at H
          have c4b0 : decide (x5_1 < (l0.length : Int)) = false := decide_eq_false c4
          clear c4
          (first | rw [c4b0] | (simp only [i64_w, i32_w]; rw [c4b0]) | skip)
          have H' := Aside0.mk H
          clear H
          go_wp2
          repeat (go_quiet (fail); try go_wp2)
          go_meet
          case rel => exact ⟨_, (false), (by first | rfl | (simp; done) | (simp [*]; done)), H', ⟨by have := HK1.out; first | omega | exact Nat.le_refl _⟩, by repeat (first | exact Drawn0.refl _ | apply Drawn0.step)⟩
      case rest =>
        clear HC3
        try clear c1
        try clear p2
        try clear c4
        try clear c4b0
        try clear p2
        obtain ⟨kq, x15_2, rfl, HA, HJ2, ⟨mc2, rfl⟩⟩ := hcut
        cases kq with
        | zero => exact absurd HA.out (by simp [haymowref05_Compare.j1])
        | succ kj2 =>
          have H := HA.out
          clear HA
          simp only [haymowref05_Compare.j1] at H
          by_cases c5 : x15_2 = true
          · subst c5
            have H1 : (if 0 ≤ x5_1 then (if x5_1 < (l0.length : Int) then (if x5_1 < (l1.length : Int) then (if (rd l0 x5_1) < (rd l1 x5_1) then (some (-1)) else (if (rd l0 x5_1) > (rd l1 x5_1) then (some 1) else (haymowref05_Compare.l0 kj2 l0 l1 (wrap64 (x5_1 + 1))))) else (none)) else (none)) else (none)) = some r := by rw [if_pos rfl] at H; exact H
            clear H
            have H := H1
            clear H1
            by_cases c6 : 0 ≤ x5_1
            · rw [if_pos c6] at H
              have c6b0 : decide (0 ≤ x5_1) = true := decide_eq_true c6
              clear c6
              by_cases c7 : x5_1 < (l0.length : Int)
              · rw [if_pos c7] at H
                have c7b0 : decide (x5_1 < (l0.length : Int)) = true := decide_eq_true c7
                clear c7
                by_cases c8 : x5_1 < (l1.length : Int)
                · rw [if_pos c8] at H
                  have c8b0 : decide (x5_1 < (l1.length : Int)) = true := decide_eq_true c8
                  clear c8
                  by_cases c9 : (rd l0 x5_1) < (rd l1 x5_1)
                  · rw [if_pos c9] at H
                    have c9b0 : decide ((rd l0 x5_1) < (rd l1 x5_1)) = true := decide_eq_true c9
                    clear c9
                    obtain rfl := Option.some.inj H
                    have p186 : 0 ≤ (x5_1 : Int) := of_decide_eq_true (by first | (with_reducible assumption) | assumption)
                    have q186 : x5_1 < (l0.length : Int) := of_decide_eq_true (by first | (with_reducible assumption) | assumption)
                    obtain ⟨ad186, e186, hx186_0⟩ := Kd.at_int HR0.out x5_1 p186 q186
                    cases e186
                    replace p186 := eq_true p186
                    replace q186 := eq_true q186
                    have p187 : 0 ≤ (x5_1 : Int) := of_decide_eq_true (by first | (with_reducible assumption) | assumption)
                    have q187 : x5_1 < (l1.length : Int) := of_decide_eq_true (by first | (with_reducible assumption) | assumption)
                    obtain ⟨ad187, e187, hx187_0⟩ := Kd.at_int HR1.out x5_1 p187 q187
                    cases e187
                    replace p187 := eq_true p187
                    replace q187 := eq_true q187
                    go_wp2
                    repeat (go_quiet (fail); try go_wp2)
                    go_ret
                    exact ⟨by first | rfl | (simp; done) | (simp [*]; done), by repeat (first | exact Drawn0.refl _ | apply Drawn0.step)⟩
                  · rw [if_neg c9] at H
                    have c9b0 : decide ((rd l0 x5_1) < (rd l1 x5_1)) = false := decide_eq_false c9
                    clear c9
                    by_cases c10 : (rd l0 x5_1) > (rd l1 x5_1)
                    · rw [if_pos c10] at H
                      have c10b0 : decide ((rd l1 x5_1) < (rd l0 x5_1)) = true := decide_eq_true c10
                      clear c10
                      obtain rfl := Option.some.inj H
                      have p186 : 0 ≤ (x5_1 : Int) := of_decide_eq_true (by first | (with_reducible assumption) | assumption)
                      have q186 : x5_1 < (l0.length : Int) := of_decide_eq_true (by first | (with_reducible assumption) | assumption)
                      obtain ⟨ad186, e186, hx186_0⟩ := Kd.at_int HR0.out x5_1 p186 q186
                      cases e186
                      replace p186 := eq_true p186
                      replace q186 := eq_true q186
                      have p187 : 0 ≤ (x5_1 : Int) := of_decide_eq_true (by first | (with_reducible assumption) | assumption)
                      have q187 : x5_1 < (l1.length : Int) := of_decide_eq_true (by first | (with_reducible assumption) | assumption)
                      obtain ⟨ad187, e187, hx187_0⟩ := Kd.at_int HR1.out x5_1 p187 q187
                      cases e187
                      replace p187 := eq_true p187
                      replace q187 := eq_true q187
                      have p188 : 0 ≤ (x5_1 : Int) := of_decide_eq_true (by first | (with_reducible assumption) | assumption)
                      have q188 : x5_1 < (l0.length : Int) := of_decide_eq_true (by first | (with_reducible assumption) | assumption)
                      obtain ⟨ad188, e188, hx188_0⟩ := Kd.at_int HR0.out x5_1 p188 q188
                      obtain rfl : ad186 = ad188 := (by injection e188)
                      replace p188 := eq_true p188
                      replace q188 := eq_true q188
                      have p189 : 0 ≤ (x5_1 : Int) := of_decide_eq_true (by first | (with_reducible assumption) | assumption)
                      have q189 : x5_1 < (l1.length : Int) := of_decide_eq_true (by first | (with_reducible assumption) | assumption)
                      obtain ⟨ad189, e189, hx189_0⟩ := Kd.at_int HR1.out x5_1 p189 q189
                      obtain rfl : ad187 = ad189 := (by injection e189)
                      replace p189 := eq_true p189
                      replace q189 := eq_true q189
                      go_wp2
                      repeat (go_quiet (fail); try go_wp2)
                      go_ret
                      exact ⟨by first | rfl | (simp; done) | (simp [*]; done), by repeat (first | exact Drawn0.refl _ | apply Drawn0.step)⟩
                    · rw [if_neg c10] at H
                      have c10b0 : decide ((rd l1 x5_1) < (rd l0 x5_1)) = false := decide_eq_false c10
                      clear c10
                      have H' := Aside0.mk H
                      clear H
                      have p186 : 0 ≤ (x5_1 : Int) := of_decide_eq_true (by first | (with_reducible assumption) | assumption)
                      have q186 : x5_1 < (l0.length : Int) := of_decide_eq_true (by first | (with_reducible assumption) | assumption)
                      obtain ⟨ad186, e186, hx186_0⟩ := Kd.at_int HR0.out x5_1 p186 q186
                      cases e186
                      replace p186 := eq_true p186
                      replace q186 := eq_true q186
                      have p187 : 0 ≤ (x5_1 : Int) := of_decide_eq_true (by first | (with_reducible assumption) | assumption)
                      have q187 : x5_1 < (l1.length : Int) := of_decide_eq_true (by first | (with_reducible assumption) | assumption)
                      obtain ⟨ad187, e187, hx187_0⟩ := Kd.at_int HR1.out x5_1 p187 q187
                      cases e187
                      replace p187 := eq_true p187
                      replace q187 := eq_true q187
                      have p188 : 0 ≤ (x5_1 : Int) := of_decide_eq_true (by first | (with_reducible assumption) | assumption)
                      have q188 : x5_1 < (l0.length : Int) := of_decide_eq_true (by first | (with_reducible assumption) | assumption)
                      obtain ⟨ad188, e188, hx188_0⟩ := Kd.at_int HR0.out x5_1 p188 q188
                      obtain rfl : ad186 = ad188 := (by injection e188)
                      replace p188 := eq_true p188
                      replace q188 := eq_true q188
                      have p189 : 0 ≤ (x5_1 : Int) := of_decide_eq_true (by first | (with_reducible assumption) | assumption)
                      have q189 : x5_1 < (l1.length : Int) := of_decide_eq_true (by first | (with_reducible assumption) | assumption)
                      obtain ⟨ad189, e189, hx189_0⟩ := Kd.at_int HR1.out x5_1 p189 q189
                      obtain rfl : ad187 = ad189 := (by injection e189)
                      replace p189 := eq_true p189
                      replace q189 := eq_true q189
                      go_wp2
                      repeat (go_quiet (fail); try go_wp2)
                      go_roundg kj2
                      case measure => have := HK1.out; have := HJ2.out; omega
                      case rel => exact ⟨(wrap64 (x5_1 + 1)), (by first | rfl | (simp; done) | (simp [*]; done)), H', ⟨by have := HK1.out; have := HJ2.out; omega⟩, by repeat (first | exact Drawn0.refl _ | apply Drawn0.step)⟩
                · rw [if_neg c8] at H
                  exact absurd H (by simp)
              · rw [if_neg c7] at H
                exact absurd H (by simp)
            · rw [if_neg c6] at H
              exact absurd H (by simp)
          · replace c5 := Bool.eq_false_iff.mpr c5
            subst c5
            have H1 : (if (l0.length : Int) < (l1.length : Int) then (some (-1)) else (if (l0.length : Int) > (l1.length : Int) then (some 1) else (some 0))) = some r := by rw [if_neg (show ¬ (false = true) by decide)] at H; exact H
            clear H
            have H := H1
            clear H1
            by_cases c11 : (l0.length : Int) < (l1.length : Int)
            · rw [if_pos c11] at H
              have c11b0 : decide ((l0.length : Int) < (l1.length : Int)) = true := decide_eq_true c11
              have c11b1 : decide (l0.length < l1.length) = true := decide_eq_true (Int.ofNat_lt.mp c11)
              clear c11
              obtain rfl := Option.some.inj H
              go_wp2
              repeat (go_quiet (fail); try go_wp2)
              go_ret
              exact ⟨by first | rfl | (simp; done) | (simp [*]; done), by repeat (first | exact Drawn0.refl _ | apply Drawn0.step)⟩
            · rw [if_neg c11] at H
              have c11b0 : decide ((l0.length : Int) < (l1.length : Int)) = false := decide_eq_false c11
              have c11b1 : decide (l0.length < l1.length) = false := decide_eq_false (fun h => c11 (Int.ofNat_lt.mpr h))
              clear c11
              by_cases c12 : (l0.length : Int) > (l1.length : Int)
              · rw [if_pos c12] at H
                have c12b0 : decide ((l1.length : Int) < (l0.length : Int)) = true := decide_eq_true c12
                have c12b1 : decide (l1.length < l0.length) = true := decide_eq_true (Int.ofNat_lt.mp c12)
                clear c12
                obtain rfl := Option.some.inj H
                go_wp2
                repeat (go_quiet (fail); try go_wp2)
                go_ret
                exact ⟨by first | rfl | (simp; done) | (simp [*]; done), by repeat (first | exact Drawn0.refl _ | apply Drawn0.step)⟩
              · rw [if_neg c12] at H
                have c12b0 : decide ((l1.length : Int) < (l0.length : Int)) = false := decide_eq_false c12
                have c12b1 : decide (l1.length < l0.length) = false := decide_eq_false (fun h => c12 (Int.ofNat_lt.mpr h))
                clear c12
                obtain rfl := Option.some.inj H
                go_wp2
                repeat (go_quiet (fail); try go_wp2)
                go_ret
                exact ⟨by first | rfl | (simp; done) | (simp [*]; done), by repeat (first | exact Drawn0.refl _ | apply Drawn0.step)⟩

end Go.Proofs.Ytbekjccehhaljaa.H

set_option linter.unusedVariables false
set_option linter.unusedSimpArgs false
namespace Go.Proofs.Ytbekjccehhaljaa.H
open Go.RowKit Go.Hay Go.Proofs.YtbekjccehhaljaaW.PrintWords Go.Proofs.YtbekjccehhaljaaW.PrintLast Go.Proofs.YtbekjccehhaljaaW.PrintMore
def cmpP : List Int → List Int → Int
  | [], [] => 0
  | [], _ :: _ => -1
  | _ :: _, [] => 1
  | a :: x, b :: y => if a < b then -1 else if a > b then 1 else cmpP x y
theorem cmp_loop (x y : List Int) (hx : x.length ≤ 4611686018427387904) : ∀ (n i : Nat), x.length - i = n → i ≤ x.length → i ≤ y.length → Ev (fun k => haymowref05_Compare.l0 k x y i) (cmpP (x.drop i) (y.drop i))
  | 0, i, hn, hi, hiy => by
    obtain rfl : i = x.length := by omega
    rw [List.drop_length]
    refine Ev.step (f := fun k => haymowref05_Compare.j1 k x y (x.length : Int) false) (fun k => ?_) (Ev.step (f := fun _ => some _) (fun k => ?_) (Ev.now _))
    · rw [haymowref05_Compare.l0, if_neg (by omega)]
    · rw [haymowref05_Compare.j1, if_neg (by decide)]
      by_cases h : x.length < y.length
      · rw [if_pos (by omega), List.drop_eq_getElem_cons h]; rfl
      · rw [if_neg (by omega), if_neg (by omega), List.drop_eq_nil_of_le (by omega)]; rfl
  | n + 1, i, hn, hi, hiy => by
    have hlt : i < x.length := by omega
    by_cases hly : i < y.length
    · rw [drop_cons hlt, drop_cons hly]
      have e1 : rd x (i : Int) = x[i] := by simp [rd, hlt]
      have e2 : rd y (i : Int) = y[i] := by simp [rd, hly]
      have hj : ∀ k, haymowref05_Compare.j1 (k + 1) x y (i : Int) true = if x[i] < y[i] then some (-1) else if x[i] > y[i] then some 1 else haymowref05_Compare.l0 k x y ((i + 1 : Nat) : Int) := fun k => by
        rw [haymowref05_Compare.j1, if_pos rfl, if_pos (by omega), if_pos (by omega), if_pos (by omega), e1, e2, wrap_id (x := (i : Int) + 1) (by omega) (by omega)]
        rfl
      refine Ev.step (f := fun k => haymowref05_Compare.j1 k x y (i : Int) true) (fun k => ?_) ?_
      · rw [haymowref05_Compare.l0, if_pos (by omega), decide_eq_true (by omega)]
      unfold cmpP
      by_cases h1 : x[i] < y[i]
      · rw [if_pos h1]
        exact Ev.step (f := fun _ => some (-1)) (fun k => by rw [hj, if_pos h1]) (Ev.now _)
      rw [if_neg h1]
      by_cases h2 : x[i] > y[i]
      · rw [if_pos h2]
        exact Ev.step (f := fun _ => some 1) (fun k => by rw [hj, if_neg h1, if_pos h2]) (Ev.now _)
      rw [if_neg h2]
      exact Ev.step (fun k => by rw [hj, if_neg h1, if_neg h2]) (cmp_loop x y hx n (i + 1) (by omega) (by omega) (by omega))
    · rw [drop_cons hlt, show y.drop i = [] from List.drop_eq_nil_of_le (by omega)]
      refine Ev.step (f := fun k => haymowref05_Compare.j1 k x y (i : Int) false) (fun k => ?_) (Ev.step (f := fun _ => some 1) (fun k => ?_) (Ev.now _))
      · rw [haymowref05_Compare.l0, if_pos (by omega), decide_eq_false (by omega)]
      · rw [haymowref05_Compare.j1, if_neg (by decide), if_neg (by omega), if_pos (by omega)]
theorem cmp_ev (x y : List Int) (hx : x.length ≤ 4611686018427387904) : Ev (fun k => haymowref05_Compare.f k x y) (cmpP x y) := cmp_loop x y hx x.length 0 rfl (Nat.zero_le _) (Nat.zero_le _)
theorem cmp_any (A0 : Option Addr) (c0 : Nat) (l0 : List Int) (A1 : Option Addr) (c1 : Nat) (l1 : List Int) (w : World) (h0 : (Kd.int .i64).C w A0 l0.length l0) (hc0 : l0.length ≤ c0) (h1 : (Kd.int .i64).C w A1 l1.length l1) (hc1 : l1.length ≤ c1) (hx : l0.length ≤ 4611686018427387904) :
    Calls Try.prog 17 #[.slice A0 l0.length c0, .slice A1 l1.length c1] w fun e w' => e = .returned (.int .i64 (cmpP l0 l1)) ∧ Drawn0 w w' := by
  obtain ⟨K, hK⟩ := cmp_ev l0 l1 hx
  exact haymowref05_Compare.calls K A0 c0 l0 A1 c1 l1 _ w h0 hc0 h1 hc1 (hK K (Nat.le_refl _))
theorem cmp_is {r : Int} (A0 : Option Addr) (c0 : Nat) (l0 : List Int) (A1 : Option Addr) (c1 : Nat) (l1 : List Int) (w : World) (hr : cmpP l0 l1 = r) (h0 : (Kd.int .i64).C w A0 l0.length l0) (hc0 : l0.length ≤ c0) (h1 : (Kd.int .i64).C w A1 l1.length l1) (hc1 : l1.length ≤ c1) (hx : l0.length ≤ 4611686018427387904) :
    Calls Try.prog 17 #[.slice A0 l0.length c0, .slice A1 l1.length c1] w fun e w' => e = .returned (.int .i64 r) ∧ Drawn0 w w' := hr ▸ cmp_any A0 c0 l0 A1 c1 l1 w h0 hc0 h1 hc1 hx
theorem cmpP_self (x : List Int) : cmpP x x = 0 := by
  induction x with
  | nil => rfl
  | cons a x ih => unfold cmpP; rw [if_neg (by omega), if_neg (by omega)]; exact ih
theorem cmpP_eq {x y : List Int} (h : cmpP x y = 0) : x = y := by
  induction x generalizing y with
  | nil => cases y with
    | nil => rfl
    | cons b y => cases h
  | cons a x ih => cases y with
    | nil => cases h
    | cons b y =>
      unfold cmpP at h
      by_cases h1 : a < b
      · rw [if_pos h1] at h; cases h
      · rw [if_neg h1] at h
        by_cases h2 : a > b
        · rw [if_pos h2] at h; cases h
        · rw [if_neg h2] at h
          rw [ih h, show a = b by omega]
end Go.Proofs.Ytbekjccehhaljaa.H

set_option linter.unusedVariables false
set_option linter.unusedSimpArgs false
namespace Go.Proofs.Ytbekjccehhaljaa.H
open Go.RowKit Go.Hay Go.Proofs.YtbekjccehhaljaaW.PrintWords Go.Proofs.YtbekjccehhaljaaW.PrintLast Go.Proofs.YtbekjccehhaljaaW.PrintMore
theorem ltP_cmpG : ∀ (x y : List Int), ltP y x = true → cmpP x y = 1
  | [], [], h => by rw [ltP_irrefl] at h; cases h
  | [], b :: y, h => by rw [ltP_cons_nil] at h; cases h
  | _ :: _, [], _ => rfl
  | a :: x, b :: y, h => by
    rw [ltP_cons] at h
    unfold cmpP
    by_cases h1 : b < a
    · rw [if_neg (by omega), if_pos h1]
    · rw [show decide (b < a) = false from decide_eq_false h1, Bool.false_or, Bool.and_eq_true] at h
      have h2 : b = a := of_decide_eq_true h.1
      rw [if_neg (by omega), if_neg (by omega)]
      exact ltP_cmpG x y h.2
theorem cmpP_ne {x y : List Int} (h : x ≠ y) : cmpP x y ≠ 0 := fun e => h (cmpP_eq e)
structure CovAt (is : Bool) (first : List Int) (L Le : LE) (i k : Nat) : Prop where
  cov : Cov is first (L.drop i) (Le.drop k)
  il : i ≤ L.length
  kl : k ≤ Le.length
theorem CovAt.hit {is : Bool} {first : List Int} {L Le : LE} {i k : Nat} (h : CovAt is first L Le i k) (hi : i < L.length) (hk : k < Le.length) (he : Le[k].1 = L[i].1) : Le[k].2 ≤ L[i].2 ∧ (is = false → L[i].2 = Le[k].2) ∧ CovAt is first L Le (i + 1) (k + 1) := by
  have h1 := h.cov
  rw [List.drop_eq_getElem_cons hi, List.drop_eq_getElem_cons hk] at h1
  obtain ⟨a, b, c⟩ := h1.same he
  exact ⟨a, b, c, hi, hk⟩
theorem CovAt.miss {is : Bool} {first : List Int} {L Le : LE} {i k : Nat} (h : CovAt is first L Le i k) (hi : i < L.length) (he : ∀ hk : k < Le.length, Le[k].1 ≠ L[i].1) : is = true ∧ cmpP L[i].1 first = 1 ∧ CovAt is first L Le (i + 1) k := by
  have h1 := h.cov
  rw [List.drop_eq_getElem_cons hi] at h1
  obtain ⟨a, b, c⟩ := h1.other (fun e r hr => by
    have hk : k < Le.length := by
      rcases Nat.lt_or_ge k Le.length with hk | hk
      · exact hk
      · rw [List.drop_eq_nil_of_le hk] at hr; cases hr
    rw [List.drop_eq_getElem_cons hk] at hr
    cases hr
    exact he hk)
  exact ⟨a, ltP_cmpG _ _ b, c, hi, h.kl⟩
theorem CovAt.fin {is : Bool} {first : List Int} {L Le : LE} {k : Nat} (h : CovAt is first L Le L.length k) : k = Le.length := by
  have h1 := h.cov
  rw [List.drop_length] at h1
  have h2 := List.drop_eq_nil_iff.1 h1.nil
  have := h.kl
  omega
theorem unfoldP_ne {l : List S64} {args : List Int} {b d : Int} {most : Nat} {t : Tr} {G : Gu} (h : unfoldP l args b d most = some (t, G)) : 0 < G.log.length := by
  unfold unfoldP beginU at h
  generalize runU l b d (most + 1) ⟨most, [], 0, 0, 0, 0⟩ [] (rd_T64 l 0).f1 (newTu args noHandsU) = q at h
  cases q with
  | none => cases h
  | some q =>
    obtain ⟨v, f, T, G2⟩ := q
    cases h
    show 0 < (G2.log ++ [([], (T.steps : Int))]).length
    simp
theorem evalP_ne {l : List S64} {args : List Int} {b d : Int} {most : Nat} {v f : Int} {told : List Int} {log : List (List Int × Int)} (hb : 0 ≤ b) (hd : 0 ≤ d) (h : evalP l args b d most = some (v, f, told, log)) : 0 < log.length := by
  unfold evalP beginP at h
  have hran := run_ran l b d hb (most + 1) ⟨most, [], [] ++ [([], 0)]⟩ [] (rd_T64 l 0).f1 0 (newTask args noHands) (by show 0 < 1; decide) (by show (0 : Int) ≤ b; exact hb) (by show ((0 : Nat) : Int) ≤ d; simpa using hd)
  have h : (match runP l b d (most + 1) ⟨most, [], [] ++ [([], 0)]⟩ [] (rd_T64 l 0).f1 0 (newTask args noHands) with
    | (.val v, G) => some (v, 0, G.told, G.log)
    | (.fail why, G) => some (0, why, G.told, G.log)
    | (.long, _) => none) = some (v, f, told, log) := h
  generalize runP l b d (most + 1) ⟨most, [], [] ++ [([], 0)]⟩ [] (rd_T64 l 0).f1 0 (newTask args noHands) = q at h hran
  obtain ⟨o, G⟩ := q
  obtain ⟨s, add, a1, a2, a3, a4, a5, a6⟩ := hran
  have a1 : G.log = ([], s) :: add := a1
  have hlog : log = G.log := by
    cases o with
    | val v => cases h; rfl
    | fail w => cases h; rfl
    | long => cases h
  rw [hlog, a1]
  simp
end Go.Proofs.Ytbekjccehhaljaa.H

