/- What the proof of UnfoldAlone stands on, part 5: this session's own texts and the words that the kit's print lays, those that are used. -/
import Derived.Test.YtbekjccehhaljaaZUnfoldAlone4
set_option linter.unusedVariables false
set_option linter.unusedSimpArgs false
namespace Go.Proofs.Ytbekjccehhaljaa.H
open Go.RowKit Go.Hay Go.Proofs.YtbekjccehhaljaaW.PrintWords Go.Proofs.YtbekjccehhaljaaW.PrintLast Go.Proofs.YtbekjccehhaljaaW.PrintMore
theorem assertU_ll (v : Value) (w : World) : (Instr.typeAssert (.iface 94 v) 20 94 true).run Try.prog w = .ok (.tuple #[v, .bool true]) w := by kernel_rfl
theorem max_mostU (most : Int) (ats : Array TypeId) (ty : TypeId) : Builtin.max_ ats ty #[.int .i64 most, .int .i64 0] = pure (.int .i64 (most.toNat : Int)) := by
  rw [max_two, max2_int]
  have e : (if most < 0 then (0 : Int) else most) = (most.toNat : Int) := by split <;> omega
  rw [e]
  rfl
/-- a log in memory, read. -/
def LogAt (w : World) (Al : Option Addr) (L : List (List Int × Int)) : Prop :=
  ∀ i (h : i < L.length), ∃ g A c, Al = some ⟨g, 0, none⟩ ∧ w.cell? ⟨g, i * 2, none⟩ = some (.slice A L[i].1.length c) ∧ w.cell? ⟨g, i * 2 + 1, none⟩ = some (.int .i64 L[i].2) ∧ L[i].1.length ≤ c ∧ L[i].1.length ≤ 1000 ∧ (Kd.int .i64).C w A L[i].1.length L[i].1
theorem LogAt.below {w w1 : World} {Al : Option Addr} {L : List (List Int × Int)} (h : LogAt w Al L) (hb : Below w.heap.size w w1) : LogAt w1 Al L := by
  intro i hi
  obtain ⟨g, A, c, h1, h2, h3, h4, h5, h6⟩ := h i hi
  exact ⟨g, A, c, h1, (hb.cell (World.block_lt_of_cell? w _ h2)).trans h2, (hb.cell (World.block_lt_of_cell? w _ h3)).trans h3, h4, h5, Kd.C_below h6 hb⟩
/-- the same, and where its blocks lie. -/
def LogAt0 (B : Nat) (w : World) (Al : Option Addr) (L : List (List Int × Int)) : Prop :=
  ∀ i (h : i < L.length), ∃ g A c, Al = some ⟨g, 0, none⟩ ∧ B ≤ g ∧ w.cell? ⟨g, i * 2, none⟩ = some (.slice A L[i].1.length c) ∧ w.cell? ⟨g, i * 2 + 1, none⟩ = some (.int .i64 L[i].2) ∧ L[i].1.length ≤ c ∧ L[i].1.length ≤ 1000 ∧ PathAt w A L[i].1
theorem LogAt0.at {B : Nat} {w : World} {Al : Option Addr} {L : List (List Int × Int)} (h : LogAt0 B w Al L) : LogAt w Al L := by
  intro i hi
  obtain ⟨g, A, c, h1, _, h2, h3, h4, h5, h6⟩ := h i hi
  exact ⟨g, A, c, h1, h2, h3, h4, h5, h6.C h5⟩
/-- what Unfold answers. -/
inductive UnfR where
  | ok (t : Tr) (G : Gu)
  | err (e : Int)
def ansU : Option (Tr × Gu) → UnfR
  | some (t, G) => .ok t G
  | none => .err 3
def unfoldR (l : List S64) (args : List Int) (b d : Int) (most : Nat) : UnfR :=
  if evRight l args.length b d = true then ansU (unfoldP l args b d most) else .err 1
def treeV (a : Option Addr) (Al : Option Addr) (n c : Nat) (G : Gu) : Value := .agg #[.pointer a, .slice Al n c, .int .i64 G.frames, .int .i64 G.cells, .int .i64 G.chunks, .int .i64 G.steps]
def UnfPost0 (w : World) (r : UnfR) (e : Ending) (w' : World) : Prop :=
  Below w.heap.size w w' ∧ match r with
    | .ok t G => ∃ a Al L c D, e = .returned (.tuple #[treeV a Al L.length c G, .int .i64 0]) ∧ ND D w' t a ∧ (∀ q, D q → w.heap.size ≤ q) ∧ L.Perm G.log ∧ L.Pairwise (fun x y => ltP y.1 x.1 = false) ∧ LogAt0 w.heap.size w' Al L ∧ L.length ≤ c
    | .err e9 => e = .returned (.tuple #[treeV none none 0 0 ⟨0, [], 0, 0, 0, 0⟩, .int .i64 e9])
def UnfPost (w : World) (r : UnfR) (e : Ending) (w' : World) : Prop :=
  Below w.heap.size w w' ∧ match r with
    | .ok t G => ∃ a Al L c, e = .returned (.tuple #[treeV a Al L.length c G, .int .i64 0]) ∧ IsT t w' a ∧ L.Perm G.log ∧ L.Pairwise (fun x y => ltP y.1 x.1 = false) ∧ LogAt w' Al L ∧ L.length ≤ c
    | .err e9 => e = .returned (.tuple #[treeV none none 0 0 ⟨0, [], 0, 0, 0, 0⟩, .int .i64 e9])
theorem UnfPost0.post {w : World} {r : UnfR} {e : Ending} {w' : World} (h : UnfPost0 w r e w') : UnfPost w r e w' := by
  refine ⟨h.1, ?_⟩
  cases r with
  | err e9 => exact h.2
  | ok t G =>
    obtain ⟨a, Al, L, c, D, h1, h2, _, h4, h5, h6, h7⟩ := h.2
    exact ⟨a, Al, L, c, h1, h2.is, h4, h5, h6.at, h7⟩
structure UfW (w : World) (b d : Int) (W : World) : Prop where
  below : Below w.heap.size w W
  c0 : W.heap[w.heap.size]? = some (.cells #[.int .i64 b, .int .i64 d] 40 (0, 0))
  c1 : W.heap[w.heap.size + 1]? = some (.cells #[.pointer none, .slice none 0 0, .int .i64 0, .int .i64 0, .int .i64 0, .int .i64 0] 33 (0, 0))
  c2 : W.heap[w.heap.size + 1 + 1]? = some (.cells #[.int .i64 0] 34 (0, 0))
theorem UfW.size {w W : World} {b d : Int} (h : UfW w b d W) : w.heap.size + 3 ≤ W.heap.size := by
  have := blk_lt h.c2; omega
theorem UfW.keep {w w' w'' : World} {b d : Int} (h : UfW w b d w') (k : Below (w.heap.size + 3) w' w'') : UfW w b d w'' :=
  ⟨h.below.trans (k.mono (by omega)), (k.block _ (by omega)).trans h.c0, (k.block _ (by omega)).trans h.c1, (k.block _ (by omega)).trans h.c2⟩
theorem UfW.start (w : World) (b d : Int) : UfW w b d (((w.alloc (.cells #[.int .i64 b, .int .i64 d] 40)).alloc (.cells #[.pointer none, .slice none 0 0, .int .i64 0, .int .i64 0, .int .i64 0, .int .i64 0] 33)).alloc (.cells #[.int .i64 0] 34)) := by
  have e1 : (w.alloc (.cells #[.int .i64 b, .int .i64 d] 40)).heap.size = w.heap.size + 1 := Array.size_push _
  have e2 : ((w.alloc (.cells #[.int .i64 b, .int .i64 d] 40)).alloc (.cells #[.pointer none, .slice none 0 0, .int .i64 0, .int .i64 0, .int .i64 0, .int .i64 0] 33)).heap.size = w.heap.size + 1 + 1 := by
    rw [← e1]; exact Array.size_push _
  have b1 := (Below.refl w.heap.size w).alloc (Nat.le_refl _) (.cells #[.int .i64 b, .int .i64 d] 40)
  have b2 := b1.alloc b1.size (.cells #[.pointer none, .slice none 0 0, .int .i64 0, .int .i64 0, .int .i64 0, .int .i64 0] 33)
  refine ⟨b2.alloc b2.size _, blk_alloc (blk_alloc (alloc_blk w _) _) _, ?_, ?_⟩
  · have := alloc_blk (w.alloc (.cells #[.int .i64 b, .int .i64 d] 40)) (.cells #[.pointer none, .slice none 0 0, .int .i64 0, .int .i64 0, .int .i64 0, .int .i64 0] 33)
    rw [e1] at this
    exact blk_alloc this _
  · have := alloc_blk ((w.alloc (.cells #[.int .i64 b, .int .i64 d] 40)).alloc (.cells #[.pointer none, .slice none 0 0, .int .i64 0, .int .i64 0, .int .i64 0, .int .i64 0] 33)) (.cells #[.int .i64 0] 34)
    rw [e2] at this
    exact this
theorem unf_results {tmps : Array Value} {w : World} {h : Nat} {x0 x1 x2 x3 x4 x5 : Value} {e : Int} (t8 : tmps.getD 8 undef = .pointer (some ⟨h + 1, 0, none⟩)) (t9 : tmps.getD 9 undef = .pointer (some ⟨h + 1 + 1, 0, none⟩)) (c1 : w.heap[h + 1]? = some (.cells #[x0, x1, x2, x3, x4, x5] 33 (0, 0))) (c2 : w.heap[h + 1 + 1]? = some (.cells #[.int .i64 e] 34 (0, 0))) :
    (results Try.f10 tmps).run Try.prog w = .ok (.tuple #[.agg #[x0, x1, x2, x3, x4, x5], .int .i64 e]) w := by
  have q0 := blk_cell c1 0
  have q1 := blk_cell c1 1
  have q2 := blk_cell c1 2
  have q3 := blk_cell c1 3
  have q4 := blk_cell c1 4
  have q5 := blk_cell c1 5
  have p0 := blk_cell c2 0
  simp only [Array.getD_eq_getD_getElem?] at t8 t9
  simp [results, Try.results10, go_sem, t8, t9, q0, q1, q2, q3, q4, q5, p0]
/-- six cells and one are written. -/
theorem six_set {w : World} {ob eb : Nat} {o0 o1 o2 o3 o4 o5 ev : Value} (ho : w.heap[ob]? = some (.cells #[o0, o1, o2, o3, o4, o5] 33 (0, 0))) (he : w.heap[eb]? = some (.cells #[ev] 34 (0, 0))) (v0 v1 v2 v3 v4 v5 v6 : Value) {W : World} (hW : W = ((((((w.setCell ⟨ob, 0, none⟩ v0).setCell ⟨ob, 1, none⟩ v1).setCell ⟨ob, 2, none⟩ v2).setCell ⟨ob, 3, none⟩ v3).setCell ⟨ob, 4, none⟩ v4).setCell ⟨ob, 5, none⟩ v5).setCell ⟨eb, 0, none⟩ v6) :
    W.heap[ob]? = some (.cells #[v0, v1, v2, v3, v4, v5] 33 (0, 0)) ∧ W.heap[eb]? = some (.cells #[v6] 34 (0, 0)) ∧ Keep (fun q => q = ob ∨ q = eb) w W := by
  have n3 : eb ≠ ob := fun e => by rw [e, ho] at he; cases he
  subst hW
  have d1 := blk_set (blk_set (blk_set (blk_set (blk_set (blk_set ho 0 v0) 1 v1) 2 v2) 3 v3) 4 v4) 5 v5
  have e1 := blk_farC (p := ⟨ob, 5, none⟩) (blk_farC (p := ⟨ob, 4, none⟩) (blk_farC (p := ⟨ob, 3, none⟩) (blk_farC (p := ⟨ob, 2, none⟩) (blk_farC (p := ⟨ob, 1, none⟩) (blk_farC (p := ⟨ob, 0, none⟩) he n3 v0) n3 v1) n3 v2) n3 v3) n3 v4) n3 v5
  refine ⟨blk_farC (p := ⟨eb, 0, none⟩) d1 (Ne.symm n3) v6, blk_set e1 0 v6, ?_⟩
  exact (((((((Keep.refl (fun q => q = ob ∨ q = eb) w).set (p := ⟨ob, 0, none⟩) (.inr (.inl rfl)) v0).set (p := ⟨ob, 1, none⟩) (.inr (.inl rfl)) v1).set (p := ⟨ob, 2, none⟩) (.inr (.inl rfl)) v2).set (p := ⟨ob, 3, none⟩) (.inr (.inl rfl)) v3).set (p := ⟨ob, 4, none⟩) (.inr (.inl rfl)) v4).set (p := ⟨ob, 5, none⟩) (.inr (.inl rfl)) v5).set (p := ⟨eb, 0, none⟩) (.inr (.inr rfl)) v6
section
variable {ob eb : Nat} {w : World} {o0 o1 o2 o3 o4 o5 ev : Value}
set_option maxRecDepth 100000 in
set_option maxHeartbeats 4000000 in
theorem uwcatch_long (r : List PanicEntry) (ho : w.heap[ob]? = some (.cells #[o0, o1, o2, o3, o4, o5] 33 (0, 0))) (he : w.heap[eb]? = some (.cells #[ev] 34 (0, 0))) :
    CallsD Try.prog 25 #[.pointer (some ⟨ob, 0, none⟩), .pointer (some ⟨eb, 0, none⟩)] (.panicking ({ v := ulongV, recovered := false } :: r)) w fun x u' w' =>
      x = .returned (.tuple #[]) ∧ u' = .panicking ({ v := ulongV, recovered := true } :: r) ∧ Keep (fun q => q = ob ∨ q = eb) w w' ∧ w'.heap[ob]? = some (.cells #[.pointer none, .slice none 0 0, .int .i64 0, .int .i64 0, .int .i64 0, .int .i64 0] 33 (0, 0)) ∧ w'.heap[eb]? = some (.cells #[.int .i64 3] 34 (0, 0)) := by
  have hul := Try.underlying94
  have ha2 := assertU_ll (.agg #[])
  have n3 : eb ≠ ob := fun e => by rw [e, ho] at he; cases he
  obtain ⟨W1, hW1⟩ : ∃ W1, W1 = w.alloc (.cells #[] 94) := ⟨_, rfl⟩
  have hb1 : Below w.heap.size w W1 := by rw [hW1]; exact (Below.refl w.heap.size w).alloc (Nat.le_refl _) _
  have ho1 := (hb1.block _ (blk_lt ho)).trans ho
  have he1 := (hb1.block _ (blk_lt he)).trans he
  have H1 := Aside0.mk (And.intro hb1 (And.intro ho1 he1))
  have HW1 := Aside0.mk hW1
  clear hb1 ho1 he1 hW1 ho he
  refine callsD_of_wpS Try.func25 rfl fun c₀ cs hu => ?_
  apply wpS_seq
  apply wpS_region
  simp [wpOpsS, go_sem, recoverD, hu, Try.ntmps25, Exit.thenS]
  refine wpS_body ?_
  simp only [Array.replicate_succ, Array.replicate_zero, List.push_toArray, List.append_toArray, List.nil_append, List.cons_append, List.setIfInBounds_toArray, List.set_cons_zero, List.set_cons_succ, ulongV]
  go_upto_region 5 with (fail)
  rw [← HW1.out]
  have s0 := blk_cell H1.out.2.1 0
  have s1 := blk_cell H1.out.2.1 1
  have s2 := blk_cell H1.out.2.1 2
  have s3 := blk_cell H1.out.2.1 3
  have s4 := blk_cell H1.out.2.1 4
  have s5 := blk_cell H1.out.2.1 5
  have z0 := blk_frozen H1.out.2.1 0
  have z1 := blk_frozen H1.out.2.1 1
  have z2 := blk_frozen H1.out.2.1 2
  have z3 := blk_frozen H1.out.2.1 3
  have z4 := blk_frozen H1.out.2.1 4
  have z5 := blk_frozen H1.out.2.1 5
  have e0 := blk_cell H1.out.2.2 0
  have f0 := blk_frozen H1.out.2.2 0
  go_wp2_with fail
  go_end0
  obtain ⟨d1, d2, d3⟩ := six_set H1.out.2.1 H1.out.2.2 (.pointer none) (.slice none 0 0) (.int .i64 0) (.int .i64 0) (.int .i64 0) (.int .i64 0) (.int .i64 3) rfl
  exact ⟨rfl, trivial, (Keep.of_below H1.out.1 _).trans d3, d1, d2⟩
theorem uwcatch_idle (q r : Addr) (w : World) :
    CallsD Try.prog 25 #[.pointer (some q), .pointer (some r)] .returning w fun x u' w' =>
      x = .returned (.tuple #[]) ∧ u' = .returning ∧ w = w' := by
  refine callsD_of_wpS Try.func25 rfl fun c₀ cs hu => ?_
  apply wpS_seq
  apply wpS_region
  simp [wpOpsS, go_sem, recoverD, hu, Try.ntmps25, Exit.thenS]
  refine wpS_body_same hu ?_
  simp only [Array.replicate_succ, Array.replicate_zero, List.push_toArray, List.append_toArray, List.nil_append, List.cons_append, List.setIfInBounds_toArray, List.set_cons_zero, List.set_cons_succ]
  go_wp2
  go_end0
  exact ⟨rfl, trivial, rfl⟩
end
theorem drop_all : ∀ rr : List PanicEntry, (∀ x ∈ rr, x.goexit = false) → rr.dropWhile (fun x => !x.goexit) = []
  | [], _ => rfl
  | x :: rr, h => by rw [List.dropWhile_cons, if_pos (by rw [h x List.mem_cons_self]; rfl)]; exact drop_all rr (fun y hy => h y (List.mem_cons_of_mem _ hy))
theorem beginU_inv {l : List S64} (hl : POk l) {b d : Int} (hb : 0 ≤ b) {k M f : Nat} {G G' : Gu} {path args : List Int} {hands : List Tr} {t : Tr} (hf : f < l.length) (hp : (path.length : Int) ≤ d) (ha : args.length ≤ 8) (hh : hands.length = 4) (hg : GUI M b G) (hleft : G.log.length + 1 + G.left ≤ M) (h : beginU l b d k G (f : Int) path args hands = some (t, G')) : GUI M b G' := by
  have hrd : rd_T64 l (f : Int) = l[f] := by simp [rd_T64, hf]
  unfold beginU at h
  rw [hrd] at h
  cases hq : runU l b d k G path l[f].f1 (newTu args hands) with
  | none => rw [hq] at h; cases h
  | some r =>
    obtain ⟨v, f', T, G1⟩ := r
    rw [hq] at h
    obtain ⟨g1, g2, g3, g4⟩ := runU_ok hl hb k M G path f hf _ hg hleft (new_inv hl hb f hf hp args ha hands hh) v f' T G1 hq
    cases h
    exact note_inv hb g1 g2 g4
theorem endU_log {path : List Int} {r : RU} {t : Tr} {G : Gu} (h : endU path r = some (t, G)) : 0 < G.log.length := by
  cases r with
  | none => cases h
  | some x =>
    obtain ⟨v, f, T, G1⟩ := x
    cases h
    show 0 < (G1.log ++ [(path, (T.steps : Int))]).length
    rw [List.length_append]; simp
section
variable {A Aa : Option Addr} {c ca : Nat} {l : List S64} {args : List Int} {b d most : Int} {w : World}
set_option maxRecDepth 100000 in
set_option maxHeartbeats 16000000 in
theorem Unfold_any0 (hC : k64.C w A l.length l) (hc : l.length ≤ c) (hCa : (Kd.int .i64).C w Aa args.length args) (hca : args.length ≤ ca) (hmost : most ≤ 900000) :
    Calls Try.prog 10 #[.slice A l.length c, .slice Aa args.length ca, .agg #[.int .i64 b, .int .i64 d], .int .i64 most] w (UnfPost0 w (unfoldR l args b d most.toNat)) := by
  obtain ⟨r, hr⟩ : ∃ r, r = unfoldR l args b d most.toNat := ⟨_, rfl⟩
  rw [← hr]
  obtain ⟨W3, hW3⟩ : ∃ W3, W3 = ((w.alloc (.cells #[.int .i64 b, .int .i64 d] 40)).alloc (.cells #[.pointer none, .slice none 0 0, .int .i64 0, .int .i64 0, .int .i64 0, .int .i64 0] 33)).alloc (.cells #[.int .i64 0] 34) := ⟨_, rfl⟩
  have hE3 : UfW w b d W3 := by rw [hW3]; exact UfW.start w b d
  have H0 := Aside0.mk (And.intro hC (And.intro hc (And.intro hCa (And.intro hca (And.intro hmost hr)))))
  have HW3 := Aside0.mk hW3
  have H3 := Aside0.mk hE3
  have y0 := blk_cell hE3.c0 0
  have y1 := blk_cell hE3.c0 1
  clear hW3 hC hc hCa hca hmost hr hE3
  go_enter_defers Try.func10, Try.ntmps10
  go_upto_region 1 with (fail)
  rw [← HW3.out]
  go_wp2_with fail
  refine (eval_Right.calls A c l Aa ca args b d _ W3 (Kd.C_below H0.out.1 H3.out.below) H0.out.2.1 (Kd.C_below H0.out.2.2.1 H3.out.below) H0.out.2.2.2.1 (evRight_f l args b d)).mono ?_
  rintro e w4 ⟨rfl, hb4⟩
  have hE4 := H3.out.keep (hb4.mono H3.out.size)
  have H4 := Aside0.mk hE4
  clear y0 y1 hE4 hb4
  cases hRt : evRight l args.length b d with
  | false =>
    have hr := H0.out.2.2.2.2.2
    unfold unfoldR at hr
    rw [if_neg (by rw [hRt]; decide)] at hr
    have HR := Aside0.mk hr
    have s0 := blk_cell H4.out.c1 0
    have s1 := blk_cell H4.out.c1 1
    have s2 := blk_cell H4.out.c1 2
    have s3 := blk_cell H4.out.c1 3
    have s4 := blk_cell H4.out.c1 4
    have s5 := blk_cell H4.out.c1 5
    have z0 := blk_frozen H4.out.c1 0
    have z1 := blk_frozen H4.out.c1 1
    have z2 := blk_frozen H4.out.c1 2
    have z3 := blk_frozen H4.out.c1 3
    have z4 := blk_frozen H4.out.c1 4
    have z5 := blk_frozen H4.out.c1 5
    have e0 := blk_cell H4.out.c2 0
    have f0 := blk_frozen H4.out.c2 0
    clear hr hRt
    go_wp2_with fail
    obtain ⟨d1, d2, d3⟩ := six_set H4.out.c1 H4.out.c2 (.pointer none) (.slice none 0 0) (.int .i64 0) (.int .i64 0) (.int .i64 0) (.int .i64 0) (.int .i64 1) rfl
    refine ⟨_, unf_results rfl rfl d1 d2, ?_⟩
    rw [HR.out]
    exact ⟨H4.out.below.trans (d3.below (B := w.heap.size) H4.out.below.size (fun q hq hp => by omega)), rfl⟩
  | true =>
    obtain ⟨hl, hb, hd, hn, hn4⟩ := evRight_ok hRt
    have hr := H0.out.2.2.2.2.2
    unfold unfoldR at hr
    rw [if_pos hRt] at hr
    have HR := Aside0.mk (And.intro hr (And.intro hl (And.intro hb (And.intro hd (And.intro hn hn4)))))
    clear hr hRt hl hb hd hn hn4
    have y0 := blk_cell H4.out.c0 0
    have y1 := blk_cell H4.out.c0 1
    have hmax := max_mostU most
    obtain ⟨n, hn⟩ : ∃ n, n = most.toNat := ⟨_, rfl⟩
    have HN := Aside0.mk hn
    rw [← hn] at hmax
    clear hn
    obtain ⟨wb, hwb⟩ : ∃ wb, wb = w4.heap.size := ⟨_, rfl⟩
    obtain ⟨W5, hW5⟩ : ∃ W5, W5 = w4.alloc (.cells #[.slice A l.length c, .int .i64 b, .int .i64 d, .int .i64 n, .pointer none, .slice none 0 0, .int .i64 0, .int .i64 0, .int .i64 0, .int .i64 0] 92) := ⟨_, rfl⟩
    have hn5 : W5.heap[wb]? = some (.cells #[.slice A l.length c, .int .i64 b, .int .i64 d, .int .i64 n, .pointer none, .slice none 0 0, .int .i64 0, .int .i64 0, .int .i64 0, .int .i64 0] 92 (0, 0)) := by rw [hW5, hwb]; exact alloc_blk w4 _
    have hb5 : Below w4.heap.size w4 W5 := by rw [hW5]; exact (Below.refl w4.heap.size w4).alloc (Nat.le_refl _) _
    have HWB := Aside0.mk (And.intro hwb hW5)
    have H5 := Aside0.mk (And.intro hn5 hb5)
    clear hn5 hb5 hwb hW5
    go_upto_region 5 with (fail)
    rw [← HWB.out.1, ← HWB.out.2]
    have hUS : US ⟨w4, wb, wb, A, c, b, d⟩ l (fun _ => False) ⟨n, [], 0, 0, 0, 0⟩ [] (.slice none 0 0) W5 := ⟨⟨H5.out.1, Kd.R_nil _ _ _ _ _, ⟨rfl, fun j h1 => absurd h1 (Nat.not_lt_zero _)⟩, Nat.le_refl _⟩, H5.out.2, Kd.C_below H0.out.1 H4.out.below, by show w4.heap.size ≤ wb; rw [HWB.out.1]; exact Nat.le_refl _, fun q hq => hq.elim, fun q _ h => h, fun q hq => hq.elim⟩
    have hbb : Below w.heap.size w W5 := H4.out.below.trans (H5.out.2.mono H4.out.below.size)
    have hbeg := begin_allU (c := ⟨w4, wb, wb, A, c, b, d⟩) HR.out.2.1 (by have := HR.out.2.2.2.1; show d ≤ 900; omega) (by have := HR.out.2.2.1; show 0 ≤ b ∧ b ≤ 100000; omega) (n + 1) (n + 1) (fun _ => False) ⟨n, [], 0, 0, 0, 0⟩ [] (.slice none 0 0) W5 0 none 0 [] Aa ca args noHandsU [none, none, none, none] hUS ⟨by show 0 + n ≤ n + 1; omega, rfl, Nat.le_refl _, by show ((0 : Nat) : Int) ≤ b * ((0 : Nat) : Int); simp, by show ((0 : Nat) : Int) ≤ b * ((0 : Nat) : Int); simp, fun e he => by cases he⟩ (by show 0 + 1 + n ≤ n + 1; omega) (by have := H0.out.2.2.2.2.1; have := HN.out; omega) (by have := HR.out.2.1.len; omega) (PathAt.nil _) (Nat.le_refl _) (fun _ => rfl) (by have := HR.out.2.2.2.1.1; show ((0 : Nat) : Int) ≤ d; omega) (by have := HR.out.2.2.2.2.2; omega) (Kd.C_below H0.out.2.2.1 hbb) H0.out.2.2.2.1 rfl rfl (fun j h1 h2 => by
      have h1 : j < 4 := h1
      have : j = 0 ∨ j = 1 ∨ j = 2 ∨ j = 3 := by omega
      rcases this with rfl | rfl | rfl | rfl <;> exact ND.nil _ _) (Nat.lt_succ_self n)
    have HBG := Aside0.mk hbeg
    clear hbeg hUS hmax y0 y1
    go_wp2_with fail
    refine HBG.out.mono ?_
    clear HBG
    intro e w6 hpost
    obtain ⟨q, hq⟩ : ∃ q, q = beginU l b d (n + 1) ⟨n, [], 0, 0, 0, 0⟩ ((0 : Nat) : Int) [] args noHandsU := ⟨_, rfl⟩
    replace hpost : BegPU ⟨w4, wb, wb, A, c, b, d⟩ l (PU wb (.slice none 0 0)) (fun _ => False) q W5 e w6 := by rw [hq]; exact hpost
    have hr2 : r = ansU q := by
      rw [HR.out.1]
      unfold unfoldP
      have hq' : beginU l b d (most.toNat + 1) ⟨most.toNat, [], 0, 0, 0, 0⟩ 0 [] args noHandsU = q := by rw [← HN.out, hq]; rfl
      rw [hq']
    have hlg : ∀ t G, q = some (t, G) → 0 < G.log.length := fun t G e => by rw [hq] at e; exact endU_log e
    have hgl : ∀ t G, q = some (t, G) → G.log.length ≤ 1000000 := fun t G e => by
      rw [hq] at e
      have h9 := beginU_inv HR.out.2.1 (by have := HR.out.2.2.1; omega) (M := n + 1) (f := 0) (by have := HR.out.2.1.len; omega) (by have := HR.out.2.2.2.1.1; show ((0 : Nat) : Int) ≤ d; omega) (by have := HR.out.2.2.2.2.2; omega) rfl ⟨by show 0 + n ≤ n + 1; omega, rfl, Nat.le_refl _, by show ((0 : Nat) : Int) ≤ b * ((0 : Nat) : Int); simp, by show ((0 : Nat) : Int) ≤ b * ((0 : Nat) : Int); simp, fun e he => by cases he⟩ (by show 0 + 1 + n ≤ n + 1; omega) e
      have h8 := h9.log
      have h7 := H0.out.2.2.2.2.1
      have h6 := HN.out
      omega
    have hpg : ∀ x, PU wb (.slice none 0 0) x → x = wb := fun x hx => hx.elim id (fun h => by cases h)
    clear hq
    cases q with
    | none =>
      obtain ⟨⟨rr, he, hrr⟩, hk6⟩ := hpost
      subst he
      have hb6 : Below w4.heap.size w4 w6 := H5.out.2.trans ((hk6.mono (T := fun x => x = wb) (fun x _ hx => hpg x hx)).below H5.out.2.size (fun x hx e => by rw [HWB.out.1] at e; omega))
      have hE9 := H4.out.keep (hb6.mono H4.out.size)
      show Leaves _ _ _ _ _ _ _
      refine leaves_cons (f := 25) (args := #[.pointer (some ⟨w.heap.size + 1, 0, none⟩), .pointer (some ⟨w.heap.size + 1 + 1, 0, none⟩)]) (by simp) (by simp [go_sem]) ?_
      refine (uwcatch_long rr hE9.c1 hE9.c2).mono ?_
      rintro e u' w9 ⟨rfl, rfl, hk9, d2, e2⟩
      have hset : settle (.panicking ({ v := ulongV, recovered := true } :: rr)) = .returning := by
        unfold settle
        simp only [drop_all rr hrr]
      show Leaves _ _ _ _ _ (settle _) _
      rw [hset]
      refine ⟨_, unf_results rfl rfl d2 e2, ?_⟩
      rw [hr2]
      exact ⟨(H4.out.below.trans (hb6.mono H4.out.below.size)).trans (hk9.below (B := w.heap.size) (by have h1 := hE9.below.size; exact h1) (fun q hq hs => by rcases hs with h3 | h3 <;> omega)), rfl⟩
    | some tg =>
      obtain ⟨t, G⟩ := tg
      obtain ⟨a, D', ents, vl, he, hk6, hU6, hN6, hq6, _, hd2⟩ := hpost
      subst he
      have hlp := hlg t G rfl
      have hk6' : Keep (fun x => x = wb) W5 w6 := hk6.mono (fun x _ hx => hpg x hx)
      have hb6 : Below w4.heap.size w4 w6 := H5.out.2.trans (hk6'.below H5.out.2.size (fun x hx e => by rw [HWB.out.1] at e; omega))
      have hE9 := H4.out.keep (hb6.mono H4.out.size)
      obtain ⟨Al, cl, hvl⟩ := Kd.R_slice hU6.eg.log
      subst hvl
      have hlen := hU6.eg.ok.1
      have q4 := blk_cell hU6.eg.node 4
      have z4 := blk_frozen hU6.eg.node 4
      replace q4 : w6.cell? ⟨wb, 4, none⟩ = some (.pointer none) := q4
      replace z4 : w6.frozen? ⟨wb, 4, none⟩ = false := z4
      have H6 := Aside0.mk (And.intro hU6 (And.intro hN6 (And.intro hb6 (And.intro hE9 (And.intro hlp (And.intro hlen (And.intro hr2 hd2)))))))
      have HGL := Aside0.mk (hgl t G rfl)
      clear hU6 hN6 hb6 hE9 hlp hlen hr2 hd2 hk6 hk6' hq6 hlg hpg hgl
      go_upto_region 6 with (fail)
      obtain ⟨W7, hW7⟩ : ∃ W7, W7 = w6.setCell ⟨wb, 4, none⟩ (.pointer a) := ⟨_, rfl⟩
      rw [← hW7]
      have hk7 : Keep (fun x => x = wb) w6 W7 := by rw [hW7]; exact (Keep.refl (fun x => x = wb) w6).set (p := ⟨wb, 4, none⟩) (.inr rfl) _
      have hn7 := blk_set H6.out.1.eg.node 4 (.pointer a)
      replace hn7 : W7.heap[wb]? = some (.cells #[.slice A l.length c, .int .i64 b, .int .i64 d, .int .i64 G.left, .pointer a, .slice Al ents.length cl, .int .i64 G.frames, .int .i64 G.cells, .int .i64 G.chunks, .int .i64 G.steps] 92 (0, 0)) := by rw [hW7]; exact hn7
      have hne := H6.out.1.eg.ne
      have hlog7 : kEnt.R 54 W7 wb (fun _ => True) (.slice Al ents.length cl) ents := R_flat kEnt_flat H6.out.1.eg.log (fun _ _ => trivial) (fun q hq => hk7.block q (R_own H6.out.1.eg.log q hq).2.2 (hne q hq))
      have hok7 : EntsOk W7 ents G.log := H6.out.1.eg.ok.keep hk7 (fun q cs hq e => H6.out.1.eg.notPath q cs hq (.inl e))
      obtain ⟨g, c9, hv, hlt⟩ := Kd.R_form hlog7 (by have := H6.out.2.2.2.2.1; have := H6.out.2.2.2.2.2.1; omega)
      injection hv with hA _ hcl
      subst hA
      subst hcl
      have hel : ents.length ≤ 1000000 := by have h1 := H6.out.2.2.2.2.2.1; have h2 := HGL.out; omega
      have hpos : 0 < ents.length := by have := H6.out.2.2.2.2.1; have := H6.out.2.2.2.2.2.1; omega
      have hsort := sortLog_any hlog7 hok7 hpos hel
      have hgB := (R_own hlog7 g rfl).2
      obtain ⟨csg, hgt⟩ := Kd.R_typed hlog7 g rfl
      have HS := Aside0.mk hsort
      have H7 := Aside0.mk (And.intro hk7 (And.intro hn7 (And.intro hgB (And.intro hgt hne))))
      have q5 := blk_cell hn7 5
      clear hsort hk7 hn7 hgB hgt hlog7 hok7 hlt hel hpos hne hW7 q4 z4
      go_wp2_with fail
      refine HS.out.mono ?_
      rintro e w8 ⟨rfl, hk8, xs, hx1, hx2, hx3, hx4⟩
      clear HS q5
      have hwg : wb ≠ g := fun e => H7.out.2.2.2.2 g rfl e.symm
      have hn8 := hk8.blk H7.out.2.1 hwg
      have hlo : w.heap.size + 3 ≤ wb := by rw [HWB.out.1]; exact H4.out.size
      have hgB := H7.out.2.2.1
      have hb68 : Below (w.heap.size + 3) w6 w8 := (H7.out.1.below (B := w.heap.size + 3) (by have := H6.out.2.2.2.1.size; exact this) (fun q hq e => by omega)).trans (hk8.below (B := w.heap.size + 3) (by have h1 := H6.out.2.2.2.1.size; have h2 := H7.out.1.size; omega) (fun q hq e => by omega))
      have hE8 := H6.out.2.2.2.1.keep hb68
      have H8 := Aside0.mk (And.intro hk8 (And.intro hx1 (And.intro hx2 (And.intro hx3 (And.intro hx4 (And.intro hwg (And.intro hlo (And.intro hgB hE8))))))))
      have r4 := blk_cell hn8 4
      have r5 := blk_cell hn8 5
      have r6 := blk_cell hn8 6
      have r7 := blk_cell hn8 7
      have r8 := blk_cell hn8 8
      have r9 := blk_cell hn8 9
      have s0 := blk_cell hE8.c1 0
      have s1 := blk_cell hE8.c1 1
      have s2 := blk_cell hE8.c1 2
      have s3 := blk_cell hE8.c1 3
      have s4 := blk_cell hE8.c1 4
      have s5 := blk_cell hE8.c1 5
      have z0 := blk_frozen hE8.c1 0
      have z1 := blk_frozen hE8.c1 1
      have z2 := blk_frozen hE8.c1 2
      have z3 := blk_frozen hE8.c1 3
      have z4 := blk_frozen hE8.c1 4
      have z5 := blk_frozen hE8.c1 5
      have e0 := blk_cell hE8.c2 0
      have f0 := blk_frozen hE8.c2 0
      clear hk8 hx1 hx2 hx3 hx4 hwg hlo hgB hE8 hb68 hn8
      go_wp2_with fail
      obtain ⟨d1, d2, d3⟩ := six_set H8.out.2.2.2.2.2.2.2.2.c1 H8.out.2.2.2.2.2.2.2.2.c2 (.pointer a) (.slice (some ⟨g, 0, none⟩) ents.length cl) (.int .i64 (G.frames : Int)) (.int .i64 (G.cells : Int)) (.int .i64 (G.chunks : Int)) (.int .i64 (G.steps : Int)) (.int .i64 0) rfl
      refine leaves_cons (f := 25) (args := #[.pointer (some ⟨w.heap.size + 1, 0, none⟩), .pointer (some ⟨w.heap.size + 1 + 1, 0, none⟩)]) (by simp) (by simp [go_sem]) ?_
      refine (uwcatch_idle _ _ _).mono ?_
      rintro e u' w9 ⟨rfl, rfl, rfl⟩
      refine ⟨_, unf_results rfl rfl d1 d2, ?_⟩
      rw [H6.out.2.2.2.2.2.2.1]
      obtain ⟨hk8, hx1, hx2, hx3, hx4, hwg, hlo, hgB, hE8⟩ := H8.out
      obtain ⟨hU6, hN6, hb6, hE9, hlp, hlen, hr2, hd2⟩ := H6.out
      have hob : ∀ q, q = w.heap.size + 1 ∨ q = w.heap.size + 1 + 1 → q < wb ∧ q < g := fun q hq => by rcases hq with h | h <;> omega
      have hll : (xs.map (fun x => (x.2, x.1.s))).length = ents.length := by rw [hx2.length_eq]; exact hlen.symm
      refine ⟨hE8.below.trans (d3.below (B := w.heap.size) hE8.below.size (fun q hq hs => by rcases hs with h3 | h3 <;> omega)), a, some ⟨g, 0, none⟩, xs.map (fun x => (x.2, x.1.s)), cl, D', by rw [hll]; rfl, ?_, ?_, hx2, ?_, ?_, ?_⟩
      · have hDw : ∀ q, D' q → W5.heap.size ≤ q := fun q hq => (hd2 q hq).elim (fun h => h.elim) id
        have h5 := H5.out.2.size
        have h4 := H4.out.size
        exact (((hN6.keep (fun _ h => h) H7.out.1 (fun q hq e => hU6.dp q (.inl e) hq)).keep (fun _ h => h) hk8 (fun q hq e => hU6.dp q (.inr (by rw [e]; rfl)) hq)).keep (fun _ h => h) d3 (fun q hq e => by have := hDw q hq; rcases e with e | e <;> omega))
      · intro q hq
        have hDw : W5.heap.size ≤ q := (hd2 q hq).elim (fun h => h.elim) id
        have h5 := H5.out.2.size
        have h4 := H4.out.size
        omega
      · rw [List.pairwise_map]; exact hx3
      · intro i hi
        have hi' : i < xs.length := by rwa [List.length_map] at hi
        obtain ⟨c0, c1⟩ := hx4 i hi'
        obtain ⟨e1, e2, e3, e4⟩ := hx1 xs[i] (List.getElem_mem hi')
        have hgs : ∀ k, (w8.cell? ⟨g, k, none⟩).isSome → _ = w8.cell? ⟨g, k, none⟩ := fun k _ => World.cell?_of_block (a := ⟨g, k, none⟩) (d3.block g (by have h1 := World.block_lt_of_cell? _ _ c0; exact h1) (fun e => by have := hob g e; omega))
        have f0 := (hgs (i * 2) (by rw [c0]; rfl)).trans c0
        have f1 := (hgs (i * 2 + 1) (by rw [c1]; rfl)).trans c1
        have hpa : PathAt w8 xs[i].1.A xs[i].2 := e1.keep hk8 (fun q cs hq e => by subst e; rw [H7.out.2.2.2.1] at hq; cases hq)
        have hpb := hpa.keep d3 (fun q cs hq e => by
          rcases e with e | e
          · subst e; rw [hE8.c1] at hq; cases hq
          · subst e; rw [hE8.c2] at hq; cases hq)
        rw [List.getElem_map]
        refine ⟨g, xs[i].1.A, xs[i].1.c, rfl, by have := hob (w.heap.size + 1) (.inl rfl); omega, ?_, f1, by show xs[i].2.length ≤ _; omega, e4, hpb⟩
        rw [f0, e2]
      · rw [hll]
        have h9 := (Kd.R_reads' hU6.eg.log).2.1
        omega
theorem Unfold_any (hC : k64.C w A l.length l) (hc : l.length ≤ c) (hCa : (Kd.int .i64).C w Aa args.length args) (hca : args.length ≤ ca) (hmost : most ≤ 900000) :
    Calls Try.prog 10 #[.slice A l.length c, .slice Aa args.length ca, .agg #[.int .i64 b, .int .i64 d], .int .i64 most] w (UnfPost w (unfoldR l args b d most.toNat)) :=
  (Unfold_any0 hC hc hCa hca hmost).mono (fun _ _ h => h.post)
end
end Go.Proofs.Ytbekjccehhaljaa.H

set_option linter.unusedVariables false
set_option linter.unusedSimpArgs false
namespace Go.Proofs.Ytbekjccehhaljaa.H
open Go.RowKit Go.Hay Go.Proofs.YtbekjccehhaljaaW.PrintWords Go.Proofs.YtbekjccehhaljaaW.PrintLast Go.Proofs.YtbekjccehhaljaaW.PrintMore
def zPc : Pc := ⟨false, 0⟩
def rd_Pc (xs : List Pc) (i : Int) : Pc := xs.getD i.toNat zPc
theorem at_Pc {w : World} {A : Option Addr} {n : Nat} {xs : List Pc} (h : Kd.C kPc w A n xs) (i : Int) (h0 : 0 ≤ i) (h1 : i < n) : ∃ ad , A = some ad ∧ w.cell? (ad.add (i.toNat * 2)) = some (.bool (rd_Pc xs i).f0) ∧ w.cell? ⟨(ad.add (i.toNat * 2)).block, (ad.add (i.toNat * 2)).off + 1, none⟩ = some (.int .i64 (rd_Pc xs i).f1) := by
  obtain ⟨ad, c, e, _, hK, hc0⟩ := Kd.C_get h zPc i h0 h1
  have hc : ∀ j u, c[j]? = some u → w.cell? (ad.add (i.toNat * 2 + j)) = some u := hc0
  obtain rfl := kPc_open hK
  exact ⟨ad, e, hc 0 _ rfl, by rw [← add_field _ _ 1 (by omega)]; exact hc 1 _ rfl⟩
/-- A path: nil, or a row. -/
def PathIs (w : World) (A : Option Addr) (c : Nat) (path : List Int) : Prop := (Kd.int .i64).C w A path.length path ∧ ((A = none ∧ c = 0 ∧ path = []) ∨ ((∃ ad, A = some ad) ∧ path.length ≤ c)) ∧ ∀ ad, A = some ad → ad.block < w.heap.size
theorem PathIs.len {w : World} {A : Option Addr} {c : Nat} {path : List Int} (h : PathIs w A c path) : path.length ≤ c := by
  rcases h.2.1 with ⟨_, h2, h3⟩ | ⟨_, h2⟩
  · rw [h2, h3]; exact Nat.le_refl _
  · exact h2
theorem clone_any (A : Option Addr) (c : Nat) (path : List Int) (w : World) (h : PathIs w A c path) (hl : path.length ≤ 1000) :
    Calls Try.prog 50 #[.slice A path.length c] w fun e w' => ∃ v, e = .returned v ∧ (Kd.int .i64).R 3 w' w.heap.size (fun _ => True) v path ∧ Below w.heap.size w w' := by
  refine clonei_any A c path w h.1 (fun e => ?_) hl
  rcases h.2.1 with ⟨_, h2, h3⟩ | ⟨⟨ad, h2⟩, _⟩
  · exact ⟨h2, h3⟩
  · rw [h2] at e; cases e
end Go.Proofs.Ytbekjccehhaljaa.H

set_option linter.unusedVariables false
set_option linter.unusedSimpArgs false
namespace Go.Proofs.Ytbekjccehhaljaa.H
open Go.RowKit Go.Hay Go.Proofs.YtbekjccehhaljaaW.PrintWords Go.Proofs.YtbekjccehhaljaaW.PrintLast Go.Proofs.YtbekjccehhaljaaW.PrintMore
theorem panic_viaM {P : Program} {fn : Func} {R : Ending → World → Prop} {ops : Array Oper} {Q : Exit → Act → World → Prop} (hQ : ∀ c a w, Q (.panic c) a w = bodyPost P fn R (.panic c) a w) :
    ∀ o ∈ ops.toList, ∀ c a v w, Q (.panic c) (a.put o.dst v) w → Q (.panic c) a w := by
  intro o ho c a v w h
  rw [hQ] at h ⊢
  exact panic_put (P := P) (fn := fn) (R := R) o ho c a v w h
/-- What the two closures keep: the numbers told so far, the first failure; S: the blocks that they write. -/
abbrev Inv := List Int → Option (List Int) → (Nat → Prop) → World → Prop
structure Teller (F1 F2 : Nat) (caps1 caps2 : Array Value) (B : Nat) (I : Inv) : Prop where
  size : ∀ {told : List Int} {S : Nat → Prop} {w : World}, I told none S w → B ≤ w.heap.size ∧ ∀ k, S k → B ≤ k ∧ k < w.heap.size
  keep : ∀ {told : List Int} {q : Option (List Int)} {S : Nat → Prop} {w w' : World}, I told q S w → Below w.heap.size w w' → I told q S w'
  tell : ∀ {told : List Int} {S : Nat → Prop} {w : World} (x : Int), I told none S w → told.length ≤ 1000000000 → Calls Try.prog F1 (#[.int .i64 x] ++ caps1) w fun e w' => e = .returned (.tuple #[]) ∧ ∃ S', I (told ++ [x]) none S' w' ∧ Keep S w w' ∧ ∀ k, S' k → S k ∨ w.heap.size ≤ k
  fails : ∀ {told : List Int} {S : Nat → Prop} {w : World} {A : Option Addr} {c : Nat} {path : List Int}, I told none S w → PathIs w A c path → (∀ ad, A = some ad → ¬ S ad.block) → Calls Try.prog F2 (#[.slice A path.length c] ++ caps2) w fun e w' => e = .returned (.tuple #[]) ∧ ∃ S', I told (some path) S' w' ∧ Keep S w w'
theorem PathIs.below {w w' : World} {A : Option Addr} {c : Nat} {path : List Int} (h : PathIs w A c path) (hb : Below w.heap.size w w') : PathIs w' A c path := ⟨Kd.C_below h.1 hb, h.2.1, fun ad e => Nat.lt_of_lt_of_le (h.2.2 ad e) hb.size⟩
theorem PathIs.keep {w w' : World} {A : Option Addr} {c : Nat} {path : List Int} {S : Nat → Prop} (h : PathIs w A c path) (hk : Keep S w w') (hS : ∀ ad, A = some ad → ¬ S ad.block) : PathIs w' A c path := by
  refine ⟨?_, h.2.1, fun ad e => Nat.lt_of_lt_of_le (h.2.2 ad e) hk.size⟩
  obtain ⟨hC, _⟩ := h
  refine ⟨hC.1, hC.2.1, fun hp => ?_⟩
  obtain ⟨ad, rfl, hx⟩ := hC.2.2 hp
  refine ⟨ad, rfl, fun j p hj => ?_⟩
  obtain ⟨cs, h1, h2, h3⟩ := hx j p hj
  exact ⟨cs, h1, h2, fun i u hu => hk.cell (h3 i u hu) (by rw [add_block]; exact hS ad rfl)⟩
/-- An own row of numbers is a path. -/
theorem PathIs.own {w : World} {base e : Nat} {v : Value} {path : List Int} {ok : Nat → Prop} (h : (Kd.int .i64).R e w base ok v path) : ∃ A c, v = .slice A path.length c ∧ PathIs w A c path ∧ (∀ ad, A = some ad → base ≤ ad.block) := by
  obtain ⟨A, c, rfl⟩ := Kd.R_slice h
  have hC := (Kd.R_reads' h).2.2
  have hlen := (Kd.R_reads' h).2.1
  obtain ⟨_, inner, ⟨_, ho⟩, _⟩ := h
  rcases ho with ⟨h1, h2⟩ | ⟨g, cap, cur, h1, h5, h6, _⟩
  · injection h1 with h1 h3 h4
    subst h1
    exact ⟨none, c, rfl, ⟨hC, .inl ⟨rfl, h4, List.eq_nil_of_length_eq_zero h2⟩, fun ad e => by cases e⟩, fun ad e => by cases e⟩
  · injection h1 with h1 h3 h4
    subst h1
    exact ⟨_, c, rfl, ⟨hC, .inr ⟨⟨_, rfl⟩, hlen⟩, fun ad e => by cases e; exact blk_lt h6⟩, fun ad e => by cases e; exact h5⟩
def WalkOk (F1 F2 : Nat) (caps1 caps2 : Array Value) (w0 : World) (I : Inv) (t : Tr) : Prop :=
  ∀ (a A : Option Addr) (c : Nat) (path told : List Int) (S : Nat → Prop) (w : World) (d : Int), IsT t w0 a → Below w0.heap.size w0 w → PathIs w A c path → (∀ ad, A = some ad → ¬ S ad.block) → I told none S w → rightT t d = true → 0 ≤ d → (path.length : Int) ≤ d →
    told.length + (walkT t path).1.length ≤ 1000000000 →
    Calls Try.prog 32 #[.pointer a, .slice A path.length c, .func (.func F1) #[] caps1, .func (.func F2) #[] caps2] w fun e w' => e = .returned (.int .i64 (walkT t path).2.1) ∧
      ∃ S', I (told ++ (walkT t path).1) (walkT t path).2.2 S' w' ∧ Keep S w w' ∧ ((walkT t path).2.2 = none → ∀ k, S' k → S k ∨ w.heap.size ≤ k)
/-- What is known within the loop. -/
structure WW (w0 : World) (I : Inv) (S : Nat → Prop) (A : Option Addr) (c : Nat) (path told t1 : List Int) (w w' : World) : Prop where
  st : ∃ S', I (told ++ t1) none S' w' ∧ Keep S w w' ∧ ∀ k, S' k → S k ∨ w.heap.size ≤ k
  below : Below w0.heap.size w0 w'
  path : PathIs w' A c path
theorem WW.keep {F1 F2 : Nat} {caps1 caps2 : Array Value} {w0 : World} {I : Inv} (TT : Teller F1 F2 caps1 caps2 w0.heap.size I) {S : Nat → Prop} {A : Option Addr} {c : Nat} {path told t1 : List Int} {w w' w'' : World} (h : WW w0 I S A c path told t1 w w') (k : Below w'.heap.size w' w'') : WW w0 I S A c path told t1 w w'' := by
  obtain ⟨⟨S', h1, h2, h3⟩, h4, h5⟩ := h
  exact ⟨⟨S', TT.keep h1 k, h2.then (Keep.of_below k (fun _ => False)) (fun _ _ h => h.elim), h3⟩, h4.trans (k.mono h4.size), h5.below k⟩
theorem WW.next {F1 F2 : Nat} {caps1 caps2 : Array Value} {w0 : World} {I : Inv} (TT : Teller F1 F2 caps1 caps2 w0.heap.size I) {S : Nat → Prop} {A : Option Addr} {c : Nat} {path told t1 : List Int} {w w' : World} (hpl : ∀ ad, A = some ad → ad.block < w.heap.size) (hpS : ∀ ad, A = some ad → ¬ S ad.block) (h : WW w0 I S A c path told t1 w w') :
    ∃ S', I (told ++ t1) none S' w' ∧ (∀ ad, A = some ad → ¬ S' ad.block) ∧ (∀ k, S' k → w0.heap.size ≤ k ∧ k < w'.heap.size) ∧ (∀ {w2 : World}, Keep S' w' w2 → Keep S w w2) ∧
      ∀ {t2 : List Int} {S2 : Nat → Prop} {w2 : World}, I (told ++ t1 ++ t2) none S2 w2 → Keep S' w' w2 → (∀ k, S2 k → S' k ∨ w'.heap.size ≤ k) → WW w0 I S A c path told (t1 ++ t2) w w2 := by
  obtain ⟨⟨S', h1, h2, h3⟩, h4, h5⟩ := h
  have hne : ∀ ad, A = some ad → ¬ S' ad.block := fun ad e hs => (h3 _ hs).elim (hpS ad e) (fun hh => by have := hpl ad e; omega)
  have hk : ∀ {w2 : World}, Keep S' w' w2 → Keep S w w2 := fun k => h2.then k (fun i hi hs => (h3 i hs).elim id (fun hh => absurd hi (by omega)))
  refine ⟨S', h1, hne, (TT.size h1).2, hk, fun {t2 S2 w2} hI k hS => ⟨⟨S2, by rw [← List.append_assoc]; exact hI, hk k, fun x hx => (hS x hx).elim (h3 x) (fun hh => .inr (Nat.le_trans h2.size hh))⟩, h4.trans (k.below (TT.size h1).1 (fun x hx hs => by have := ((TT.size h1).2 x hs).1; omega)), h5.keep k hne⟩⟩
theorem metP_here {ps : List Pc} {i : Nat} {m r : Int} {q : Pc} (hi : i < ps.length) (hq : ps[i] = q) (h : metP m (ps.drop i) = some r) : (q.f0 = false ∧ metP m (ps.drop (i + 1)) = some r) ∨ (q.f0 = true ∧ q.f1 = m ∧ metP (m + 1) (ps.drop (i + 1)) = some r) := by
  rw [List.drop_eq_getElem_cons hi, hq, metP] at h
  by_cases h1 : q.f0 = true
  · rw [if_pos h1] at h
    by_cases h2 : q.f1 = m
    · rw [if_pos h2] at h; exact .inr ⟨h1, h2, h⟩
    · rw [if_neg h2] at h; cases h
  · rw [if_neg h1] at h; exact .inl ⟨by simpa using h1, h⟩
theorem preT_preT (a b : List Int) (r : List Int × Int × Option (List Int)) : preT a (preT b r) = preT (a ++ b) r := by simp [preT]
theorem rightTs_mem : ∀ {ks : List Tr} {d : Int}, rightTs ks d = true → ∀ (i : Nat) (h : i < ks.length), rightT ks[i] d = true
  | [], _, _, i, h => absurd h (Nat.not_lt_zero _)
  | k :: r, d, h, i, hi => by
    rw [rightTs, Bool.and_eq_true] at h
    cases i with
    | zero => exact h.1
    | succ i => exact rightTs_mem h.2 i (by simpa using hi)
theorem right_inv {ps : List Pc} {ks : List Tr} {v f d : Int} (h : rightT (.node ps ks v f) d = true) : d ≤ 30 ∧ (f = 0 ∨ v = 0) ∧ metP 0 ps = some (ks.length : Int) ∧ rightTs ks (d + 1) = true := by
  rw [rightT] at h
  split at h
  · cases h
  · rename_i h1
    split at h
    · cases h
    · rename_i m hm
      split at h
      · rename_i h2
        refine ⟨by omega, ?_, by rw [hm, h2], h⟩
        by_cases hf : f = 0
        · exact .inl hf
        · by_cases hv : v = 0
          · exact .inr hv
          · exact absurd (.inr ⟨hf, hv⟩) h1
      · cases h
set_option maxRecDepth 100000 in
set_option maxHeartbeats 8000000 in
theorem walk33_node (g : Nat) (caps1 caps2 : Array Value) (hc1 : caps1 = #[.pointer (some ⟨g, 0, none⟩)]) (hc2 : caps2 = #[]) (w0 : World) (I : Inv) (TT : Teller 33 34 caps1 caps2 w0.heap.size I) (ps : List Pc) (ks : List Tr) (v f : Int) (hk : ∀ k ∈ ks, WalkOk 33 34 caps1 caps2 w0 I k) : WalkOk 33 34 caps1 caps2 w0 I (.node ps ks v f) := by
  subst hc1
  subst hc2
  intro a A c path told S w d h hb0 hp hpS hI hr hd0 hpl htl
  obtain ⟨hd30, hfv, hmet, hrs⟩ := right_inv hr
  have h' := h
  simp only [IsT] at h'
  obtain ⟨b, A1, c1, A2, c2, qs, rfl, g1, g2, g3, g4, g5, g6⟩ := h'
  obtain ⟨W, hW⟩ : ∃ W, W = walkKs ks path 0 := ⟨_, rfl⟩
  have hres : walkT (.node ps ks v f) path = if (walkPs ps W).2.1 = 0 then ((walkPs ps W).1, f, if f = 0 then none else some path) else walkPs ps W := by rw [hW, walkT]
  have hWm : ∀ m (h : m < ks.length), W.getD m ([], 0, none) = walkT ks[m] (path ++ [(m : Int)]) := fun m h => by
    rw [List.getD_eq_getElem?_getD, hW, walkKs_get ks path 0 m h]; simp
  obtain ⟨R, hR⟩ : ∃ R, R = walkT (.node ps ks v f) path := ⟨_, rfl⟩
  rw [← hR] at hres htl ⊢
  have hmax := Kd.C_max g3
  have HW := Aside0.mk (show WW w0 I S A c path told [] w w from ⟨⟨S, by simpa using hI, Keep.refl _ _, fun k h => .inl h⟩, hb0, hp⟩)
  have HR := Aside0.mk hres
  have HWM := Aside0.mk hWm
  have HK := Aside0.mk hk
  have G := Aside0.mk (And.intro g1 (And.intro g3 (And.intro g5 g6)))
  have HM := Aside0.mk hmet
  have HRS := Aside0.mk hrs
  have HD := Aside0.mk (And.intro hd0 (And.intro hd30 hpl))
  have HTL := Aside0.mk htl
  have HPS := Aside0.mk (And.intro hp.2.2 hpS)
  have hR1 : R.1 = (walkPs ps W).1 := by rw [hres]; split <;> rfl
  have HR1 := Aside0.mk hR1
  have HT := Aside0.mk TT
  have gw := (hb0.block _ (blk_lt g1)).trans g1
  have n0 := blk_cell gw 0
  clear h hb0 hp hpS hI hr hd0 hpl htl hd30 hfv hmet hrs g1 g2 g3 g4 g5 g6 gw hR hW hres hWm hk TT hR1
  go_enter Try.func32, Try.ntmps32
  go_wp2_with fail
  go_step3
  go_wp2_with fail
  go_step3
  go_wp2_with fail
  clear n0
  go_loopw [18] (fun v18 wr => ∃ (i : Nat) (m : Int) (t1 : List Int), v18 = .int .i64 i ∧ i ≤ ps.length ∧ Aside0 (0 ≤ m ∧ metP m (ps.drop i) = some (ks.length : Int)) ∧ Aside0 (walkPs ps W = preT t1 (walkPs (ps.drop i) W)) ∧ Aside0 (WW w0 I S A c path told t1 w wr)) (fun v18 _ => ps.length - (intOf v18).toNat)
  case atStart => exact ⟨0, 0, [], rfl, Nat.zero_le _, ⟨Int.le_refl _, by simpa using HM.out⟩, ⟨by simp [preT]⟩, HW⟩
  case round =>
    clear HW HM
    obtain ⟨i, m, t1, rfl, hi, HM, HP, HW⟩ := hrel
    by_cases hlt : i < ps.length
    · obtain ⟨ad, rfl, hx0, hx1⟩ := at_Pc G.out.2.1 i (by omega) (by omega)
      replace hx0 := (HW.out.below.cell (World.block_lt_of_cell? w0 _ hx0)).trans hx0
      replace hx1 := (HW.out.below.cell (World.block_lt_of_cell? w0 _ hx1)).trans hx1
      simp only [Int.toNat_natCast] at hx0 hx1
      have hfi : rd_Pc ps (i : Int) = ps[i] := by simp [rd_Pc, hlt]
      rw [hfi] at hx0 hx1
      clear hfi
      generalize hfj : ps[i] = pi at hx0 hx1
      have HHERE := Aside0.mk (metP_here hlt hfj HM.out.2)
      have HDR := Aside0.mk (show walkPs (ps.drop i) W = walkPs (pi :: ps.drop (i + 1)) W by rw [List.drop_eq_getElem_cons hlt, hfj])
      clear hfj
      obtain ⟨p0, p1⟩ := pi
      have HW2 := Aside0.mk (HW.out.keep HT.out ((Below.refl _ _).alloc (Nat.le_refl _) (.cells #[.bool p0, .int .i64 p1] 86)))
      cases p0 with
      | false =>
        obtain ⟨S', hI, hne, hS', hkk, hnx⟩ := HW2.out.next HT.out HPS.out.1 HPS.out.2
        have hbd : (told ++ t1).length ≤ 1000000000 := by
          have e := congrArg (fun r => r.1.length) HP.out
          simp only [preT, List.length_append] at e
          have := HTL.out
          rw [HR1.out] at this
          rw [List.length_append]; omega
        have HTE := Aside0.mk (HT.out.tell p1 hI hbd)
        have HNX := Aside0.mk (fun {S2 : Nat → Prop} {w2 : World} => hnx (t2 := [p1]) (S2 := S2) (w2 := w2))
        have hhere : metP m (ps.drop (i + 1)) = some (ks.length : Int) := HHERE.out.elim (fun h => h.2) (fun h => by cases h.1)
        have HM2 := Aside0.mk (And.intro HM.out.1 hhere)
        have HP2 := Aside0.mk (show walkPs ps W = preT (t1 ++ [p1]) (walkPs (ps.drop (i + 1)) W) by
          rw [HP.out, HDR.out, walkPs, if_neg (by simp), preT_preT])
        clear hI hne hS' hkk hnx hbd hhere HHERE HDR
        go_wp2_with fail
        refine (HTE.out).mono ?_
        rintro e w2 ⟨rfl, S2, hI2, hk2, hs2⟩
        have HW3 := Aside0.mk (HNX.out hI2 hk2 hs2)
        clear hI2 hk2 hs2 HNX HTE HW2 HW hx0 hx1
        go_wp2_with fail
        go_roundw
        case rel => exact ⟨i + 1, m, t1 ++ [p1], by go_num, by omega, HM2, HP2, HW3⟩
        case measure => simp [intOf]; omega
      | true =>
        have hh : p1 = m ∧ metP (m + 1) (ps.drop (i + 1)) = some (ks.length : Int) := HHERE.out.elim (fun h => by cases h.1) (fun h => h.2)
        obtain ⟨rfl, hmn⟩ := hh
        have hle := metP_le hmn
        obtain ⟨n, rfl⟩ := Int.eq_ofNat_of_zero_le HM.out.1
        have hnk : n < ks.length := by omega
        have HM2 := Aside0.mk (And.intro (show (0 : Int) ≤ (n : Int) + 1 by omega) hmn)
        obtain ⟨hnq, hIsT⟩ := IsTs.get G.out.2.2.2 n hnk
        obtain ⟨adk, rfl, hxk⟩ := at_P G.out.2.2.1 n hnk hnq
        have hxk2 := (HW2.out.below.cell (World.block_lt_of_cell? w0 _ hxk)).trans hxk
        have gw2 := (HW2.out.below.block _ (blk_lt G.out.1)).trans G.out.1
        have HX := Aside0.mk (And.intro hxk2 (And.intro gw2 hIsT))
        have hnk' : ((n : Int) < (ks.length : Int)) = True := eq_true (by omega)
        clear hle hmn HHERE hxk hxk2 gw2 hIsT HW
        go_upto_region 7 with (fail)
        clear hx0 hx1
        generalize wr.alloc (.cells #[.bool true, .int .i64 (n : Int)] 86) = wq at HX HW2 ⊢
        refine wp_region_seq2 (fun w' => Below wq.heap.size wq w') [14, 15] [.take 0, .take 1, .take 2, .take 3, .take 4, .take 5, .take 6, .take 7, .take 9, .take 12, .take 13, .pair 8 10, .op 11, .fin 14, .fin 15] (by kernel_rfl) (by kernel_rfl) rfl (by kernel_rfl) (panic_viaM (P := Try.prog) (fn := Try.f32) (R := fun e w' => e = .returned (.int .i64 R.2.1) ∧ ∃ S', I (told ++ R.1) R.2.2 S' w' ∧ Keep S w w' ∧ (R.2.2 = none → ∀ k, S' k → S k ∨ w.heap.size ≤ k)) (fun _ _ _ => rfl)) ?_
        have hs : Below wq.heap.size wq wq.drew := (Below.refl _ _).drew
        repeat (
          (first
            | (refine runSeq2_take (v := ?_) (by rfl) (by rfl) (fun w' hS => ?_) hs ?_
               rotate_left
               · (have hG := (hS.block _ (blk_lt HX.out.2.1)).trans HX.out.2.1; have d1 := blk_cell hG 1; have q0 := (hS.cell (World.block_lt_of_cell? wq _ HX.out.1)).trans HX.out.1; go_simp; exact rfl))
            | refine runSeq2_skip (by rfl) (by rfl) hs ?_)
          (try simp only [Act.put, List.setIfInBounds_toArray, List.set_cons_zero, List.set_cons_succ]))
        have hlen : path.length ≤ 1000 := by have h1 := HD.out.2.2; have h2 := HD.out.2.1; omega
        refine runSeq2_pairM (di := 39) (dj := 41) (fun v u w' => (Kd.int .i64).R 3 w' wq.heap.size (fun _ => True) v path ∧ ∃ bl, u = .slice (some ⟨bl, 0, none⟩) 1 1 ∧ w'.heap[bl]? = some (.cells #[.int .i64 (n : Int)] 3 (0, 0))) (by decide) ?_ ?_ ?_
        · refine wpOp_at (by rfl) (by rfl) (fun K hK => ?_)
          go_simp
          refine (clone_any A c path _ (HW2.out.path.below hs) hlen).mono ?_
          rintro e w1 ⟨v, rfl, hR, hb⟩
          have hs1 := hs.trans (hb.mono hs.size)
          refine hK _ _ ⟨v, rfl, hs1, ?_⟩
          clear hK K
          refine wpOp_at (by rfl) (by rfl) (fun K hK => ?_)
          go_simp
          exact hK _ _ ⟨_, rfl, hs1.alloc hs1.size _, Kd.R_lower (Kd.R_alloc hR _) hs.size, _, rfl, alloc_blk _ _⟩
        · refine wpOp_at (by rfl) (by rfl) (fun K hK => ?_)
          go_simp
          have hs1 := hs.alloc hs.size (.cells #[.int .i64 (n : Int)] 3)
          refine hK _ _ ⟨_, rfl, hs1, ?_⟩
          clear hK K
          refine wpOp_at (by rfl) (by rfl) (fun K hK => ?_)
          go_simp
          refine (clone_any A c path _ (HW2.out.path.below hs1) hlen).mono ?_
          rintro e w1 ⟨v, rfl, hR, hb⟩
          have ha := alloc_blk wq.drew (.cells #[.int .i64 (n : Int)] 3)
          exact hK _ _ ⟨v, rfl, hs1.trans (hb.mono hs1.size), Kd.R_lower hR hs1.size, _, rfl, (hb.block _ (blk_lt ha)).trans ha⟩
        · rintro vv uu w3 hs3 ⟨hR3, bl, rfl, hbl⟩
          (try simp only [Act.put, List.setIfInBounds_toArray, List.set_cons_zero, List.set_cons_succ])
          refine runSeq2_op (by rfl) (by rfl) (fun K hK => ?_)
          refine wp_append_nums .i64 wq.heap.size rfl (.tmp 39) (.tmp 41) 52 3 8 rfl Try.underlying52 infoC3 (by decide) vv path [(n : Int)] (some ⟨bl, 0, none⟩) 1 1 rfl rfl hR3 (reads_nums [(n : Int)] hbl (by simp)) hs3.size (by omega) ?_
          intro v1 w4 hR4 hb4 hg4 hat4
          have hs4 := hs3.trans hb4
          refine hK _ _ hs4 ?_
          clear hK K hR3 hbl hs3 hb4 hg4 hat4 hs w3
          (try simp only [Act.put, List.setIfInBounds_toArray, List.set_cons_zero, List.set_cons_succ])
          obtain ⟨A', c', rfl, hp', hown⟩ := PathIs.own hR4
          obtain ⟨S', hI, hne, hS', hkk, hnx⟩ := HW2.out.next HT.out HPS.out.1 HPS.out.2
          obtain ⟨K', hK'⟩ : ∃ K', K' = walkT ks[n] (path ++ [(n : Int)]) := ⟨_, rfl⟩
          have hWn : W.getD n ([], 0, none) = K' := (HWM.out n hnk).trans hK'.symm
          have hstep : walkPs (ps.drop i) W = if K'.2.1 = 0 then preT K'.1 (walkPs (ps.drop (i + 1)) W) else K' := by
            rw [HDR.out, walkPs, if_pos rfl, Int.toNat_natCast, hWn]
          have hbd : (told ++ t1).length + K'.1.length ≤ 1000000000 := by
            have e := congrArg (fun r => r.1.length) HP.out
            simp only [preT, List.length_append] at e
            have := HTL.out
            rw [HR1.out] at this
            have e2 : K'.1.length ≤ (walkPs (ps.drop i) W).1.length := by
              rw [hstep]; split
              · simp [preT]
              · exact Nat.le_refl _
            rw [List.length_append]; omega
          have hcall := HK.out ks[n] (List.getElem_mem hnk) qs[n] A' c' (path ++ [(n : Int)]) (told ++ t1) S' w4 (d + 1) HX.out.2.2 (HW2.out.below.trans (hs4.mono HW2.out.below.size)) hp' (fun ad e hs => by have h1 := hown ad e; have h2 := (hS' _ hs).2; omega) (HT.out.keep hI hs4) (rightTs_mem HRS.out n hnk) (by have := HD.out.1; omega) (by have := HD.out.2.2; simp; omega) (by rw [← hK']; exact hbd)
          rw [← hK'] at hcall
          have hfit : Fits K' := hK' ▸ walkT_fits _ _
          obtain ⟨L, hL⟩ : ∃ L, L = (path ++ [(n : Int)]).length := ⟨_, rfl⟩
          rw [← hL] at hcall ⊢
          have HCALL := Aside0.mk hcall
          have HFIT := Aside0.mk hfit
          have HSTEP := Aside0.mk hstep
          have HNX := Aside0.mk (fun {S2 : Nat → Prop} {w2 : World} => hnx (t2 := K'.1) (S2 := S2) (w2 := w2))
          have HKK := Aside0.mk (fun {w2 : World} => hkk (w2 := w2))
          have HS4 := Aside0.mk hs4
          clear hp' hown hI hne hS' hkk hnx hWn hstep hbd hcall hfit hK' hs4 hR4 hL hlen HDR
          refine runSeq2_fin (by rfl) (by rfl) (fun K hK => ?_)
          go_simp
          refine HCALL.out.mono ?_
          rintro e w5 ⟨rfl, S2, hI2, hk2, hs2⟩
          have HE := Aside0.mk (And.intro hI2 (And.intro ((Keep.of_below HS4.out S').trans hk2) (fun h k hk => (hs2 h k hk).elim Or.inl (fun hh => Or.inr (Nat.le_trans HS4.out.size hh)))))
          clear hI2 hk2 hs2 HCALL
          refine hK _ _ ?_
          clear hK K
          refine runSeq2_fin (by rfl) (by rfl) (fun K hK => ?_)
          go_simp
          refine hK _ _ ?_
          clear hK K
          refine runSeq2_nil ?_
          by_cases hz : K'.2.1 = 0
          · have hno := HFIT.out.1 hz
            have hE := HE.out
            rw [hno] at hE
            have HW3 := Aside0.mk (HNX.out hE.1 hE.2.1 (hE.2.2 rfl))
            have HP2 := Aside0.mk (show walkPs ps W = preT (t1 ++ K'.1) (walkPs (ps.drop (i + 1)) W) by
              rw [HP.out, HSTEP.out, if_pos hz, preT_preT])
            have hz' : (K'.2.1 != 0) = false := by rw [hz]; rfl
            clear hE hno hz HE HNX HKK HP HSTEP HFIT
            go_wp2_with fail
            go_roundw
            case rel => exact ⟨i + 1, (n : Int) + 1, t1 ++ K'.1, by go_num, by omega, HM2, HP2, HW3⟩
            case measure => simp [intOf]; omega
          · have hRR : R = preT t1 K' := by
              have e : walkPs ps W = preT t1 K' := by rw [HP.out, HSTEP.out, if_neg hz]
              rw [HR.out, e, if_neg (show ¬ (preT t1 K').2.1 = 0 from hz)]
            have hz' : (K'.2.1 != 0) = true := by simp [hz]
            have HRR := Aside0.mk hRR
            have HZ := Aside0.mk hz
            clear hRR hz
            go_wp2_with fail
            dsimp only [Exit.noGoto]
            go_ret
            refine ⟨by rw [HRR.out]; rfl, S2, ?_, HKK.out HE.out.2.1, fun h => absurd (HFIT.out.2 (by rw [HRR.out] at h; exact h)) HZ.out⟩
            rw [HRR.out]
            show I (told ++ (t1 ++ K'.1)) K'.2.2 S2 w5
            rw [← List.append_assoc]
            exact HE.out.1
    · obtain rfl : i = ps.length := by omega
      clear hlt hi
      have hend : walkPs ps W = preT t1 ([], 0, none) := by have := HP.out; rw [List.drop_length] at this; exact this
      have hRR : R = (t1, f, if f = 0 then none else some path) := by
        rw [HR.out, hend, if_pos (show (preT t1 ([], 0, none)).2.1 = 0 from rfl)]; simp [preT]
      have HRR := Aside0.mk hRR
      obtain ⟨S', hI, hne, hS', hkk, hnx⟩ := HW.out.next HT.out HPS.out.1 HPS.out.2
      have gw2 := (HW.out.below.block _ (blk_lt G.out.1)).trans G.out.1
      have n3 := blk_cell gw2 3
      have hstt := HW.out.st
      have HST := Aside0.mk hstt
      by_cases hf : f = 0
      · have hf' : (f != 0) = false := by rw [hf]; rfl
        have HF := Aside0.mk hf
        clear hRR hend hf hI hne hS' hkk hnx gw2 hstt HW HP
        go_wp2_with fail
        dsimp only [Exit.noGoto]
        go_ret
        obtain ⟨S2, h1, h2, h3⟩ := HST.out
        rw [HRR.out]
        refine ⟨rfl, S2, ?_, h2, fun _ => h3⟩
        rw [if_pos HF.out]
        exact h1
      · have hf' : (f != 0) = true := by simp [hf]
        have HF := Aside0.mk hf
        have HFL := Aside0.mk (HT.out.fails hI HW.out.path hne)
        have HKK := Aside0.mk (fun {w2 : World} => hkk (w2 := w2))
        have HG := Aside0.mk gw2
        have HS' := Aside0.mk hS'
        have HB := Aside0.mk HW.out.below
        clear hRR hend hf hI hne hS' hkk hnx gw2 hstt HW HP
        go_wp2_with fail
        refine HFL.out.mono ?_
        rintro e w2 ⟨rfl, S2, hI2, hk2⟩
        have gw3 := hk2.blk HG.out (fun hs => by have h1 := (HS'.out _ hs).1; have h2 := blk_lt G.out.1; omega)
        have n3 := blk_cell gw3 3
        have HE := Aside0.mk (And.intro hI2 (HKK.out hk2))
        clear hI2 hk2 gw3 HG
        go_wp2_with fail
        dsimp only [Exit.noGoto]
        go_ret
        rw [HRR.out]
        refine ⟨rfl, S2, ?_, HE.out.2, fun h => ?_⟩
        · rw [if_neg HF.out]; exact HE.out.1
        · rw [if_neg HF.out] at h; cases h
mutual
theorem walk33_any (g : Nat) (w0 : World) (I : Inv) (TT : Teller 33 34 #[.pointer (some ⟨g, 0, none⟩)] #[] w0.heap.size I) : ∀ t : Tr, WalkOk 33 34 #[.pointer (some ⟨g, 0, none⟩)] #[] w0 I t
  | .nil => fun a A c path told S w d h hb0 hp hpS hI hr => by rw [rightT] at hr; cases hr
  | .node ps ks v f => walk33_node g _ _ rfl rfl w0 I TT ps ks v f (walks33_any g w0 I TT ks)
theorem walks33_any (g : Nat) (w0 : World) (I : Inv) (TT : Teller 33 34 #[.pointer (some ⟨g, 0, none⟩)] #[] w0.heap.size I) : ∀ l : List Tr, ∀ k ∈ l, WalkOk 33 34 #[.pointer (some ⟨g, 0, none⟩)] #[] w0 I k
  | [], k, h => by cases h
  | x :: r, k, h => by
    rcases List.mem_cons.1 h with h | h
    · exact h ▸ walk33_any g w0 I TT x
    · exact walks33_any g w0 I TT r k h
end
end Go.Proofs.Ytbekjccehhaljaa.H

set_option linter.unusedVariables false
set_option linter.unusedSimpArgs false
namespace Go.Proofs.Ytbekjccehhaljaa.H
open Go.RowKit Go.Hay Go.Proofs.YtbekjccehhaljaaW.PrintWords Go.Proofs.YtbekjccehhaljaaW.PrintLast Go.Proofs.YtbekjccehhaljaaW.PrintMore
set_option maxRecDepth 100000 in
set_option maxHeartbeats 4000000 in
theorem mindex_any (q : Option Addr) (p : Nat → Bool) (qs : List (Option Addr)) (A : Option Addr) (c : Nat) (w : World) (hC : kP.C w A qs.length qs)
    (hp : ∀ i (h : i < qs.length) w', Below w.heap.size w w' → Calls Try.prog 52 #[.pointer qs[i], .pointer q] w' fun e w'' => e = .returned (.bool (p i)) ∧ Below w'.heap.size w' w'') :
    Calls Try.prog 72 #[.slice A qs.length c, .func (.func 52) #[] #[.pointer q]] w fun e w' => (∃ r : Int, e = .returned (.int .i64 r) ∧ decide (0 ≤ r) = (List.range qs.length).any p) ∧ Below w.heap.size w w' := by
  have hmax := Kd.C_max hC
  have HC := Aside0.mk hC
  have HP := Aside0.mk hp
  have HW := Aside0.mk (Below.refl w.heap.size w)
  clear hC hp
  go_enter Try.func72, Try.ntmps72
  go_wp2_with fail
  go_loopw [8] (fun v8 wr => ∃ (i : Nat), v8 = .int .i64 i ∧ i ≤ qs.length ∧ Aside0 ((List.range i).any p = false) ∧ Aside0 (Below w.heap.size w wr)) (fun v8 _ => qs.length - (intOf v8).toNat)
  case atStart => exact ⟨0, rfl, Nat.zero_le _, ⟨rfl⟩, HW⟩
  case round =>
    obtain ⟨i, rfl, hi, HN, HD⟩ := hrel
    by_cases hlt : i < qs.length
    · obtain ⟨ad, rfl, hx⟩ := at_P HC.out i hlt hlt
      have hx2 := (HD.out.cell (World.block_lt_of_cell? w _ hx)).trans hx
      clear hx
      go_wp2_with fail
      refine (HP.out i hlt wr HD.out).mono ?_
      rintro e w2 ⟨rfl, hd⟩
      have HD2 := Aside0.mk (HD.out.trans (hd.mono HD.out.size))
      clear hd hx2 HD
      cases hb : p i with
      | true =>
        have hf : (List.range qs.length).any p = true := List.any_eq_true.2 ⟨i, List.mem_range.2 hlt, hb⟩
        have HF := Aside0.mk hf
        clear hf HN hb
        go_wp2_with fail
        go_ret
        exact ⟨⟨i, rfl, by rw [HF.out]; simp⟩, HD2.out⟩
      | false =>
        have HN2 : Aside0 ((List.range (i + 1)).any p = false) := ⟨by rw [List.range_succ, List.any_append, HN.out]; simp [hb]⟩
        clear HN hb
        go_wp2_with fail
        go_roundw
        case rel => exact ⟨i + 1, by go_num, by omega, HN2, HD2⟩
        case measure => simp [intOf]; omega
    · obtain rfl : i = qs.length := by omega
      clear hlt
      go_wp2_with fail
      go_ret
      exact ⟨⟨-1, rfl, by rw [HN.out]; rfl⟩, HD.out⟩
set_option maxRecDepth 100000 in
theorem mcontains_any (q : Option Addr) (p : Nat → Bool) (qs : List (Option Addr)) (A : Option Addr) (c n : Nat) (w : World) (hn : qs.length = n) (hC : kP.C w A n qs)
    (hp : ∀ i (h : i < qs.length) w', Below w.heap.size w w' → Calls Try.prog 52 #[.pointer qs[i], .pointer q] w' fun e w'' => e = .returned (.bool (p i)) ∧ Below w'.heap.size w' w'') :
    Calls Try.prog 51 #[.slice A n c, .func (.func 52) #[] #[.pointer q]] w fun e w' => e = .returned (.bool ((List.range n).any p)) ∧ Below w.heap.size w w' := by
  subst hn
  have HX := Aside0.mk (mindex_any q p qs A c w hC hp)
  clear hC hp
  go_enter Try.func51, Try.ntmps51
  go_wp2_with fail
  refine HX.out.mono ?_
  rintro e w' ⟨⟨r, rfl, hr⟩, hb⟩
  have HR := Aside0.mk hr
  have HB := Aside0.mk hb
  clear hr hb
  go_wp2_with fail
  go_ret
  exact ⟨by rw [← HR.out]; rfl, HB.out⟩
def RightOk (t : Tr) : Prop := ∀ (a : Option Addr) (d : Int) (w : World), IsT t w a → 0 ≤ d → d ≤ 31 → Calls Try.prog 36 #[.pointer a, .int .i64 d] w fun e w' => e = .returned (.bool (rightT t d)) ∧ Below w.heap.size w w'
set_option maxRecDepth 100000 in
theorem right_nil : RightOk .nil := by
  intro a d w h h0 h1
  simp only [IsT] at h
  subst h
  have HB := Aside0.mk ((Below.refl w.heap.size w).alloc (Nat.le_refl _) (.cells #[.int .i64 d] 3))
  have HR := Aside0.mk (show rightT .nil d = false from rfl)
  go_enter Try.func36, Try.ntmps36
  go_wp2_with fail
  go_ret
  exact ⟨by rw [HR.out]; rfl, HB.out⟩
set_option maxRecDepth 100000 in
theorem mkid_any (t : Tr) (ht : RightOk t) (b : Nat) (a : Option Addr) (d : Int) (w : World) (h : IsT t w a) (h0 : 0 ≤ d) (h1 : d ≤ 30) (hb : w.heap[b]? = some (.cells #[.int .i64 d] 3 (0, 0))) :
    Calls Try.prog 52 #[.pointer a, .pointer (some ⟨b, 0, none⟩)] w fun e w' => e = .returned (.bool (!rightT t (d + 1))) ∧ Below w.heap.size w w' := by
  have c := blk_cell hb 0
  have HX := Aside0.mk (ht a (d + 1) w h (by omega) (by omega))
  have hw : IntKind.i64.wrap (d + 1) = d + 1 := (i64_w _).trans (by unfold wrap64; omega)
  clear ht h hb
  go_enter Try.func52, Try.ntmps52
  go_wp2_with fail
  refine HX.out.mono ?_
  rintro e w' ⟨rfl, hb⟩
  have HB := Aside0.mk hb
  clear hb
  go_wp2_with fail
  go_ret
  exact ⟨rfl, HB.out⟩
theorem rightTs_any : ∀ (ks : List Tr) (d : Int), (List.range ks.length).any (fun i => !rightT (ks.getD i .nil) d) = !rightTs ks d
  | [], d => rfl
  | k :: r, d => by
    rw [rightTs, Bool.not_and, ← rightTs_any r d, List.length_cons, List.range_succ_eq_map, List.any_cons, List.any_map]
    rfl
theorem right_early {ps : List Pc} {ks : List Tr} {v f d : Int} (h : d > 30 ∨ (f ≠ 0 ∧ v ≠ 0)) : rightT (.node ps ks v f) d = false := by
  rw [rightT, if_pos h]
theorem right_none {ps : List Pc} {ks : List Tr} {v f d : Int} (h : metP 0 ps = none) : rightT (.node ps ks v f) d = false := by
  rw [rightT, h]; split <;> rfl
theorem right_some {ps : List Pc} {ks : List Tr} {v f d m : Int} (h : ¬ (d > 30 ∨ (f ≠ 0 ∧ v ≠ 0))) (hm : metP 0 ps = some m) : rightT (.node ps ks v f) d = if m = (ks.length : Int) then rightTs ks (d + 1) else false := by
  rw [rightT, if_neg h, hm]
theorem metP_step {m : Int} {ps : List Pc} {i : Nat} (hi : i < ps.length) {k : Int} (h : metP 0 ps = metP m (ps.drop i)) {q : Pc} (hq : ps[i] = q) (hk : (q.f0 = false ∧ k = m) ∨ (q.f0 = true ∧ q.f1 = m ∧ k = m + 1)) : metP 0 ps = metP k (ps.drop (i + 1)) := by
  rw [h, List.drop_eq_getElem_cons hi, hq, metP]
  rcases hk with ⟨h1, rfl⟩ | ⟨h1, h2, rfl⟩
  · rw [if_neg (by rw [h1]; simp)]
  · rw [if_pos h1, if_pos h2]
theorem metP_stop {m : Int} {ps : List Pc} {i : Nat} (hi : i < ps.length) (h : metP 0 ps = metP m (ps.drop i)) {q : Pc} (hq : ps[i] = q) (h1 : q.f0 = true) (h2 : q.f1 ≠ m) : metP 0 ps = none := by
  rw [h, List.drop_eq_getElem_cons hi, hq, metP, if_pos h1, if_neg h2]
structure RW (w : World) (d : Int) (b : Nat) (cs : Array Value) (w' : World) : Prop where
  below : Below w.heap.size w w'
  box : w'.heap[w.heap.size]? = some (.cells #[.int .i64 d] 3 (0, 0))
  node : w'.heap[b]? = some (.cells cs 70 (0, 0))
theorem RW.keep {w : World} {d : Int} {b : Nat} {cs : Array Value} {w' w'' : World} (h : RW w d b cs w') (k : Below w'.heap.size w' w'') : RW w d b cs w'' :=
  ⟨h.below.trans (k.mono h.below.size), (k.block _ (blk_lt h.box)).trans h.box, (k.block _ (blk_lt h.node)).trans h.node⟩
set_option maxRecDepth 100000 in
set_option maxHeartbeats 4000000 in
theorem right_node (ps : List Pc) (ks : List Tr) (v f : Int) (hk : ∀ k ∈ ks, RightOk k) : RightOk (.node ps ks v f) := by
  intro a d w h h0 h1
  have h' := h
  simp only [IsT] at h'
  obtain ⟨b, A1, c1, A2, c2, qs, rfl, g1, g2, g3, g4, g5, g6⟩ := h'
  have hB := (Below.refl w.heap.size w).alloc (Nat.le_refl _) (.cells #[.int .i64 d] 3)
  have hbx := alloc_blk w (.cells #[.int .i64 d] 3)
  have gw := (hB.block _ (blk_lt g1)).trans g1
  have HX := Aside0.mk (And.intro hB (And.intro hbx gw))
  have c0 := blk_cell gw 0
  have c1' := blk_cell gw 1
  have c2' := blk_cell gw 2
  have c3 := blk_cell gw 3
  have b0 := blk_cell hbx 0
  have G := Aside0.mk (And.intro g3 (And.intro g5 g6))
  have HK := Aside0.mk hk
  clear h g1 g2 g3 g4 g5 g6 gw hB hbx hk
  by_cases hd : d > 30
  · have HR := Aside0.mk (right_early (ps := ps) (ks := ks) (v := v) (f := f) (.inl hd))
    have hd' : (30 < d) = True := eq_true hd
    clear hd
    go_enter Try.func36, Try.ntmps36
    go_wp2_with fail
    go_ret
    exact ⟨by rw [HR.out]; rfl, HX.out.1⟩
  · have hd' : (30 < d) = False := eq_false hd
    by_cases hf : f = 0
    · have hf' : (f != 0) = false := by rw [hf]; rfl
      have HE := Aside0.mk (show ¬ (d > 30 ∨ (f ≠ 0 ∧ v ≠ 0)) from fun h => h.elim hd (fun h => h.1 hf))
      clear hf hd
      have hmax := Kd.C_max G.out.1
      have HRW := Aside0.mk (RW.mk HX.out.1 HX.out.2.1 HX.out.2.2)
      go_enter Try.func36, Try.ntmps36
      go_wp2_with fail
      clear HX
      go_loopw [5, 33] (fun v5 v33 wr => ∃ (i : Nat) (m : Int), v5 = .int .i64 m ∧ v33 = .int .i64 i ∧ i ≤ ps.length ∧ Aside0 (0 ≤ m ∧ m ≤ i) ∧ Aside0 (metP 0 ps = metP m (ps.drop i)) ∧ Aside0 (RW w d b #[.slice A1 ps.length c1, .slice A2 ks.length c2, .int .i64 v, .int .i64 f] wr)) (fun _ v33 _ => ps.length - (intOf v33).toNat)
      case atStart => exact ⟨0, 0, rfl, rfl, Nat.zero_le _, ⟨by omega⟩, ⟨rfl⟩, HRW⟩
      case round =>
        clear HRW
        obtain ⟨i, m, rfl, rfl, hi, HM, HP, HRW⟩ := hrel
        by_cases hlt : i < ps.length
        · obtain ⟨ad, rfl, hx0, hx1⟩ := at_Pc G.out.1 i (by omega) (by omega)
          replace hx0 := (HRW.out.below.cell (World.block_lt_of_cell? w _ hx0)).trans hx0
          replace hx1 := (HRW.out.below.cell (World.block_lt_of_cell? w _ hx1)).trans hx1
          simp only [Int.toNat_natCast] at hx0 hx1
          have hfi : rd_Pc ps (i : Int) = ps[i] := by simp [rd_Pc, hlt]
          rw [hfi] at hx0 hx1
          clear hfi
          generalize hfj : ps[i] = pi at hx0 hx1
          obtain ⟨p0, p1⟩ := pi
          have HK2 := Aside0.mk (HRW.out.keep ((Below.refl _ _).alloc (Nat.le_refl _) (.cells #[.bool p0, .int .i64 p1] 86)))
          have hm1 := HM.out.1
          have hm2 := HM.out.2
          cases p0 with
          | false =>
            have HP2 := Aside0.mk (metP_step hlt HP.out hfj (.inl ⟨rfl, rfl⟩))
            clear hfj
            go_wp2_with fail
            go_roundw
            case rel => exact ⟨i + 1, m, rfl, by go_num, by omega, ⟨by omega⟩, HP2, HK2⟩
            case measure => simp [intOf]; omega
          | true =>
            by_cases hpm : p1 = m
            · have HP2 := Aside0.mk (metP_step hlt HP.out hfj (.inr ⟨rfl, hpm, rfl⟩))
              have hpm' : (p1 != m) = false := by rw [hpm]; simp
              clear hfj hpm
              go_wp2_with fail
              go_roundw
              case rel => exact ⟨i + 1, m + 1, by go_num, by go_num, by omega, ⟨by omega⟩, HP2, HK2⟩
              case measure => simp [intOf]; omega
            · have HR := Aside0.mk (right_none (ks := ks) (v := v) (f := f) (d := d) (metP_stop hlt HP.out hfj rfl hpm))
              have hpm' : (p1 != m) = true := by simp [hpm]
              clear hfj hpm
              go_wp2_with fail
              go_ret
              exact ⟨by rw [HR.out]; rfl, HK2.out.below⟩
        · obtain rfl : i = ps.length := by omega
          clear hlt hi
          have hp : metP 0 ps = some m := by have := HP.out; rw [List.drop_length] at this; exact this
          have HS := Aside0.mk (right_some (ks := ks) HE.out hp)
          clear HP hp c0 c1' c2' c3 b0
          have c0 := blk_cell HRW.out.node 0
          have c1' := blk_cell HRW.out.node 1
          have c2' := blk_cell HRW.out.node 2
          have c3 := blk_cell HRW.out.node 3
          have hmf : ∀ (fn : Fn) (first cap : Array Value) (w : World), (Instr.makeFunc fn first cap).run Try.prog w = .ok (.func fn first cap) w := fun _ _ _ _ => rfl
          by_cases hm : m = (ks.length : Int)
          · have HR := Aside0.mk (HS.out.trans (if_pos hm))
            have hm' : (m == (ks.length : Int)) = true := by rw [hm]; simp
            clear hm
            go_wp2_with fail
            clear c0 c1' c2' c3
            refine (mcontains_any (some ⟨w.heap.size, 0, none⟩) (fun i => !rightT (ks.getD i .nil) (d + 1)) qs A2 c2 ks.length wr (IsTs.length G.out.2.2) (Kd.C_below G.out.2.1 HRW.out.below) (fun j hj w' hw' => ?_)).mono ?_
            · have hjk : j < ks.length := by rw [← IsTs.length G.out.2.2]; exact hj
              obtain ⟨hj2, hg⟩ := IsTs.get G.out.2.2 j hjk
              have hk := HRW.out.keep hw'
              have e : ks.getD j .nil = ks[j] := by simp [hjk]
              rw [e]
              exact mkid_any ks[j] (HK.out _ (List.getElem_mem hjk)) w.heap.size qs[j] d w' (IsT.keep _ hg hk.below) h0 (Int.not_lt.1 (fun h => HE.out (.inl h))) hk.box
            · rintro e w' ⟨rfl, hb⟩
              have HB2 := Aside0.mk (HRW.out.keep hb).below
              clear hb HRW
              go_wp2_with fail
              go_ret
              have ht := rightTs_any ks (d + 1)
              simp only [List.getD_eq_getElem?_getD] at ht
              refine ⟨?_, HB2.out⟩
              rw [HR.out]
              show Ending.returned (Value.bool (!(List.range ks.length).any fun i => !rightT (ks[i]?.getD Tr.nil) (d + 1))) = _
              rw [ht, Bool.not_not]
          · have HR := Aside0.mk (HS.out.trans (if_neg hm))
            have hm' : (m == (ks.length : Int)) = false := by simp [hm]
            clear hm
            go_wp2_with fail
            go_ret
            exact ⟨by rw [HR.out]; rfl, HRW.out.below⟩
    · have hf' : (f != 0) = true := by simp [hf]
      by_cases hv : v = 0
      · have hv' : (v != 0) = false := by rw [hv]; rfl
        have HE := Aside0.mk (show ¬ (d > 30 ∨ (f ≠ 0 ∧ v ≠ 0)) from fun h => h.elim hd (fun h => h.2 hv))
        clear hv hf hd
        have hmax := Kd.C_max G.out.1
        have HRW := Aside0.mk (RW.mk HX.out.1 HX.out.2.1 HX.out.2.2)
        go_enter Try.func36, Try.ntmps36
        go_wp2_with fail
        clear HX
        go_loopw [5, 33] (fun v5 v33 wr => ∃ (i : Nat) (m : Int), v5 = .int .i64 m ∧ v33 = .int .i64 i ∧ i ≤ ps.length ∧ Aside0 (0 ≤ m ∧ m ≤ i) ∧ Aside0 (metP 0 ps = metP m (ps.drop i)) ∧ Aside0 (RW w d b #[.slice A1 ps.length c1, .slice A2 ks.length c2, .int .i64 v, .int .i64 f] wr)) (fun _ v33 _ => ps.length - (intOf v33).toNat)
        case atStart => exact ⟨0, 0, rfl, rfl, Nat.zero_le _, ⟨by omega⟩, ⟨rfl⟩, HRW⟩
        case round =>
          clear HRW
          obtain ⟨i, m, rfl, rfl, hi, HM, HP, HRW⟩ := hrel
          by_cases hlt : i < ps.length
          · obtain ⟨ad, rfl, hx0, hx1⟩ := at_Pc G.out.1 i (by omega) (by omega)
            replace hx0 := (HRW.out.below.cell (World.block_lt_of_cell? w _ hx0)).trans hx0
            replace hx1 := (HRW.out.below.cell (World.block_lt_of_cell? w _ hx1)).trans hx1
            simp only [Int.toNat_natCast] at hx0 hx1
            have hfi : rd_Pc ps (i : Int) = ps[i] := by simp [rd_Pc, hlt]
            rw [hfi] at hx0 hx1
            clear hfi
            generalize hfj : ps[i] = pi at hx0 hx1
            obtain ⟨p0, p1⟩ := pi
            have HK2 := Aside0.mk (HRW.out.keep ((Below.refl _ _).alloc (Nat.le_refl _) (.cells #[.bool p0, .int .i64 p1] 86)))
            have hm1 := HM.out.1
            have hm2 := HM.out.2
            cases p0 with
            | false =>
              have HP2 := Aside0.mk (metP_step hlt HP.out hfj (.inl ⟨rfl, rfl⟩))
              clear hfj
              go_wp2_with fail
              go_roundw
              case rel => exact ⟨i + 1, m, rfl, by go_num, by omega, ⟨by omega⟩, HP2, HK2⟩
              case measure => simp [intOf]; omega
            | true =>
              by_cases hpm : p1 = m
              · have HP2 := Aside0.mk (metP_step hlt HP.out hfj (.inr ⟨rfl, hpm, rfl⟩))
                have hpm' : (p1 != m) = false := by rw [hpm]; simp
                clear hfj hpm
                go_wp2_with fail
                go_roundw
                case rel => exact ⟨i + 1, m + 1, by go_num, by go_num, by omega, ⟨by omega⟩, HP2, HK2⟩
                case measure => simp [intOf]; omega
              · have HR := Aside0.mk (right_none (ks := ks) (v := v) (f := f) (d := d) (metP_stop hlt HP.out hfj rfl hpm))
                have hpm' : (p1 != m) = true := by simp [hpm]
                clear hfj hpm
                go_wp2_with fail
                go_ret
                exact ⟨by rw [HR.out]; rfl, HK2.out.below⟩
          · obtain rfl : i = ps.length := by omega
            clear hlt hi
            have hp : metP 0 ps = some m := by have := HP.out; rw [List.drop_length] at this; exact this
            have HS := Aside0.mk (right_some (ks := ks) HE.out hp)
            clear HP hp c0 c1' c2' c3 b0
            have c0 := blk_cell HRW.out.node 0
            have c1' := blk_cell HRW.out.node 1
            have c2' := blk_cell HRW.out.node 2
            have c3 := blk_cell HRW.out.node 3
            have hmf : ∀ (fn : Fn) (first cap : Array Value) (w : World), (Instr.makeFunc fn first cap).run Try.prog w = .ok (.func fn first cap) w := fun _ _ _ _ => rfl
            by_cases hm : m = (ks.length : Int)
            · have HR := Aside0.mk (HS.out.trans (if_pos hm))
              have hm' : (m == (ks.length : Int)) = true := by rw [hm]; simp
              clear hm
              go_wp2_with fail
              clear c0 c1' c2' c3
              refine (mcontains_any (some ⟨w.heap.size, 0, none⟩) (fun i => !rightT (ks.getD i .nil) (d + 1)) qs A2 c2 ks.length wr (IsTs.length G.out.2.2) (Kd.C_below G.out.2.1 HRW.out.below) (fun j hj w' hw' => ?_)).mono ?_
              · have hjk : j < ks.length := by rw [← IsTs.length G.out.2.2]; exact hj
                obtain ⟨hj2, hg⟩ := IsTs.get G.out.2.2 j hjk
                have hk := HRW.out.keep hw'
                have e : ks.getD j .nil = ks[j] := by simp [hjk]
                rw [e]
                exact mkid_any ks[j] (HK.out _ (List.getElem_mem hjk)) w.heap.size qs[j] d w' (IsT.keep _ hg hk.below) h0 (Int.not_lt.1 (fun h => HE.out (.inl h))) hk.box
              · rintro e w' ⟨rfl, hb⟩
                have HB2 := Aside0.mk (HRW.out.keep hb).below
                clear hb HRW
                go_wp2_with fail
                go_ret
                have ht := rightTs_any ks (d + 1)
                simp only [List.getD_eq_getElem?_getD] at ht
                refine ⟨?_, HB2.out⟩
                rw [HR.out]
                show Ending.returned (Value.bool (!(List.range ks.length).any fun i => !rightT (ks[i]?.getD Tr.nil) (d + 1))) = _
                rw [ht, Bool.not_not]
            · have HR := Aside0.mk (HS.out.trans (if_neg hm))
              have hm' : (m == (ks.length : Int)) = false := by simp [hm]
              clear hm
              go_wp2_with fail
              go_ret
              exact ⟨by rw [HR.out]; rfl, HRW.out.below⟩
      · have hv' : (v != 0) = true := by simp [hv]
        have HR := Aside0.mk (right_early (ps := ps) (ks := ks) (d := d) (.inr ⟨hf, hv⟩))
        clear hv hf hd
        go_enter Try.func36, Try.ntmps36
        go_wp2_with fail
        go_ret
        exact ⟨by rw [HR.out]; rfl, HX.out.1⟩
mutual
theorem right_any : ∀ t : Tr, RightOk t
  | .nil => right_nil
  | .node ps ks v f => right_node ps ks v f (rights_any ks)
theorem rights_any : ∀ l : List Tr, ∀ k ∈ l, RightOk k
  | [], k, h => by cases h
  | x :: r, k, h => by
    rcases List.mem_cons.1 h with h | h
    · exact h ▸ right_any x
    · exact rights_any r k h
end
set_option maxRecDepth 100000 in
theorem Right_any (t : Tr) (a : Option Addr) (w : World) (h : IsT t w a) : Calls Try.prog 20 #[.pointer a] w fun e w' => e = .returned (.bool (rightT t 0)) ∧ Below w.heap.size w w' := by
  have HX := Aside0.mk (right_any t a 0 w h (by omega) (by omega))
  clear h
  go_enter Try.func20, Try.ntmps20
  go_wp2_with fail
  refine HX.out.mono ?_
  rintro e w' ⟨rfl, hb⟩
  have HB := Aside0.mk hb
  clear hb
  go_wp2_with fail
  go_ret
  exact ⟨rfl, HB.out⟩
end Go.Proofs.Ytbekjccehhaljaa.H

set_option linter.unusedVariables false
set_option linter.unusedSimpArgs false
namespace Go.Proofs.Ytbekjccehhaljaa.H
open Go.RowKit Go.Hay Go.Proofs.YtbekjccehhaljaaW.PrintWords Go.Proofs.YtbekjccehhaljaaW.PrintLast Go.Proofs.YtbekjccehhaljaaW.PrintMore
/-! ### what Merge's closures keep: the row in the result's cell -/
def IMerge (B : Nat) : Inv := fun told q S w => B < w.heap.size ∧ ∃ v, w.heap[B]? = some (.cells #[v] 23 (0, 0)) ∧ (Kd.int .i64).R 2 w (B + 1) (fun _ => True) v told ∧ S = fun k => k = B ∨ v.ownBlock = some k
theorem own_lt {w : World} {base e : Nat} {v : Value} {xs : List Int} {ok : Nat → Prop} (h : (Kd.int .i64).R e w base ok v xs) : ∀ k, v.ownBlock = some k → base ≤ k ∧ k < w.heap.size := by
  obtain ⟨_, inner, ⟨_, ho⟩, _⟩ := h
  intro k hk
  rcases ho with ⟨h1, h2⟩ | ⟨g, cap, cur, h1, h5, h6, _⟩
  · subst h1; cases hk
  · subst h1; cases hk; exact ⟨h5, blk_lt h6⟩
set_option maxRecDepth 100000 in
set_option maxHeartbeats 4000000 in
theorem tell25 (B : Nat) (told : List Int) (S : Nat → Prop) (w : World) (x : Int) (h : IMerge B told none S w) (hl : told.length ≤ 1000000000) :
    Calls Try.prog 33 (#[.int .i64 x] ++ #[.pointer (some ⟨B, 0, none⟩)]) w fun e w' => e = .returned (.tuple #[]) ∧ ∃ S', IMerge B (told ++ [x]) none S' w' ∧ Keep S w w' ∧ ∀ k, S' k → S k ∨ w.heap.size ≤ k := by
  obtain ⟨hB, v, h1, h2, rfl⟩ := h
  show Calls Try.prog 33 #[.int .i64 x, .pointer (some ⟨B, 0, none⟩)] w _
  obtain ⟨A, cc, rfl⟩ := Kd.R_slice h2
  obtain ⟨L, hL⟩ : ∃ L, L = told.length := ⟨_, rfl⟩
  rw [← hL] at h1 h2 ⊢
  have c := blk_cell h1 0
  have H := Aside0.mk (And.intro hB (And.intro h1 h2))
  have HL := Aside0.mk hL
  have hq := blk_alloc h1 (.cells #[.int .i64 x] 2)
  have cq := blk_cell hq 0
  clear h1 h2 hB hq hL
  go_enter Try.func33, Try.ntmps33
  go_wp2_with (first | ((with_reducible refine gate_builtin (b := .append) (xs := #[.tmp 3, .tmp 5]) rfl ?_); refine Kd.R_append_rows (Kd.int .i64) (w0 := w) (B + 1) rfl (.tmp 3) (.tmp 5) 23 2 (.int .i64 0) 8 rfl Try.underlying23 infoC2 rfl (by decide) (by omega) _ told [x] _ _ _ (fun _ => True) (fun _ => False) rfl rfl ?aO ?aR (fun _ _ h => h) (fun _ h => h.elim) ?aF ?aB ?aS ?aL ?_))
  case aO => exact Kd.R_alloc H.out.2.2 _
  case aR => exact reads_nums [x] (alloc_blk _ _) (by simp)
  case aF => exact fun _ _ => trivial
  case aB => exact (Below.refl _ _).alloc (by have := H.out.1; omega) _
  case aS => have := H.out.1; simp; omega
  case aL => omega
  intro v1 w1 hR hb1 hg1 hat1
  obtain ⟨A1, cc1, hv1⟩ := Kd.R_slice hR
  obtain ⟨L1, hL1⟩ : ∃ n, n = (told ++ [x]).length := ⟨_, rfl⟩
  rw [← hL1] at hv1
  subst hv1
  have HL1 := Aside0.mk hL1
  clear hL1
  have hBw := H.out.1
  have h3 := (hb1.block B (by omega)).trans H.out.2.1
  have c := blk_cell h3 0
  have f := blk_frozen h3 0
  have hg : Keep (fun k => k = B ∨ (Value.slice A L cc).ownBlock = some k) w w1 := by
    have h1 : Keep (fun k => k = B ∨ (Value.slice A L cc).ownBlock = some k) w (w.alloc (.cells #[.int .i64 x] 2)) := (Keep.refl _ _).alloc _
    exact h1.then (Keep.grown hg1) (fun i _ hi => .inr hi.symm)
  have GS := Aside0.mk (And.intro hR (And.intro h3 (And.intro hg hat1)))
  have hsz := hb1.size
  clear hR hb1 hg1 hat1 h3 hg cq
  go_wp2_with fail
  go_end0
  obtain ⟨hR, h3, hg, hat⟩ := GS.out
  refine ⟨rfl, fun k => k = B ∨ (Value.slice A1 L1 cc1).ownBlock = some k, ⟨by simpa [World.setCell] using Nat.lt_of_lt_of_le hBw hsz, _, blk_set h3 0 _, ?_, rfl⟩, hg.set (p := ⟨B, 0, none⟩) (.inr (.inl rfl)) _, ?_⟩
  · refine Kd.R_keep hR (Keep.set (S := fun k => k = B) (p := ⟨B, 0, none⟩) (Keep.refl _ _) (.inr rfl) _) (fun k _ hb _ e => by omega)
  · intro k hk
    rcases hk with rfl | hk
    · exact .inl (.inl rfl)
    · rcases hat with h | ⟨b, h, hb⟩
      · exact .inl (.inr (by rw [← h]; exact hk))
      · rw [h] at hk; cases hk; exact .inr (by omega)
theorem tellerM (B : Nat) : Teller 33 34 #[.pointer (some ⟨B, 0, none⟩)] #[] B (IMerge B) where
  size := by
    rintro told S w ⟨hB, v, h1, h2, rfl⟩
    refine ⟨Nat.le_of_lt hB, fun k hk => ?_⟩
    rcases hk with rfl | hk
    · exact ⟨Nat.le_refl _, hB⟩
    · have := own_lt h2 k hk; exact ⟨by omega, this.2⟩
  keep := by
    rintro told q S w w' ⟨hB, v, h1, h2, rfl⟩ hb
    exact ⟨Nat.lt_of_lt_of_le hB hb.size, v, (hb.block _ (blk_lt h1)).trans h1, Kd.R_keep h2 (Keep.of_below hb (fun _ => False)) (fun _ _ _ _ h => h), rfl⟩
  tell := fun x h hl => tell25 B _ _ _ x h hl
  fails := by
    intro told S w A c path h hp hS
    show Calls Try.prog 34 #[.slice A path.length c] w _
    have H := Aside0.mk h
    clear h hp hS
    go_enter Try.func34, Try.ntmps34
    go_wp2_with fail
    go_end0
    exact ⟨rfl, S, H.out, Keep.refl _ _⟩
end Go.Proofs.Ytbekjccehhaljaa.H

set_option linter.unusedVariables false
set_option linter.unusedSimpArgs false
namespace Go.Proofs.Ytbekjccehhaljaa.H
open Go.RowKit Go.Hay Go.Proofs.YtbekjccehhaljaaW.PrintWords Go.Proofs.YtbekjccehhaljaaW.PrintLast Go.Proofs.YtbekjccehhaljaaW.PrintMore
def valT : Tr → Int
  | .nil => 0
  | .node _ _ v _ => v
def mergeP (t : Tr) : List Int × Int × Int × Int := if rightT t 0 = true then ((walkT t []).1, if (walkT t []).2.1 = 0 then valT t else 0, (walkT t []).2.1, 0) else ([], 0, 0, 4)
theorem path_nil (w : World) : PathIs w none 0 [] := ⟨Kd.C_nil _ _, .inl ⟨rfl, rfl, rfl⟩, fun ad e => by cases e⟩
set_option maxRecDepth 100000 in
set_option maxHeartbeats 4000000 in
theorem Merge_any (t : Tr) (a : Option Addr) (w : World) (h : IsT t w a) (hl : rightT t 0 = true → (walkT t []).1.length ≤ 1000000000) :
    Calls Try.prog 18 #[.pointer a] w fun e w' => ∃ v, e = .returned (.tuple #[v, .int .i64 (mergeP t).2.1, .int .i64 (mergeP t).2.2.1, .int .i64 (mergeP t).2.2.2]) ∧ (Kd.int .i64).R 2 w' w.heap.size (fun _ => True) v (mergeP t).1 ∧ Below w.heap.size w w' := by
  have hB := (Below.refl w.heap.size w).alloc (Nat.le_refl _) (.cells #[.slice none 0 0] 23)
  have hx := alloc_blk w (.cells #[.slice none 0 0] 23)
  have hmf : ∀ (fn : Fn) (first cap : Array Value) (w : World), (Instr.makeFunc fn first cap).run Try.prog w = .ok (.func fn first cap) w := fun _ _ _ _ => rfl
  have HR := Aside0.mk (Right_any t a _ (h.keep t hB))
  have H := Aside0.mk (And.intro h (And.intro hB hx))
  have HL := Aside0.mk hl
  clear h hB hx hl
  go_enter Try.func18, Try.ntmps18
  go_wp2_with fail
  refine HR.out.mono ?_
  rintro e w1 ⟨rfl, hb⟩
  have hB1 := H.out.2.1.trans (hb.mono H.out.2.1.size)
  have hx1 := (hb.block _ (blk_lt H.out.2.2)).trans H.out.2.2
  have ht := H.out.1
  clear H HR hb
  cases hr : rightT t 0 with
  | false =>
    have c := blk_cell hx1 0
    have f := blk_frozen hx1 0
    have H := Aside0.mk (And.intro hB1 (And.intro hx1 (show mergeP t = ([], 0, 0, 4) by unfold mergeP; rw [if_neg (by rw [hr]; simp)])))
    clear hB1 hx1 ht hr
    go_wp2_with fail
    have e := blk_set H.out.2.1 0 (.slice none 0 0)
    have q := blk_cell e 0
    refine bodyPost_ret (v := .tuple #[.slice none 0 0, .int .i64 0, .int .i64 0, .int .i64 4]) (by simp [results, Try.results18, go_sem, q]) rfl ⟨_, by rw [H.out.2.2], by rw [H.out.2.2]; exact Kd.R_nil _ _ _ _ _, Below.setCell (p := ⟨w.heap.size, 0, none⟩) H.out.1 (Nat.le_refl _) _⟩
  | true =>
    cases t with
    | nil => cases hr
    | node ps ks v f =>
    have h' := ht
    simp only [IsT] at h'
    obtain ⟨b, A1, c1, A2, c2, qs, rfl, g1, -⟩ := h'
    have HG := Aside0.mk g1
    have hM : mergeP (.node ps ks v f) = ((walkT (.node ps ks v f) []).1, if (walkT (.node ps ks v f) []).2.1 = 0 then v else 0, (walkT (.node ps ks v f) []).2.1, 0) := by unfold mergeP; rw [if_pos hr]; rfl
    have hI : IMerge w.heap.size [] none (fun k => k = w.heap.size ∨ (Value.slice none 0 0).ownBlock = some k) w1 := ⟨blk_lt hx1, _, hx1, Kd.R_nil _ _ _ _ _, rfl⟩
    have hcall := walk33_any w.heap.size w (IMerge w.heap.size) (tellerM _) (.node ps ks v f) _ none 0 [] [] _ w1 0 ht hB1 (path_nil _) (fun ad e => by cases e) hI hr (by omega) (by simp) (by simpa using HL.out hr)
    have hS : ∀ k, (k = w.heap.size ∨ (Value.slice none 0 0).ownBlock = some k) → w.heap.size ≤ k := fun k hk => hk.elim (fun e => by omega) (fun e => by cases e)
    obtain ⟨r, hrr⟩ : ∃ r, r = walkT (.node ps ks v f) [] := ⟨_, rfl⟩
    rw [← hrr] at hcall hM
    have HCALL := Aside0.mk hcall
    have H := Aside0.mk (And.intro hB1 (And.intro hM hS))
    clear hB1 hx1 ht hr g1 hM hI hcall hS hrr HL
    go_wp2_with fail
    refine HCALL.out.mono ?_
    rintro e w2 ⟨rfl, S', hI, hk, -⟩
    have hB2 := H.out.1.trans (hk.below H.out.1.size (fun k hkk hs => by have := H.out.2.2 k hs; omega))
    obtain ⟨-, vt, k1, k2, -⟩ := hI
    have gw := (hB2.block _ (blk_lt HG.out)).trans HG.out
    obtain ⟨At, ct, hv⟩ := Kd.R_slice k2
    obtain ⟨L, hL⟩ : ∃ n, n = ([] ++ r.1).length := ⟨_, rfl⟩
    rw [← hL] at hv
    subst hv
    have c := blk_cell k1 0
    have fz := blk_frozen k1 0
    have n2 := blk_cell gw 2
    have HM := H.out.2.1
    clear hL H HCALL hk
    have HE := Aside0.mk (And.intro hB2 (And.intro k1 (And.intro k2 HM)))
    have e := blk_set k1 0 (.slice At L ct)
    have q := blk_cell e 0
    have HQ := Aside0.mk q
    clear hB2 k1 k2 HM gw e q
    by_cases hz : r.2.1 = 0
    · have hz' : (r.2.1 == 0) = true := by rw [hz]; rfl
      have HZ := Aside0.mk hz
      clear hz
      go_wp2_with fail
      obtain ⟨hB2, k1, k2, hM⟩ := HE.out
      have q := HQ.out
      refine bodyPost_ret (v := .tuple #[.slice At L ct, .int .i64 v, .int .i64 r.2.1, .int .i64 0]) (by simp [results, Try.results18, go_sem, q]) rfl ⟨.slice At L ct, by rw [hM]; simp [HZ.out], ?_, Below.setCell (p := ⟨w.heap.size, 0, none⟩) hB2 (Nat.le_refl _) _⟩
      rw [hM]
      rw [List.nil_append] at k2
      exact Kd.R_lower (Kd.R_keep k2 (Keep.set (S := fun k => k = w.heap.size) (p := ⟨w.heap.size, 0, none⟩) (Keep.refl _ _) (.inr rfl) _) (fun k _ hb _ e => by omega)) (by omega)
    · have hz' : (r.2.1 == 0) = false := by simp [hz]
      have HZ := Aside0.mk hz
      clear hz
      go_wp2_with fail
      obtain ⟨hB2, k1, k2, hM⟩ := HE.out
      have q := HQ.out
      refine bodyPost_ret (v := .tuple #[.slice At L ct, .int .i64 0, .int .i64 r.2.1, .int .i64 0]) (by simp [results, Try.results18, go_sem, q]) rfl ⟨.slice At L ct, by rw [hM]; simp [HZ.out], ?_, Below.setCell (p := ⟨w.heap.size, 0, none⟩) hB2 (Nat.le_refl _) _⟩
      rw [hM]
      rw [List.nil_append] at k2
      exact Kd.R_lower (Kd.R_keep k2 (Keep.set (S := fun k => k = w.heap.size) (p := ⟨w.heap.size, 0, none⟩) (Keep.refl _ _) (.inr rfl) _) (fun k _ hb _ e => by omega)) (by omega)

end Go.Proofs.Ytbekjccehhaljaa.H

set_option linter.unusedVariables false
set_option linter.unusedSimpArgs false
namespace Go.Proofs.Ytbekjccehhaljaa.H
open Go.RowKit Go.Hay Go.Proofs.YtbekjccehhaljaaW.PrintWords Go.Proofs.YtbekjccehhaljaaW.PrintLast Go.Proofs.YtbekjccehhaljaaW.PrintMore
theorem flatMap_piece {β : Type} {s : Nat} (f : β → List Value) : ∀ (ps : List β) (hf : ∀ p ∈ ps, (f p).length = s) (j : Nat) (h : j < ps.length), ((ps.flatMap f).drop (j * s)).take s = f ps[j]
  | p :: ps, hf, 0, _ => by
    rw [Nat.zero_mul, List.drop_zero, List.flatMap_cons]
    have := hf p (List.mem_cons_self ..)
    rw [← this, List.take_left]
    rfl
  | p :: ps, hf, j + 1, h => by
    have h1 := hf p (List.mem_cons_self ..)
    rw [List.flatMap_cons, show (j + 1) * s = (f p).length + j * s by rw [h1, Nat.succ_mul, Nat.add_comm], List.drop_length_add_append]
    exact flatMap_piece f ps (fun q hq => hf q (List.mem_cons_of_mem _ hq)) j (by simpa using h)
theorem reads_flat {α β : Type} {R : α → List Value → Prop} {s : Nat} {W : World} {b : Nat} {t : TypeId} {fr : Nat × Nat} (g : β → α) (f : β → List Value) (ps : List β) (hf : ∀ p ∈ ps, (f p).length = s) (hR : ∀ p ∈ ps, R (g p) (f p)) (h : W.heap[b]? = some (.cells (ps.flatMap f).toArray t fr)) (hm : ps.length ≤ 9223372036854775807) : ReadsRow R s W (some ⟨b, 0, none⟩) ps.length (ps.map g) := by
  have e : ps.length = (ps.map g).length := (List.length_map ..).symm
  rw [e]
  refine reads_cells h ⟨?_, fun j p hj => ?_⟩ (by rw [← e]; exact hm)
  · have e2 : (ps.flatMap f).length = ps.length * s := by
      clear h hm hR e
      induction ps with
      | nil => simp
      | cons p ps ih => rw [List.flatMap_cons, List.length_append, hf p (List.mem_cons_self ..), ih (fun q hq => hf q (List.mem_cons_of_mem _ hq)), List.length_cons, Nat.succ_mul, Nat.add_comm]
    rw [← e]
    exact e2
  · have hlt : j < ps.length := by have := (List.getElem?_eq_some_iff.1 hj).1; simpa using this
    rw [List.getElem?_map, List.getElem?_eq_getElem hlt] at hj
    have hj : g ps[j] = p := Option.some.inj hj
    show R p (((ps.flatMap f).toArray.toList.drop (j * s)).take s)
    rw [← hj]
    have := flatMap_piece f ps hf j hlt
    rw [show (ps.flatMap f).toArray.toList = ps.flatMap f from rfl, this]
    exact hR _ (List.getElem_mem _)
def icells (x : S61) : List Value := [.int .i64 x.f0, .int .i64 x.f1, .int .i64 x.f2, .int .i64 x.f3, .int .i64 x.f4]
theorem code_C {w : World} {b : Nat} {t : TypeId} {fr : Nat × Nat} (code : List S61) (h : w.heap[b]? = some (.cells (code.flatMap icells).toArray t fr)) (hm : code.length ≤ 9223372036854775807) : k61.C w (some ⟨b, 0, none⟩) code.length code := by
  have := reads_flat (R := k61.K w) (s := 5) id icells code (fun _ _ => rfl) (fun x _ => k61_mk w x) h hm
  rwa [List.map_id] at this
def fcells (p : S64 × Option Addr × Nat) : List Value := [.int .i64 p.1.f0, .slice p.2.1 p.1.f1.length p.2.2]
theorem prog_C {w : World} {b : Nat} {t : TypeId} {fr : Nat × Nat} (ps : List (S64 × Option Addr × Nat)) (h : w.heap[b]? = some (.cells (ps.flatMap fcells).toArray t fr)) (hm : ps.length ≤ 9223372036854775807) (hc : ∀ p ∈ ps, k61.C w p.2.1 p.1.f1.length p.1.f1 ∧ p.1.f1.length ≤ p.2.2) : k64.C w (some ⟨b, 0, none⟩) ps.length (ps.map fun p => p.1) :=
  reads_flat (R := k64.K w) (s := 2) (fun p : S64 × Option Addr × Nat => p.1) fcells ps (fun _ _ => rfl) (fun p hp => k64_mk w p.1 (hc p hp).2 (hc p hp).1) h hm
end Go.Proofs.Ytbekjccehhaljaa.H

set_option linter.unusedVariables false
set_option linter.unusedSimpArgs false
namespace Go.Proofs.Ytbekjccehhaljaa.H
open Go.RowKit Go.Hay Go.Proofs.YtbekjccehhaljaaW.PrintWords Go.Proofs.YtbekjccehhaljaaW.PrintLast Go.Proofs.YtbekjccehhaljaaW.PrintMore
end Go.Proofs.Ytbekjccehhaljaa.H

set_option linter.unusedVariables false
set_option linter.unusedSimpArgs false
namespace Go.Proofs.Ytbekjccehhaljaa.H
open Go.RowKit Go.Hay Go.Proofs.YtbekjccehhaljaaW.PrintWords Go.Proofs.YtbekjccehhaljaaW.PrintLast Go.Proofs.YtbekjccehhaljaaW.PrintMore
/-- a program of two functions, the first one's code given. -/
theorem prog2F (w : World) (f1 f2 : S64) (A9 : Option Addr) (c9 : Nat) (h1 : k61.C w A9 f1.f1.length f1.f1) (hc9 : f1.f1.length ≤ c9) (hf2 : f2.f1.length ≤ 1000) {W : World}
    (hW : W = (w.alloc (.cells (f2.f1.flatMap icells).toArray 61)).alloc (.cells (([(f1, A9, c9), (f2, some ⟨w.heap.size, 0, none⟩, f2.f1.length)] : List (S64 × Option Addr × Nat)).flatMap fcells).toArray 64)) :
    Below w.heap.size w W ∧ k64.C W (some ⟨w.heap.size + 1, 0, none⟩) 2 [f1, f2] := by
  obtain ⟨Wa, hWa⟩ : ∃ Wa, Wa = w.alloc (.cells (f2.f1.flatMap icells).toArray 61) := ⟨_, rfl⟩
  rw [← hWa] at hW
  have e1 : Wa.heap.size = w.heap.size + 1 := by rw [hWa]; exact Array.size_push _
  have ba : Below w.heap.size w Wa := by rw [hWa]; exact (Below.refl _ _).alloc (Nat.le_refl _) _
  have bd : Below w.heap.size w W := by rw [hW]; exact ba.alloc ba.size _
  have g2 : W.heap[w.heap.size]? = some (.cells (f2.f1.flatMap icells).toArray 61 (0, 0)) := by
    rw [hW]; refine blk_alloc ?_ _; rw [hWa]; exact alloc_blk w _
  have g4 : W.heap[w.heap.size + 1]? = some (.cells (([(f1, A9, c9), (f2, some ⟨w.heap.size, 0, none⟩, f2.f1.length)] : List (S64 × Option Addr × Nat)).flatMap fcells).toArray 64 (0, 0)) := by
    rw [hW, ← e1]; exact alloc_blk Wa _
  refine ⟨bd, prog_C _ g4 (by simp) (fun p hp => ?_)⟩
  simp only [List.mem_cons, List.not_mem_nil, or_false] at hp
  rcases hp with rfl | rfl
  · exact ⟨Kd.C_below h1 bd, hc9⟩
  · exact ⟨code_C _ g2 (by show f2.f1.length ≤ _; omega), Nat.le_refl _⟩
/-- both newly written. -/
theorem prog2N (w : World) (f1 f2 : S64) (hf1 : f1.f1.length ≤ 1000) (hf2 : f2.f1.length ≤ 1000) {W : World}
    (hW : W = ((w.alloc (.cells (f1.f1.flatMap icells).toArray 61)).alloc (.cells (f2.f1.flatMap icells).toArray 61)).alloc (.cells (([(f1, some ⟨w.heap.size, 0, none⟩, f1.f1.length), (f2, some ⟨w.heap.size + 1, 0, none⟩, f2.f1.length)] : List (S64 × Option Addr × Nat)).flatMap fcells).toArray 64)) :
    Below w.heap.size w W ∧ k64.C W (some ⟨w.heap.size + 1 + 1, 0, none⟩) 2 [f1, f2] ∧ W.heap.size = w.heap.size + 1 + 1 + 1 := by
  obtain ⟨Wa, hWa⟩ : ∃ Wa, Wa = w.alloc (.cells (f1.f1.flatMap icells).toArray 61) := ⟨_, rfl⟩
  rw [← hWa] at hW
  have e1 : Wa.heap.size = w.heap.size + 1 := by rw [hWa]; exact Array.size_push _
  have ba : Below w.heap.size w Wa := by rw [hWa]; exact (Below.refl _ _).alloc (Nat.le_refl _) _
  have g1 : Wa.heap[w.heap.size]? = some (.cells (f1.f1.flatMap icells).toArray 61 (0, 0)) := by rw [hWa]; exact alloc_blk w _
  have e3 : W.heap.size = Wa.heap.size + 1 + 1 := by rw [hW]; exact (Array.size_push _).trans (congrArg (· + 1) (Array.size_push _))
  rw [← e1] at hW
  obtain ⟨hb, hC⟩ := prog2F Wa f1 f2 (some ⟨w.heap.size, 0, none⟩) f1.f1.length (code_C _ g1 (by omega)) (Nat.le_refl _) hf2 hW
  exact ⟨ba.trans (hb.mono ba.size), by rw [← e1]; exact hC, by rw [e3, e1]⟩
theorem lt_true {i k : Nat} (h : i < k) : ((i : Int) < (k : Nat)) = True := eq_true (by omega)
theorem up_lt {k i : Nat} (h : i < k) : k - (intOf (.int .i64 ((i : Int) + 1))).toNat < k - (intOf (.int .i64 (i : Int))).toNat := by simp [intOf]; omega
end Go.Proofs.Ytbekjccehhaljaa.H

set_option linter.unusedVariables false
set_option linter.unusedSimpArgs false
namespace Go.Proofs.Ytbekjccehhaljaa.H
open Go.RowKit Go.Hay Go.Proofs.YtbekjccehhaljaaW.PrintWords Go.Proofs.YtbekjccehhaljaaW.PrintLast Go.Proofs.YtbekjccehhaljaaW.PrintMore
set_option maxRecDepth 100000 in
theorem pnode_eq (a : Addr) (w : World) : (binOp .eql 28 (.pointer (some a)) (.pointer none)).run Try.prog w = .ok (.bool false) w := rfl
def exU : List S64 := [⟨0, [⟨11, 0, 0, 1, 0⟩, ⟨15, 0, 0, 0, 0⟩, ⟨17, 0, 0, 0, 0⟩]⟩, ⟨0, [⟨6, 0, 0, 0, 0⟩, ⟨17, 0, 0, 0, 0⟩]⟩]
def exUT : Tr := .node [⟨true, 0⟩, ⟨false, 0⟩] [.node [] [] 0 1] 0 5
def exUG : Gu := ⟨95, [([0], 1), ([], 3)], 2, 0, 1, 4⟩
theorem calls_eq {P : Program} {f : FuncId} {args : Array Value} {w w1 : World} {Q : Ending → World → Prop} (h : Calls P f args w1 Q) (e : w = w1) : Calls P f args w Q := e ▸ h
theorem exU_ends : unfoldR exU [] 9 1 99 = .ok exUT exUG := by kernel_rfl
theorem exU_merge : mergeP exUT = ([], 0, 1, 0) := by kernel_rfl
set_option maxRecDepth 100000 in
set_option maxHeartbeats 8000000 in
theorem awake_any (w : World) : Calls Try.prog 13 #[] w fun e w' => e = .returned (.bool true) ∧ Below w.heap.size w w' := by
  have hpe := pnode_eq
  obtain ⟨W, hW⟩ : ∃ W, W = ((w.alloc (.cells (([⟨11, 0, 0, 1, 0⟩, ⟨15, 0, 0, 0, 0⟩, ⟨17, 0, 0, 0, 0⟩] : List S61).flatMap icells).toArray 61)).alloc (.cells (([⟨6, 0, 0, 0, 0⟩, ⟨17, 0, 0, 0, 0⟩] : List S61).flatMap icells).toArray 61)).alloc (.cells (([(⟨0, [⟨11, 0, 0, 1, 0⟩, ⟨15, 0, 0, 0, 0⟩, ⟨17, 0, 0, 0, 0⟩]⟩, some ⟨w.heap.size, 0, none⟩, 3), (⟨0, [⟨6, 0, 0, 0, 0⟩, ⟨17, 0, 0, 0, 0⟩]⟩, some ⟨w.heap.size + 1, 0, none⟩, 2)] : List (S64 × Option Addr × Nat)).flatMap fcells).toArray 64) := ⟨_, rfl⟩
  obtain ⟨hb1, hP, hsz⟩ := prog2N w ⟨0, [⟨11, 0, 0, 1, 0⟩, ⟨15, 0, 0, 0, 0⟩, ⟨17, 0, 0, 0, 0⟩]⟩ ⟨0, [⟨6, 0, 0, 0, 0⟩, ⟨17, 0, 0, 0, 0⟩]⟩ (by decide) (by decide) hW
  have hcall := Unfold_any (A := some ⟨w.heap.size + 1 + 1, 0, none⟩) (c := 2) (Aa := none) (ca := 0) (l := exU) (args := []) (b := 9) (d := 1) (most := 99) hP (Nat.le_refl _) (Kd.C_nil _ _) (Nat.le_refl _) (by decide)
  rw [show unfoldR exU [] 9 1 (99 : Int).toNat = .ok exUT exUG from exU_ends] at hcall
  have HC := Aside0.mk hcall
  have HW := Aside0.mk (And.intro hW hb1)
  clear hW hb1 hP hsz hcall
  go_enter Try.func13, Try.ntmps13
  go_wp2_with fail
  refine (calls_eq HC.out (by rw [HW.out.1]; rfl)).mono ?_
  rintro e w3 ⟨hb3, a, Al, L, c, rfl, hT, hL, -, -, -⟩
  have hT' := hT
  simp only [exUT, IsT] at hT'
  obtain ⟨b, A1, c1, A2, c2, qs, rfl, hn, -⟩ := hT'
  obtain ⟨ln, hln⟩ : ∃ ln, ln = L.length := ⟨_, rfl⟩
  unfold treeV
  rw [← hln]
  dsimp only [exUG]
  obtain ⟨W4, hW4⟩ : ∃ W4, W4 = w3.alloc (.cells #[.pointer (some ⟨b, 0, none⟩), .slice Al ln c, .int .i64 2, .int .i64 0, .int .i64 1, .int .i64 4] 33) := ⟨_, rfl⟩
  have hb4 : Below w3.heap.size w3 W4 := by rw [hW4]; exact (Below.refl w3.heap.size w3).alloc (Nat.le_refl _) _
  have hx4 : W4.heap[w3.heap.size]? = some (.cells #[.pointer (some ⟨b, 0, none⟩), .slice Al ln c, .int .i64 2, .int .i64 0, .int .i64 1, .int .i64 4] 33 (0, 0)) := by rw [hW4]; exact alloc_blk w3 _
  have HB := Aside0.mk ((HW.out.2.trans (hb3.mono HW.out.2.size)).trans (hb4.mono (HW.out.2.trans (hb3.mono HW.out.2.size)).size))
  have hn4 := (hb4.block _ (blk_lt hn)).trans hn
  have HT4 := Aside0.mk (hT.keep _ hb4)
  have HX := Aside0.mk (And.intro hx4 hn4)
  have HW4 := Aside0.mk hW4
  have x0 := blk_cell hx4 0
  clear hb3 hT hn hln hW4 hx4 hn4 hb4 HC
  go_upto_region 2 with (fail)
  rw [← HW4.out]
  go_wp2_with fail
  refine (Merge_any exUT _ W4 HT4.out (fun _ => by decide)).mono ?_
  rintro e w5 ⟨v, rfl, hR, hb5⟩
  rw [exU_merge] at hR ⊢
  obtain ⟨At, ct, rfl⟩ := Kd.R_slice hR
  have hx5 := (hb5.block _ (blk_lt HX.out.1)).trans HX.out.1
  have hn5 := (hb5.block _ (blk_lt HX.out.2)).trans HX.out.2
  have x0 := blk_cell hx5 0
  have x2 := blk_cell hx5 2
  have n3 := blk_cell hn5 3
  have HB5 := Aside0.mk (HB.out.trans (hb5.mono HB.out.size))
  clear hR hb5 hx5 hn5
  go_wp2_with fail
  go_ret
  exact ⟨rfl, HB5.out⟩
end Go.Proofs.Ytbekjccehhaljaa.H

-- made by this session's gen.py over the kit's print.py; not trusted: Lean checks it
namespace Go.Proofs.Ytbekjccehhaljaa.H
open Go.RowKit Go.Proofs.YtbekjccehhaljaaW.PrintWords Go.Proofs.YtbekjccehhaljaaW.PrintLast Go.Proofs.YtbekjccehhaljaaW.PrintMore
attribute [local go_sem] max2_int min2_int max_two min_two max_three min_three max_four min_four   -- for this text's walks alone
set_option linter.unusedVariables false
set_option linter.unusedSimpArgs false

/-! ### haymowlaw08_light: function 9 -/
def haymowlaw08_light.l0 : Nat → List (S83) → Int → Option (Bool)
  | 0, _, _ => none
  | k + 1, x0, x3 => if x3 < (x0.length : Int) then (if 0 ≤ x3 then (if (((rd_T83 x0 x3).f1).length : Int) > 70 then (some false) else (haymowlaw08_light.l0 k x0 (wrap64 (x3 + 1)))) else (none)) else (some true)
def haymowlaw08_light.f (k : Nat) (l0 : List (S83)) : Option (Bool) := if (l0.length : Int) > 20 then (some false) else (haymowlaw08_light.l0 k l0 0)
theorem haymowlaw08_light.mono_l : ∀ k, (∀ y0 y1, LeO (haymowlaw08_light.l0 k y0 y1) (haymowlaw08_light.l0 (k + 1) y0 y1))
  | 0 => fun _ _ r h => by simp [haymowlaw08_light.l0] at h
  | k + 1 => by
    have ih0 := haymowlaw08_light.mono_l k
    · intro y0 y1
      unfold haymowlaw08_light.l0
      repeat' first
      | (with_reducible exact ih0 _ _)
      | (with_reducible exact LeO.refl _)
      | (with_reducible exact LeO.none _)
      | (with_reducible refine LeO.ite ?_ ?_)
      | (with_reducible refine LeO.bind ?_ (fun _ => ?_))
      | exact ih0 _ _
      | exact LeO.none _
      | refine LeO.ite ?_ ?_
      | refine LeO.bind ?_ (fun _ => ?_)
theorem haymowlaw08_light.mono : ∀ a0 k, LeO (haymowlaw08_light.f k a0) (haymowlaw08_light.f (k + 1) a0) := by
  intro a0 k
  have ih0 := haymowlaw08_light.mono_l k
  unfold haymowlaw08_light.f
  repeat' first
      | (with_reducible exact ih0 _ _)
      | (with_reducible exact LeO.refl _)
      | (with_reducible exact LeO.none _)
      | (with_reducible refine LeO.ite ?_ ?_)
      | (with_reducible refine LeO.bind ?_ (fun _ => ?_))
      | exact ih0 _ _
      | exact LeO.none _
      | refine LeO.ite ?_ ?_
      | refine LeO.bind ?_ (fun _ => ?_)
set_option maxHeartbeats 8000000 in
set_option maxRecDepth 100000 in
theorem haymowlaw08_light.calls (k : Nat) (A0 : Option Addr) (c0 : Nat) (l0 : List (S83)) (r : Bool) (w : World) (hr0 : Kd.C k83 w A0 l0.length l0) (hc0 : l0.length ≤ c0) (h : haymowlaw08_light.f k l0 = some r) :
    Calls Try.prog 9 #[.slice A0 l0.length c0] w fun e w' => e = .returned (.bool r) ∧ Drawn0 w w' := by
  have HR0 := Aside0.mk hr0
  have HC0 := Aside0.mk hc0
  clear hr0 hc0
  have H : (if (l0.length : Int) > 20 then (some false) else (haymowlaw08_light.l0 k l0 0)) = some r := h
  clear h
  by_cases c2 : (l0.length : Int) > 20
  · rw [if_pos c2] at H
    have c2b0 : decide (20 < (l0.length : Int)) = true := decide_eq_true c2
    have c2b1 : decide (20 < l0.length) = true := decide_eq_true (by omega)
    clear c2
    obtain rfl := Option.some.inj H
    go_enter Try.func9, Try.ntmps9
    go_wp2
    go_ret
    exact ⟨by first | rfl | (simp; done) | (simp [*]; done), by repeat (first | exact Drawn0.refl _ | apply Drawn0.step)⟩
  · rw [if_neg c2] at H
    have c2b0 : decide (20 < (l0.length : Int)) = false := decide_eq_false c2
    have c2b1 : decide (20 < l0.length) = false := decide_eq_false (by omega)
    clear c2
    have H' := Aside0.mk H
    clear H
    go_enter Try.func9, Try.ntmps9
    go_wp2
    go_loopg [3] k (fun kq v3 w' => ∃ (x3_1 : Int), v3 = .int .i64 x3_1 ∧ Aside0 (haymowlaw08_light.l0 kq l0 x3_1 = some r) ∧ Aside0 (kq ≤ k) ∧ Drawn0 w w')
    case atStart => exact ⟨(0), (by first | rfl | (simp; done) | (simp [*]; done)), H', ⟨Nat.le_refl _⟩, by repeat (first | exact Drawn0.refl _ | apply Drawn0.step)⟩
    case round =>
      clear H'
      try clear c2
      try clear c2b0
      try clear c2b1
      try clear p2
      obtain ⟨x3_1, rfl, HA, HK1, ⟨m1, rfl⟩⟩ := hrel
      cases gk with
      | zero => exact absurd HA.out (by simp [haymowlaw08_light.l0])
      | succ k1 =>
        have H := HA.out
        clear HA
        simp only [haymowlaw08_light.l0] at H
        by_cases c3 : x3_1 < (l0.length : Int)
        · rw [if_pos c3] at H
          have c3b0 : decide (x3_1 < (l0.length : Int)) = true := decide_eq_true c3
          clear c3
          by_cases c4 : 0 ≤ x3_1
          · rw [if_pos c4] at H
            have c4b0 : decide (0 ≤ x3_1) = true := decide_eq_true c4
            clear c4
            by_cases c5 : (((rd_T83 l0 x3_1).f1).length : Int) > 70
            · rw [if_pos c5] at H
              have c5b0 : decide (70 < (((rd_T83 l0 x3_1).f1).length : Int)) = true := decide_eq_true c5
              have c5b1 : decide (70 < ((rd_T83 l0 x3_1).f1).length) = true := decide_eq_true (by omega)
              clear c5
              obtain rfl := Option.some.inj H
              have p101 : 0 ≤ (x3_1 : Int) := of_decide_eq_true (by first | (with_reducible assumption) | assumption)
              have q101 : x3_1 < (l0.length : Int) := of_decide_eq_true (by first | (with_reducible assumption) | assumption)
              obtain ⟨ad101, A101_1, c101_1, e101, hx101_0, hx101_1, hl101_1, hi101_1⟩ := at_T83 HR0.out x3_1 p101 q101
              cases e101
              have HR101_1 := Aside0.mk hi101_1
              have HC101_1 := Aside0.mk hl101_1
              clear hi101_1 hl101_1
              replace p101 := eq_true p101
              replace q101 := eq_true q101
              go_wp2
              go_ret
              exact ⟨by first | rfl | (simp; done) | (simp [*]; done), by repeat (first | exact Drawn0.refl _ | apply Drawn0.step)⟩
            · rw [if_neg c5] at H
              have c5b0 : decide (70 < (((rd_T83 l0 x3_1).f1).length : Int)) = false := decide_eq_false c5
              have c5b1 : decide (70 < ((rd_T83 l0 x3_1).f1).length) = false := decide_eq_false (by omega)
              clear c5
              have H' := Aside0.mk H
              clear H
              have p101 : 0 ≤ (x3_1 : Int) := of_decide_eq_true (by first | (with_reducible assumption) | assumption)
              have q101 : x3_1 < (l0.length : Int) := of_decide_eq_true (by first | (with_reducible assumption) | assumption)
              obtain ⟨ad101, A101_1, c101_1, e101, hx101_0, hx101_1, hl101_1, hi101_1⟩ := at_T83 HR0.out x3_1 p101 q101
              cases e101
              have HR101_1 := Aside0.mk hi101_1
              have HC101_1 := Aside0.mk hl101_1
              clear hi101_1 hl101_1
              replace p101 := eq_true p101
              replace q101 := eq_true q101
              go_wp2
              go_roundg k1
              case measure => have := HK1.out; omega
              case rel => exact ⟨(wrap64 (x3_1 + 1)), (by first | rfl | (simp; done) | (simp [*]; done)), H', ⟨by have := HK1.out; omega⟩, by repeat (first | exact Drawn0.refl _ | apply Drawn0.step)⟩
          · rw [if_neg c4] at H
            exact absurd H (by simp)
        · rw [if_neg c3] at H
          have c3b0 : decide (x3_1 < (l0.length : Int)) = false := decide_eq_false c3
          clear c3
          obtain rfl := Option.some.inj H
          go_wp2
          go_ret
          exact ⟨by first | rfl | (simp; done) | (simp [*]; done), by repeat (first | exact Drawn0.refl _ | apply Drawn0.step)⟩

end Go.Proofs.Ytbekjccehhaljaa.H

-- made by this session's gen.py over the kit's print.py; not trusted: Lean checks it
namespace Go.Proofs.Ytbekjccehhaljaa.H
open Go.RowKit Go.Proofs.YtbekjccehhaljaaW.PrintWords Go.Proofs.YtbekjccehhaljaaW.PrintLast Go.Proofs.YtbekjccehhaljaaW.PrintMore
attribute [local go_sem] max2_int min2_int max_two min_two max_three min_three max_four min_four   -- for this text's walks alone
set_option linter.unusedVariables false
set_option linter.unusedSimpArgs false

/-! ### haymowlaw08_of: function 11 -/
mutual
def haymowlaw08_of.l0 : Nat → List (S83) → List (S64) → Int → Option ((List (S64)))
  | 0, _, _, _ => none
  | k + 1, x0, x3, x4 => if x4 < (x0.length : Int) then (if 0 ≤ x4 then (haymowlaw08_of.l1 k x0 x3 x4 0 ((rd_T83 x0 x4).f0) ([] : List (S61))) else (none)) else (some x3)
def haymowlaw08_of.l1 : Nat → List (S83) → List (S64) → Int → Int → Int → List (S61) → Option ((List (S64)))
  | 0, _, _, _, _, _, _ => none
  | k + 1, x0, x3, x4, x6, x122000, x122001 => if 0 ≤ x4 then (if x4 < (x0.length : Int) then (if x6 < (((rd_T83 x0 x4).f1).length : Int) then (if 0 ≤ x6 then (if x122001.length < 3518437208883 then (haymowlaw08_of.l1 k x0 x3 x4 (wrap64 (x6 + 1)) x122000 (x122001 ++ [(⟨(rd_T84 ((rd_T83 x0 x4).f1) x6).f0, (rd_T84 ((rd_T83 x0 x4).f1) x6).f1, (rd_T84 ((rd_T83 x0 x4).f1) x6).f2, (rd_T84 ((rd_T83 x0 x4).f1) x6).f3, (rd_T84 ((rd_T83 x0 x4).f1) x6).f4⟩ : S61)])) else (none)) else (none)) else (if x3.length < 4398046511104 then (haymowlaw08_of.l0 k x0 (x3 ++ [(⟨x122000, x122001⟩ : S64)]) (wrap64 (x4 + 1))) else (none))) else (none)) else (none)
end
def haymowlaw08_of.f (k : Nat) (l0 : List (S83)) : Option ((List (S64))) := haymowlaw08_of.l0 k l0 ([] : List (S64)) 0
theorem haymowlaw08_of.mono_l : ∀ k, (∀ y0 y1 y2, LeO (haymowlaw08_of.l0 k y0 y1 y2) (haymowlaw08_of.l0 (k + 1) y0 y1 y2)) ∧ (∀ y0 y1 y2 y3 y4 y5, LeO (haymowlaw08_of.l1 k y0 y1 y2 y3 y4 y5) (haymowlaw08_of.l1 (k + 1) y0 y1 y2 y3 y4 y5))
  | 0 => ⟨fun _ _ _ r h => by simp [haymowlaw08_of.l0] at h, fun _ _ _ _ _ _ r h => by simp [haymowlaw08_of.l1] at h⟩
  | k + 1 => by
    obtain ⟨ih0, ih1⟩ := haymowlaw08_of.mono_l k
    refine ⟨?_, ?_⟩
    · intro y0 y1 y2
      unfold haymowlaw08_of.l0
      repeat' first
      | (with_reducible exact ih0 _ _ _)
      | (with_reducible exact ih1 _ _ _ _ _ _)
      | (with_reducible exact LeO.refl _)
      | (with_reducible exact LeO.none _)
      | (with_reducible refine LeO.ite ?_ ?_)
      | (with_reducible refine LeO.bind ?_ (fun _ => ?_))
      | exact ih0 _ _ _
      | exact ih1 _ _ _ _ _ _
      | exact LeO.none _
      | refine LeO.ite ?_ ?_
      | refine LeO.bind ?_ (fun _ => ?_)
    · intro y0 y1 y2 y3 y4 y5
      unfold haymowlaw08_of.l1
      repeat' first
      | (with_reducible exact ih0 _ _ _)
      | (with_reducible exact ih1 _ _ _ _ _ _)
      | (with_reducible exact LeO.refl _)
      | (with_reducible exact LeO.none _)
      | (with_reducible refine LeO.ite ?_ ?_)
      | (with_reducible refine LeO.bind ?_ (fun _ => ?_))
      | exact ih0 _ _ _
      | exact ih1 _ _ _ _ _ _
      | exact LeO.none _
      | refine LeO.ite ?_ ?_
      | refine LeO.bind ?_ (fun _ => ?_)
theorem haymowlaw08_of.mono : ∀ a0 k, LeO (haymowlaw08_of.f k a0) (haymowlaw08_of.f (k + 1) a0) := by
  intro a0 k
  obtain ⟨ih0, ih1⟩ := haymowlaw08_of.mono_l k
  unfold haymowlaw08_of.f
  repeat' first
      | (with_reducible exact ih0 _ _ _)
      | (with_reducible exact ih1 _ _ _ _ _ _)
      | (with_reducible exact LeO.refl _)
      | (with_reducible exact LeO.none _)
      | (with_reducible refine LeO.ite ?_ ?_)
      | (with_reducible refine LeO.bind ?_ (fun _ => ?_))
      | exact ih0 _ _ _
      | exact ih1 _ _ _ _ _ _
      | exact LeO.none _
      | refine LeO.ite ?_ ?_
      | refine LeO.bind ?_ (fun _ => ?_)
set_option maxHeartbeats 8000000 in
set_option maxRecDepth 100000 in
theorem haymowlaw08_of.calls (k : Nat) (A0 : Option Addr) (c0 : Nat) (l0 : List (S83)) (r : List (S64)) (w : World) (hr0 : Kd.C k83 w A0 l0.length l0) (hc0 : l0.length ≤ c0) (h : haymowlaw08_of.f k l0 = some r) :
    Calls Try.prog 11 #[.slice A0 l0.length c0] w fun e w' => ∃ v0_ : Value, e = .returned (v0_) ∧ Kd.S k64 64 w' w.heap.size (fun _ => True) v0_ r ∧ Below w.heap.size w w' := by
  have hu64 := Try.underlying64
  have hu84 := Try.underlying84
  have hu61 := Try.underlying61
  have HR0 := Aside0.mk hr0
  have HC0 := Aside0.mk hc0
  clear hr0 hc0
  have HB := Aside0.mk (Below.refl w.heap.size w)
  have H : (haymowlaw08_of.l0 k l0 ([] : List (S64)) 0) = some r := h
  clear h
  have H' := Aside0.mk H
  clear H
  go_enter Try.func11, Try.ntmps11
  go_wp2
  go_loopg [3, 4] k (fun kq v3 v4 w' => ∃ (x3_1 : List (S64)) (x4_1 : Int), v4 = .int .i64 x4_1 ∧ Aside0 (haymowlaw08_of.l0 kq l0 x3_1 x4_1 = some r) ∧ Aside0 (kq ≤ k) ∧ Aside0 (Kd.S k64 64 w' w.heap.size (fun _ => True) v3 x3_1) ∧ Aside0 (Below w.heap.size w w'))
  case atStart => exact ⟨(([] : List (S64))), (0), (by first | rfl | (simp; done) | (simp [*]; done)), H', ⟨Nat.le_refl _⟩, ⟨by first | exact Kd.S_nil _ _ _ _ _ | exact Kd.N_nil _ _ _ _ _ | exact Kd.V_nil _ _ _ _ _ | exact Kd.Q_nil _ _ _ _ _ | exact Kd.R_nil _ _ _ _ _⟩, ⟨by repeat (first | (with_reducible first | exact HB.out | apply below_alloc | apply pw_below_drewN | apply below_drew1) | exact HB.out)⟩⟩
  case round =>
    clear H'
    try clear c1
    obtain ⟨x3_1, x4_1, rfl, HA, HK1, HO_3, HB⟩ := hrel
    cases gk with
    | zero => exact absurd HA.out (by simp [haymowlaw08_of.l0])
    | succ k1 =>
      have H := HA.out
      clear HA
      simp only [haymowlaw08_of.l0] at H
      by_cases c2 : x4_1 < (l0.length : Int)
      · rw [if_pos c2] at H
        have c2b0 : decide (x4_1 < (l0.length : Int)) = true := decide_eq_true c2
        clear c2
        by_cases c3 : 0 ≤ x4_1
        · rw [if_pos c3] at H
          have c3b0 : decide (0 ≤ x4_1) = true := decide_eq_true c3
          clear c3
          have H' := Aside0.mk H
          clear H
          have p120 : 0 ≤ (x4_1 : Int) := of_decide_eq_true (by first | (with_reducible assumption) | assumption)
          have q120 : x4_1 < (l0.length : Int) := of_decide_eq_true (by first | (with_reducible assumption) | assumption)
          obtain ⟨ad120, A120_1, c120_1, e120, hx120_0, hx120_1, hl120_1, hi120_1⟩ := at_T83 HR0.out x4_1 p120 q120
          cases e120
          replace hx120_0 := (HB.out.cell (World.block_lt_of_cell? w _ hx120_0)).trans hx120_0
          replace hx120_1 := (HB.out.cell (World.block_lt_of_cell? w _ hx120_1)).trans hx120_1
          have HR120_1 := Aside0.mk hi120_1
          have HC120_1 := Aside0.mk hl120_1
          clear hi120_1 hl120_1
          replace p120 := eq_true p120
          replace q120 := eq_true q120
          go_wp2_with (first | ((with_reducible refine gate_dst (N := 5) rfl ?_); refine box_event ?hg (N := 5) ?hd (cs := #[.int .i64 0, .slice none 0 0]) (t := 64) ?hr ?_; (case hd => rfl); (case hg => rfl); (case hr => first | (go_simp; done) | (go_simp; rfl)); intro gb121 hg w4 hbox hb; have n0_ := Aside0.mk (Kd.S_below (Kd.S_elderB (by (with_reducible repeat (first | apply Kd.S_alloc | apply Kd.S_drewN | apply Kd.S_drew)); exact HO_3.out) gb121 (Nat.le_of_eq hg.symm)) hb); have n1_ := Aside0.mk (below_step (by repeat (first | (with_reducible first | exact HB.out | apply below_alloc | apply pw_below_drewN | apply below_drew1) | exact HB.out)) hb); have n2_ := Aside0.mk (hbox); have n3_ := Aside0.mk ((by rw [hg]; exact (below_size (by repeat (first | (with_reducible first | exact HB.out | apply below_alloc | apply pw_below_drewN | apply below_drew1) | exact HB.out))) : w.heap.size ≤ gb121)); have n4_ := Aside0.mk ((by rw [hg]; exact (below_size (by repeat (first | (with_reducible first | exact HB.out | apply below_alloc | apply pw_below_drewN | apply below_drew1) | exact HB.out))) : w.heap.size ≤ gb121)); clear HO_3; clear HB; have HO_3 := n0_; have HB := n1_; have BK121 := n2_; have GW121 := n3_; have GE121 := n4_; clear n0_ n1_ n2_ n3_ n4_; clear hb hbox hg; have hcz5_0 : w4.cell? ⟨gb121, 0, none⟩ = some (.int .i64 0) := (blk_cell BK121.out 0).trans rfl; have hcz5_1 : w4.cell? ⟨gb121, 1, none⟩ = some (.slice none 0 0) := (blk_cell BK121.out 1).trans rfl; have hfz5_0 := blk_frozen BK121.out 0; have hfz5_1 := blk_frozen BK121.out 1))
          go_loopg [6] k1 (fun kq v6 w' => ∃ (x6_2 : Int) (x122001_2 : List (S61)) (u122001 : Value), v6 = .int .i64 x6_2 ∧ Aside0 (haymowlaw08_of.l1 kq l0 x3_1 x4_1 x6_2 ((rd_T83 l0 x4_1).f0) x122001_2 = some r) ∧ Aside0 (kq ≤ k1) ∧ Aside0 (Kd.S k64 64 w' w.heap.size (fun k_ => some k_ ≠ (u122001 : Value).ownBlock ∧ k_ ≠ gb121) u3 x3_1) ∧ Aside0 (Kd.R k61 61 w' w.heap.size (fun _ => True) u122001 x122001_2) ∧ Aside0 (w'.heap[gb121]? = some (.cells #[.int .i64 ((rd_T83 l0 x4_1).f0), u122001] 64 (0, 0))) ∧ Aside0 (Below w.heap.size w w'))
          case atStart => exact ⟨(0), (([] : List (S61))), (.slice none 0 0), (by first | rfl | (simp; done) | (simp [*]; done)), H', ⟨Nat.le_refl _⟩, ⟨by (with_reducible repeat (first | apply Kd.S_alloc | apply Kd.S_drewN | apply Kd.S_drew)); exact Kd.S_mono (Kd.S_far (p := ⟨gb121, 1, none⟩) (Kd.S_far (p := ⟨gb121, 0, none⟩) (Kd.S_mono HO_3.out (fun k_ hk => (⟨hk, hk.2⟩ : _ ∧ k_ ≠ gb121))) (fun _ hk => hk.2) (.int .i64 ((rd_T83 l0 x4_1).f0))) (fun _ hk => hk.2) (.slice none 0 0)) (fun _ hk => ⟨(by simp [Value.ownBlock]), hk.1.2⟩)⟩, ⟨by first | exact Kd.R_nil _ _ _ _ _ | exact Kd.N_nil _ _ _ _ _ | exact Kd.V_nil _ _ _ _ _ | exact Kd.Q_nil _ _ _ _ _ | exact Kd.S_nil _ _ _ _ _⟩, ⟨by (with_reducible repeat (first | refine blk_drewN ?_ _ | refine blk_drew ?_ | refine blk_alloc ?_ _)); refine blk_put (cs := #[.int .i64 ((rd_T83 l0 x4_1).f0), .slice none 0 0]) ?_ 1 _ rfl; (with_reducible repeat (first | refine blk_drewN ?_ _ | refine blk_drew ?_ | refine blk_alloc ?_ _)); refine blk_put (cs := #[.int .i64 0, .slice none 0 0]) ?_ 0 _ rfl; (with_reducible repeat (first | refine blk_drewN ?_ _ | refine blk_drew ?_ | refine blk_alloc ?_ _)); exact BK121.out⟩, ⟨by repeat (first | (with_reducible first | exact HB.out | apply below_alloc | apply pw_below_drewN | apply below_drew1 | refine below_set ?_ GE121.out) | exact HB.out)⟩⟩
          case round =>
            clear H'
            try clear c1
            try clear p1
            try clear q1
            try clear hx1
            try clear c2
            try clear c2b0
            try clear p2
            try clear c3
            try clear c3b0
            try clear hcz5_0
            try clear hcz5_1
            try clear hfz5_0
            try clear hfz5_1
            try clear hx120_0
            try clear hx120_1
            try clear p120
            try clear q120
            obtain ⟨x6_2, x122001_2, u122001, rfl, HA, HK2, HO_3, HO_122001, BK121, HB⟩ := hrel
            cases gk with
            | zero => exact absurd HA.out (by simp [haymowlaw08_of.l1])
            | succ k2 =>
              have H := HA.out
              clear HA
              simp only [haymowlaw08_of.l1] at H
              by_cases c6 : 0 ≤ x4_1
              · rw [if_pos c6] at H
                have c6b0 : decide (0 ≤ x4_1) = true := decide_eq_true c6
                clear c6
                by_cases c7 : x4_1 < (l0.length : Int)
                · rw [if_pos c7] at H
                  have c7b0 : decide (x4_1 < (l0.length : Int)) = true := decide_eq_true c7
                  clear c7
                  by_cases c8 : x6_2 < (((rd_T83 l0 x4_1).f1).length : Int)
                  · rw [if_pos c8] at H
                    have c8b0 : decide (x6_2 < (((rd_T83 l0 x4_1).f1).length : Int)) = true := decide_eq_true c8
                    clear c8
                    by_cases c9 : 0 ≤ x6_2
                    · rw [if_pos c9] at H
                      have c9b0 : decide (0 ≤ x6_2) = true := decide_eq_true c9
                      clear c9
                      by_cases c10 : x122001_2.length < 3518437208883
                      · rw [if_pos c10] at H
                        have LMc10 := Aside0.mk c10
                        clear c10
                        obtain ⟨y126, hy126⟩ : ∃ y_ : List (S61), y_ = (x122001_2 ++ [(⟨(rd_T84 ((rd_T83 l0 x4_1).f1) x6_2).f0, (rd_T84 ((rd_T83 l0 x4_1).f1) x6_2).f1, (rd_T84 ((rd_T83 l0 x4_1).f1) x6_2).f2, (rd_T84 ((rd_T83 l0 x4_1).f1) x6_2).f3, (rd_T84 ((rd_T83 l0 x4_1).f1) x6_2).f4⟩ : S61)]) := ⟨_, rfl⟩
                        replace H : (haymowlaw08_of.l1 k2 l0 x3_1 x4_1 (wrap64 (x6_2 + 1)) ((rd_T83 l0 x4_1).f0) y126) = some r := by first | (rw [hy126]; with_reducible exact H) | (have H2_ := (Option.bind_some _ _).symm.trans H; rw [hy126]; with_reducible exact H2_) | (have H2_ := (Option.bind_some _ _).symm.trans H; with_reducible exact H2_) | with_reducible exact H | (rw [hy126]; exact H) | exact H
                        have Ny126 := Aside0.mk hy126
                        clear hy126
                        have H' := Aside0.mk H
                        clear H
                        have p122 : 0 ≤ (x4_1 : Int) := of_decide_eq_true (by first | (with_reducible assumption) | assumption)
                        have q122 : x4_1 < (l0.length : Int) := of_decide_eq_true (by first | (with_reducible assumption) | assumption)
                        obtain ⟨ad122, A122_1, c122_1, e122, hx122_0, hx122_1, hl122_1, hi122_1⟩ := at_T83 HR0.out x4_1 p122 q122
                        obtain rfl : ad120 = ad122 := (by injection e122)
                        replace hx122_0 := (HB.out.cell (World.block_lt_of_cell? w _ hx122_0)).trans hx122_0
                        replace hx122_1 := (HB.out.cell (World.block_lt_of_cell? w _ hx122_1)).trans hx122_1
                        have HR122_1 := Aside0.mk hi122_1
                        have HC122_1 := Aside0.mk hl122_1
                        clear hi122_1 hl122_1
                        replace p122 := eq_true p122
                        replace q122 := eq_true q122
                        have p123 : 0 ≤ (x4_1 : Int) := of_decide_eq_true (by first | (with_reducible assumption) | assumption)
                        have q123 : x4_1 < (l0.length : Int) := of_decide_eq_true (by first | (with_reducible assumption) | assumption)
                        obtain ⟨ad123, A123_1, c123_1, e123, hx123_0, hx123_1, hl123_1, hi123_1⟩ := at_T83 HR0.out x4_1 p123 q123
                        obtain rfl : ad120 = ad123 := (by injection e123)
                        replace hx123_0 := (HB.out.cell (World.block_lt_of_cell? w _ hx123_0)).trans hx123_0
                        replace hx123_1 := (HB.out.cell (World.block_lt_of_cell? w _ hx123_1)).trans hx123_1
                        have HR123_1 := Aside0.mk hi123_1
                        have HC123_1 := Aside0.mk hl123_1
                        clear hi123_1 hl123_1
                        replace p123 := eq_true p123
                        replace q123 := eq_true q123
                        have ea_ := Option.some.inj (hx122_1.symm.trans hx123_1)
                        injection ea_ with ea_ en_ ec_
                        subst ea_
                        subst ec_
                        clear en_
                        have p124 : 0 ≤ (x6_2 : Int) := of_decide_eq_true (by first | (with_reducible assumption) | assumption)
                        have q124 : x6_2 < (((rd_T83 l0 x4_1).f1).length : Int) := of_decide_eq_true (by first | (with_reducible assumption) | assumption)
                        obtain ⟨ad124, e124, hx124_0, hx124_1, hx124_2, hx124_3, hx124_4⟩ := at_T84 HR123_1.out x6_2 p124 q124
                        cases e124
                        replace hx124_0 := (HB.out.cell (World.block_lt_of_cell? w _ hx124_0)).trans hx124_0
                        replace hx124_1 := (HB.out.cell (World.block_lt_of_cell? w _ hx124_1)).trans hx124_1
                        replace hx124_2 := (HB.out.cell (World.block_lt_of_cell? w _ hx124_2)).trans hx124_2
                        replace hx124_3 := (HB.out.cell (World.block_lt_of_cell? w _ hx124_3)).trans hx124_3
                        replace hx124_4 := (HB.out.cell (World.block_lt_of_cell? w _ hx124_4)).trans hx124_4
                        replace p124 := eq_true p124
                        replace q124 := eq_true q124
                        go_wp2_with (first | ((with_reducible refine gate_dst (N := 7) rfl ?_); refine box_event ?hg (N := 7) ?hd (cs := #[.int .i64 0, .int .i64 0, .int .i64 0, .int .i64 0, .int .i64 0]) (t := 84) ?hr ?_; (case hd => rfl); (case hg => rfl); (case hr => first | (go_simp; done) | (go_simp; rfl)); intro gb125 hg w11 hbox hb; have n0_ := Aside0.mk (Kd.S_below (by (with_reducible repeat (first | apply Kd.S_alloc | apply Kd.S_drewN | apply Kd.S_drew)); exact HO_3.out) hb); have n1_ := Aside0.mk (Kd.R_below (by (with_reducible repeat (first | apply Kd.R_alloc | apply Kd.R_drewN | apply Kd.R_drew)); exact HO_122001.out) hb); have n2_ := Aside0.mk (blk_below (g := gb121) (o := .cells #[.int .i64 ((rd_T83 l0 x4_1).f0), u122001] 64 (0, 0)) (by (with_reducible repeat (first | refine blk_drewN ?_ _ | refine blk_drew ?_ | refine blk_alloc ?_ _)); exact BK121.out) hb); have n3_ := Aside0.mk (below_step (by repeat (first | (with_reducible first | exact HB.out | apply below_alloc | apply pw_below_drewN | apply below_drew1 | refine below_set ?_ GE121.out) | exact HB.out)) hb); have n4_ := Aside0.mk (hbox); have n5_ := Aside0.mk ((by rw [hg]; exact (below_size (by repeat (first | (with_reducible first | exact HB.out | apply below_alloc | apply pw_below_drewN | apply below_drew1 | refine below_set ?_ GE121.out) | exact HB.out))) : w.heap.size ≤ gb125)); have n6_ := Aside0.mk ((by rw [hg]; exact (below_size (by repeat (first | (with_reducible first | exact HB.out | apply below_alloc | apply pw_below_drewN | apply below_drew1 | refine below_set ?_ GE121.out) | exact HB.out))) : w.heap.size ≤ gb125)); have n7_ := Aside0.mk ((by rw [hg]; exact Nat.ne_of_lt (blk_lt (g := gb121) (o := .cells #[.int .i64 ((rd_T83 l0 x4_1).f0), u122001] 64 (0, 0)) (by (with_reducible repeat (first | refine blk_drewN ?_ _ | refine blk_drew ?_ | refine blk_alloc ?_ _)); exact BK121.out)) : gb121 ≠ gb125)); have n8_ := Aside0.mk ((by rw [hg]; exact Nat.ne_of_gt (blk_lt (g := gb121) (o := .cells #[.int .i64 ((rd_T83 l0 x4_1).f0), u122001] 64 (0, 0)) (by (with_reducible repeat (first | refine blk_drewN ?_ _ | refine blk_drew ?_ | refine blk_alloc ?_ _)); exact BK121.out)) : gb125 ≠ gb121)); clear HO_3; clear HO_122001; clear BK121; clear HB; have HO_3 := n0_; have HO_122001 := n1_; have BK121 := n2_; have HB := n3_; have BK125 := n4_; have GW125 := n5_; have GE125 := n6_; have NB121_125 := n7_; have NB125_121 := n8_; clear n0_ n1_ n2_ n3_ n4_ n5_ n6_ n7_ n8_; clear hb hbox hg; have hnb12 := NB125_121.out; have hnc12 := NB121_125.out; have hcz13_0 : w11.cell? ⟨gb125, 0, none⟩ = some (.int .i64 0) := (blk_cell BK125.out 0).trans rfl; have hcz13_1 : w11.cell? ⟨gb125, 1, none⟩ = some (.int .i64 0) := (blk_cell BK125.out 1).trans rfl; have hcz13_2 : w11.cell? ⟨gb125, 2, none⟩ = some (.int .i64 0) := (blk_cell BK125.out 2).trans rfl; have hcz13_3 : w11.cell? ⟨gb125, 3, none⟩ = some (.int .i64 0) := (blk_cell BK125.out 3).trans rfl; have hcz13_4 : w11.cell? ⟨gb125, 4, none⟩ = some (.int .i64 0) := (blk_cell BK125.out 4).trans rfl; have hfz13_0 := blk_frozen BK125.out 0; have hfz13_1 := blk_frozen BK125.out 1; have hfz13_2 := blk_frozen BK125.out 2; have hfz13_3 := blk_frozen BK125.out 3; have hfz13_4 := blk_frozen BK125.out 4; have hcz14_0 : w11.cell? ⟨gb121, 0, none⟩ = some (.int .i64 ((rd_T83 l0 x4_1).f0)) := (blk_cell BK121.out 0).trans rfl; have hcz14_1 : w11.cell? ⟨gb121, 1, none⟩ = some (u122001) := (blk_cell BK121.out 1).trans rfl; have hfz14_0 := blk_frozen BK121.out 0; have hfz14_1 := blk_frozen BK121.out 1) | ((with_reducible refine gate_builtin (b := .append) (xs := #[.tmp 39, .tmp 51]) rfl ?_); at_builtin; refine Kd.R_append k61 (w0 := w) w.heap.size rfl (.tmp 39) (.tmp 51) 62 61 (.agg #[(.int .i64 0), (.int .i64 0), (.int .i64 0), (.int .i64 0), (.int .i64 0)]) 40 rfl Try.underlying62 info61 rfl (by decide) (by omega) u122001 x122001_2 (⟨(rd_T84 ((rd_T83 l0 x4_1).f1) x6_2).f0, (rd_T84 ((rd_T83 l0 x4_1).f1) x6_2).f1, (rd_T84 ((rd_T83 l0 x4_1).f1) x6_2).f2, (rd_T84 ((rd_T83 l0 x4_1).f1) x6_2).f3, (rd_T84 ((rd_T83 l0 x4_1).f1) x6_2).f4⟩ : S61) [.int .i64 ((rd_T84 ((rd_T83 l0 x4_1).f1) x6_2).f0), .int .i64 ((rd_T84 ((rd_T83 l0 x4_1).f1) x6_2).f1), .int .i64 ((rd_T84 ((rd_T83 l0 x4_1).f1) x6_2).f2), .int .i64 ((rd_T84 ((rd_T83 l0 x4_1).f1) x6_2).f3), .int .i64 ((rd_T84 ((rd_T83 l0 x4_1).f1) x6_2).f4)] (fun _ => True) (fun _ => False) rfl (by first | (go_simp; done) | (go_simp; rfl)) ?aP (fun _ hk => hk.elim) ?aF ?aO ?aB ?aS ?aL ?_; (case aP => exact k61_mkM _ _ _ (⟨(rd_T84 ((rd_T83 l0 x4_1).f1) x6_2).f0, (rd_T84 ((rd_T83 l0 x4_1).f1) x6_2).f1, (rd_T84 ((rd_T83 l0 x4_1).f1) x6_2).f2, (rd_T84 ((rd_T83 l0 x4_1).f1) x6_2).f3, (rd_T84 ((rd_T83 l0 x4_1).f1) x6_2).f4⟩ : S61)); (case aB => exact (by repeat (first | (with_reducible first | exact HB.out | apply below_alloc | apply pw_below_drewN | apply below_drew1 | refine below_set ?_ GE121.out | refine below_set ?_ GE125.out) | exact HB.out))); (case aF => exact (fun _ _ => trivial)); (case aO => exact (by (with_reducible repeat (first | apply Kd.R_alloc | apply Kd.R_drewN | apply Kd.R_drew)); exact Kd.R_mono (Kd.R_far (p := ⟨gb125, 4, none⟩) (Kd.R_far (p := ⟨gb125, 3, none⟩) (Kd.R_far (p := ⟨gb125, 2, none⟩) (Kd.R_far (p := ⟨gb125, 1, none⟩) (Kd.R_far (p := ⟨gb125, 0, none⟩) (Kd.R_types HO_122001.out BK125.out (by decide)) (fun _ hk => hk.2) (.int .i64 ((rd_T84 ((rd_T83 l0 x4_1).f1) x6_2).f0))) (fun _ hk => hk.2) (.int .i64 ((rd_T84 ((rd_T83 l0 x4_1).f1) x6_2).f1))) (fun _ hk => hk.2) (.int .i64 ((rd_T84 ((rd_T83 l0 x4_1).f1) x6_2).f2))) (fun _ hk => hk.2) (.int .i64 ((rd_T84 ((rd_T83 l0 x4_1).f1) x6_2).f3))) (fun _ hk => hk.2) (.int .i64 ((rd_T84 ((rd_T83 l0 x4_1).f1) x6_2).f4))) (fun _ hk => trivial))); (case aS => exact (below_size (by repeat (first | (with_reducible first | exact HB.out | apply below_alloc | apply pw_below_drewN | apply below_drew1 | refine below_set ?_ GE121.out | refine below_set ?_ GE125.out) | exact HB.out)))); (case aL => have := LMc10.out; omega); intro v127 w15 ho hb hg hat; rw [← Ny126.out] at ho; have n0_ := Aside0.mk (Kd.S_after (ok := (fun k_ => k_ ≠ gb121)) (by (with_reducible repeat (first | apply Kd.S_alloc | apply Kd.S_drewN | apply Kd.S_drew)); exact Kd.S_mono (Kd.S_far (p := ⟨gb125, 4, none⟩) (Kd.S_far (p := ⟨gb125, 3, none⟩) (Kd.S_far (p := ⟨gb125, 2, none⟩) (Kd.S_far (p := ⟨gb125, 1, none⟩) (Kd.S_far (p := ⟨gb125, 0, none⟩) (Kd.S_types HO_3.out BK125.out (by decide)) (fun _ hk => hk.2) (.int .i64 ((rd_T84 ((rd_T83 l0 x4_1).f1) x6_2).f0))) (fun _ hk => hk.2) (.int .i64 ((rd_T84 ((rd_T83 l0 x4_1).f1) x6_2).f1))) (fun _ hk => hk.2) (.int .i64 ((rd_T84 ((rd_T83 l0 x4_1).f1) x6_2).f2))) (fun _ hk => hk.2) (.int .i64 ((rd_T84 ((rd_T83 l0 x4_1).f1) x6_2).f3))) (fun _ hk => hk.2) (.int .i64 ((rd_T84 ((rd_T83 l0 x4_1).f1) x6_2).f4))) (fun _ hk => ⟨hk.1.2, hk.1.1⟩)) hg hat); have n1_ := Aside0.mk (blk_grown (g := gb121) (o := .cells #[.int .i64 ((rd_T83 l0 x4_1).f0), u122001] 64 (0, 0)) (by (with_reducible repeat (first | refine blk_drewN ?_ _ | refine blk_drew ?_ | refine blk_alloc ?_ _)); refine blk_far ?_ NB121_125.out _; (with_reducible repeat (first | refine blk_drewN ?_ _ | refine blk_drew ?_ | refine blk_alloc ?_ _)); refine blk_far ?_ NB121_125.out _; (with_reducible repeat (first | refine blk_drewN ?_ _ | refine blk_drew ?_ | refine blk_alloc ?_ _)); refine blk_far ?_ NB121_125.out _; (with_reducible repeat (first | refine blk_drewN ?_ _ | refine blk_drew ?_ | refine blk_alloc ?_ _)); refine blk_far ?_ NB121_125.out _; (with_reducible repeat (first | refine blk_drewN ?_ _ | refine blk_drew ?_ | refine blk_alloc ?_ _)); refine blk_far ?_ NB121_125.out _; (with_reducible repeat (first | refine blk_drewN ?_ _ | refine blk_drew ?_ | refine blk_alloc ?_ _)); exact BK121.out) hg (Kd.R_ne HO_122001.out BK121.out (by decide))); have n2_ := Aside0.mk (blk_grown (g := gb125) (o := .cells #[.int .i64 ((rd_T84 ((rd_T83 l0 x4_1).f1) x6_2).f0), .int .i64 ((rd_T84 ((rd_T83 l0 x4_1).f1) x6_2).f1), .int .i64 ((rd_T84 ((rd_T83 l0 x4_1).f1) x6_2).f2), .int .i64 ((rd_T84 ((rd_T83 l0 x4_1).f1) x6_2).f3), .int .i64 ((rd_T84 ((rd_T83 l0 x4_1).f1) x6_2).f4)] 84 (0, 0)) (by (with_reducible repeat (first | refine blk_drewN ?_ _ | refine blk_drew ?_ | refine blk_alloc ?_ _)); refine blk_put (cs := #[.int .i64 ((rd_T84 ((rd_T83 l0 x4_1).f1) x6_2).f0), .int .i64 ((rd_T84 ((rd_T83 l0 x4_1).f1) x6_2).f1), .int .i64 ((rd_T84 ((rd_T83 l0 x4_1).f1) x6_2).f2), .int .i64 ((rd_T84 ((rd_T83 l0 x4_1).f1) x6_2).f3), .int .i64 0]) ?_ 4 _ rfl; (with_reducible repeat (first | refine blk_drewN ?_ _ | refine blk_drew ?_ | refine blk_alloc ?_ _)); refine blk_put (cs := #[.int .i64 ((rd_T84 ((rd_T83 l0 x4_1).f1) x6_2).f0), .int .i64 ((rd_T84 ((rd_T83 l0 x4_1).f1) x6_2).f1), .int .i64 ((rd_T84 ((rd_T83 l0 x4_1).f1) x6_2).f2), .int .i64 0, .int .i64 0]) ?_ 3 _ rfl; (with_reducible repeat (first | refine blk_drewN ?_ _ | refine blk_drew ?_ | refine blk_alloc ?_ _)); refine blk_put (cs := #[.int .i64 ((rd_T84 ((rd_T83 l0 x4_1).f1) x6_2).f0), .int .i64 ((rd_T84 ((rd_T83 l0 x4_1).f1) x6_2).f1), .int .i64 0, .int .i64 0, .int .i64 0]) ?_ 2 _ rfl; (with_reducible repeat (first | refine blk_drewN ?_ _ | refine blk_drew ?_ | refine blk_alloc ?_ _)); refine blk_put (cs := #[.int .i64 ((rd_T84 ((rd_T83 l0 x4_1).f1) x6_2).f0), .int .i64 0, .int .i64 0, .int .i64 0, .int .i64 0]) ?_ 1 _ rfl; (with_reducible repeat (first | refine blk_drewN ?_ _ | refine blk_drew ?_ | refine blk_alloc ?_ _)); refine blk_put (cs := #[.int .i64 0, .int .i64 0, .int .i64 0, .int .i64 0, .int .i64 0]) ?_ 0 _ rfl; (with_reducible repeat (first | refine blk_drewN ?_ _ | refine blk_drew ?_ | refine blk_alloc ?_ _)); exact BK125.out) hg (Kd.R_ne HO_122001.out BK125.out (by decide))); have n3_ := Aside0.mk (hb); have n4_ := Aside0.mk (ho); clear HO_3; clear BK121; clear BK125; clear HB; clear HO_122001; have HO_3 := n0_; have BK121 := n1_; have BK125 := n2_; have HB := n3_; have HO128 := n4_; clear n0_ n1_ n2_ n3_ n4_; clear ho hb hg hat; obtain ⟨Ao16, co16, eo16⟩ := Kd.R_slice HO128.out; subst eo16; have hcz17_0 : w15.cell? ⟨gb121, 0, none⟩ = some (.int .i64 ((rd_T83 l0 x4_1).f0)) := (blk_cell BK121.out 0).trans rfl; have hcz17_1 : w15.cell? ⟨gb121, 1, none⟩ = some (u122001) := (blk_cell BK121.out 1).trans rfl; have hfz17_0 := blk_frozen BK121.out 0; have hfz17_1 := blk_frozen BK121.out 1))
                        go_roundg k2
                        case measure => have := HK1.out; have := HK2.out; omega
                        case rel => exact ⟨(wrap64 (x6_2 + 1)), (y126), (.slice Ao16 y126.length co16), (by first | rfl | (simp; done) | (simp [*]; done)), H', ⟨by have := HK1.out; have := HK2.out; omega⟩, ⟨by (with_reducible repeat (first | apply Kd.S_alloc | apply Kd.S_drewN | apply Kd.S_drew)); exact Kd.S_mono (Kd.S_far (p := ⟨gb121, 1, none⟩) (Kd.S_mono HO_3.out (fun k_ hk => (⟨hk, hk.1⟩ : _ ∧ k_ ≠ gb121))) (fun _ hk => hk.2) (.slice Ao16 y126.length co16)) (fun _ hk => ⟨hk.1.2, hk.1.1⟩)⟩, ⟨by (with_reducible repeat (first | apply Kd.R_alloc | apply Kd.R_drewN | apply Kd.R_drew)); exact Kd.R_mono (Kd.R_far (p := ⟨gb121, 1, none⟩) (Kd.R_types HO128.out BK121.out (by decide)) (fun _ hk => hk.2) (.slice Ao16 y126.length co16)) (fun _ hk => trivial)⟩, ⟨by (with_reducible repeat (first | refine blk_drewN ?_ _ | refine blk_drew ?_ | refine blk_alloc ?_ _)); refine blk_put (cs := #[.int .i64 ((rd_T83 l0 x4_1).f0), u122001]) ?_ 1 _ rfl; (with_reducible repeat (first | refine blk_drewN ?_ _ | refine blk_drew ?_ | refine blk_alloc ?_ _)); exact BK121.out⟩, ⟨by repeat (first | (with_reducible first | exact HB.out | apply below_alloc | apply pw_below_drewN | apply below_drew1 | refine below_set ?_ GE121.out | refine below_set ?_ GE125.out) | exact HB.out)⟩⟩
                      · rw [if_neg c10] at H
                        exact absurd H (by simp)
                    · rw [if_neg c9] at H
                      exact absurd H (by simp)
                  · rw [if_neg c8] at H
                    have c8b0 : decide (x6_2 < (((rd_T83 l0 x4_1).f1).length : Int)) = false := decide_eq_false c8
                    clear c8
                    by_cases c18 : x3_1.length < 4398046511104
                    · rw [if_pos c18] at H
                      have LMc18 := Aside0.mk c18
                      clear c18
                      obtain ⟨y129, hy129⟩ : ∃ y_ : List (S64), y_ = (x3_1 ++ [(⟨((rd_T83 l0 x4_1).f0), x122001_2⟩ : S64)]) := ⟨_, rfl⟩
                      replace H : (haymowlaw08_of.l0 k2 l0 y129 (wrap64 (x4_1 + 1))) = some r := by first | (rw [hy129]; with_reducible exact H) | (have H2_ := (Option.bind_some _ _).symm.trans H; rw [hy129]; with_reducible exact H2_) | (have H2_ := (Option.bind_some _ _).symm.trans H; with_reducible exact H2_) | with_reducible exact H | (rw [hy129]; exact H) | exact H
                      have Ny129 := Aside0.mk hy129
                      clear hy129
                      have H' := Aside0.mk H
                      clear H
                      have p122 : 0 ≤ (x4_1 : Int) := of_decide_eq_true (by first | (with_reducible assumption) | assumption)
                      have q122 : x4_1 < (l0.length : Int) := of_decide_eq_true (by first | (with_reducible assumption) | assumption)
                      obtain ⟨ad122, A122_1, c122_1, e122, hx122_0, hx122_1, hl122_1, hi122_1⟩ := at_T83 HR0.out x4_1 p122 q122
                      obtain rfl : ad120 = ad122 := (by injection e122)
                      replace hx122_0 := (HB.out.cell (World.block_lt_of_cell? w _ hx122_0)).trans hx122_0
                      replace hx122_1 := (HB.out.cell (World.block_lt_of_cell? w _ hx122_1)).trans hx122_1
                      have HR122_1 := Aside0.mk hi122_1
                      have HC122_1 := Aside0.mk hl122_1
                      clear hi122_1 hl122_1
                      replace p122 := eq_true p122
                      replace q122 := eq_true q122
                      have hcz19_0 : wr.cell? ⟨gb121, 0, none⟩ = some (.int .i64 ((rd_T83 l0 x4_1).f0)) := (blk_cell BK121.out 0).trans rfl
                      have hcz19_1 : wr.cell? ⟨gb121, 1, none⟩ = some (u122001) := (blk_cell BK121.out 1).trans rfl
                      have hfz19_0 := blk_frozen BK121.out 0
                      have hfz19_1 := blk_frozen BK121.out 1
                      obtain ⟨Ao21, co21, eo21⟩ := Kd.R_slice HO_122001.out
                      subst eo21
                      go_wp2_with (first | ((with_reducible refine gate_builtin (b := .append) (xs := #[.tmp 54, .tmp 56]) rfl ?_); at_builtin; refine Kd.S_append k64 (w0 := w) w.heap.size rfl (.tmp 54) (.tmp 56) 37 64 (.agg #[(.int .i64 0), (.slice none 0 0)]) 32 rfl Try.underlying37 info64 rfl (by decide) (by omega) u3 x3_1 (⟨((rd_T83 l0 x4_1).f0), x122001_2⟩ : S64) [.int .i64 ((rd_T83 l0 x4_1).f0), .slice Ao21 x122001_2.length co21] (fun k_ => k_ ≠ gb121) (fun k_ => some k_ = (.slice Ao21 x122001_2.length co21 : Value).ownBlock) rfl rfl ?aP (fun k_ hk_ => ((Kd.R_mono (ok' := fun k_ => ((fun k_ => k_ ≠ gb121)) k_ ∧ some k_ ≠ (u3 : Value).ownBlock) (Kd.R_types (Kd.R_apart' (HO_122001.out) (Kd.S_typed HO_3.out) (by decide)) BK121.out (by decide)) (fun k_ hk => ⟨hk.2, hk.1.2⟩))).1 k_ hk_.symm) ?aF ?aO ?aB ?aS ?aL ?_; (case aP => exact k64_mkM _ _ _ (⟨((rd_T83 l0 x4_1).f0), x122001_2⟩ : S64) (Kd.R_mono (Kd.R_tight rfl (Kd.R_mono (ok' := fun k_ => ((fun k_ => k_ ≠ gb121)) k_ ∧ some k_ ≠ (u3 : Value).ownBlock) (Kd.R_types (Kd.R_apart' (HO_122001.out) (Kd.S_typed HO_3.out) (by decide)) BK121.out (by decide)) (fun k_ hk => ⟨hk.2, hk.1.2⟩))) (fun _ h_ => h_))); (case aB => exact (by repeat (first | (with_reducible first | exact HB.out | apply below_alloc | apply pw_below_drewN | apply below_drew1 | refine below_set ?_ GE121.out) | exact HB.out))); (case aF => exact (fun k_ hk => Kd.freshB (g := gb121) (o := .cells #[.int .i64 ((rd_T83 l0 x4_1).f0), .slice Ao21 x122001_2.length co21] 64 (0, 0)) (by (with_reducible repeat (first | refine blk_drewN ?_ _ | refine blk_drew ?_ | refine blk_alloc ?_ _)); exact BK121.out) k_ hk)); (case aO => exact (by (with_reducible repeat (first | apply Kd.S_alloc | apply Kd.S_drewN | apply Kd.S_drew)); exact Kd.S_mono HO_3.out (fun k_ hk => ⟨hk.2, fun e_ => hk.1 e_⟩))); (case aS => exact (below_size (by repeat (first | (with_reducible first | exact HB.out | apply below_alloc | apply pw_below_drewN | apply below_drew1 | refine below_set ?_ GE121.out) | exact HB.out)))); (case aL => have := LMc18.out; omega); intro v130 w20 ho hb hg hat; rw [← Ny129.out] at ho; have n0_ := Aside0.mk (blk_grown (g := gb121) (o := .cells #[.int .i64 ((rd_T83 l0 x4_1).f0), .slice Ao21 x122001_2.length co21] 64 (0, 0)) (by (with_reducible repeat (first | refine blk_drewN ?_ _ | refine blk_drew ?_ | refine blk_alloc ?_ _)); exact BK121.out) hg (Kd.S_away HO_3.out (fun _ hk => hk.2))); have n1_ := Aside0.mk (hb); have n2_ := Aside0.mk (ho); clear BK121; clear HB; clear HO_3; clear HO_122001; have BK121 := n0_; have HB := n1_; have HO131 := n2_; clear n0_ n1_ n2_; clear ho hb hg hat))
                      go_roundg k2
                      case measure => have := HK1.out; have := HK2.out; omega
                      case rel => exact ⟨(y129), (wrap64 (x4_1 + 1)), (by first | rfl | (simp; done) | (simp [*]; done)), H', ⟨by have := HK1.out; have := HK2.out; omega⟩, ⟨by (with_reducible repeat (first | apply Kd.S_alloc | apply Kd.S_drewN | apply Kd.S_drew)); exact Kd.S_mono HO131.out (fun _ hk => trivial)⟩, ⟨by repeat (first | (with_reducible first | exact HB.out | apply below_alloc | apply pw_below_drewN | apply below_drew1 | refine below_set ?_ GE121.out) | exact HB.out)⟩⟩
                    · rw [if_neg c18] at H
                      exact absurd H (by simp)
                · rw [if_neg c7] at H
                  exact absurd H (by simp)
              · rw [if_neg c6] at H
                exact absurd H (by simp)
        · rw [if_neg c3] at H
          exact absurd H (by simp)
      · rw [if_neg c2] at H
        have c2b0 : decide (x4_1 < (l0.length : Int)) = false := decide_eq_false c2
        clear c2
        obtain rfl := Option.some.inj H
        go_wp2
        go_ret
        exact ⟨_, by first | rfl | (simp [errW_none, errW_some] <;> rfl) | (simp [*, errW_none, errW_some] <;> rfl), by (with_reducible repeat (first | apply Kd.S_alloc | apply Kd.S_drewN | apply Kd.S_drew)); exact HO_3.out, by repeat (first | (with_reducible first | exact HB.out | apply below_alloc | apply pw_below_drewN | apply below_drew1) | exact HB.out)⟩

end Go.Proofs.Ytbekjccehhaljaa.H

namespace Go.Proofs.Ytbekjccehhaljaa.H
open Go.RowKit Go.Proofs.YtbekjccehhaljaaW.PrintWords Go.Proofs.YtbekjccehhaljaaW.PrintLast Go.Proofs.YtbekjccehhaljaaW.PrintMore
set_option linter.unusedVariables false
set_option linter.unusedSimpArgs false

theorem wrap_id {x : Int} (h0 : -9223372036854775808 ≤ x) (h1 : x < 9223372036854775808) : wrap64 x = x := by unfold wrap64; omega
theorem rd50 {l : List S83} {i : Nat} (h : i < l.length) : rd_T83 l (i : Int) = l[i] := by simp [rd_T83, h]
theorem rd58 {l : List S84} {i : Nat} (h : i < l.length) : rd_T84 l (i : Int) = l[i] := by simp [rd_T84, h]
theorem drop_cons {α : Type} {l : List α} {i : Nat} (h : i < l.length) : l.drop i = l[i] :: l.drop (i + 1) := List.drop_eq_getElem_cons h

def ofI (x : S84) : S61 := ⟨x.f0, x.f1, x.f2, x.f3, x.f4⟩
def ofF (f : S83) : S64 := ⟨f.f0, f.f1.map ofI⟩

theorem light_loop (l : List S83) (hl : l.length ≤ 20) : ∀ (d i : Nat), l.length - i = d → i ≤ l.length → ∃ b, Ev (fun k => haymowlaw08_light.l0 k l i) b ∧ (b = true → ∀ f ∈ l.drop i, f.f1.length ≤ 70)
  | 0, i, hd, hi => by
    obtain rfl : i = l.length := by omega
    refine ⟨true, Ev.step (f := fun _ => some true) (fun k => ?_) (Ev.now _), by simp⟩
    simp [haymowlaw08_light.l0]
  | d + 1, i, hd, hi => by
    have hlt : i < l.length := by omega
    by_cases hb : l[i].f1.length > 70
    · refine ⟨false, Ev.step (f := fun _ => some false) (fun k => ?_) (Ev.now _), by simp⟩
      simp only [haymowlaw08_light.l0, rd50 hlt]
      rw [if_pos (by omega), if_pos (by omega), if_pos (by omega)]
    · obtain ⟨b, h1, h2⟩ := light_loop l hl d (i + 1) (by omega) (by omega)
      refine ⟨b, Ev.step (fun k => ?_) h1, fun e f hf => ?_⟩
      · simp only [haymowlaw08_light.l0, rd50 hlt]
        rw [if_pos (by omega), if_pos (by omega), if_neg (by omega), wrap_id (x := (i : Int) + 1) (by omega) (by omega)]
        rfl
      · rw [drop_cons hlt] at hf
        rcases List.mem_cons.1 hf with rfl | hf
        · omega
        · exact h2 e f hf
theorem light_ev (l : List S83) : ∃ b, Ev (fun k => haymowlaw08_light.f k l) b ∧ (b = true → l.length ≤ 20 ∧ ∀ f ∈ l, f.f1.length ≤ 70) := by
  by_cases hl : (l.length : Int) > 20
  · exact ⟨false, Ev.congr (fun k => by unfold haymowlaw08_light.f; rw [if_pos hl]) (Ev.now _), by simp⟩
  · obtain ⟨b, h1, h2⟩ := light_loop l (by omega) l.length 0 (by omega) (by omega)
    refine ⟨b, Ev.congr (fun k => by unfold haymowlaw08_light.f; rw [if_neg hl]; rfl) h1, fun e => ⟨by omega, fun f hf => h2 e f (by simpa using hf)⟩⟩

theorem of_inner (l : List S83) (acc : List S64) (i : Nat) (hi : i < l.length) (hf : l[i].f1.length ≤ 300) (c : Int) (r : List S64)
    (hnext : ∀ cs, cs = l[i].f1.map ofI → Ev (fun k => haymowlaw08_of.l0 k l (acc ++ [⟨c, cs⟩]) ((i : Int) + 1)) r) (ha : acc.length < 4398046511104) (hil : l.length < 9223372036854775807) :
    ∀ (d j : Nat) (cs : List S61), l[i].f1.length - j = d → j ≤ l[i].f1.length → cs = (l[i].f1.take j).map ofI → Ev (fun k => haymowlaw08_of.l1 k l acc i j c cs) r
  | 0, j, cs, hd, hj, hcs => by
    obtain rfl : j = l[i].f1.length := by omega
    rw [List.take_length] at hcs
    refine Ev.step (fun k => ?_) (hnext cs hcs)
    simp only [haymowlaw08_of.l1, rd50 hi]
    rw [if_pos (by omega), if_pos (by omega), if_neg (by omega), if_pos ha, wrap_id (x := (i : Int) + 1) (by omega) (by omega)]
  | d + 1, j, cs, hd, hj, hcs => by
    have hlt : j < l[i].f1.length := by omega
    refine Ev.step (fun k => ?_) (of_inner l acc i hi hf c r hnext ha hil d (j + 1) (cs ++ [ofI l[i].f1[j]]) (by omega) (by omega) (by rw [hcs, List.take_succ_eq_append_getElem hlt, List.map_append]; rfl))
    have hc : cs.length = j := by rw [hcs]; simp; omega
    simp only [haymowlaw08_of.l1, rd50 hi, rd58 hlt]
    rw [if_pos (by omega), if_pos (by omega), if_pos (by omega), if_pos (by omega), if_pos (by omega), wrap_id (x := (j : Int) + 1) (by omega) (by omega)]
    rfl
theorem of_loop (l : List S83) (hl : l.length ≤ 300) (hf : ∀ f ∈ l, f.f1.length ≤ 300) : ∀ (d i : Nat) (acc : List S64), l.length - i = d → i ≤ l.length → acc = (l.take i).map ofF → Ev (fun k => haymowlaw08_of.l0 k l acc i) (l.map ofF)
  | 0, i, acc, hd, hi, ha => by
    obtain rfl : i = l.length := by omega
    rw [List.take_length] at ha
    subst ha
    refine Ev.step (f := fun _ => some (l.map ofF)) (fun k => ?_) (Ev.now _)
    simp [haymowlaw08_of.l0]
  | d + 1, i, acc, hd, hi, ha => by
    have hlt : i < l.length := by omega
    have hal : acc.length = i := by rw [ha]; simp; omega
    refine Ev.step (fun k => ?_) (of_inner l acc i hlt (hf _ (List.getElem_mem hlt)) l[i].f0 (l.map ofF) (fun cs hcs => ?_) (by omega) (by omega) _ 0 [] rfl (by omega) (by simp))
    · simp only [haymowlaw08_of.l0, rd50 hlt]
      rw [if_pos (by omega), if_pos (by omega)]
      rfl
    · have := of_loop l hl hf d (i + 1) (acc ++ [⟨l[i].f0, cs⟩]) (by omega) (by omega) (by rw [ha, hcs, List.take_succ_eq_append_getElem hlt, List.map_append]; rfl)
      simpa using this
theorem of_ev (l : List S83) (hl : l.length ≤ 300) (hf : ∀ f ∈ l, f.f1.length ≤ 300) : Ev (fun k => haymowlaw08_of.f k l) (l.map ofF) := by
  have := of_loop l hl hf l.length 0 [] (by omega) (by omega) (by simp)
  exact this

end Go.Proofs.Ytbekjccehhaljaa.H

set_option linter.unusedVariables false
set_option linter.unusedSimpArgs false
namespace Go.Proofs.Ytbekjccehhaljaa.H
open Go.RowKit Go.Hay Go.Proofs.YtbekjccehhaljaaW.PrintWords Go.Proofs.YtbekjccehhaljaaW.PrintLast Go.Proofs.YtbekjccehhaljaaW.PrintMore
theorem light_any (Ap : Option Addr) (cp : Nat) (P : List S83) (w : World) (hP : k83.C w Ap P.length P) (hcp : P.length ≤ cp) :
    ∃ b : Bool, (b = true → P.length ≤ 20 ∧ ∀ f ∈ P, f.f1.length ≤ 70) ∧ Calls Try.prog 9 #[.slice Ap P.length cp] w fun e w' => e = .returned (.bool b) ∧ Below w.heap.size w w' := by
  obtain ⟨b, ⟨K, hK⟩, h⟩ := light_ev P
  exact ⟨b, h, (haymowlaw08_light.calls K Ap cp P b w hP hcp (hK K (Nat.le_refl _))).mono fun e w' hp => ⟨hp.1, hp.2.below⟩⟩
/-- a document's program as_ the program's: new, and read in whatever world comes behind. -/
theorem of_any (Ap : Option Addr) (cp : Nat) (P : List S83) (w : World) (hP : k83.C w Ap P.length P) (hcp : P.length ≤ cp) (hl : P.length ≤ 20) (hf : ∀ f ∈ P, f.f1.length ≤ 70) :
    Calls Try.prog 11 #[.slice Ap P.length cp] w fun e w' => Below w.heap.size w w' ∧ ∃ A c, e = .returned (.slice A P.length c) ∧ P.length ≤ c ∧ k64.C w' A (P.map ofF).length (P.map ofF) := by
  obtain ⟨K, hK⟩ := of_ev P (by omega) (fun f h => by have := hf f h; omega)
  refine (haymowlaw08_of.calls K Ap cp P _ w hP hcp (hK K (Nat.le_refl _))).mono ?_
  rintro e w' ⟨v, rfl, hS, hb⟩
  obtain ⟨A, c, rfl⟩ := Kd.R_slice (Kd.S_R hS)
  have hq := Kd.R_reads' (Kd.S_R hS)
  have hq1 := hq.2.1
  rw [List.length_map] at hq1
  refine ⟨hb, A, c, ?_, hq1, hq.2.2⟩
  rw [List.length_map]
/-- what the cells of a Tree mean. -/
def UOut (B : Nat) (r : UnfR) (w : World) (a Al : Option Addr) (n c : Nat) (G : Gu) (e9 : Int) : Prop :=
  match r with
  | .ok t G' => G = G' ∧ e9 = 0 ∧ n ≤ c ∧ (∃ D, ND D w t a ∧ ∀ q, D q → B ≤ q) ∧ ∃ L : List (List Int × Int), n = L.length ∧ L.Perm G.log ∧ L.Pairwise (fun x y => ltP y.1 x.1 = false) ∧ LogAt0 B w Al L
  | .err e => e9 = e ∧ a = none ∧ Al = none ∧ n = 0 ∧ c = 0 ∧ G = ⟨0, [], 0, 0, 0, 0⟩
def UAt (r : UnfR) (w : World) (a Al : Option Addr) (n c : Nat) (G : Gu) (e9 : Int) : Prop :=
  match r with
  | .ok t G' => G = G' ∧ e9 = 0 ∧ n ≤ c ∧ IsT t w a ∧ ∃ L : List (List Int × Int), n = L.length ∧ L.Perm G.log ∧ L.Pairwise (fun x y => ltP y.1 x.1 = false) ∧ LogAt w Al L
  | .err e => e9 = e ∧ a = none ∧ Al = none ∧ n = 0 ∧ c = 0 ∧ G = ⟨0, [], 0, 0, 0, 0⟩
theorem UAt.below {r : UnfR} {w w1 : World} {a Al : Option Addr} {n c : Nat} {G : Gu} {e9 : Int} (h : UAt r w a Al n c G e9) (hb : Below w.heap.size w w1) : UAt r w1 a Al n c G e9 := by
  cases r with
  | err e => exact h
  | ok t G' =>
    obtain ⟨h1, h2, h3, h4, L, h5, h6, h7, h8⟩ := h
    exact ⟨h1, h2, h3, h4.keep t hb, L, h5, h6, h7, h8.below hb⟩
def zTree : Obj := .cells #[.pointer none, .slice none 0 0, .int .i64 0, .int .i64 0, .int .i64 0, .int .i64 0] 33
theorem UOut.at {B : Nat} {r : UnfR} {w : World} {a Al : Option Addr} {n c : Nat} {G : Gu} {e9 : Int} (h : UOut B r w a Al n c G e9) : UAt r w a Al n c G e9 := by
  cases r with
  | err e => exact h
  | ok t G' =>
    obtain ⟨h1, h2, h3, ⟨D, h4, _⟩, L, h5, h6, h7, h8⟩ := h
    exact ⟨h1, h2, h3, h4.is, L, h5, h6, h7, h8.at⟩
theorem UOut.new {B bx : Nat} {r : UnfR} {w w5 : World} {a Al : Option Addr} {n c : Nat} {G : Gu} {e9 : Int} (h : UOut B r w a Al n c G e9) (hb : Below w.heap.size w w5) (hbx : w.heap.size ≤ bx) : ∀ W, Keep (fun q => q = bx) w5 W → UAt r W a Al n c G e9 := by
  intro W hk
  exact h.at.below (hb.trans (hk.below (B := w.heap.size) hb.size (fun q hq e => by omega)))
theorem UOut.old {B bx : Nat} {r : UnfR} {w : World} {a Al : Option Addr} {n c : Nat} {G : Gu} {e9 : Int} (h : UOut B r w a Al n c G e9) (hbx : bx < B) (hx : w.heap[bx]? = some zTree) : ∀ W, Keep (fun q => q = bx) w W → UAt r W a Al n c G e9 := by
  intro W hk
  cases r with
  | err e => exact h
  | ok t G' =>
    obtain ⟨h1, h2, h3, ⟨D, h4, h9⟩, L, h5, h6, h7, h8⟩ := h
    refine ⟨h1, h2, h3, (h4.keep (fun _ h => h) hk (fun q hq e => by have := h9 q hq; omega)).is, L, h5, h6, h7, fun i hi => ?_⟩
    obtain ⟨g, A, c', k1, k2, k3, k4, k5, k6, k7⟩ := h8 i hi
    have hp := k7.keep hk (fun q cs hq e => by subst e; rw [hx] at hq; cases hq)
    exact ⟨g, A, c', k1, (hk.cell k3 (by show ¬ g = bx; omega)), (hk.cell k4 (by show ¬ g = bx; omega)), k5, k6, hp.C k6⟩
theorem unfold_of (A : Option Addr) (c : Nat) (P : List S83) (Aa : Option Addr) (ca : Nat) (args : List Int) (b d most : Int) (w : World) (hC : k64.C w A (P.map ofF).length (P.map ofF)) (hc : P.length ≤ c) (hA : (Kd.int .i64).C w Aa args.length args) (hca : args.length ≤ ca) (hm : most ≤ 900000) {r : UnfR} (hr : r = unfoldR (P.map ofF) args b d most.toNat) :
    Calls Try.prog 10 #[.slice A P.length c, .slice Aa args.length ca, .agg #[.int .i64 b, .int .i64 d], .int .i64 most] w fun e w' => Below w.heap.size w w' ∧ ∃ a Al n c G e9, e = .returned (.tuple #[treeV a Al n c G, .int .i64 e9]) ∧ UOut w.heap.size r w' a Al n c G e9 := by
  rw [hr]
  have := Unfold_any0 (b := b) (d := d) (most := most) (c := c) hC (by rw [List.length_map]; exact hc) hA hca hm
  rw [List.length_map] at this
  refine this.mono (fun e w' h => ⟨h.1, ?_⟩)
  obtain ⟨_, h⟩ := h
  cases hq : unfoldR (P.map ofF) args b d most.toNat with
  | err e9 => rw [hq] at h; exact ⟨none, none, 0, 0, _, e9, h, rfl, rfl, rfl, rfl, rfl, rfl⟩
  | ok t G =>
    rw [hq] at h
    obtain ⟨a, Al, L, c, D, h1, h2, h3, h4, h5, h6, h7⟩ := h
    exact ⟨a, Al, L.length, c, G, 0, h1, rfl, rfl, h7, ⟨D, h2, h3⟩, L, rfl, h4, h5, h6⟩
/-- behind an unfolding whose result is stored at bx. -/
structure AfterU (w W : World) (bx : Nat) (r : UnfR) (a Al : Option Addr) (n c : Nat) (G : Gu) (e9 : Int) : Prop where
  below : Below w.heap.size w W
  box : W.heap[bx]? = some (.cells #[.pointer a, .slice Al n c, .int .i64 G.frames, .int .i64 G.cells, .int .i64 G.chunks, .int .i64 G.steps] 33 (0, 0))
  res : UAt r W a Al n c G e9
  new : w.heap.size ≤ bx
theorem after_storeU {w wc : World} {bx : Nat} {r : UnfR} {a Al : Option Addr} {n c : Nat} {G : Gu} {e9 : Int} (hb : Below w.heap.size w wc) (hx : wc.heap[bx]? = some zTree) (hn : w.heap.size ≤ bx) (hU : ∀ W, Keep (fun q => q = bx) wc W → UAt r W a Al n c G e9) {W : World}
    (hW : W = (((((wc.setCell ⟨bx, 0, none⟩ (.pointer a)).setCell ⟨bx, 1, none⟩ (.slice Al n c)).setCell ⟨bx, 2, none⟩ (.int .i64 G.frames)).setCell ⟨bx, 3, none⟩ (.int .i64 G.cells)).setCell ⟨bx, 4, none⟩ (.int .i64 G.chunks)).setCell ⟨bx, 5, none⟩ (.int .i64 G.steps)) : AfterU w W bx r a Al n c G e9 := by
  have hk : Keep (fun q => q = bx) wc W := by
    rw [hW]
    exact ((((((Keep.refl (fun q => q = bx) wc).set (p := ⟨bx, 0, none⟩) (.inr rfl) _).set (p := ⟨bx, 1, none⟩) (.inr rfl) _).set (p := ⟨bx, 2, none⟩) (.inr rfl) _).set (p := ⟨bx, 3, none⟩) (.inr rfl) _).set (p := ⟨bx, 4, none⟩) (.inr rfl) _).set (p := ⟨bx, 5, none⟩) (.inr rfl) _
  refine ⟨hb.trans (hk.below (B := w.heap.size) hb.size (fun q hq e => by subst e; omega)), ?_, hU W hk, hn⟩
  have := blk_set (blk_set (blk_set (blk_set (blk_set (blk_set hx 0 (.pointer a)) 1 (.slice Al n c)) 2 (.int .i64 G.frames)) 3 (.int .i64 G.cells)) 4 (.int .i64 G.chunks)) 5 (.int .i64 G.steps)
  rw [hW]
  exact this
/-- ways that meet again: the frame is found where the first one ends. -/
theorem with_actU {G : Prop} {F : Nat → Option Addr → Nat → Option Addr → Option Addr → Nat → Nat → Gu → Int → World → Prop} {K : Act → World → Prop} (act : Nat → Option Addr → Nat → Option Addr → Option Addr → Nat → Nat → Gu → Int → Act)
    (H : (∀ bx A c a Al n cl G e9 W, F bx A c a Al n cl G e9 W → K (act bx A c a Al n cl G e9) W) → G) (h : ∀ bx A c a Al n cl G e9 W, F bx A c a Al n cl G e9 W → K (act bx A c a Al n cl G e9) W) : G := H h
theorem unfoldR_err {l : List S64} {args : List Int} {b d : Int} {most : Nat} {e : Int} (h : unfoldR l args b d most = .err e) : e = 1 ∨ e = 3 := by
  unfold unfoldR at h
  split at h
  · cases hq : unfoldP l args b d most with
    | none => rw [hq] at h; cases h; exact .inr rfl
    | some x => rw [hq] at h; cases h
  · cases h; exact .inl rfl
theorem unfoldR_ok {l : List S64} {args : List Int} {b d : Int} {most : Nat} {t : Tr} {G : Gu} (h : unfoldR l args b d most = .ok t G) : evRight l args.length b d = true ∧ unfoldP l args b d most = some (t, G) := by
  unfold unfoldR at h
  split at h
  · rename_i hr
    cases hq : unfoldP l args b d most with
    | none => rw [hq] at h; cases h
    | some x => rw [hq] at h; cases h; exact ⟨hr, rfl⟩
  · cases h
end Go.Proofs.Ytbekjccehhaljaa.H

set_option linter.unusedVariables false
set_option linter.unusedSimpArgs false
namespace Go.Proofs.Ytbekjccehhaljaa.H
open Go.RowKit Go.Hay Go.Proofs.YtbekjccehhaljaaW.PrintWords Go.Proofs.YtbekjccehhaljaaW.PrintLast Go.Proofs.YtbekjccehhaljaaW.PrintMore
structure EG (B wb : Nat) (Ap : Option Addr) (np cp : Nat) (budget depth : Int) (G : Gs) (ents : List Ent) (vt vl : Value) (w : World) : Prop where
  node : w.heap[wb]? = some (.cells #[.slice Ap np cp, .int .i64 budget, .int .i64 depth, .int .i64 G.left, .int .i64 0, .int .i64 0, vt, vl] 111 (0, 0))
  told : (Kd.int .i64).R 2 w B (fun _ => True) vt G.told
  log : kEnt.R 54 w B (fun _ => True) vl ents
  ok : EntsOk w ents G.log
  lo : B ≤ wb
def PG (wb : Nat) (vt vl : Value) (q : Nat) : Prop := q = wb ∨ vt.ownBlock = some q ∨ vl.ownBlock = some q
section
variable {B wb : Nat} {Ap : Option Addr} {np cp : Nat} {budget depth : Int} {G : Gs} {ents : List Ent} {vt vl : Value} {w w1 : World}
theorem EG.pB (h : EG B wb Ap np cp budget depth G ents vt vl w) : ∀ q, PG wb vt vl q → B ≤ q ∧ q < w.heap.size := by
  intro q hq
  rcases hq with rfl | hq | hq
  · exact ⟨h.lo, blk_lt h.node⟩
  · exact (nums_own h.told q hq).2
  · exact (R_own h.log q hq).2
/-- what is written bears other types than a path, a task, or what waits. -/
theorem EG.typed (h : EG B wb Ap np cp budget depth G ents vt vl w) : ∀ q, PG wb vt vl q → ∃ cs t, w.heap[q]? = some (.cells cs t (0, 0)) ∧ (t = 111 ∨ t = 2 ∨ t = 54) := by
  intro q hq
  rcases hq with rfl | hq | hq
  · exact ⟨_, _, h.node, .inl rfl⟩
  · obtain ⟨cs, h1⟩ := Kd.R_typed h.told q hq
    exact ⟨cs, _, h1, .inr (.inl rfl)⟩
  · obtain ⟨cs, h1⟩ := Kd.R_typed h.log q hq
    exact ⟨cs, _, h1, .inr (.inr rfl)⟩
theorem EG.not (h : EG B wb Ap np cp budget depth G ents vt vl w) {q t : Nat} {cs : Array Value} (hq : w.heap[q]? = some (.cells cs t (0, 0))) (ht : t ≠ 111 ∧ t ≠ 2 ∧ t ≠ 54) : ¬ PG wb vt vl q := by
  intro hp
  obtain ⟨cs', t', h1, h2⟩ := h.typed q hp
  rw [hq] at h1
  cases h1
  rcases h2 with e | e | e
  · exact ht.1 e
  · exact ht.2.1 e
  · exact ht.2.2 e
theorem EG.notPath (h : EG B wb Ap np cp budget depth G ents vt vl w) : ∀ q cs, w.heap[q]? = some (.cells cs 3 (0, 0)) → ¬ PG wb vt vl q := fun q cs hq => h.not hq (by decide)
/-- where nothing of it is written, it stays. -/
theorem EG.keep {S : Nat → Prop} (h : EG B wb Ap np cp budget depth G ents vt vl w) (hk : Keep S w w1) (hS : ∀ q, PG wb vt vl q → ¬ S q) (hP : ∀ q cs, w.heap[q]? = some (.cells cs 3 (0, 0)) → ¬ S q) : EG B wb Ap np cp budget depth G ents vt vl w1 :=
  ⟨hk.blk h.node (hS wb (.inl rfl)), nums_flat h.told (fun _ _ => trivial) (fun q hq => hk.block q (nums_own h.told q hq).2.2 (hS q (.inr (.inl hq)))), R_flat kEnt_flat h.log (fun _ _ => trivial) (fun q hq => hk.block q (R_own h.log q hq).2.2 (hS q (.inr (.inr hq)))), h.ok.keep hk hP, h.lo⟩
theorem EG.below (h : EG B wb Ap np cp budget depth G ents vt vl w) (hb : Below w.heap.size w w1) : EG B wb Ap np cp budget depth G ents vt vl w1 :=
  h.keep (Keep.of_below hb (fun _ => False)) (fun _ _ => id) (fun _ _ _ => id)
theorem EG.ne1 (h : EG B wb Ap np cp budget depth G ents vt vl w) : ∀ q, vt.ownBlock = some q → q ≠ wb := by
  intro q hq e
  obtain ⟨cs, h1⟩ := Kd.R_typed h.told q hq
  rw [e, h.node] at h1; cases h1
theorem EG.ne2 (h : EG B wb Ap np cp budget depth G ents vt vl w) : ∀ q, vl.ownBlock = some q → q ≠ wb := by
  intro q hq e
  obtain ⟨cs, h1⟩ := Kd.R_typed h.log q hq
  rw [e, h.node] at h1; cases h1
theorem EG.ne12 (h : EG B wb Ap np cp budget depth G ents vt vl w) : ∀ q, vt.ownBlock = some q → vl.ownBlock ≠ some q := by
  intro q hq e
  obtain ⟨cs, h1⟩ := Kd.R_typed h.told q hq
  obtain ⟨cs2, h2⟩ := Kd.R_typed h.log q e
  rw [h1] at h2; cases h2
/-- one instruction less. -/
theorem EG.setLeft (h : EG B wb Ap np cp budget depth G ents vt vl w) (n : Nat) (x : Int) (hx : x = n) : EG B wb Ap np cp budget depth { G with left := n } ents vt vl (w.setCell ⟨wb, 3, none⟩ (.int .i64 x)) := by
  subst hx
  have hs : ∀ q, q ≠ wb → (w.setCell ⟨wb, 3, none⟩ (.int .i64 n)).heap[q]? = w.heap[q]? := fun q hq => Below.heap_setCell w ⟨wb, 3, none⟩ _ q hq
  have hk : Keep (PG wb vt vl) w (w.setCell ⟨wb, 3, none⟩ (.int .i64 n)) := (Keep.refl _ _).set (.inr (.inl rfl)) _
  exact ⟨blk_set h.node 3 _, nums_flat h.told (fun _ _ => trivial) (fun q hq => hs q (h.ne1 q hq)), R_flat kEnt_flat h.log (fun _ _ => trivial) (fun q hq => hs q (h.ne2 q hq)), h.ok.keep hk h.notPath, h.lo⟩
/-- the log's row lies at the head of a block. -/
theorem EG.row (h : EG B wb Ap np cp budget depth G ents vt vl w) (hp : 0 < ents.length) : ∃ g c, vl = .slice (some ⟨g, 0, none⟩) ents.length c ∧ vl.ownBlock = some g := by
  obtain ⟨g, cp, hv, _⟩ := Kd.R_form h.log hp
  exact ⟨g, cp, hv, by rw [hv]; rfl⟩
theorem bump_len (log : List (List Int × Int)) (me : Nat) : (Proofs.Ytbekjccehhaljaa.H.bump log me).length = log.length := by unfold Proofs.Ytbekjccehhaljaa.H.bump; rw [List.length_set]
theorem bump_get {log : List (List Int × Int)} {me j : Nat} (hme : me < log.length) (hj : j < log.length) : (Proofs.Ytbekjccehhaljaa.H.bump log me)[j]'(by rw [bump_len]; exact hj) = if me = j then (log[me].1, log[me].2 + 1) else log[j] := by
  have hg : log.getD me ([], 0) = log[me] := by rw [List.getD_eq_getElem?_getD, List.getElem?_eq_getElem hme]; rfl
  have e : Proofs.Ytbekjccehhaljaa.H.bump log me = log.set me (log[me].1, log[me].2 + 1) := by unfold Proofs.Ytbekjccehhaljaa.H.bump; rw [hg]
  exact (List.getElem_of_eq e _).trans (List.getElem_set (by rw [List.length_set]; exact hj))
/-- an instruction is counted. -/
theorem EG.bump (h : EG B wb Ap np cp budget depth G ents vt vl w) {me g c : Nat} (hv : vl = .slice (some ⟨g, 0, none⟩) ents.length c) (hme : me < ents.length) (x : Int) (hx : x = (G.log.getD me ([], 0)).2 + 1) :
    ∃ ents', ents'.length = ents.length ∧ EG B wb Ap np cp budget depth { G with log := bump G.log me } ents' vt vl (w.setCell ⟨g, me * 2 + 1, none⟩ (.int .i64 x)) := by
  subst hv
  have hne : g ≠ wb := h.ne2 g rfl
  have hs : ∀ q, q ≠ g → (w.setCell ⟨g, me * 2 + 1, none⟩ (.int .i64 x)).heap[q]? = w.heap[q]? := fun q hq => Below.heap_setCell w ⟨g, me * 2 + 1, none⟩ _ q hq
  have hk : Keep (PG wb vt (.slice (some ⟨g, 0, none⟩) ents.length c)) w (w.setCell ⟨g, me * 2 + 1, none⟩ (.int .i64 x)) := (Keep.refl _ _).set (.inr (.inr (.inr rfl))) _
  have hle := h.ok.1
  have hme2 : me < G.log.length := by omega
  have hg : G.log.getD me ([], 0) = G.log[me] := by rw [List.getD_eq_getElem?_getD, List.getElem?_eq_getElem hme2]; rfl
  have hok : EntsOk (w.setCell ⟨g, me * 2 + 1, none⟩ (.int .i64 x)) (ents.set me { ents[me] with s := x }) (Proofs.Ytbekjccehhaljaa.H.bump G.log me) := by
    refine ⟨by rw [List.length_set, bump_len]; exact hle, fun j h1 h2 => ?_⟩
    have h1' : j < ents.length := by rwa [List.length_set] at h1
    have h2' : j < G.log.length := by rwa [bump_len] at h2
    obtain ⟨a, b, c1, d, e⟩ := h.ok.2 j h1' h2'
    have e' := e.keep hk h.notPath
    rw [bump_get hme2 h2', List.getElem_set]
    by_cases ej : me = j
    · subst ej
      rw [if_pos rfl, if_pos rfl]
      exact ⟨by rw [hx, hg], b, c1, d, e'⟩
    · rw [if_neg ej, if_neg ej]
      exact ⟨a, b, c1, d, e'⟩
  exact ⟨ents.set me { ents[me] with s := x }, List.length_set .., ⟨(hs wb (Ne.symm hne)).trans h.node, nums_flat h.told (fun _ _ => trivial) (fun q hq => hs q (fun e => h.ne12 q hq (by rw [e]; rfl))), ent_set h.log hme x, hok, h.lo⟩⟩
/-- a number more is told. -/
theorem EG.tell (h : EG B wb Ap np cp budget depth G ents vt vl w) {W w9 : World} {y : Int} {v9 : Value} (hW : Below w.heap.size w W) (hR : (Kd.int .i64).R 2 w9 B (fun _ => True) v9 (G.told ++ [y])) (hg : W.grownBy w9 vt.ownBlock) (hat : v9.ownBlock = vt.ownBlock ∨ ∃ q, v9.ownBlock = some q ∧ W.heap.size ≤ q) :
    EG B wb Ap np cp budget depth { G with told := G.told ++ [y] } ents v9 vl (w9.setCell ⟨wb, 6, none⟩ v9) ∧ Keep (PG wb vt vl) w (w9.setCell ⟨wb, 6, none⟩ v9) ∧ (∀ q, PG wb v9 vl q → PG wb vt vl q ∨ w.heap.size ≤ q) ∧ w9.heap[wb]? = w.heap[wb]? := by
  have hwb := blk_lt h.node
  have hk9 : Keep (PG wb vt vl) w w9 := (Keep.of_below hW _).trans ((Keep.grown hg).mono (fun k hk h2 => .inr (.inl h2.symm)))
  have hk : Keep (PG wb vt vl) w (w9.setCell ⟨wb, 6, none⟩ v9) := hk9.set (.inr (.inl rfl)) _
  have e1 : w9.heap[wb]? = w.heap[wb]? := (hg.block wb (Nat.lt_of_lt_of_le hwb hW.size) (fun e => h.ne1 wb e.symm rfl)).trans (hW.block wb hwb)
  have hs : ∀ q, q ≠ wb → (w9.setCell ⟨wb, 6, none⟩ v9).heap[q]? = w9.heap[q]? := fun q hq => Below.heap_setCell w9 ⟨wb, 6, none⟩ _ q hq
  have h9 : ∀ q, v9.ownBlock = some q → q ≠ wb ∧ (vt.ownBlock = some q ∨ w.heap.size ≤ q) := by
    intro q hq
    rcases hat with e | ⟨q', e, hq'⟩
    · rw [e] at hq; exact ⟨h.ne1 q hq, .inl hq⟩
    · rw [e] at hq; cases hq
      have := hW.size
      exact ⟨by omega, .inr (by omega)⟩
  refine ⟨⟨blk_set (e1.trans h.node) 6 v9, nums_flat hR (fun _ _ => trivial) (fun q hq => hs q (h9 q hq).1), R_flat kEnt_flat h.log (fun _ _ => trivial) (fun q hq => (hs q (h.ne2 q hq)).trans ((hg.block q (Nat.lt_of_lt_of_le (R_own h.log q hq).2.2 hW.size) (fun e => h.ne12 q e.symm hq)).trans (hW.block q (R_own h.log q hq).2.2))), h.ok.keep hk h.notPath, h.lo⟩, hk, fun q hq => ?_, e1⟩
  rcases hq with rfl | hq | hq
  · exact .inl (.inl rfl)
  · rcases (h9 q hq).2 with e | e
    · exact .inl (.inr (.inl e))
    · exact .inr e
  · exact .inl (.inr (.inr hq))
/-- a task more is noted. -/
theorem EG.note (h : EG B wb Ap np cp budget depth G ents vt vl w) {W w9 : World} {y : Ent} {path : List Int} {v9 : Value} (hW : Below w.heap.size w W) (hR : kEnt.R 54 w9 B (fun _ => True) v9 (ents ++ [y])) (hy : y.s = 0 ∧ y.n = path.length ∧ y.n ≤ y.c ∧ path.length ≤ 1000 ∧ PathAt w y.A path) (hg : W.grownBy w9 vl.ownBlock) (hat : v9.ownBlock = vl.ownBlock ∨ ∃ q, v9.ownBlock = some q ∧ W.heap.size ≤ q) :
    EG B wb Ap np cp budget depth { G with log := G.log ++ [(path, 0)] } (ents ++ [y]) vt v9 (w9.setCell ⟨wb, 7, none⟩ v9) ∧ Keep (PG wb vt vl) w (w9.setCell ⟨wb, 7, none⟩ v9) ∧ (∀ q, PG wb vt v9 q → PG wb vt vl q ∨ w.heap.size ≤ q) ∧ w9.heap[wb]? = w.heap[wb]? := by
  have hwb := blk_lt h.node
  have hk9 : Keep (PG wb vt vl) w w9 := (Keep.of_below hW _).trans ((Keep.grown hg).mono (fun k hk h2 => .inr (.inr h2.symm)))
  have hk : Keep (PG wb vt vl) w (w9.setCell ⟨wb, 7, none⟩ v9) := hk9.set (.inr (.inl rfl)) _
  have e1 : w9.heap[wb]? = w.heap[wb]? := (hg.block wb (Nat.lt_of_lt_of_le hwb hW.size) (fun e => h.ne2 wb e.symm rfl)).trans (hW.block wb hwb)
  have hs : ∀ q, q ≠ wb → (w9.setCell ⟨wb, 7, none⟩ v9).heap[q]? = w9.heap[q]? := fun q hq => Below.heap_setCell w9 ⟨wb, 7, none⟩ _ q hq
  have h9 : ∀ q, v9.ownBlock = some q → q ≠ wb ∧ (vl.ownBlock = some q ∨ w.heap.size ≤ q) := by
    intro q hq
    rcases hat with e | ⟨q', e, hq'⟩
    · rw [e] at hq; exact ⟨h.ne2 q hq, .inl hq⟩
    · rw [e] at hq; cases hq
      have := hW.size
      exact ⟨by omega, .inr (by omega)⟩
  have hok := h.ok.keep hk h.notPath
  refine ⟨⟨blk_set (e1.trans h.node) 7 v9, nums_flat h.told (fun _ _ => trivial) (fun q hq => (hs q (h.ne1 q hq)).trans ((hg.block q (Nat.lt_of_lt_of_le (nums_own h.told q hq).2.2 hW.size) (fun e => h.ne12 q hq e.symm)).trans (hW.block q (nums_own h.told q hq).2.2))), R_flat kEnt_flat hR (fun _ _ => trivial) (fun q hq => hs q (h9 q hq).1), ⟨by simp [hok.1], fun j h1 h2 => ?_⟩, h.lo⟩, hk, fun q hq => ?_, e1⟩
  · by_cases hj : j < ents.length
    · rw [List.getElem_append_left hj, List.getElem_append_left (by rw [← hok.1]; exact hj)]
      exact hok.2 j hj _
    · have hj2 : j = ents.length := by simp at h1; omega
      subst hj2
      rw [List.getElem_append_right (Nat.le_refl _), List.getElem_append_right (by rw [← hok.1]; exact Nat.le_refl _)]
      simp only [Nat.sub_self, hok.1, List.getElem_singleton]
      exact ⟨hy.1, hy.2.1, hy.2.2.1, hy.2.2.2.1, hy.2.2.2.2.keep hk h.notPath⟩
  · rcases hq with rfl | hq | hq
    · exact .inl (.inl rfl)
    · exact .inl (.inr (.inl hq))
    · rcases (h9 q hq).2 with e | e
      · exact .inl (.inr (.inr e))
      · exact .inr e
end
/-! ### a task -/
def hcells (hs : List (Bool × Int)) : List Value := hs.flatMap fun h => [.bool h.1, .int .i64 h.2]
def tcells (wb : Nat) (vp : Value) (T : Ts) (vw : Value) (me : Nat) : List Value :=
  [.pointer (some ⟨wb, 0, none⟩), vp] ++ (T.regs.map (Value.int .i64) ++ (hcells T.hands ++ [vw, .int .i64 T.kids, .int .i64 T.at_, .int .i64 me]))
structure TB (tb wb : Nat) (vp : Value) (T : Ts) (vw : Value) (me B : Nat) (w : World) : Prop where
  node : w.heap[tb]? = some (.cells (tcells wb vp T vw me).toArray 143 (0, 0))
  wait : kSt.R 192 w B (fun _ => True) vw T.wait
  rl : T.regs.length = 8
  hl : T.hands.length = 4
def PT (tb : Nat) (vw : Value) (q : Nat) : Prop := q = tb ∨ vw.ownBlock = some q
section
variable {tb wb me B : Nat} {vp vw : Value} {T : Ts} {w w1 : World}
theorem TB.cells (h : TB tb wb vp T vw me B w) : ∃ r0 r1 r2 r3 r4 r5 r6 r7 h0 h1 h2 h3, T.regs = [r0, r1, r2, r3, r4, r5, r6, r7] ∧ T.hands = [h0, h1, h2, h3] ∧
    (tcells wb vp T vw me).toArray = #[.pointer (some ⟨wb, 0, none⟩), vp, .int .i64 r0, .int .i64 r1, .int .i64 r2, .int .i64 r3, .int .i64 r4, .int .i64 r5, .int .i64 r6, .int .i64 r7, .bool h0.1, .int .i64 h0.2, .bool h1.1, .int .i64 h1.2, .bool h2.1, .int .i64 h2.2, .bool h3.1, .int .i64 h3.2, vw, .int .i64 T.kids, .int .i64 T.at_, .int .i64 me] := by
  obtain ⟨r0, r1, r2, r3, r4, r5, r6, r7, hr⟩ := eight h.rl
  obtain ⟨h0, h1, h2, h3, hh⟩ := four h.hl
  refine ⟨r0, r1, r2, r3, r4, r5, r6, r7, h0, h1, h2, h3, hr, hh, ?_⟩
  unfold tcells
  rw [hr, hh]
  rfl
theorem TB.frozen (h : TB tb wb vp T vw me B w) (i : Nat) : w.frozen? ⟨tb, i, none⟩ = false := blk_frozen h.node i
theorem TB.fix (h : TB tb wb vp T vw me B w) : w.cell? ⟨tb, 0, none⟩ = some (.pointer (some ⟨wb, 0, none⟩)) ∧ w.cell? ⟨tb, 1, none⟩ = some vp ∧ w.cell? ⟨tb, 18, none⟩ = some vw ∧ w.cell? ⟨tb, 19, none⟩ = some (.int .i64 T.kids) ∧ w.cell? ⟨tb, 20, none⟩ = some (.int .i64 T.at_) ∧ w.cell? ⟨tb, 21, none⟩ = some (.int .i64 me) := by
  obtain ⟨r0, r1, r2, r3, r4, r5, r6, r7, h0, h1, h2, h3, hr, hh, hc⟩ := h.cells
  have hn := h.node
  rw [hc] at hn
  exact ⟨blk_cell hn 0, blk_cell hn 1, blk_cell hn 18, blk_cell hn 19, blk_cell hn 20, blk_cell hn 21⟩
theorem TB.reg (h : TB tb wb vp T vw me B w) (i : Nat) (hi : i < 8) : w.cell? ⟨tb, 2 + i, none⟩ = some (.int .i64 (T.regs.getD i 0)) := by
  obtain ⟨r0, r1, r2, r3, r4, r5, r6, r7, h0, h1, h2, h3, hr, hh, hc⟩ := h.cells
  have hn := h.node
  rw [hc] at hn
  rw [hr]
  have : i = 0 ∨ i = 1 ∨ i = 2 ∨ i = 3 ∨ i = 4 ∨ i = 5 ∨ i = 6 ∨ i = 7 := by omega
  rcases this with rfl | rfl | rfl | rfl | rfl | rfl | rfl | rfl <;> exact blk_cell hn _
theorem TB.hand (h : TB tb wb vp T vw me B w) (i : Nat) (hi : i < 4) : w.cell? ⟨tb, 10 + i * 2, none⟩ = some (.bool (T.hands.getD i (false, 0)).1) ∧ w.cell? ⟨tb, 10 + i * 2 + 1, none⟩ = some (.int .i64 (T.hands.getD i (false, 0)).2) := by
  obtain ⟨r0, r1, r2, r3, r4, r5, r6, r7, h0, h1, h2, h3, hr, hh, hc⟩ := h.cells
  have hn := h.node
  rw [hc] at hn
  rw [hh]
  have : i = 0 ∨ i = 1 ∨ i = 2 ∨ i = 3 := by omega
  rcases this with rfl | rfl | rfl | rfl <;> exact ⟨blk_cell hn _, blk_cell hn _⟩
theorem TB.keep {S : Nat → Prop} (h : TB tb wb vp T vw me B w) (hk : Keep S w w1) (hS : ∀ q, PT tb vw q → ¬ S q) : TB tb wb vp T vw me B w1 :=
  ⟨hk.blk h.node (hS tb (.inl rfl)), R_flat kSt_flat h.wait (fun _ _ => trivial) (fun q hq => hk.block q (R_own h.wait q hq).2.2 (hS q (.inr hq))), h.rl, h.hl⟩
theorem TB.below (h : TB tb wb vp T vw me B w) (hb : Below w.heap.size w w1) : TB tb wb vp T vw me B w1 := h.keep (Keep.of_below hb (fun _ => False)) (fun _ _ => id)
theorem TB.lt (h : TB tb wb vp T vw me B w) : ∀ q, PT tb vw q → q < w.heap.size := by
  intro q hq
  rcases hq with rfl | hq
  · exact blk_lt h.node
  · exact (R_own h.wait q hq).2.2
theorem TB.typed (h : TB tb wb vp T vw me B w) : ∀ q, PT tb vw q → ∃ cs t, w.heap[q]? = some (.cells cs t (0, 0)) ∧ (t = 143 ∨ t = 192) := by
  intro q hq
  rcases hq with rfl | hq
  · exact ⟨_, _, h.node, .inl rfl⟩
  · obtain ⟨cs, h1⟩ := Kd.R_typed h.wait q hq
    exact ⟨cs, _, h1, .inr rfl⟩
theorem TB.notPath (h : TB tb wb vp T vw me B w) : ∀ q cs, w.heap[q]? = some (.cells cs 3 (0, 0)) → ¬ PT tb vw q := by
  intro q cs hq hp
  obtain ⟨cs', t, h1, h2⟩ := h.typed q hp
  rw [hq] at h1; cases h1
  rcases h2 with e | e <;> exact absurd e (by decide)
theorem TB.new (h : TB tb wb vp T vw me B w) : vw.ownBlock ≠ some tb := by
  intro e
  obtain ⟨cs, h1⟩ := Kd.R_typed h.wait tb e
  rw [h.node] at h1; cases h1
/-- the whole and the task are apart. -/
theorem apart {Ap : Option Addr} {np cp B' : Nat} {budget depth : Int} {G : Gs} {ents : List Ent} {vt vl : Value} (hg : EG B' wb Ap np cp budget depth G ents vt vl w) (h : TB tb wb vp T vw me B w) : ∀ q, PG wb vt vl q → ¬ PT tb vw q := by
  intro q hq hp
  obtain ⟨cs, t, h1, h2⟩ := h.typed q hp
  exact hg.not h1 (by rcases h2 with e | e <;> (subst e; decide)) hq
theorem TB.far (h : TB tb wb vp T vw me B w) (i : Nat) (v : Value) : kSt.R 192 (w.setCell ⟨tb, i, none⟩ v) B (fun _ => True) vw T.wait :=
  R_flat kSt_flat h.wait (fun _ _ => trivial) (fun q hq => Below.heap_setCell w ⟨tb, i, none⟩ v q (fun e => h.new (by rw [← show q = tb from e]; exact hq)))
theorem TB.setAt (h : TB tb wb vp T vw me B w) (x : Int) : TB tb wb vp { T with at_ := x } vw me B (w.setCell ⟨tb, 20, none⟩ (.int .i64 x)) := by
  obtain ⟨r0, r1, r2, r3, r4, r5, r6, r7, h0, h1, h2, h3, hr, hh, hc⟩ := h.cells
  refine ⟨?_, h.far 20 _, h.rl, h.hl⟩
  have := blk_set h.node 20 (.int .i64 x)
  rw [this, hc]
  unfold tcells
  simp only [hr, hh]
  rfl
theorem TB.setKids (h : TB tb wb vp T vw me B w) (n : Nat) (x : Int) (hx : x = n) : TB tb wb vp { T with kids := n } vw me B (w.setCell ⟨tb, 19, none⟩ (.int .i64 x)) := by
  subst hx
  obtain ⟨r0, r1, r2, r3, r4, r5, r6, r7, h0, h1, h2, h3, hr, hh, hc⟩ := h.cells
  refine ⟨?_, h.far 19 _, h.rl, h.hl⟩
  have := blk_set h.node 19 (.int .i64 n)
  rw [this, hc]
  unfold tcells
  simp only [hr, hh]
  rfl
theorem TB.setReg (h : TB tb wb vp T vw me B w) (i : Nat) (hi : i < 8) (x : Int) : TB tb wb vp { T with regs := T.regs.set i x } vw me B (w.setCell ⟨tb, 2 + i, none⟩ (.int .i64 x)) := by
  obtain ⟨r0, r1, r2, r3, r4, r5, r6, r7, h0, h1, h2, h3, hr, hh, hc⟩ := h.cells
  refine ⟨?_, h.far _ _, by rw [List.length_set]; exact h.rl, h.hl⟩
  have := blk_set h.node (2 + i) (.int .i64 x)
  rw [this, hc]
  unfold tcells
  simp only [hr, hh]
  have : i = 0 ∨ i = 1 ∨ i = 2 ∨ i = 3 ∨ i = 4 ∨ i = 5 ∨ i = 6 ∨ i = 7 := by omega
  rcases this with rfl | rfl | rfl | rfl | rfl | rfl | rfl | rfl <;> rfl
theorem TB.setHand (h : TB tb wb vp T vw me B w) (i : Nat) (hi : i < 4) (b : Bool) (x : Int) : TB tb wb vp { T with hands := T.hands.set i (b, x) } vw me B ((w.setCell ⟨tb, 10 + i * 2, none⟩ (.bool b)).setCell ⟨tb, 10 + i * 2 + 1, none⟩ (.int .i64 x)) := by
  obtain ⟨r0, r1, r2, r3, r4, r5, r6, r7, h0, h1, h2, h3, hr, hh, hc⟩ := h.cells
  have hf : kSt.R 192 ((w.setCell ⟨tb, 10 + i * 2, none⟩ (.bool b)).setCell ⟨tb, 10 + i * 2 + 1, none⟩ (.int .i64 x)) B (fun _ => True) vw T.wait :=
    R_flat kSt_flat h.wait (fun _ _ => trivial) (fun q hq => by
      have e : q ≠ tb := fun e => h.new (by rw [← e]; exact hq)
      exact (Below.heap_setCell _ ⟨tb, 10 + i * 2 + 1, none⟩ _ q e).trans (Below.heap_setCell w ⟨tb, 10 + i * 2, none⟩ _ q e))
  refine ⟨?_, hf, h.rl, by rw [List.length_set]; exact h.hl⟩
  have := blk_set (blk_set h.node (10 + i * 2) (.bool b)) (10 + i * 2 + 1) (.int .i64 x)
  rw [this, hc]
  unfold tcells
  simp only [hr, hh]
  have : i = 0 ∨ i = 1 ∨ i = 2 ∨ i = 3 := by omega
  rcases this with rfl | rfl | rfl | rfl <;> rfl
theorem TB.setWait (h : TB tb wb vp T vw me B w) {w9 : World} {xs : List (Int × Int)} {v9 : Value} (hn : w9.heap[tb]? = w.heap[tb]?) (hR : kSt.R 192 w9 B (fun _ => True) v9 xs) (hv : v9.ownBlock ≠ some tb) : TB tb wb vp { T with wait := xs } v9 me B (w9.setCell ⟨tb, 18, none⟩ v9) := by
  obtain ⟨r0, r1, r2, r3, r4, r5, r6, r7, h0, h1, h2, h3, hr, hh, hc⟩ := h.cells
  refine ⟨?_, R_flat kSt_flat hR (fun _ _ => trivial) (fun q hq => Below.heap_setCell w9 ⟨tb, 18, none⟩ _ q (fun e => hv (by rw [← show q = tb from e]; exact hq))), h.rl, h.hl⟩
  have := blk_set (hn.trans h.node) 18 v9
  rw [this, hc]
  unfold tcells
  simp only [hr, hh]
  rfl
end
end Go.Proofs.Ytbekjccehhaljaa.H

set_option linter.unusedVariables false
set_option linter.unusedSimpArgs false
namespace Go.Proofs.Ytbekjccehhaljaa.H
open Go.RowKit Go.Hay Go.Proofs.YtbekjccehhaljaaW.PrintWords Go.Proofs.YtbekjccehhaljaaW.PrintLast Go.Proofs.YtbekjccehhaljaaW.PrintMore
theorem panic_viaE {P : Program} {fn : Func} {R : Ending → World → Prop} {ops : Array Oper} {Q : Exit → Act → World → Prop} (hQ : ∀ c a w, Q (.panic c) a w = bodyPost P fn R (.panic c) a w) :
    ∀ o ∈ ops.toList, ∀ c a v w, Q (.panic c) (a.put o.dst v) w → Q (.panic c) a w := by
  intro o ho c a v w h
  rw [hQ] at h ⊢
  exact panic_put (P := P) (fn := fn) (R := R) o ho c a v w h
def xv (x : S61) : Value := .agg #[.int .i64 x.f0, .int .i64 x.f1, .int .i64 x.f2, .int .i64 x.f3, .int .i64 x.f4]
def failV (why : Int) : Value := .iface 113 (.agg #[.int .i64 why])
/-- the task goes on. -/
def GoP (tb wb : Nat) (vp : Value) (T' : Ts) (vw : Value) (me B : Nat) (w : World) (e : Ending) (w' : World) : Prop := e = .returned (.tuple #[]) ∧ TB tb wb vp T' vw me B w' ∧ Keep (fun q => q = tb) w w'
/-- the task fails. -/
def StopP (why : Int) (w : World) (e : Ending) (w' : World) : Prop := e = .panicked [{ v := failV why, recovered := false }] ∧ Below w.heap.size w w'
set_option maxRecDepth 100000 in
theorem fail_any (why : Int) (w : World) : Calls Try.prog 74 #[.int .i64 why] w fun e w' => e = .panicked [{ v := failV why, recovered := false }] ∧ Below w.heap.size w w' := by
  have hu := Try.underlying113
  go_enter Try.func74, Try.ntmps74
  go_wp2
  exact ⟨rfl, rfl, by first | exact Below.refl _ _ | exact (Below.refl _ _).alloc (Nat.le_refl _) _⟩
def truthV (b : Bool) : Int := if b = true then 1 else 0
set_option maxRecDepth 100000 in
theorem truth_any (b : Bool) (w : World) : Calls Try.prog 114 #[.bool b] w fun e w' => e = .returned (.int .i64 (truthV b)) ∧ w = w' := by
  cases b with
  | true =>
    go_enter Try.func114, Try.ntmps114
    go_wp2_with fail
    go_ret
    exact ⟨rfl, rfl⟩
  | false =>
    go_enter Try.func114, Try.ntmps114
    go_wp2_with fail
    go_ret
    exact ⟨rfl, rfl⟩
section
variable {tb wb me B : Nat} {vp vw : Value} {T : Ts} {w : World}
theorem TB.drewN {tb wb me B : Nat} {vp vw : Value} {T : Ts} {w : World} (h : TB tb wb vp T vw me B w) (n : Nat) : TB tb wb vp T vw me B (w.drewN n) := h.below (pw_below_drewN (Below.refl _ _) n)
theorem goP_reg {W : World} (h1 : TB tb wb vp T vw me B W) (hb1 : Below w.heap.size w W) (a : Nat) (ha : (a : Int) < 8) (y y' : Int) (hy : y = y') : GoP tb wb vp (setR T a y') vw me B w (.returned (.tuple #[])) (W.setCell ⟨tb, 2 + a, none⟩ (.int .i64 y)).drew := by
  subst hy
  exact ⟨rfl, (h1.setReg a (by omega) y).drewN 1, ((Keep.of_below hb1 (fun q => q = tb)).set (p := ⟨tb, 2 + a, none⟩) (.inr rfl) _).drew⟩
theorem wrap_i64 (x : Int) : IntKind.i64.wrap x = wrap64 x := IntWalk.i64_left x
set_option maxRecDepth 100000 in
set_option maxHeartbeats 4000000 in
theorem tset_any (h : TB tb wb vp T vw me B w) (x : S61) (ha : 0 ≤ x.f1 ∧ x.f1 < 8) : Calls Try.prog 96 #[.pointer (some ⟨tb, 0, none⟩), xv x] w (GoP tb wb vp (setR T x.f1 x.f4) vw me B w) := by
  obtain ⟨x0, x1, x2, x3, x4⟩ := x
  try simp only at *
  obtain ⟨a, rfl⟩ : ∃ a : Nat, x1 = a := ⟨x1.toNat, by omega⟩
  obtain ⟨W, hW⟩ : ∃ W, W = w.alloc (.cells #[.int .i64 x0, .int .i64 (a), .int .i64 (x2), .int .i64 (x3), .int .i64 x4] 61) := ⟨_, rfl⟩
  have hb1 : Below w.heap.size w W := by rw [hW]; exact (Below.refl w.heap.size w).alloc (Nat.le_refl _) _
  have hbx : W.heap[w.heap.size]? = some (.cells #[.int .i64 x0, .int .i64 (a), .int .i64 (x2), .int .i64 (x3), .int .i64 x4] 61 (0, 0)) := by rw [hW]; exact alloc_blk w _
  have h1 := h.below hb1
  have c0 := blk_cell hbx 0
  have c1 := blk_cell hbx 1
  have c2 := blk_cell hbx 2
  have c3 := blk_cell hbx 3
  have c4 := blk_cell hbx 4
  have t0 := h1.fix.1
  have H := Aside0.mk (And.intro h1 hb1)
  have HWW := Aside0.mk hW
  have ha8 : ((a : Int) < 8) = True := eq_true ha.2
  have z := h1.frozen (2 + a)
  have r := h1.reg a (by omega)
  have HA := Aside0.mk ha.2
  clear ha
  unfold xv
  clear h h1 hb1 hbx hW
  go_enter Try.func96, Try.ntmps96
  go_wp2_with fail
  rw [← HWW.out]
  refine wp_region_seq2 (fun w' => Drawn0 W w') [8] [.take 0, .take 1, .take 2, .take 3, .take 4, .take 5, .take 6, .take 7, .fin 8] (by kernel_rfl) (by kernel_rfl) rfl (by kernel_rfl) (panic_viaE (P := Try.prog) (fn := Try.f96) (R := GoP tb wb vp (setR T a x4) vw me B w) (fun _ _ _ => rfl)) ?_
  have hs : Drawn0 W W.drew := (Drawn0.refl W).step 1
  repeat (
    (first
      | (refine runSeq2_take (v := ?_) (by rfl) (by rfl) (fun w' hS => ?_) hs ?_
         rotate_left
         · (obtain ⟨n, rfl⟩ := hS; go_simp; exact rfl))
      | refine runSeq2_skip (by rfl) (by rfl) hs ?_)
    (try simp only [Act.put, List.setIfInBounds_toArray, List.set_cons_zero, List.set_cons_succ]))
  refine runSeq2_fin (by rfl) (by rfl) (fun K hK => ?_)
  go_simp
  refine hK _ _ ?_
  refine runSeq2_nil ?_
  clear hK K hs
  go_wp2_with fail
  go_end0
  exact goP_reg H.out.1 H.out.2 a HA.out _ _ rfl
set_option maxRecDepth 100000 in
set_option maxHeartbeats 4000000 in
theorem tmove_any (h : TB tb wb vp T vw me B w) (x : S61) (ha : 0 ≤ x.f1 ∧ x.f1 < 8) (hb : 0 ≤ x.f2 ∧ x.f2 < 8) : Calls Try.prog 97 #[.pointer (some ⟨tb, 0, none⟩), xv x] w (GoP tb wb vp (setR T x.f1 (rg T x.f2)) vw me B w) := by
  obtain ⟨x0, x1, x2, x3, x4⟩ := x
  try simp only at *
  obtain ⟨a, rfl⟩ : ∃ a : Nat, x1 = a := ⟨x1.toNat, by omega⟩
  obtain ⟨b, rfl⟩ : ∃ b : Nat, x2 = b := ⟨x2.toNat, by omega⟩
  obtain ⟨W, hW⟩ : ∃ W, W = w.alloc (.cells #[.int .i64 x0, .int .i64 (a), .int .i64 (b), .int .i64 (x3), .int .i64 x4] 61) := ⟨_, rfl⟩
  have hb1 : Below w.heap.size w W := by rw [hW]; exact (Below.refl w.heap.size w).alloc (Nat.le_refl _) _
  have hbx : W.heap[w.heap.size]? = some (.cells #[.int .i64 x0, .int .i64 (a), .int .i64 (b), .int .i64 (x3), .int .i64 x4] 61 (0, 0)) := by rw [hW]; exact alloc_blk w _
  have h1 := h.below hb1
  have c0 := blk_cell hbx 0
  have c1 := blk_cell hbx 1
  have c2 := blk_cell hbx 2
  have c3 := blk_cell hbx 3
  have c4 := blk_cell hbx 4
  have t0 := h1.fix.1
  have H := Aside0.mk (And.intro h1 hb1)
  have HWW := Aside0.mk hW
  have ha8 : ((a : Int) < 8) = True := eq_true ha.2
  have hb8 : ((b : Int) < 8) = True := eq_true hb.2
  have z := h1.frozen (2 + a)
  have r := h1.reg a (by omega)
  have r2 := h1.reg b (by omega)
  have HA := Aside0.mk ha.2
  clear ha hb
  unfold xv
  clear h h1 hb1 hbx hW
  go_enter Try.func97, Try.ntmps97
  go_wp2_with fail
  rw [← HWW.out]
  refine wp_region_seq2 (fun w' => Drawn0 W w') [13] [.take 0, .take 1, .take 2, .take 3, .take 4, .take 5, .take 6, .take 7, .take 8, .take 9, .take 10, .take 11, .take 12, .fin 13] (by kernel_rfl) (by kernel_rfl) rfl (by kernel_rfl) (panic_viaE (P := Try.prog) (fn := Try.f97) (R := GoP tb wb vp (setR T a (rg T b)) vw me B w) (fun _ _ _ => rfl)) ?_
  have hs : Drawn0 W W.drew := (Drawn0.refl W).step 1
  repeat (
    (first
      | (refine runSeq2_take (v := ?_) (by rfl) (by rfl) (fun w' hS => ?_) hs ?_
         rotate_left
         · (obtain ⟨n, rfl⟩ := hS; go_simp; exact rfl))
      | refine runSeq2_skip (by rfl) (by rfl) hs ?_)
    (try simp only [Act.put, List.setIfInBounds_toArray, List.set_cons_zero, List.set_cons_succ]))
  refine runSeq2_fin (by rfl) (by rfl) (fun K hK => ?_)
  go_simp
  refine hK _ _ ?_
  refine runSeq2_nil ?_
  clear hK K hs
  go_wp2_with fail
  go_end0
  exact goP_reg H.out.1 H.out.2 a HA.out _ _ rfl
set_option maxRecDepth 100000 in
set_option maxHeartbeats 4000000 in
theorem tadd_any (h : TB tb wb vp T vw me B w) (x : S61) (ha : 0 ≤ x.f1 ∧ x.f1 < 8) (hb : 0 ≤ x.f2 ∧ x.f2 < 8) (hc : 0 ≤ x.f3 ∧ x.f3 < 8) : Calls Try.prog 98 #[.pointer (some ⟨tb, 0, none⟩), xv x] w (GoP tb wb vp (setR T x.f1 (wrap64 (rg T x.f2 + rg T x.f3))) vw me B w) := by
  obtain ⟨x0, x1, x2, x3, x4⟩ := x
  try simp only at *
  obtain ⟨a, rfl⟩ : ∃ a : Nat, x1 = a := ⟨x1.toNat, by omega⟩
  obtain ⟨b, rfl⟩ : ∃ b : Nat, x2 = b := ⟨x2.toNat, by omega⟩
  obtain ⟨c, rfl⟩ : ∃ c : Nat, x3 = c := ⟨x3.toNat, by omega⟩
  obtain ⟨W, hW⟩ : ∃ W, W = w.alloc (.cells #[.int .i64 x0, .int .i64 (a), .int .i64 (b), .int .i64 (c), .int .i64 x4] 61) := ⟨_, rfl⟩
  have hb1 : Below w.heap.size w W := by rw [hW]; exact (Below.refl w.heap.size w).alloc (Nat.le_refl _) _
  have hbx : W.heap[w.heap.size]? = some (.cells #[.int .i64 x0, .int .i64 (a), .int .i64 (b), .int .i64 (c), .int .i64 x4] 61 (0, 0)) := by rw [hW]; exact alloc_blk w _
  have h1 := h.below hb1
  have c0 := blk_cell hbx 0
  have c1 := blk_cell hbx 1
  have c2 := blk_cell hbx 2
  have c3 := blk_cell hbx 3
  have c4 := blk_cell hbx 4
  have t0 := h1.fix.1
  have H := Aside0.mk (And.intro h1 hb1)
  have HWW := Aside0.mk hW
  have ha8 : ((a : Int) < 8) = True := eq_true ha.2
  have hb8 : ((b : Int) < 8) = True := eq_true hb.2
  have hc8 : ((c : Int) < 8) = True := eq_true hc.2
  have z := h1.frozen (2 + a)
  have r := h1.reg a (by omega)
  have r2 := h1.reg b (by omega)
  have r3 := h1.reg c (by omega)
  have HA := Aside0.mk ha.2
  clear ha hb hc
  unfold xv
  clear h h1 hb1 hbx hW
  go_enter Try.func98, Try.ntmps98
  go_wp2_with fail
  rw [← HWW.out]
  refine wp_region_seq2 (fun w' => Drawn0 W w') [21] [.take 0, .take 1, .take 2, .take 3, .take 4, .take 5, .take 6, .take 7, .take 8, .take 9, .take 10, .take 11, .take 12, .take 13, .take 14, .take 15, .take 16, .take 17, .take 18, .take 19, .take 20, .fin 21] (by kernel_rfl) (by kernel_rfl) rfl (by kernel_rfl) (panic_viaE (P := Try.prog) (fn := Try.f98) (R := GoP tb wb vp (setR T a (wrap64 (rg T b + rg T c))) vw me B w) (fun _ _ _ => rfl)) ?_
  have hs : Drawn0 W W.drew := (Drawn0.refl W).step 1
  repeat (
    (first
      | (refine runSeq2_take (v := ?_) (by rfl) (by rfl) (fun w' hS => ?_) hs ?_
         rotate_left
         · (obtain ⟨n, rfl⟩ := hS; go_simp; exact rfl))
      | refine runSeq2_skip (by rfl) (by rfl) hs ?_)
    (try simp only [Act.put, List.setIfInBounds_toArray, List.set_cons_zero, List.set_cons_succ]))
  refine runSeq2_fin (by rfl) (by rfl) (fun K hK => ?_)
  go_simp
  refine hK _ _ ?_
  refine runSeq2_nil ?_
  clear hK K hs
  go_wp2_with fail
  go_end0
  exact goP_reg H.out.1 H.out.2 a HA.out _ _ (wrap_i64 _)
set_option maxRecDepth 100000 in
set_option maxHeartbeats 4000000 in
theorem tsub_any (h : TB tb wb vp T vw me B w) (x : S61) (ha : 0 ≤ x.f1 ∧ x.f1 < 8) (hb : 0 ≤ x.f2 ∧ x.f2 < 8) (hc : 0 ≤ x.f3 ∧ x.f3 < 8) : Calls Try.prog 99 #[.pointer (some ⟨tb, 0, none⟩), xv x] w (GoP tb wb vp (setR T x.f1 (wrap64 (rg T x.f2 - rg T x.f3))) vw me B w) := by
  obtain ⟨x0, x1, x2, x3, x4⟩ := x
  try simp only at *
  obtain ⟨a, rfl⟩ : ∃ a : Nat, x1 = a := ⟨x1.toNat, by omega⟩
  obtain ⟨b, rfl⟩ : ∃ b : Nat, x2 = b := ⟨x2.toNat, by omega⟩
  obtain ⟨c, rfl⟩ : ∃ c : Nat, x3 = c := ⟨x3.toNat, by omega⟩
  obtain ⟨W, hW⟩ : ∃ W, W = w.alloc (.cells #[.int .i64 x0, .int .i64 (a), .int .i64 (b), .int .i64 (c), .int .i64 x4] 61) := ⟨_, rfl⟩
  have hb1 : Below w.heap.size w W := by rw [hW]; exact (Below.refl w.heap.size w).alloc (Nat.le_refl _) _
  have hbx : W.heap[w.heap.size]? = some (.cells #[.int .i64 x0, .int .i64 (a), .int .i64 (b), .int .i64 (c), .int .i64 x4] 61 (0, 0)) := by rw [hW]; exact alloc_blk w _
  have h1 := h.below hb1
  have c0 := blk_cell hbx 0
  have c1 := blk_cell hbx 1
  have c2 := blk_cell hbx 2
  have c3 := blk_cell hbx 3
  have c4 := blk_cell hbx 4
  have t0 := h1.fix.1
  have H := Aside0.mk (And.intro h1 hb1)
  have HWW := Aside0.mk hW
  have ha8 : ((a : Int) < 8) = True := eq_true ha.2
  have hb8 : ((b : Int) < 8) = True := eq_true hb.2
  have hc8 : ((c : Int) < 8) = True := eq_true hc.2
  have z := h1.frozen (2 + a)
  have r := h1.reg a (by omega)
  have r2 := h1.reg b (by omega)
  have r3 := h1.reg c (by omega)
  have HA := Aside0.mk ha.2
  clear ha hb hc
  unfold xv
  clear h h1 hb1 hbx hW
  go_enter Try.func99, Try.ntmps99
  go_wp2_with fail
  rw [← HWW.out]
  refine wp_region_seq2 (fun w' => Drawn0 W w') [21] [.take 0, .take 1, .take 2, .take 3, .take 4, .take 5, .take 6, .take 7, .take 8, .take 9, .take 10, .take 11, .take 12, .take 13, .take 14, .take 15, .take 16, .take 17, .take 18, .take 19, .take 20, .fin 21] (by kernel_rfl) (by kernel_rfl) rfl (by kernel_rfl) (panic_viaE (P := Try.prog) (fn := Try.f99) (R := GoP tb wb vp (setR T a (wrap64 (rg T b - rg T c))) vw me B w) (fun _ _ _ => rfl)) ?_
  have hs : Drawn0 W W.drew := (Drawn0.refl W).step 1
  repeat (
    (first
      | (refine runSeq2_take (v := ?_) (by rfl) (by rfl) (fun w' hS => ?_) hs ?_
         rotate_left
         · (obtain ⟨n, rfl⟩ := hS; go_simp; exact rfl))
      | refine runSeq2_skip (by rfl) (by rfl) hs ?_)
    (try simp only [Act.put, List.setIfInBounds_toArray, List.set_cons_zero, List.set_cons_succ]))
  refine runSeq2_fin (by rfl) (by rfl) (fun K hK => ?_)
  go_simp
  refine hK _ _ ?_
  refine runSeq2_nil ?_
  clear hK K hs
  go_wp2_with fail
  go_end0
  exact goP_reg H.out.1 H.out.2 a HA.out _ _ (wrap_i64 _)
set_option maxRecDepth 100000 in
set_option maxHeartbeats 4000000 in
theorem tmul_any (h : TB tb wb vp T vw me B w) (x : S61) (ha : 0 ≤ x.f1 ∧ x.f1 < 8) (hb : 0 ≤ x.f2 ∧ x.f2 < 8) (hc : 0 ≤ x.f3 ∧ x.f3 < 8) : Calls Try.prog 100 #[.pointer (some ⟨tb, 0, none⟩), xv x] w (GoP tb wb vp (setR T x.f1 (wrap64 (rg T x.f2 * rg T x.f3))) vw me B w) := by
  obtain ⟨x0, x1, x2, x3, x4⟩ := x
  try simp only at *
  obtain ⟨a, rfl⟩ : ∃ a : Nat, x1 = a := ⟨x1.toNat, by omega⟩
  obtain ⟨b, rfl⟩ : ∃ b : Nat, x2 = b := ⟨x2.toNat, by omega⟩
  obtain ⟨c, rfl⟩ : ∃ c : Nat, x3 = c := ⟨x3.toNat, by omega⟩
  obtain ⟨W, hW⟩ : ∃ W, W = w.alloc (.cells #[.int .i64 x0, .int .i64 (a), .int .i64 (b), .int .i64 (c), .int .i64 x4] 61) := ⟨_, rfl⟩
  have hb1 : Below w.heap.size w W := by rw [hW]; exact (Below.refl w.heap.size w).alloc (Nat.le_refl _) _
  have hbx : W.heap[w.heap.size]? = some (.cells #[.int .i64 x0, .int .i64 (a), .int .i64 (b), .int .i64 (c), .int .i64 x4] 61 (0, 0)) := by rw [hW]; exact alloc_blk w _
  have h1 := h.below hb1
  have c0 := blk_cell hbx 0
  have c1 := blk_cell hbx 1
  have c2 := blk_cell hbx 2
  have c3 := blk_cell hbx 3
  have c4 := blk_cell hbx 4
  have t0 := h1.fix.1
  have H := Aside0.mk (And.intro h1 hb1)
  have HWW := Aside0.mk hW
  have ha8 : ((a : Int) < 8) = True := eq_true ha.2
  have hb8 : ((b : Int) < 8) = True := eq_true hb.2
  have hc8 : ((c : Int) < 8) = True := eq_true hc.2
  have z := h1.frozen (2 + a)
  have r := h1.reg a (by omega)
  have r2 := h1.reg b (by omega)
  have r3 := h1.reg c (by omega)
  have HA := Aside0.mk ha.2
  clear ha hb hc
  unfold xv
  clear h h1 hb1 hbx hW
  go_enter Try.func100, Try.ntmps100
  go_wp2_with fail
  rw [← HWW.out]
  refine wp_region_seq2 (fun w' => Drawn0 W w') [21] [.take 0, .take 1, .take 2, .take 3, .take 4, .take 5, .take 6, .take 7, .take 8, .take 9, .take 10, .take 11, .take 12, .take 13, .take 14, .take 15, .take 16, .take 17, .take 18, .take 19, .take 20, .fin 21] (by kernel_rfl) (by kernel_rfl) rfl (by kernel_rfl) (panic_viaE (P := Try.prog) (fn := Try.f100) (R := GoP tb wb vp (setR T a (wrap64 (rg T b * rg T c))) vw me B w) (fun _ _ _ => rfl)) ?_
  have hs : Drawn0 W W.drew := (Drawn0.refl W).step 1
  repeat (
    (first
      | (refine runSeq2_take (v := ?_) (by rfl) (by rfl) (fun w' hS => ?_) hs ?_
         rotate_left
         · (obtain ⟨n, rfl⟩ := hS; go_simp; exact rfl))
      | refine runSeq2_skip (by rfl) (by rfl) hs ?_)
    (try simp only [Act.put, List.setIfInBounds_toArray, List.set_cons_zero, List.set_cons_succ]))
  refine runSeq2_fin (by rfl) (by rfl) (fun K hK => ?_)
  go_simp
  refine hK _ _ ?_
  refine runSeq2_nil ?_
  clear hK K hs
  go_wp2_with fail
  go_end0
  exact goP_reg H.out.1 H.out.2 a HA.out _ _ (wrap_i64 _)
end
end Go.Proofs.Ytbekjccehhaljaa.H

