/- code.Write answers the bytes of a program, or ErrRange. -/
import Derived.Test.YtkbbgkhanmmhpaaH0
import Derived.Test.YtkbbgkhanmmhpaaBaseW
namespace Go.Proofs.Ytkbbgkhanmmhpaa.H
open Go.RowKit Go.Hay Go.Proofs.YtkbbgkhanmmhpaaW.PrintWords Go.Proofs.YtkbbgkhanmmhpaaW.PrintLast Go.Proofs.YtkbbgkhanmmhpaaW.PrintMore
set_option linter.unusedVariables false
set_option linter.unusedSimpArgs false

theorem info5 : (Try.prog.info? 5).map (fun i => (i.zero, i.size, i.bytes)) = some (some (.int .u8 0), 1, 1) := by kernel_rfl
def code_wrongV (e : Int) : Value := .iface 79 (.agg #[.int .i64 e])

theorem code_need_ok (e : Int) (w : World) : Calls Try.prog 23 #[.bool true, .int .i64 e] w fun x w' => x = .returned (.tuple #[]) ∧ w = w' := by
  go_enter Try.func23, Try.ntmps23
  go_wp2
  go_end0
  exact ⟨rfl, rfl⟩

theorem code_need_no (e : Int) (w : World) : Calls Try.prog 23 #[.bool false, .int .i64 e] w fun x w' => x = .panicked [{ v := code_wrongV e, recovered := false }] ∧ w = w' := by
  go_enter Try.func23, Try.ntmps23
  go_wp2
  exact ⟨rfl, rfl, rfl⟩

def fitsB (n : Int) : Bool := decide (0 ≤ n) && decide (n ≤ 255)

def small_post (n : Int) (w : World) (x : Ending) (w' : World) : Prop := w = w' ∧ ((fitsB n = true ∧ x = .returned (.int .u8 n)) ∨ (fitsB n = false ∧ x = .panicked [{ v := code_wrongV 6, recovered := false }]))

theorem small_any (n : Int) (w : World) : Calls Try.prog 22 #[.int .i64 n] w (small_post n w) := by
  by_cases h0 : 0 ≤ n
  · by_cases h1 : n ≤ 255
    · go_enter Try.func22, Try.ntmps22
      go_wp2_with (go_at_call 23; refine (code_need_ok _ _).mono ?_; rintro e w' ⟨rfl, rfl⟩)
      go_ret
      exact ⟨rfl, .inl ⟨by simp [fitsB]; omega, rfl⟩⟩
    · go_enter Try.func22, Try.ntmps22
      go_wp2_with (go_at_call 23; refine (code_need_no _ _).mono ?_; rintro e w' ⟨rfl, rfl⟩)
      exact ⟨rfl, rfl, .inr ⟨by simp [fitsB]; omega, rfl⟩⟩
  · go_enter Try.func22, Try.ntmps22
    go_wp2_with (go_at_call 23; refine (code_need_no _ _).mono ?_; rintro e w' ⟨rfl, rfl⟩)
    exact ⟨rfl, rfl, .inr ⟨by simp [fitsB]; omega, rfl⟩⟩

theorem code_assert_wrong (v : Value) (w : World) : (Instr.typeAssert (.iface 79 v) 20 79 true).run Try.prog w = .ok (.tuple #[v, .bool true]) w := by kernel_rfl

theorem taken_any (e : Int) (w : World) : Calls Try.prog 21 #[.iface 79 (.agg #[.int .i64 e])] w fun x w' => x = .returned (.int .i64 e) ∧ Below w.heap.size w w' := by
  have ha := code_assert_wrong (.agg #[.int .i64 e])
  go_enter Try.func21, Try.ntmps21
  go_wp2
  go_ret
  exact ⟨rfl, (Below.refl _ _).alloc (Nat.le_refl _) _⟩

/-- The deferred closure behind a panic of ours: the results are nil and why. -/
theorem catch_panicking (B : Nat) (e : Int) (w : World) (v1 v2 : Value) (h1 : w.heap[B]? = some (.cells #[v1] 43 (0, 0))) (h2 : w.heap[B + 1]? = some (.cells #[v2] 24 (0, 0))) :
    CallsD Try.prog 20 #[.pointer (some ⟨B, 0, none⟩), .pointer (some ⟨B + 1, 0, none⟩)] (.panicking [{ v := code_wrongV e, recovered := false }]) w fun x u' w' =>
      x = .returned (.tuple #[]) ∧ u' = .panicking [{ v := code_wrongV e, recovered := true }] ∧ Below B w w' ∧ w'.heap[B]? = some (.cells #[.slice none 0 0] 43 (0, 0)) ∧ w'.heap[B + 1]? = some (.cells #[.int .i64 e] 24 (0, 0)) := by
  refine callsD_of_wpS Try.func20 rfl fun c₀ cs hu => ?_
  apply wpS_seq
  apply wpS_region
  simp [wpOpsS, go_sem, recoverD, hu, Try.ntmps20, Exit.thenS]
  refine wpS_body ?_
  simp only [Array.replicate_succ, Array.replicate_zero, List.push_toArray, List.append_toArray, List.nil_append, List.cons_append, List.setIfInBounds_toArray, List.set_cons_zero, List.set_cons_succ, code_wrongV]
  go_wp2_with (go_at_call 21; refine (taken_any _ _).mono ?_; rintro x w1 ⟨rfl, hb⟩; have h1' := (hb.block _ (blk_lt h1)).trans h1; have h2' := (hb.block _ (blk_lt h2)).trans h2; have c1 := blk_cell h1' 0; have f1 := blk_frozen h1' 0; have c2 := blk_cell h2' 0; have f2 := blk_frozen h2' 0)
  go_end0
  have hB := blk_lt h1
  refine ⟨rfl, trivial, Below.setCell (p := ⟨B + 1, 0, none⟩) (Below.setCell (p := ⟨B, 0, none⟩) (hb.mono (Nat.le_of_lt hB)) (Nat.le_refl _) _) (show B ≤ B + 1 by omega) _, ?_, ?_⟩
  · rw [blk_far (p := ⟨B + 1, 0, none⟩) (t := 43) (cs := #[.slice none 0 0]) ?_ (by simp) _]
    exact blk_set h1' 0 _
  · exact blk_set (blk_far h2' (by simp) _) 0 _

theorem catch_idle (p q : Addr) (w : World) :
    CallsD Try.prog 20 #[.pointer (some p), .pointer (some q)] .returning w fun x u' w' =>
      x = .returned (.tuple #[]) ∧ u' = .returning ∧ w = w' := by
  refine callsD_of_wpS Try.func20 rfl fun c₀ cs hu => ?_
  apply wpS_seq
  apply wpS_region
  simp [wpOpsS, go_sem, recoverD, hu, Try.ntmps20, Exit.thenS]
  refine wpS_body_same hu ?_
  simp only [Array.replicate_succ, Array.replicate_zero, List.push_toArray, List.append_toArray, List.nil_append, List.cons_append, List.setIfInBounds_toArray, List.set_cons_zero, List.set_cons_succ]
  go_wp2
  go_end0
  exact ⟨rfl, trivial, rfl⟩

/-! ### what the bytes are -/
def wInstr (x : S33) : List Int := [x.f0, x.f1, x.f2, x.f3, x.f4 % 256, (x.f4 / 256) % 256, (x.f4 / 65536) % 256, (x.f4 / 16777216) % 256]
def okInstr (x : S33) : Bool := decide (-2147483648 ≤ x.f4) && decide (x.f4 < 2147483648) && fitsB x.f0 && fitsB x.f1 && fitsB x.f2 && fitsB x.f3
def wFunc (f : S36) : List Int := [f.f0, (f.f1.length : Int)] ++ f.f1.flatMap wInstr
def okFunc (f : S36) : Bool := fitsB f.f0 && fitsB (f.f1.length : Int) && f.f1.all okInstr
def okProg (p : List S36) : Bool := fitsB (p.length : Int) && p.all okFunc
def wProg (p : List S36) : List Int := [72, (p.length : Int)] ++ p.flatMap wFunc
def code_Write.f (p : List S36) : Option (List Int × Int) := some (if okProg p then (wProg p, 0) else ([], 6))

/-- What is known inside: the two results' variables, and the row. -/
structure WSt (w wr : World) (v : Value) (bs : List Int) : Prop where
  out : wr.heap[w.heap.size]? = some (.cells #[v] 43 (0, 0))
  err : wr.heap[w.heap.size + 1]? = some (.cells #[.int .i64 0] 24 (0, 0))
  row : Kd.R (Kd.int .u8) 5 wr (w.heap.size + 2) (fun _ => True) v bs
  below : Below w.heap.size w wr

def wPost (w : World) (p : List S36) (e : Ending) (w' : World) : Prop :=
  ∃ r1 r2, code_Write.f p = some (r1, r2) ∧ ∃ v0_ : Value, e = .returned (.tuple #[v0_, .int .i64 r2]) ∧ Kd.R (Kd.int .u8) 5 w' w.heap.size (fun _ => True) v0_ r1 ∧ Below w.heap.size w w'

theorem wst_start (w : World) : WSt w ((w.alloc (.cells #[.slice none 0 0] 43)).alloc (.cells #[.int .i64 0] 24)) (.slice none 0 0) [] := by
  refine ⟨?_, ?_, Kd.R_nil _ _ _ _ _, ((Below.refl _ _).alloc (Nat.le_refl _) _).alloc (by simp) _⟩
  · show ((w.heap.push _).push _)[_]? = _
    simp [Array.getElem?_push]
  · show ((w.heap.push _).push _)[_]? = _
    rw [show w.heap.size + 1 = (w.heap.push (.cells #[.slice none 0 0] 43)).size by simp, Array.getElem?_push_size]

/-- A panic of ours anywhere inside: the call answers ErrRange. -/
theorem write_panics (l0 : List S36) (w w' : World) (tmps : Array Value) (v : Value) (hno : okProg l0 = false)
    (h1 : w'.heap[w.heap.size]? = some (.cells #[v] 43 (0, 0))) (h2 : w'.heap[w.heap.size + 1]? = some (.cells #[.int .i64 0] 24 (0, 0))) (hb : Below w.heap.size w w')
    (t2 : tmps.getD 2 undef = .pointer (some ⟨w.heap.size, 0, none⟩)) (t3 : tmps.getD 3 undef = .pointer (some ⟨w.heap.size + 1, 0, none⟩)) :
    bodyPostD Try.prog Try.f14 (wPost w l0) (.panic [{ v := code_wrongV 6, recovered := false }])
      { tmps := tmps, defers := [{ target := Target.fn (Fn.func 20) #[.pointer (some ⟨w.heap.size, 0, none⟩), .pointer (some ⟨w.heap.size + 1, 0, none⟩)], args := #[] }] } w' := by
  refine leaves_cons (f := 20) (args := #[.pointer (some ⟨w.heap.size, 0, none⟩), .pointer (some ⟨w.heap.size + 1, 0, none⟩)]) (by simp) (by simp [go_sem]) ?_
  refine (catch_panicking w.heap.size 6 w' _ _ h1 h2).mono ?_
  rintro e u' w2 ⟨rfl, rfl, hb2, c1, c2⟩
  have q1 := blk_cell c1 0
  have q2 := blk_cell c2 0
  simp only [Array.getD_eq_getD_getElem?] at t2 t3
  refine ⟨.tuple #[.slice none 0 0, .int .i64 6], by simp [results, Try.results14, go_sem, t2, t3, q1, q2], ?_⟩
  exact ⟨[], 6, by simp [code_Write.f, hno], _, rfl, Kd.R_nil _ _ _ _ _, hb.trans hb2⟩

theorem wInstr_len (l : List S33) : (l.flatMap wInstr).length = 8 * l.length := by
  induction l with
  | nil => rfl
  | cons x l ih => rw [List.flatMap_cons, List.length_append, ih]; simp [wInstr]; omega
theorem wFunc_len (l : List S36) (h : l.all okFunc = true) : (l.flatMap wFunc).length ≤ 2042 * l.length := by
  induction l with
  | nil => simp
  | cons x l ih =>
    rw [List.all_cons, Bool.and_eq_true] at h
    have h1 := h.1
    simp only [okFunc, fitsB, Bool.and_eq_true, decide_eq_true_eq] at h1
    have h2 := ih h.2
    have h3 := wInstr_len x.f1
    rw [List.flatMap_cons, List.length_append]
    simp only [wFunc, List.length_append, List.length_cons, List.length_nil]
    omega
theorem wlen_ok {l0 : List S36} {i : Nat} (hf : fitsB (l0.length : Int) = true) (h : (l0.take i).all okFunc = true) : ((l0.take i).flatMap wFunc).length ≤ 520710 := by
  have h1 := wFunc_len _ h
  have h2 : (l0.take i).length ≤ 255 := by
    simp only [fitsB, Bool.and_eq_true, decide_eq_true_eq] at hf
    rw [List.length_take]; omega
  omega
theorem ilen_ok {f : S36} {k : Nat} (hf : fitsB (f.f1.length : Int) = true) : ((f.f1.take k).flatMap wInstr).length ≤ 2040 := by
  simp only [fitsB, Bool.and_eq_true, decide_eq_true_eq] at hf
  rw [wInstr_len, List.length_take]; omega
theorem fits_le {n : Nat} (hf : fitsB (n : Int) = true) : n ≤ 255 := by
  simp only [fitsB, Bool.and_eq_true, decide_eq_true_eq] at hf
  omega
theorem take_snoc_all {α : Type} {p : α → Bool} {l : List α} {k : Nat} (hk : k < l.length) (h : (l.take k).all p = true) (hx : p l[k] = true) : (l.take (k + 1)).all p = true := by
  rw [List.take_succ_eq_append_getElem hk, List.all_append, h]; simp [hx]
theorem take_snoc_flat {α β : Type} {g : α → List β} {l : List α} {k : Nat} (hk : k < l.length) : (l.take (k + 1)).flatMap g = (l.take k).flatMap g ++ g l[k] := by
  rw [List.take_succ_eq_append_getElem hk, List.flatMap_append]; simp
theorem okProg_no {l0 : List S36} {i : Nat} (hi : i < l0.length) (h : okFunc l0[i] = false) : okProg l0 = false := by
  have : l0.all okFunc = false := by rw [List.all_eq_false]; exact ⟨_, List.getElem_mem hi, by simp [h]⟩
  simp [okProg, this]
theorem okFunc_no {f : S36} {i : Nat} (hi : i < f.f1.length) (h : okInstr f.f1[i] = false) : okFunc f = false := by
  have : f.f1.all okInstr = false := by rw [List.all_eq_false]; exact ⟨_, List.getElem_mem hi, by simp [h]⟩
  simp [okFunc, this]
theorem wst_next {w wr w1 : World} {v v1 : Value} {bs bs1 : List Int} {o : Obj} (h : WSt w wr v bs) (hb : Below (w.heap.size + 2) (wr.alloc o).drew w1) (hR : Kd.R (Kd.int .u8) 5 w1 (w.heap.size + 2) (fun _ => True) v1 bs1) :
    WSt w (w1.setCell ⟨w.heap.size, 0, none⟩ v1) v1 bs1 := by
  have h1 := blk_lt h.err
  have e0 := (hb.block _ (by omega)).trans ((Below.heap_alloc _ o _ (by omega)).trans h.out)
  have e1 := (hb.block _ (by omega)).trans ((Below.heap_alloc _ o _ h1).trans h.err)
  exact ⟨blk_set e0 0 _, blk_far e1 (by simp) _, Kd.R_set hR e0 (by decide) 0 _, Below.setCell (h.below.trans (((Below.refl _ wr).alloc (by omega) o).drew.trans (hb.mono (by omega)))) (Nat.le_refl _) _⟩
theorem wst_cells {w wr w1 : World} {v : Value} {bs : List Int} {o : Obj} (h : WSt w wr v bs) (hb : Below (w.heap.size + 2) (wr.alloc o).drew w1) :
    w1.heap[w.heap.size]? = some (.cells #[v] 43 (0, 0)) ∧ w1.heap[w.heap.size + 1]? = some (.cells #[.int .i64 0] 24 (0, 0)) := by
  have h1 := blk_lt h.err
  exact ⟨(hb.block _ (by omega)).trans ((Below.heap_alloc _ o _ (by omega)).trans h.out), (hb.block _ (by omega)).trans ((Below.heap_alloc _ o _ h1).trans h.err)⟩
theorem WSt.alloc {w wr : World} {v : Value} {bs : List Int} (h : WSt w wr v bs) (o : Obj) : WSt w (wr.alloc o) v bs := by
  have h1 := blk_lt h.err
  exact ⟨(Below.heap_alloc _ o _ (by omega)).trans h.out, (Below.heap_alloc _ o _ h1).trans h.err, Kd.R_alloc h.row o, h.below.alloc (by omega) o⟩
/-- another box stays. -/
theorem wst_box {w wr w1 : World} {v : Value} {bs : List Int} {o : Obj} {g t : Nat} {cs : Array Value} {u : Value} (h : WSt w wr v bs) (hg : (wr.alloc o).drew.grownBy w1 v.ownBlock) (hb : wr.heap[g]? = some (.cells cs t (0, 0))) (ht : 5 ≠ t) (hne : g ≠ w.heap.size) :
    (w1.setCell ⟨w.heap.size, 0, none⟩ u).heap[g]? = some (.cells cs t (0, 0)) := by
  have hb1 : (wr.alloc o).drew.heap[g]? = some (.cells cs t (0, 0)) := (Below.heap_alloc _ o _ (blk_lt hb)).trans hb
  exact blk_far (blk_grown hb1 hg (Kd.Q_ne (Kd.Q_of_R (Kd.R_drew (Kd.R_alloc h.row o))) hb1 ht)) hne _
theorem WSt.base {w wr : World} {v : Value} {bs : List Int} {o : Obj} (h : WSt w wr v bs) : w.heap.size + 2 ≤ (wr.alloc o).drew.heap.size := by
  have h1 := blk_lt h.err
  show _ ≤ (wr.heap.push o).size
  simp
  omega

set_option maxHeartbeats 4000000 in
set_option maxRecDepth 100000 in
theorem write_walk (A0 : Option Addr) (c0 : Nat) (l0 : List S36) (w : World) (hr0 : Kd.C k36 w A0 l0.length l0) (hc0 : l0.length ≤ c0) :
    Calls Try.prog 14 #[.slice A0 l0.length c0] w (wPost w l0) := by
  have hmf : ∀ (fn : Fn) (first cap : Array Value) (w : World), (Instr.makeFunc fn first cap).run Try.prog w = .ok (.func fn first cap) w := fun _ _ _ _ => rfl
  have HR0 := Aside0.mk hr0
  have HC0 := Aside0.mk hc0
  clear hr0 hc0
  go_enter_defers Try.func14, Try.ntmps14
  go_wp2_with fail
  have hst0 := wst_start w
  generalize (w.alloc (.cells #[.slice none 0 0] 43)).alloc (.cells #[.int .i64 0] 24) = wr at hst0 ⊢
  have HST := Aside0.mk hst0
  refine wp_region_seq (fun w' => w'.heap[w.heap.size]? = some (.cells #[.slice none 0 0] 43 (0, 0))) [5, 6] [.take 1, .take 2, .take 0, .op 3, .op 4, .fin 5, .fin 6] (by kernel_rfl) (by kernel_rfl) rfl (by kernel_rfl) (panic_put2 rfl (by kernel_rfl)) ?_
  have hs := hst0.out
  clear hst0
  repeat (
    refine runSeq_take (v := ?_) (by rfl) (by rfl) (fun w' hS => ?_) hs ?_
    rotate_left
    · (have c := blk_cell hS 0; go_simp; exact rfl)
    (try simp only [Act.put, List.setIfInBounds_toArray, List.set_cons_zero, List.set_cons_succ]))
  refine runSeq_op (by rfl) (by rfl) (fun K hK => ?_)
  go_simp
  refine (small_any _ _).mono ?_
  rintro e w' ⟨rfl, ⟨hf, rfl⟩ | ⟨hf, rfl⟩⟩
  rotate_left
  · exact write_panics l0 w _ _ _ (by simp [okProg, hf]) HST.out.out HST.out.err HST.out.below.drew rfl rfl
  refine hK _ _ hs ?_
  clear hK K
  refine runSeq_op (by rfl) (by rfl) (fun K hK => ?_)
  go_simp
  refine hK _ _ ((Below.heap_alloc _ _ _ (blk_lt hs)).trans hs) ?_
  clear hK K
  refine runSeq_fin (by rfl) (by rfl) (fun K hK => ?_)
  refine wp_append_nums .u8 (w.heap.size + 2) rfl (.tmp 9) (.tmp 13) 43 5 1 rfl Try.underlying43 info5 (by decide) _ ([]) ([72, (l0.length : Int)]) _ _ _ rfl rfl (Kd.R_drew (Kd.R_alloc HST.out.row _)) (reads_nums ([72, (l0.length : Int)]) (alloc_blk wr _) (by simp [wInstr])) HST.out.base (by simp) ?_
  intro v1 w1 hR hb hg hat
  have hst1 := wst_next HST.out hb hR
  obtain ⟨e0, e1⟩ := wst_cells HST.out hb
  skip
  obtain ⟨Av, cv, hv⟩ := Kd.R_slice hR
  obtain ⟨nv, hn⟩ : ∃ n, n = (([]) ++ ([72, (l0.length : Int)])).length := ⟨_, rfl⟩
  rw [← hn] at hv
  subst hv
  clear hn
  refine hK _ _ ?_
  clear hK K hR
  refine runSeq_fin (by rfl) (by rfl) (fun K hK => ?_)
  clear HST
  have HST := Aside0.mk hst1
  clear hb hg hat hst1
  have c := blk_cell e0 0
  have f := blk_frozen e0 0
  go_simp
  refine hK _ _ ?_
  clear hK K c f e0 e1 hs
  refine runSeq_nil ?_
  go_wp2_with fail
  generalize w1.setCell ⟨w.heap.size, 0, none⟩ (.slice Av nv cv) = wl at HST ⊢
  have HF := Aside0.mk hf
  clear w1 hf
  go_loopw [17] (fun v17 wr => ∃ (i : Nat) (v : Value), v17 = .int .i64 i ∧ i ≤ l0.length ∧ Aside0 ((l0.take i).all okFunc = true) ∧ Aside0 (WSt w wr v ([72, (l0.length : Int)] ++ (l0.take i).flatMap wFunc))) (fun v17 _ => l0.length - (intOf v17).toNat)
  case atStart => exact ⟨0, _, rfl, Nat.zero_le _, ⟨by simp⟩, ⟨by simpa using HST.out⟩⟩
  case round =>
    clear HST wl
    obtain ⟨i, v, rfl, hi, HOK, HST⟩ := hrel
    by_cases hlt : i < l0.length
    · have p1 : (0 : Int) ≤ (i : Int) := by omega
      have q1 : (i : Int) < (l0.length : Nat) := by omega
      obtain ⟨ad, A1, c1, rfl, hx0, hx1, hl1, hi1⟩ := at_T36 HR0.out i p1 q1
      replace hx0 := (HST.out.below.cell (World.block_lt_of_cell? w _ hx0)).trans hx0
      replace hx1 := (HST.out.below.cell (World.block_lt_of_cell? w _ hx1)).trans hx1
      simp only [Int.toNat_natCast] at hx0 hx1
      have hfi : rd_T36 l0 (i : Int) = l0[i] := by simp [rd_T36, hlt]
      rw [hfi] at hx0 hx1 hl1 hi1
      clear hfi
      generalize hfj : l0[i] = fi at hx0 hx1 hl1 hi1
      have HFI := Aside0.mk hfj
      clear hfj
      have HR1 := Aside0.mk hi1
      have HC1 := Aside0.mk hl1
      clear hi1 hl1
      have hu47 := Try.underlying36
      go_wp2_with fail
      have hst2 := HST.out.alloc (.cells #[.int .i64 fi.f0, .slice A1 fi.f1.length c1] 36)
      have hbx := alloc_blk wr (.cells #[.int .i64 fi.f0, .slice A1 fi.f1.length c1] 36)
      have hbn : wr.heap.size ≠ w.heap.size := by have := blk_lt HST.out.err; omega
      clear HST hx0 hx1 hu47 p1 q1
      generalize wr.heap.size = bf at hbx hbn ⊢
      generalize wr.alloc (.cells #[.int .i64 fi.f0, .slice A1 fi.f1.length c1] 36) = wr2 at hst2 hbx ⊢
      have HST := Aside0.mk hst2
      have HBX := Aside0.mk hbx
      have HBN := Aside0.mk hbn
      refine wp_region_seq (fun w' => w'.heap[w.heap.size]? = some (.cells #[v] 43 (0, 0)) ∧ w'.heap[bf]? = some (.cells #[.int .i64 fi.f0, .slice A1 fi.f1.length c1] 36 (0, 0))) [9, 10] [.take 1, .take 2, .take 4, .take 5, .take 6, .take 0, .op 3, .op 7, .op 8, .fin 9, .fin 10] (by kernel_rfl) (by kernel_rfl) rfl (by kernel_rfl) (panic_put2 rfl (by kernel_rfl)) ?_
      have hs := And.intro hst2.out hbx
      clear hst2 hbx hbn
      repeat (
        refine runSeq_take (v := ?_) (by rfl) (by rfl) (fun w' hS => ?_) hs ?_
        rotate_left
        · (have c := blk_cell hS.1 0; have b0 := blk_cell hS.2 0; have b1 := blk_cell hS.2 1; go_simp; exact rfl)
        (try simp only [Act.put, List.setIfInBounds_toArray, List.set_cons_zero, List.set_cons_succ]))
      refine runSeq_op (by rfl) (by rfl) (fun K hK => ?_)
      go_simp
      refine (small_any _ _).mono ?_
      rintro e w' ⟨rfl, ⟨hf0, rfl⟩ | ⟨hf0, rfl⟩⟩
      rotate_left
      · exact write_panics l0 w _ _ _ (by exact okProg_no hlt (by rw [HFI.out]; simp [okFunc, hf0])) HST.out.out HST.out.err HST.out.below.drew rfl rfl
      refine hK _ _ hs ?_
      clear hK K
      refine runSeq_op (by rfl) (by rfl) (fun K hK => ?_)
      go_simp
      refine (small_any _ _).mono ?_
      rintro e w' ⟨rfl, ⟨hf1, rfl⟩ | ⟨hf1, rfl⟩⟩
      rotate_left
      · exact write_panics l0 w _ _ _ (by exact okProg_no hlt (by rw [HFI.out]; simp [okFunc, hf1])) HST.out.out HST.out.err HST.out.below.drew rfl rfl
      refine hK _ _ hs ?_
      clear hK K
      refine runSeq_op (by rfl) (by rfl) (fun K hK => ?_)
      go_simp
      refine hK _ _ (⟨(Below.heap_alloc _ _ _ (blk_lt hs.1)).trans hs.1, (Below.heap_alloc _ _ _ (blk_lt hs.2)).trans hs.2⟩) ?_
      clear hK K
      refine runSeq_fin (by rfl) (by rfl) (fun K hK => ?_)
      refine wp_append_nums .u8 (w.heap.size + 2) rfl (.tmp 21) (.tmp 29) 43 5 1 rfl Try.underlying43 info5 (by decide) _ ([72, (l0.length : Int)] ++ (l0.take i).flatMap wFunc) ([fi.f0, (fi.f1.length : Int)]) _ _ _ rfl rfl (Kd.R_drew (Kd.R_alloc HST.out.row _)) (reads_nums ([fi.f0, (fi.f1.length : Int)]) (alloc_blk wr2 _) (by simp [wInstr])) HST.out.base (by have := wlen_ok HF.out HOK.out; simp only [List.length_append, List.length_cons, List.length_nil]; omega) ?_
      intro v1 w1 hR hb hg hat
      have hst1 := wst_next HST.out hb hR
      obtain ⟨e0, e1⟩ := wst_cells HST.out hb
      have hbx := wst_box (u := v1) HST.out hg HBX.out (by decide) HBN.out
      obtain ⟨Av, cv, hv⟩ := Kd.R_slice hR
      obtain ⟨nv, hn⟩ : ∃ n, n = (([72, (l0.length : Int)] ++ (l0.take i).flatMap wFunc) ++ ([fi.f0, (fi.f1.length : Int)])).length := ⟨_, rfl⟩
      rw [← hn] at hv
      subst hv
      clear hn
      refine hK _ _ ?_
      clear hK K hR
      refine runSeq_fin (by rfl) (by rfl) (fun K hK => ?_)
      clear HST
      have HST := Aside0.mk hst1
      clear hb hg hat hst1
      have c := blk_cell e0 0
      have f := blk_frozen e0 0
      go_simp
      refine hK _ _ ?_
      clear hK K c f e0 e1 hs
      refine runSeq_nil ?_
      generalize w1.setCell ⟨w.heap.size, 0, none⟩ (.slice Av nv cv) = wl at HST hbx ⊢
      have HF0 := Aside0.mk hf0
      have HF1 := Aside0.mk hf1
      clear HBX w1 hf0 hf1
      have HBX := Aside0.mk hbx
      have b1 := blk_cell hbx 1
      clear hbx
      go_wp2_with fail
      clear b1
      go_loopw [34] (fun v34 wr => ∃ (k : Nat) (v : Value), v34 = .int .i64 k ∧ k ≤ fi.f1.length ∧ Aside0 ((fi.f1.take k).all okInstr = true) ∧ Aside0 (wr.heap[bf]? = some (.cells #[.int .i64 fi.f0, .slice A1 fi.f1.length c1] 36 (0, 0))) ∧
        Aside0 (WSt w wr v ([72, (l0.length : Int)] ++ (l0.take i).flatMap wFunc ++ [fi.f0, (fi.f1.length : Int)] ++ (fi.f1.take k).flatMap wInstr))) (fun v34 _ => fi.f1.length - (intOf v34).toNat)
      case atStart => exact ⟨0, _, rfl, Nat.zero_le _, ⟨by simp⟩, HBX, ⟨by simpa using HST.out⟩⟩
      case round =>
        clear HST HBX wl
        obtain ⟨k, v, rfl, hk, HOI, HBX, HST⟩ := hrel
        by_cases hlk : k < fi.f1.length
        · have p1 : (0 : Int) ≤ (k : Int) := by omega
          have q1 : (k : Int) < (fi.f1.length : Nat) := by omega
          obtain ⟨ad2, rfl, hx0, hx1, hx2, hx3, hx4⟩ := at_T33 HR1.out k p1 q1
          replace hx0 := (HST.out.below.cell (World.block_lt_of_cell? w _ hx0)).trans hx0
          replace hx1 := (HST.out.below.cell (World.block_lt_of_cell? w _ hx1)).trans hx1
          replace hx2 := (HST.out.below.cell (World.block_lt_of_cell? w _ hx2)).trans hx2
          replace hx3 := (HST.out.below.cell (World.block_lt_of_cell? w _ hx3)).trans hx3
          replace hx4 := (HST.out.below.cell (World.block_lt_of_cell? w _ hx4)).trans hx4
          simp only [Int.toNat_natCast] at hx0 hx1 hx2 hx3 hx4
          have hgi : rd_T33 fi.f1 (k : Int) = fi.f1[k] := by simp [rd_T33, hlk]
          rw [hgi] at hx0 hx1 hx2 hx3 hx4
          clear hgi
          generalize hgj : fi.f1[k] = gi at hx0 hx1 hx2 hx3 hx4
          have HGI := Aside0.mk hgj
          clear hgj
          have hu44 := Try.underlying33
          go_upto_region 10 with (fail)
          have hst2 := HST.out.alloc (.cells #[.int .i64 gi.f0, .int .i64 gi.f1, .int .i64 gi.f2, .int .i64 gi.f3, .int .i64 gi.f4] 33)
          have hbx2 := (Below.heap_alloc wr (.cells #[.int .i64 gi.f0, .int .i64 gi.f1, .int .i64 gi.f2, .int .i64 gi.f3, .int .i64 gi.f4] 33) _ (blk_lt HBX.out)).trans HBX.out
          have hbg := alloc_blk wr (.cells #[.int .i64 gi.f0, .int .i64 gi.f1, .int .i64 gi.f2, .int .i64 gi.f3, .int .i64 gi.f4] 33)
          have hgn : wr.heap.size ≠ w.heap.size := by have := blk_lt HST.out.err; omega
          clear HST HBX hx0 hx1 hx2 hx3 hx4 hu44 p1 q1
          generalize wr.heap.size = bg at hbg hgn ⊢
          generalize wr.alloc (.cells #[.int .i64 gi.f0, .int .i64 gi.f1, .int .i64 gi.f2, .int .i64 gi.f3, .int .i64 gi.f4] 33) = wr3 at hst2 hbx2 hbg ⊢
          have HST := Aside0.mk hst2
          have HBX := Aside0.mk hbx2
          have HBG := Aside0.mk hbg
          have HGN := Aside0.mk hgn
          have b4 := blk_cell hbg 4
          clear hst2 hbx2 hbg hgn
          by_cases h0 : -2147483648 ≤ gi.f4
          · by_cases h1 : gi.f4 < 2147483648
            · go_wp2_with (go_at_call 23; refine (code_need_ok _ _).mono ?_; rintro e w' ⟨rfl, rfl⟩)
              clear b4
              refine wp_region_seq (fun w' => w'.heap[w.heap.size]? = some (.cells #[v] 43 (0, 0)) ∧ w'.heap[bg]? = some (.cells #[.int .i64 gi.f0, .int .i64 gi.f1, .int .i64 gi.f2, .int .i64 gi.f3, .int .i64 gi.f4] 33 (0, 0))) [29, 30]
                [.take 1, .take 2, .take 4, .take 5, .take 7, .take 8, .take 10, .take 11, .take 13, .take 14, .take 15, .take 16, .take 17, .take 18, .take 19, .take 20, .take 21, .take 22, .take 23, .take 24, .take 25, .take 26, .take 27, .take 0, .op 3, .op 6, .op 9, .op 12, .op 28, .fin 29, .fin 30] (by kernel_rfl) (by kernel_rfl) rfl (by kernel_rfl) (panic_put2 rfl (by kernel_rfl)) ?_
              have hs := And.intro HST.out.out HBG.out
              repeat (
                refine runSeq_take (v := ?_) (by rfl) (by rfl) (fun w' hS => ?_) hs ?_
                rotate_left
                · (have c := blk_cell hS.1 0; have b0 := blk_cell hS.2 0; have b1 := blk_cell hS.2 1; have b2 := blk_cell hS.2 2; have b3 := blk_cell hS.2 3; have b4 := blk_cell hS.2 4; go_simp; exact rfl)
                (try simp only [Act.put, List.setIfInBounds_toArray, List.set_cons_zero, List.set_cons_succ]))
              have NO : ∀ g : S33, fi.f1[k] = g → okInstr g = false → okProg l0 = false := fun g e h => okProg_no hlt (by rw [HFI.out]; exact okFunc_no hlk (by rw [e]; exact h))
              refine runSeq_op (by rfl) (by rfl) (fun K hK => ?_)
              go_simp
              refine (small_any _ _).mono ?_
              rintro e w' ⟨rfl, ⟨hg0, rfl⟩ | ⟨hg0, rfl⟩⟩
              rotate_left
              · exact write_panics l0 w _ _ _ (by exact NO gi HGI.out (by simp [okInstr, hg0])) HST.out.out HST.out.err HST.out.below.drew rfl rfl
              refine hK _ _ hs ?_
              clear hK K
              refine runSeq_op (by rfl) (by rfl) (fun K hK => ?_)
              go_simp
              refine (small_any _ _).mono ?_
              rintro e w' ⟨rfl, ⟨hg1, rfl⟩ | ⟨hg1, rfl⟩⟩
              rotate_left
              · exact write_panics l0 w _ _ _ (by exact NO gi HGI.out (by simp [okInstr, hg1])) HST.out.out HST.out.err HST.out.below.drew rfl rfl
              refine hK _ _ hs ?_
              clear hK K
              refine runSeq_op (by rfl) (by rfl) (fun K hK => ?_)
              go_simp
              refine (small_any _ _).mono ?_
              rintro e w' ⟨rfl, ⟨hg2, rfl⟩ | ⟨hg2, rfl⟩⟩
              rotate_left
              · exact write_panics l0 w _ _ _ (by exact NO gi HGI.out (by simp [okInstr, hg2])) HST.out.out HST.out.err HST.out.below.drew rfl rfl
              refine hK _ _ hs ?_
              clear hK K
              refine runSeq_op (by rfl) (by rfl) (fun K hK => ?_)
              go_simp
              refine (small_any _ _).mono ?_
              rintro e w' ⟨rfl, ⟨hg3, rfl⟩ | ⟨hg3, rfl⟩⟩
              rotate_left
              · exact write_panics l0 w _ _ _ (by exact NO gi HGI.out (by simp [okInstr, hg3])) HST.out.out HST.out.err HST.out.below.drew rfl rfl
              refine hK _ _ hs ?_
              clear hK K
              have HGS := Aside0.mk (And.intro hg0 (And.intro hg1 (And.intro hg2 hg3)))
              clear hg0 hg1 hg2 hg3 NO
              refine runSeq_op (by rfl) (by rfl) (fun K hK => ?_)
              go_simp
              refine hK _ _ (⟨(Below.heap_alloc _ _ _ (blk_lt hs.1)).trans hs.1, (Below.heap_alloc _ _ _ (blk_lt hs.2)).trans hs.2⟩) ?_
              clear hK K
              refine runSeq_fin (by rfl) (by rfl) (fun K hK => ?_)
              refine wp_append_nums .u8 (w.heap.size + 2) rfl (.tmp 47) (.tmp 75) 43 5 1 rfl Try.underlying43 info5 (by decide) _ ([72, (l0.length : Int)] ++ (l0.take i).flatMap wFunc ++ [fi.f0, (fi.f1.length : Int)] ++ (fi.f1.take k).flatMap wInstr) (wInstr gi) _ _ _ rfl rfl (Kd.R_drew (Kd.R_alloc HST.out.row _)) (reads_nums (wInstr gi) (alloc_blk wr3 _) (by simp [wInstr])) HST.out.base (by have := wlen_ok HF.out HOK.out; have := ilen_ok (k := k) HF1.out; simp only [List.length_append, List.length_cons, List.length_nil, wInstr]; omega) ?_
              intro v1 w1 hR hb hg hat
              have hst1 := wst_next HST.out hb hR
              obtain ⟨e0, e1⟩ := wst_cells HST.out hb
              have hbx := wst_box (u := v1) HST.out hg HBX.out (by decide) HBN.out
              obtain ⟨Av, cv, hv⟩ := Kd.R_slice hR
              obtain ⟨nv, hn⟩ : ∃ n, n = (([72, (l0.length : Int)] ++ (l0.take i).flatMap wFunc ++ [fi.f0, (fi.f1.length : Int)] ++ (fi.f1.take k).flatMap wInstr) ++ (wInstr gi)).length := ⟨_, rfl⟩
              rw [← hn] at hv
              subst hv
              clear hn
              refine hK _ _ ?_
              clear hK K hR
              refine runSeq_fin (by rfl) (by rfl) (fun K hK => ?_)
              clear HST
              have HST := Aside0.mk hst1
              clear hb hg hat hst1
              have c := blk_cell e0 0
              have f := blk_frozen e0 0
              go_simp
              refine hK _ _ ?_
              clear hK K c f e0 e1 hs
              refine runSeq_nil ?_
              have hm1 := fits_le HF1.out
              go_wp2_with fail
              go_roundw
              case rel => exact ⟨k + 1, _, by go_num, by omega, ⟨take_snoc_all hlk HOI.out (by rw [HGI.out]; simp [okInstr, h0, h1, HGS.out.1, HGS.out.2.1, HGS.out.2.2.1, HGS.out.2.2.2])⟩, ⟨hbx⟩, ⟨by rw [take_snoc_flat hlk, HGI.out, ← List.append_assoc]; exact HST.out⟩⟩
              case measure => simp [intOf]; omega
            · go_wp2_with (go_at_call 23; refine (code_need_no _ _).mono ?_; rintro e w' ⟨rfl, rfl⟩)
              exact write_panics l0 w _ _ _ (okProg_no hlt (by rw [HFI.out]; exact okFunc_no hlk (by rw [HGI.out]; simp [okInstr, h1]; omega))) HST.out.out HST.out.err HST.out.below rfl rfl
          · go_wp2_with (go_at_call 23; refine (code_need_no _ _).mono ?_; rintro e w' ⟨rfl, rfl⟩)
            exact write_panics l0 w _ _ _ (okProg_no hlt (by rw [HFI.out]; exact okFunc_no hlk (by rw [HGI.out]; simp [okInstr, h0]; omega))) HST.out.out HST.out.err HST.out.below rfl rfl
        · obtain rfl : k = fi.f1.length := by omega
          clear hk
          have hm1 := fits_le HF.out
          go_wp2_with fail
          go_roundw
          case rel => exact ⟨i + 1, _, by go_num, by omega, ⟨take_snoc_all hlt HOK.out (by rw [HFI.out]; simp [okFunc, HF0.out, HF1.out]; simpa using HOI.out)⟩, ⟨by rw [take_snoc_flat hlt, HFI.out]; have := HST.out; simpa [wFunc] using this⟩⟩
          case measure => simp [intOf]; omega
    · obtain rfl : i = l0.length := by omega
      clear hi
      obtain ⟨Av2, cv2, hv⟩ := Kd.R_slice HST.out.row
      obtain ⟨nv2, hn⟩ : ∃ n, n = ([72, (l0.length : Int)] ++ (l0.take l0.length).flatMap wFunc).length := ⟨_, rfl⟩
      rw [← hn] at hv
      subst hv
      clear hn
      have c0 := blk_cell HST.out.out 0
      have f0 := blk_frozen HST.out.out 0
      have c1 := blk_cell HST.out.err 0
      have f1 := blk_frozen HST.out.err 0
      go_wp2_with fail
      have e0 := blk_far (p := ⟨w.heap.size + 1, 0, none⟩) (blk_set HST.out.out 0 (.slice Av2 nv2 cv2)) (by simp) (.int .i64 0)
      have e1 := blk_set (blk_far (p := ⟨w.heap.size, 0, none⟩) HST.out.err (by simp) (.slice Av2 nv2 cv2)) 0 (.int .i64 0)
      have eR := Kd.R_set (Kd.R_set HST.out.row HST.out.out (by decide) 0 (.slice Av2 nv2 cv2)) (blk_far (p := ⟨w.heap.size, 0, none⟩) HST.out.err (by simp) (.slice Av2 nv2 cv2)) (by decide) 0 (.int .i64 0)
      have eB := Below.setCell (p := ⟨w.heap.size + 1, 0, none⟩) (Below.setCell (p := ⟨w.heap.size, 0, none⟩) HST.out.below (Nat.le_refl _) (.slice Av2 nv2 cv2)) (show w.heap.size ≤ w.heap.size + 1 by omega) (.int .i64 0)
      have q1 := blk_cell e0 0
      have q2 := blk_cell e1 0
      refine leaves_cons (f := 20) (args := #[.pointer (some ⟨w.heap.size, 0, none⟩), .pointer (some ⟨w.heap.size + 1, 0, none⟩)]) (by simp) (by simp [go_sem]) ?_
      refine (catch_idle _ _ _).mono ?_
      rintro e u' w2 ⟨rfl, rfl, rfl⟩
      refine ⟨.tuple #[.slice Av2 nv2 cv2, .int .i64 0], ?_, ?_⟩
      · simp [results, Try.results14, go_sem, q1, q2]
      · refine ⟨wProg l0, 0, ?_, _, rfl, ?_, ?_⟩
        · have := HOK.out
          rw [List.take_length] at this
          simp [code_Write.f, okProg, HF.out, this]
        · have := Kd.R_lower eR (Nat.le_add_right _ 2)
          simpa [wProg] using this
        · exact eB

theorem code_Write.calls (A0 : Option Addr) (c0 : Nat) (l0 : List (S36)) (r1 : List Int) (r2 : Int) (w : World) (hr0 : Kd.C k36 w A0 l0.length l0) (hc0 : l0.length ≤ c0) (h : code_Write.f l0 = some (r1, r2)) :
    Calls Try.prog 14 #[.slice A0 l0.length c0] w fun e w' => ∃ v0_ : Value, e = .returned (.tuple #[v0_, .int .i64 r2]) ∧ Kd.R (Kd.int .u8) 5 w' w.heap.size (fun _ => True) v0_ r1 ∧ Below w.heap.size w w' := by
  refine (write_walk A0 c0 l0 w hr0 hc0).mono ?_
  rintro e w' ⟨q1, q2, hq, v, he, hR, hb⟩
  rw [h] at hq
  obtain ⟨rfl, rfl⟩ := Prod.mk.inj (Option.some.inj hq)
  exact ⟨v, he, hR, hb⟩
#print axioms code_Write.calls
end Go.Proofs.Ytkbbgkhanmmhpaa.H
