/- What the proof of FrameNew stands on, part 7: this session's own texts and the words that the kit's print lays, those that are used. -/
import Derived.Test.YtcciejcpijlkfaaZFrameNew6
set_option linter.unusedVariables false
set_option linter.unusedSimpArgs false
namespace Go.Proofs.Ytcciejcpijlkfaa.H
open Go.RowKit Go.Hay Go.Proofs.YtcciejcpijlkfaaW.PrintWords Go.Proofs.YtcciejcpijlkfaaW.PrintLast Go.Proofs.YtcciejcpijlkfaaW.PrintMore
theorem panic_via {P : Program} {fn : Func} {R : Ending → World → Prop} {ops : Array Oper} {Q : Exit → Act → World → Prop} (hQ : ∀ c a w, Q (.panic c) a w = bodyPost P fn R (.panic c) a w) :
    ∀ o ∈ ops.toList, ∀ c a v w, Q (.panic c) (a.put o.dst v) w → Q (.panic c) a w := by
  intro o ho c a v w h
  rw [hQ] at h ⊢
  exact panic_put (P := P) (fn := fn) (R := R) o ho c a v w h
def wrongV (f at_ e : Int) : Value := .iface 155 (.agg #[.int .i64 f, .int .i64 at_, .int .i64 e])
set_option maxRecDepth 100000 in
theorem need_ok (A : Option Addr) (n c : Nat) (f at_ e : Int) (w : World) : Calls Try.prog 60 #[.agg #[.slice A n c, .int .i64 f, .int .i64 at_], .bool true, .int .i64 e] w fun x w' => x = .returned (.tuple #[]) ∧ Below w.heap.size w w' := by
  have hu158 := Try.underlying158
  go_enter Try.func60, Try.ntmps60
  go_wp2
  go_end0
  exact ⟨rfl, (Below.refl _ _).alloc (Nat.le_refl _) _⟩
set_option maxRecDepth 100000 in
theorem need_no (A : Option Addr) (n c : Nat) (f at_ e : Int) (w : World) : Calls Try.prog 60 #[.agg #[.slice A n c, .int .i64 f, .int .i64 at_], .bool false, .int .i64 e] w fun x w' => x = .panicked [{ v := wrongV f at_ e, recovered := false }] ∧ Below w.heap.size w w' := by
  have hu158 := Try.underlying158
  have hu155 := Try.underlying155
  go_enter Try.func60, Try.ntmps60
  go_wp2
  exact ⟨rfl, rfl, (Below.refl _ _).alloc (Nat.le_refl _) _⟩
def stopPost (f at_ : Int) (r : Option Int) (w : World) (x : Ending) (w' : World) : Prop := Below w.heap.size w w' ∧ match r with
  | none => x = .returned (.tuple #[])
  | some e => x = .panicked [{ v := wrongV f at_ e, recovered := false }]
theorem need_any (A : Option Addr) (n c : Nat) (f at_ e : Int) (b : Bool) (w : World) : Calls Try.prog 60 #[.agg #[.slice A n c, .int .i64 f, .int .i64 at_], .bool b, .int .i64 e] w (stopPost f at_ (if b then none else some e) w) := by
  cases b with
  | true => exact (need_ok A n c f at_ e w).mono fun x w' h => ⟨h.2, h.1⟩
  | false => exact (need_no A n c f at_ e w).mono fun x w' h => ⟨h.2, h.1⟩
set_option maxRecDepth 100000 in
set_option maxHeartbeats 4000000 in
theorem field_1 (A : Option Addr) (c : Nat) (l : List S68) (f : Nat) (at_ n : Int) (w : World) (hf : f < l.length) :
    Calls Try.prog 81 #[.agg #[.slice A l.length c, .int .i64 f, .int .i64 at_], .int .i64 n, .int .i64 1] w (stopPost f at_ (fieldE l.length l[f].f1.length n 1) w) := by
  have hu158 := Try.underlying158
  have hbl := (Below.refl w.heap.size w).alloc (Nat.le_refl _) (.cells #[.slice A l.length c, .int .i64 f, .int .i64 at_] 158)
  have HB := Aside0.mk hbl
  clear hbl
  by_cases h0 : (0) ≤ n
  · by_cases h1 : n < (8)
    · have hI : inB (0) (8) n = true := by simp only [inB, Bool.and_eq_true, decide_eq_true_eq]; exact ⟨h0, h1⟩
      have hE : fieldE l.length l[f].f1.length n 1 = none := by simp [fieldE, hI]
      rw [hE]
      clear hI hE
      go_enter Try.func81, Try.ntmps81
      go_wp2_with (go_at_call 60; refine (need_ok A l.length c f at_ 6 _).mono ?_; rintro x w' ⟨rfl, hb⟩)
      go_end0
      exact ⟨HB.out.trans (hb.mono HB.out.size), rfl⟩
    · have hI : inB (0) (8) n = false := by simp only [inB, Bool.and_eq_false_iff, decide_eq_false_iff_not]; exact .inr h1
      have hE : fieldE l.length l[f].f1.length n 1 = some (6) := by simp [fieldE, hI]
      rw [hE]
      clear hI hE
      go_enter Try.func81, Try.ntmps81
      go_wp2_with (go_at_call 60; refine (need_no A l.length c f at_ 6 _).mono ?_; rintro x w' ⟨rfl, hb⟩)
      exact ⟨rfl, HB.out.trans (hb.mono HB.out.size), rfl⟩
  · have hI : inB (0) (8) n = false := by simp only [inB, Bool.and_eq_false_iff, decide_eq_false_iff_not]; exact .inl h0
    have hE : fieldE l.length l[f].f1.length n 1 = some (6) := by simp [fieldE, hI]
    rw [hE]
    clear hI hE
    go_enter Try.func81, Try.ntmps81
    go_wp2_with (go_at_call 60; refine (need_no A l.length c f at_ 6 _).mono ?_; rintro x w' ⟨rfl, hb⟩)
    exact ⟨rfl, HB.out.trans (hb.mono HB.out.size), rfl⟩
set_option maxRecDepth 100000 in
set_option maxHeartbeats 4000000 in
theorem field_2 (A : Option Addr) (c : Nat) (l : List S68) (f : Nat) (at_ n : Int) (w : World) (hf : f < l.length) :
    Calls Try.prog 81 #[.agg #[.slice A l.length c, .int .i64 f, .int .i64 at_], .int .i64 n, .int .i64 2] w (stopPost f at_ (fieldE l.length l[f].f1.length n 2) w) := by
  have hu158 := Try.underlying158
  have hbl := (Below.refl w.heap.size w).alloc (Nat.le_refl _) (.cells #[.slice A l.length c, .int .i64 f, .int .i64 at_] 158)
  have HB := Aside0.mk hbl
  clear hbl
  by_cases h0 : (0) ≤ n
  · by_cases h1 : n < (4)
    · have hI : inB (0) (4) n = true := by simp only [inB, Bool.and_eq_true, decide_eq_true_eq]; exact ⟨h0, h1⟩
      have hE : fieldE l.length l[f].f1.length n 2 = none := by simp [fieldE, hI]
      rw [hE]
      clear hI hE
      go_enter Try.func81, Try.ntmps81
      go_wp2_with (go_at_call 60; refine (need_ok A l.length c f at_ 6 _).mono ?_; rintro x w' ⟨rfl, hb⟩)
      go_end0
      exact ⟨HB.out.trans (hb.mono HB.out.size), rfl⟩
    · have hI : inB (0) (4) n = false := by simp only [inB, Bool.and_eq_false_iff, decide_eq_false_iff_not]; exact .inr h1
      have hE : fieldE l.length l[f].f1.length n 2 = some (6) := by simp [fieldE, hI]
      rw [hE]
      clear hI hE
      go_enter Try.func81, Try.ntmps81
      go_wp2_with (go_at_call 60; refine (need_no A l.length c f at_ 6 _).mono ?_; rintro x w' ⟨rfl, hb⟩)
      exact ⟨rfl, HB.out.trans (hb.mono HB.out.size), rfl⟩
  · have hI : inB (0) (4) n = false := by simp only [inB, Bool.and_eq_false_iff, decide_eq_false_iff_not]; exact .inl h0
    have hE : fieldE l.length l[f].f1.length n 2 = some (6) := by simp [fieldE, hI]
    rw [hE]
    clear hI hE
    go_enter Try.func81, Try.ntmps81
    go_wp2_with (go_at_call 60; refine (need_no A l.length c f at_ 6 _).mono ?_; rintro x w' ⟨rfl, hb⟩)
    exact ⟨rfl, HB.out.trans (hb.mono HB.out.size), rfl⟩
set_option maxRecDepth 100000 in
set_option maxHeartbeats 4000000 in
theorem field_3 (A : Option Addr) (c : Nat) (l : List S68) (f : Nat) (at_ n : Int) (w : World) (hf : f < l.length) :
    Calls Try.prog 81 #[.agg #[.slice A l.length c, .int .i64 f, .int .i64 at_], .int .i64 n, .int .i64 3] w (stopPost f at_ (fieldE l.length l[f].f1.length n 3) w) := by
  have hu158 := Try.underlying158
  have hbl := (Below.refl w.heap.size w).alloc (Nat.le_refl _) (.cells #[.slice A l.length c, .int .i64 f, .int .i64 at_] 158)
  have HB := Aside0.mk hbl
  clear hbl
  by_cases h0 : (0) ≤ n
  · by_cases h1 : n < (l.length)
    · have hI : inB (0) (l.length) n = true := by simp only [inB, Bool.and_eq_true, decide_eq_true_eq]; exact ⟨h0, h1⟩
      have hE : fieldE l.length l[f].f1.length n 3 = none := by simp [fieldE, hI]
      rw [hE]
      clear hI hE
      go_enter Try.func81, Try.ntmps81
      go_wp2_with (go_at_call 60; refine (need_ok A l.length c f at_ 5 _).mono ?_; rintro x w' ⟨rfl, hb⟩)
      go_end0
      exact ⟨HB.out.trans (hb.mono HB.out.size), rfl⟩
    · have hI : inB (0) (l.length) n = false := by simp only [inB, Bool.and_eq_false_iff, decide_eq_false_iff_not]; exact .inr h1
      have hE : fieldE l.length l[f].f1.length n 3 = some (5) := by simp [fieldE, hI]
      rw [hE]
      clear hI hE
      go_enter Try.func81, Try.ntmps81
      go_wp2_with (go_at_call 60; refine (need_no A l.length c f at_ 5 _).mono ?_; rintro x w' ⟨rfl, hb⟩)
      exact ⟨rfl, HB.out.trans (hb.mono HB.out.size), rfl⟩
  · have hI : inB (0) (l.length) n = false := by simp only [inB, Bool.and_eq_false_iff, decide_eq_false_iff_not]; exact .inl h0
    have hE : fieldE l.length l[f].f1.length n 3 = some (5) := by simp [fieldE, hI]
    rw [hE]
    clear hI hE
    go_enter Try.func81, Try.ntmps81
    go_wp2_with (go_at_call 60; refine (need_no A l.length c f at_ 5 _).mono ?_; rintro x w' ⟨rfl, hb⟩)
    exact ⟨rfl, HB.out.trans (hb.mono HB.out.size), rfl⟩
set_option maxRecDepth 100000 in
set_option maxHeartbeats 4000000 in
theorem field_6 (A : Option Addr) (c : Nat) (l : List S68) (f : Nat) (at_ n : Int) (w : World) (hf : f < l.length) :
    Calls Try.prog 81 #[.agg #[.slice A l.length c, .int .i64 f, .int .i64 at_], .int .i64 n, .int .i64 6] w (stopPost f at_ (fieldE l.length l[f].f1.length n 6) w) := by
  have hu158 := Try.underlying158
  have hbl := (Below.refl w.heap.size w).alloc (Nat.le_refl _) (.cells #[.slice A l.length c, .int .i64 f, .int .i64 at_] 158)
  have HB := Aside0.mk hbl
  clear hbl
  by_cases h0 : (16) ≤ n
  · by_cases h1 : n < (2147483648)
    · have hI : inB (16) (2147483648) n = true := by simp only [inB, Bool.and_eq_true, decide_eq_true_eq]; exact ⟨h0, h1⟩
      have hE : fieldE l.length l[f].f1.length n 6 = none := by simp [fieldE, hI]
      rw [hE]
      clear hI hE
      go_enter Try.func81, Try.ntmps81
      go_wp2_with (go_at_call 60; refine (need_ok A l.length c f at_ 6 _).mono ?_; rintro x w' ⟨rfl, hb⟩)
      go_end0
      exact ⟨HB.out.trans (hb.mono HB.out.size), rfl⟩
    · have hI : inB (16) (2147483648) n = false := by simp only [inB, Bool.and_eq_false_iff, decide_eq_false_iff_not]; exact .inr h1
      have hE : fieldE l.length l[f].f1.length n 6 = some (6) := by simp [fieldE, hI]
      rw [hE]
      clear hI hE
      go_enter Try.func81, Try.ntmps81
      go_wp2_with (go_at_call 60; refine (need_no A l.length c f at_ 6 _).mono ?_; rintro x w' ⟨rfl, hb⟩)
      exact ⟨rfl, HB.out.trans (hb.mono HB.out.size), rfl⟩
  · have hI : inB (16) (2147483648) n = false := by simp only [inB, Bool.and_eq_false_iff, decide_eq_false_iff_not]; exact .inl h0
    have hE : fieldE l.length l[f].f1.length n 6 = some (6) := by simp [fieldE, hI]
    rw [hE]
    clear hI hE
    go_enter Try.func81, Try.ntmps81
    go_wp2_with (go_at_call 60; refine (need_no A l.length c f at_ 6 _).mono ?_; rintro x w' ⟨rfl, hb⟩)
    exact ⟨rfl, HB.out.trans (hb.mono HB.out.size), rfl⟩
set_option maxRecDepth 100000 in
set_option maxHeartbeats 4000000 in
theorem field_4 (A : Option Addr) (c : Nat) (l : List S68) (f : Nat) (at_ n : Int) (w : World) (hf : f < l.length) :
    Calls Try.prog 81 #[.agg #[.slice A l.length c, .int .i64 f, .int .i64 at_], .int .i64 n, .int .i64 4] w (stopPost f at_ (fieldE l.length l[f].f1.length n 4) w) := by
  have hu158 := Try.underlying158
  have hbl := (Below.refl w.heap.size w).alloc (Nat.le_refl _) (.cells #[.slice A l.length c, .int .i64 f, .int .i64 at_] 158)
  have HB := Aside0.mk hbl
  clear hbl
  by_cases h0 : (-2147483648) ≤ n
  · by_cases h1 : n < (2147483648)
    · have hI : inB (-2147483648) (2147483648) n = true := by simp only [inB, Bool.and_eq_true, decide_eq_true_eq]; exact ⟨h0, h1⟩
      have hE : fieldE l.length l[f].f1.length n 4 = none := by simp [fieldE, hI]
      rw [hE]
      clear hI hE
      go_enter Try.func81, Try.ntmps81
      go_wp2_with (go_at_call 60; refine (need_ok A l.length c f at_ 6 _).mono ?_; rintro x w' ⟨rfl, hb⟩)
      go_end0
      exact ⟨HB.out.trans (hb.mono HB.out.size), rfl⟩
    · have hI : inB (-2147483648) (2147483648) n = false := by simp only [inB, Bool.and_eq_false_iff, decide_eq_false_iff_not]; exact .inr h1
      have hE : fieldE l.length l[f].f1.length n 4 = some (6) := by simp [fieldE, hI]
      rw [hE]
      clear hI hE
      go_enter Try.func81, Try.ntmps81
      go_wp2_with (go_at_call 60; refine (need_no A l.length c f at_ 6 _).mono ?_; rintro x w' ⟨rfl, hb⟩)
      exact ⟨rfl, HB.out.trans (hb.mono HB.out.size), rfl⟩
  · have hI : inB (-2147483648) (2147483648) n = false := by simp only [inB, Bool.and_eq_false_iff, decide_eq_false_iff_not]; exact .inl h0
    have hE : fieldE l.length l[f].f1.length n 4 = some (6) := by simp [fieldE, hI]
    rw [hE]
    clear hI hE
    go_enter Try.func81, Try.ntmps81
    go_wp2_with (go_at_call 60; refine (need_no A l.length c f at_ 6 _).mono ?_; rintro x w' ⟨rfl, hb⟩)
    exact ⟨rfl, HB.out.trans (hb.mono HB.out.size), rfl⟩
set_option maxRecDepth 100000 in
set_option maxHeartbeats 4000000 in
theorem field_5 (A : Option Addr) (c : Nat) (l : List S68) (f : Nat) (at_ n : Int) (w : World) (hC : k68.C w A l.length l) (hf : f < l.length) :
    Calls Try.prog 81 #[.agg #[.slice A l.length c, .int .i64 f, .int .i64 at_], .int .i64 n, .int .i64 5] w (stopPost f at_ (fieldE l.length l[f].f1.length n 5) w) := by
  have hu158 := Try.underlying158
  have hbl := (Below.refl w.heap.size w).alloc (Nat.le_refl _) (.cells #[.slice A l.length c, .int .i64 f, .int .i64 at_] 158)
  have hrd : rd_T68 l (f : Int) = l[f] := by simp [rd_T68, hf]
  obtain ⟨ad, Ai, ci, rfl, p0, p1, hci, hCi⟩ := at_T68 hC (f : Int) (by omega) (by omega)
  rw [hrd] at p1 hci
  have hbx := alloc_blk w (.cells #[.slice (some ad) l.length c, .int .i64 f, .int .i64 at_] 158)
  have p1' := (hbl.cell (World.block_lt_of_cell? w _ p1)).trans p1
  rw [Int.toNat_natCast] at p1'
  have HB := Aside0.mk (And.intro hbl (And.intro hbx p1'))
  have hfl : ((f : Int) < (l.length : Int)) = True := eq_true (by omega)
  clear hC hbl p0 p1 hCi hrd hbx p1'
  have HFI := Aside0.mk hfl
  by_cases h0 : 0 ≤ n
  · by_cases h1 : n < (l[f].f1.length : Int)
    · have hI : inB 0 l[f].f1.length n = true := by simp only [inB, Bool.and_eq_true, decide_eq_true_eq]; exact ⟨h0, h1⟩
      have hE : fieldE l.length l[f].f1.length n 5 = none := by simp [fieldE, hI]
      rw [hE]
      clear hI hE
      go_enter Try.func81, Try.ntmps81
      go_wp2_with fail
      refine wp_region_seq (fun w' => Below (w.alloc (.cells #[.slice (some ad) l.length c, .int .i64 f, .int .i64 at_] 158)).heap.size (w.alloc (.cells #[.slice (some ad) l.length c, .int .i64 f, .int .i64 at_] 158)) w') [15] [.take 0, .take 1, .take 2, .take 3, .take 4, .take 5, .take 6, .take 7, .take 8, .take 9, .take 10, .take 11, .take 12, .take 13, .take 14, .fin 15] (by kernel_rfl) (by kernel_rfl) rfl (by kernel_rfl) (panic_via (P := Try.prog) (fn := Try.f81) (fun _ _ _ => rfl)) ?_
      have hs : Below (w.alloc (.cells #[.slice (some ad) l.length c, .int .i64 f, .int .i64 at_] 158)).heap.size (w.alloc (.cells #[.slice (some ad) l.length c, .int .i64 f, .int .i64 at_] 158)) (w.alloc (.cells #[.slice (some ad) l.length c, .int .i64 f, .int .i64 at_] 158)).drew := (Below.refl _ _).drew
      repeat (
        (first
          | (refine runSeq_take (v := ?_) (by rfl) (by rfl) (fun w' hS => ?_) hs ?_
             rotate_left
             · (have hB := (hS.block _ (blk_lt HB.out.2.1)).trans HB.out.2.1; have c0 := blk_cell hB 0; have c1 := blk_cell hB 1; have c2 := blk_cell hB 2; have q1 := (hS.cell (World.block_lt_of_cell? _ _ HB.out.2.2)).trans HB.out.2.2; go_simp; exact rfl))
          | refine runSeq_skip (by rfl) (by rfl) hs ?_)
        (try simp only [Act.put, List.setIfInBounds_toArray, List.set_cons_zero, List.set_cons_succ]))
      refine runSeq_fin (by rfl) (by rfl) (fun K hK => ?_)
      go_simp
      refine (need_any (some ad) l.length c f at_ 6 _ _).mono ?_
      rintro x w' ⟨hb, he⟩
      rw [if_pos (by first | rfl | (exact decide_eq_true h1) | (simp; omega))] at he
      subst he
      have hb2 := HB.out.1.drew.trans (hb.mono HB.out.1.size)
      refine hK _ _ ?_
      clear hK K
      refine runSeq_nil ?_
      have HB2 := Aside0.mk hb2
      clear hb hb2 hs
      go_wp2_with fail
      go_end0
      exact ⟨HB2.out, rfl⟩
    · have hI : inB 0 l[f].f1.length n = false := by simp only [inB, Bool.and_eq_false_iff, decide_eq_false_iff_not]; exact .inr h1
      have hE : fieldE l.length l[f].f1.length n 5 = some 6 := by simp [fieldE, hI]
      rw [hE]
      clear hI hE
      go_enter Try.func81, Try.ntmps81
      go_wp2_with fail
      refine wp_region_seq (fun w' => Below (w.alloc (.cells #[.slice (some ad) l.length c, .int .i64 f, .int .i64 at_] 158)).heap.size (w.alloc (.cells #[.slice (some ad) l.length c, .int .i64 f, .int .i64 at_] 158)) w') [15] [.take 0, .take 1, .take 2, .take 3, .take 4, .take 5, .take 6, .take 7, .take 8, .take 9, .take 10, .take 11, .take 12, .take 13, .take 14, .fin 15] (by kernel_rfl) (by kernel_rfl) rfl (by kernel_rfl) (panic_via (P := Try.prog) (fn := Try.f81) (fun _ _ _ => rfl)) ?_
      have hs : Below (w.alloc (.cells #[.slice (some ad) l.length c, .int .i64 f, .int .i64 at_] 158)).heap.size (w.alloc (.cells #[.slice (some ad) l.length c, .int .i64 f, .int .i64 at_] 158)) (w.alloc (.cells #[.slice (some ad) l.length c, .int .i64 f, .int .i64 at_] 158)).drew := (Below.refl _ _).drew
      repeat (
        (first
          | (refine runSeq_take (v := ?_) (by rfl) (by rfl) (fun w' hS => ?_) hs ?_
             rotate_left
             · (have hB := (hS.block _ (blk_lt HB.out.2.1)).trans HB.out.2.1; have c0 := blk_cell hB 0; have c1 := blk_cell hB 1; have c2 := blk_cell hB 2; have q1 := (hS.cell (World.block_lt_of_cell? _ _ HB.out.2.2)).trans HB.out.2.2; go_simp; exact rfl))
          | refine runSeq_skip (by rfl) (by rfl) hs ?_)
        (try simp only [Act.put, List.setIfInBounds_toArray, List.set_cons_zero, List.set_cons_succ]))
      refine runSeq_fin (by rfl) (by rfl) (fun K hK => ?_)
      go_simp
      refine (need_any (some ad) l.length c f at_ 6 _ _).mono ?_
      rintro x w' ⟨hb, he⟩
      rw [if_neg (fun h => by have := of_decide_eq_true h; omega)] at he
      subst he
      have hb2 := HB.out.1.drew.trans (hb.mono HB.out.1.size)
      exact ⟨rfl, hb2, rfl⟩
  · have hI : inB 0 l[f].f1.length n = false := by simp only [inB, Bool.and_eq_false_iff, decide_eq_false_iff_not]; exact .inl h0
    have hE : fieldE l.length l[f].f1.length n 5 = some 6 := by simp [fieldE, hI]
    rw [hE]
    clear hI hE
    have hd1 : (0 ≤ n) = False := eq_false h0
    go_enter Try.func81, Try.ntmps81
    go_wp2_with fail
    refine wp_region_seq (fun w' => Below (w.alloc (.cells #[.slice (some ad) l.length c, .int .i64 f, .int .i64 at_] 158)).heap.size (w.alloc (.cells #[.slice (some ad) l.length c, .int .i64 f, .int .i64 at_] 158)) w') [15] [.take 0, .take 1, .take 2, .take 3, .take 4, .take 5, .take 6, .take 7, .take 8, .take 9, .take 10, .take 11, .take 12, .take 13, .take 14, .fin 15] (by kernel_rfl) (by kernel_rfl) rfl (by kernel_rfl) (panic_via (P := Try.prog) (fn := Try.f81) (fun _ _ _ => rfl)) ?_
    have hs : Below (w.alloc (.cells #[.slice (some ad) l.length c, .int .i64 f, .int .i64 at_] 158)).heap.size (w.alloc (.cells #[.slice (some ad) l.length c, .int .i64 f, .int .i64 at_] 158)) (w.alloc (.cells #[.slice (some ad) l.length c, .int .i64 f, .int .i64 at_] 158)).drew := (Below.refl _ _).drew
    repeat (
      (first
        | (refine runSeq_take (v := ?_) (by rfl) (by rfl) (fun w' hS => ?_) hs ?_
           rotate_left
           · (have hB := (hS.block _ (blk_lt HB.out.2.1)).trans HB.out.2.1; have c0 := blk_cell hB 0; have c1 := blk_cell hB 1; have c2 := blk_cell hB 2; have q1 := (hS.cell (World.block_lt_of_cell? _ _ HB.out.2.2)).trans HB.out.2.2; go_simp; exact rfl))
        | refine runSeq_skip (by rfl) (by rfl) hs ?_)
      (try simp only [Act.put, List.setIfInBounds_toArray, List.set_cons_zero, List.set_cons_succ]))
    refine runSeq_fin (by rfl) (by rfl) (fun K hK => ?_)
    go_simp
    refine (need_any (some ad) l.length c f at_ 6 _ _).mono ?_
    rintro x w' ⟨hb, he⟩
    rw [if_neg (by simp)] at he
    subst he
    have hb2 := HB.out.1.drew.trans (hb.mono HB.out.1.size)
    exact ⟨rfl, hb2, rfl⟩
set_option maxRecDepth 100000 in
set_option maxHeartbeats 4000000 in
theorem field_none (A : Option Addr) (c : Nat) (l : List S68) (f : Nat) (at_ n p : Int) (w : World) (hf : f < l.length) (h1 : ¬ p = 1) (h2 : ¬ p = 2) (h3 : ¬ p = 3) (h4 : ¬ p = 4) (h5 : ¬ p = 5) (h6 : ¬ p = 6) :
    Calls Try.prog 81 #[.agg #[.slice A l.length c, .int .i64 f, .int .i64 at_], .int .i64 n, .int .i64 p] w (stopPost f at_ (fieldE l.length l[f].f1.length n p) w) := by
  have hu158 := Try.underlying158
  have hbl := (Below.refl w.heap.size w).alloc (Nat.le_refl _) (.cells #[.slice A l.length c, .int .i64 f, .int .i64 at_] 158)
  have hE : fieldE l.length l[f].f1.length n p = none := by simp [fieldE, h1, h2, h3, h4, h5, h6]
  rw [hE]
  have HB := Aside0.mk hbl
  clear hbl hE
  go_enter Try.func81, Try.ntmps81
  go_wp2_with fail
  go_end0
  exact ⟨HB.out, rfl⟩
theorem field_any (A : Option Addr) (c : Nat) (l : List S68) (f : Nat) (at_ n p : Int) (w : World) (hC : k68.C w A l.length l) (hf : f < l.length) :
    Calls Try.prog 81 #[.agg #[.slice A l.length c, .int .i64 f, .int .i64 at_], .int .i64 n, .int .i64 p] w (stopPost f at_ (fieldE l.length l[f].f1.length n p) w) := by
  by_cases h1 : p = 1
  · subst h1; exact field_1 A c l f at_ n w hf
  by_cases h2 : p = 2
  · subst h2; exact field_2 A c l f at_ n w hf
  by_cases h3 : p = 3
  · subst h3; exact field_3 A c l f at_ n w hf
  by_cases h4 : p = 4
  · subst h4; exact field_4 A c l f at_ n w hf
  by_cases h5 : p = 5
  · subst h5; exact field_5 A c l f at_ n w hC hf
  by_cases h6 : p = 6
  · subst h6; exact field_6 A c l f at_ n w hf
  exact field_none A c l f at_ n p w hf h1 h2 h3 h4 h5 h6
end Go.Proofs.Ytcciejcpijlkfaa.H

-- made by this session's gen.py over the kit's print.py; not trusted: Lean checks it
namespace Go.Proofs.Ytcciejcpijlkfaa.H
open Go.RowKit Go.Proofs.YtcciejcpijlkfaaW.PrintWords Go.Proofs.YtcciejcpijlkfaaW.PrintLast Go.Proofs.YtcciejcpijlkfaaW.PrintMore
attribute [local go_sem] max2_int min2_int max_two min_two max_three min_three max_four min_four   -- for this text's walks alone
set_option linter.unusedVariables false
set_option linter.unusedSimpArgs false

/-! ### frame_fails: function 27 -/
def frame_fails.f (a0 : Int) : Option (Int × Int × Int × Int × Int × Int × List Int × List Int) := some (8, 0, 0, 0, 0, a0, ([] : List Int), ([] : List Int))
set_option maxHeartbeats 8000000 in
set_option maxRecDepth 100000 in
theorem frame_fails.calls (a0 : Int) (r1 : Int) (r2 : Int) (r3 : Int) (r4 : Int) (r5 : Int) (r6 : Int) (r7 : List Int) (r8 : List Int) (w : World) (h : frame_fails.f a0 = some (r1, r2, r3, r4, r5, r6, r7, r8)) :
    Calls Try.prog 27 #[.int .i64 a0] w fun e w' => ∃ v6_ v7_ : Value, e = .returned (.agg #[.int .i64 r1, .int .i64 r2, .int .i64 r3, .int .i64 r4, .int .i64 r5, .int .i64 r6, v6_, v7_]) ∧ Kd.R (Kd.int .i64) 2 w' w.heap.size (fun _ => True) v6_ r7 ∧ Kd.R (Kd.int .i64) 3 w' w.heap.size (fun _ => True) v7_ r8 ∧ Below w.heap.size w w' := by
  have hu36 := Try.underlying36
  have HB := Aside0.mk (Below.refl w.heap.size w)
  have H : (some (8, 0, 0, 0, 0, a0, ([] : List Int), ([] : List Int))) = some (r1, r2, r3, r4, r5, r6, r7, r8) := h
  clear h
  simp only [Option.some.injEq, Prod.mk.injEq] at H
  obtain ⟨rfl, rfl, rfl, rfl, rfl, rfl, rfl, rfl⟩ := H
  go_enter Try.func27, Try.ntmps27
  go_wp2_with (first | ((with_reducible refine gate_dst (N := 2) rfl ?_); refine box_event ?hg (N := 2) ?hd (cs := #[.int .i64 0, .int .i64 0, .int .i64 0, .int .i64 0, .int .i64 0, .int .i64 0, .slice none 0 0, .slice none 0 0]) (t := 36) ?hr ?_; (case hd => rfl); (case hg => rfl); (case hr => first | (go_simp; done) | (go_simp; rfl)); intro gb127 hg w2 hbox hb; have n0_ := Aside0.mk (below_step (by repeat (first | (with_reducible first | exact HB.out | apply below_alloc | apply pw_below_drewN | apply below_drew1) | exact HB.out)) hb); have n1_ := Aside0.mk (hbox); have n2_ := Aside0.mk ((by rw [hg]; exact (below_size (by repeat (first | (with_reducible first | exact HB.out | apply below_alloc | apply pw_below_drewN | apply below_drew1) | exact HB.out))) : w.heap.size ≤ gb127)); have n3_ := Aside0.mk ((by rw [hg]; exact (below_size (by repeat (first | (with_reducible first | exact HB.out | apply below_alloc | apply pw_below_drewN | apply below_drew1) | exact HB.out))) : w.heap.size ≤ gb127)); clear HB; have HB := n0_; have BK127 := n1_; have GW127 := n2_; have GE127 := n3_; clear n0_ n1_ n2_ n3_; clear hb hbox hg; have hcz3_0 : w2.cell? ⟨gb127, 0, none⟩ = some (.int .i64 0) := (blk_cell BK127.out 0).trans rfl; have hcz3_1 : w2.cell? ⟨gb127, 1, none⟩ = some (.int .i64 0) := (blk_cell BK127.out 1).trans rfl; have hcz3_2 : w2.cell? ⟨gb127, 2, none⟩ = some (.int .i64 0) := (blk_cell BK127.out 2).trans rfl; have hcz3_3 : w2.cell? ⟨gb127, 3, none⟩ = some (.int .i64 0) := (blk_cell BK127.out 3).trans rfl; have hcz3_4 : w2.cell? ⟨gb127, 4, none⟩ = some (.int .i64 0) := (blk_cell BK127.out 4).trans rfl; have hcz3_5 : w2.cell? ⟨gb127, 5, none⟩ = some (.int .i64 0) := (blk_cell BK127.out 5).trans rfl; have hcz3_6 : w2.cell? ⟨gb127, 6, none⟩ = some (.slice none 0 0) := (blk_cell BK127.out 6).trans rfl; have hcz3_7 : w2.cell? ⟨gb127, 7, none⟩ = some (.slice none 0 0) := (blk_cell BK127.out 7).trans rfl; have hfz3_0 := blk_frozen BK127.out 0; have hfz3_1 := blk_frozen BK127.out 1; have hfz3_2 := blk_frozen BK127.out 2; have hfz3_3 := blk_frozen BK127.out 3; have hfz3_4 := blk_frozen BK127.out 4; have hfz3_5 := blk_frozen BK127.out 5; have hfz3_6 := blk_frozen BK127.out 6; have hfz3_7 := blk_frozen BK127.out 7))
  refine bodyPost_ret (results_cell_row rfl _ _ gb127 36 #[.int .i64 8, .int .i64 0, .int .i64 0, .int .i64 0, .int .i64 0, .int .i64 a0, .slice none 0 0, .slice none 0 0] (0, 0) _ rfl (by (with_reducible repeat (first | refine blk_drewN ?_ _ | refine blk_drew ?_ | refine blk_alloc ?_ _)); refine blk_put (cs := #[.int .i64 8, .int .i64 0, .int .i64 0, .int .i64 0, .int .i64 0, .int .i64 a0, .slice none 0 0, .slice none 0 0]) ?_ 7 _ rfl; (with_reducible repeat (first | refine blk_drewN ?_ _ | refine blk_drew ?_ | refine blk_alloc ?_ _)); refine blk_put (cs := #[.int .i64 8, .int .i64 0, .int .i64 0, .int .i64 0, .int .i64 0, .int .i64 a0, .slice none 0 0, .slice none 0 0]) ?_ 6 _ rfl; (with_reducible repeat (first | refine blk_drewN ?_ _ | refine blk_drew ?_ | refine blk_alloc ?_ _)); refine blk_put (cs := #[.int .i64 8, .int .i64 0, .int .i64 0, .int .i64 0, .int .i64 0, .int .i64 0, .slice none 0 0, .slice none 0 0]) ?_ 5 _ rfl; (with_reducible repeat (first | refine blk_drewN ?_ _ | refine blk_drew ?_ | refine blk_alloc ?_ _)); refine blk_put (cs := #[.int .i64 8, .int .i64 0, .int .i64 0, .int .i64 0, .int .i64 0, .int .i64 0, .slice none 0 0, .slice none 0 0]) ?_ 4 _ rfl; (with_reducible repeat (first | refine blk_drewN ?_ _ | refine blk_drew ?_ | refine blk_alloc ?_ _)); refine blk_put (cs := #[.int .i64 8, .int .i64 0, .int .i64 0, .int .i64 0, .int .i64 0, .int .i64 0, .slice none 0 0, .slice none 0 0]) ?_ 3 _ rfl; (with_reducible repeat (first | refine blk_drewN ?_ _ | refine blk_drew ?_ | refine blk_alloc ?_ _)); refine blk_put (cs := #[.int .i64 8, .int .i64 0, .int .i64 0, .int .i64 0, .int .i64 0, .int .i64 0, .slice none 0 0, .slice none 0 0]) ?_ 2 _ rfl; (with_reducible repeat (first | refine blk_drewN ?_ _ | refine blk_drew ?_ | refine blk_alloc ?_ _)); refine blk_put (cs := #[.int .i64 8, .int .i64 0, .int .i64 0, .int .i64 0, .int .i64 0, .int .i64 0, .slice none 0 0, .slice none 0 0]) ?_ 1 _ rfl; (with_reducible repeat (first | refine blk_drewN ?_ _ | refine blk_drew ?_ | refine blk_alloc ?_ _)); refine blk_put (cs := #[.int .i64 0, .int .i64 0, .int .i64 0, .int .i64 0, .int .i64 0, .int .i64 0, .slice none 0 0, .slice none 0 0]) ?_ 0 _ rfl; (with_reducible repeat (first | refine blk_drewN ?_ _ | refine blk_drew ?_ | refine blk_alloc ?_ _)); exact BK127.out) Try.underlying36 rfl (by kernel_rfl)) rfl ?_
  exact ⟨_, _, by first | rfl | (simp [errW_none, errW_some] <;> rfl) | (simp [*, errW_none, errW_some] <;> rfl), by first | exact Kd.R_nil _ _ _ _ _ | exact Kd.N_nil _ _ _ _ _ | exact Kd.V_nil _ _ _ _ _ | exact Kd.Q_nil _ _ _ _ _ | exact Kd.S_nil _ _ _ _ _, by first | exact Kd.R_nil _ _ _ _ _ | exact Kd.N_nil _ _ _ _ _ | exact Kd.V_nil _ _ _ _ _ | exact Kd.Q_nil _ _ _ _ _ | exact Kd.S_nil _ _ _ _ _, by repeat (first | (with_reducible first | exact HB.out | apply below_alloc | apply pw_below_drewN | apply below_drew1 | refine below_set ?_ GE127.out) | exact HB.out)⟩

end Go.Proofs.Ytcciejcpijlkfaa.H

