/- What a program's check needs, and what a field must be. -/
import Derived.Test.YtnhipdniceoigaaH0
import Derived.Test.YtnhipdniceoigaaH3
import Derived.Test.YtnhipdniceoigaaCkVal
import Derived.Test.YtnhipdniceoigaaBaseW
set_option linter.unusedVariables false
set_option linter.unusedSimpArgs false
namespace Go.Proofs.Ytnhipdniceoigaa.H
open Go.RowKit Go.Hay Go.Proofs.YtnhipdniceoigaaW.PrintWords Go.Proofs.YtnhipdniceoigaaW.PrintLast Go.Proofs.YtnhipdniceoigaaW.PrintMore
theorem panic_via {P : Program} {fn : Func} {R : Ending → World → Prop} {ops : Array Oper} {Q : Exit → Act → World → Prop} (hQ : ∀ c a w, Q (.panic c) a w = bodyPost P fn R (.panic c) a w) :
    ∀ o ∈ ops.toList, ∀ c a v w, Q (.panic c) (a.put o.dst v) w → Q (.panic c) a w := by
  intro o ho c a v w h
  rw [hQ] at h ⊢
  exact panic_put (P := P) (fn := fn) (R := R) o ho c a v w h
def wrongV (f at_ e : Int) : Value := .iface 101 (.agg #[.int .i64 f, .int .i64 at_, .int .i64 e])
def lookV (A : Option Addr) (n c : Nat) (f at_ : Int) : Value := .agg #[.slice A n c, .int .i64 f, .int .i64 at_]
set_option maxRecDepth 100000 in
theorem need_ok (A : Option Addr) (n c : Nat) (f at_ e : Int) (w : World) : Calls Try.prog 30 #[.agg #[.slice A n c, .int .i64 f, .int .i64 at_], .bool true, .int .i64 e] w fun x w' => x = .returned (.tuple #[]) ∧ Below w.heap.size w w' := by
  have hu104 := Try.underlying104
  go_enter Try.func30, Try.ntmps30
  go_wp2
  go_end0
  exact ⟨rfl, (Below.refl _ _).alloc (Nat.le_refl _) _⟩
set_option maxRecDepth 100000 in
theorem need_no (A : Option Addr) (n c : Nat) (f at_ e : Int) (w : World) : Calls Try.prog 30 #[.agg #[.slice A n c, .int .i64 f, .int .i64 at_], .bool false, .int .i64 e] w fun x w' => x = .panicked [{ v := wrongV f at_ e, recovered := false }] ∧ Below w.heap.size w w' := by
  have hu104 := Try.underlying104
  have hu101 := Try.underlying101
  go_enter Try.func30, Try.ntmps30
  go_wp2
  exact ⟨rfl, rfl, (Below.refl _ _).alloc (Nat.le_refl _) _⟩
def stopPost (f at_ : Int) (r : Option Int) (w : World) (x : Ending) (w' : World) : Prop := Below w.heap.size w w' ∧ match r with
  | none => x = .returned (.tuple #[])
  | some e => x = .panicked [{ v := wrongV f at_ e, recovered := false }]
theorem need_any (A : Option Addr) (n c : Nat) (f at_ e : Int) (b : Bool) (w : World) : Calls Try.prog 30 #[.agg #[.slice A n c, .int .i64 f, .int .i64 at_], .bool b, .int .i64 e] w (stopPost f at_ (if b then none else some e) w) := by
  cases b with
  | true => exact (need_ok A n c f at_ e w).mono fun x w' h => ⟨h.2, h.1⟩
  | false => exact (need_no A n c f at_ e w).mono fun x w' h => ⟨h.2, h.1⟩
set_option maxRecDepth 100000 in
set_option maxHeartbeats 4000000 in
theorem field_1 (A : Option Addr) (c : Nat) (l : List S58) (f : Nat) (at_ n : Int) (w : World) (hf : f < l.length) :
    Calls Try.prog 37 #[.agg #[.slice A l.length c, .int .i64 f, .int .i64 at_], .int .i64 n, .int .i64 1] w (stopPost f at_ (fieldE l.length l[f].f1.length n 1) w) := by
  have hu104 := Try.underlying104
  have hbl := (Below.refl w.heap.size w).alloc (Nat.le_refl _) (.cells #[.slice A l.length c, .int .i64 f, .int .i64 at_] 104)
  have HB := Aside0.mk hbl
  clear hbl
  by_cases h0 : (0) ≤ n
  · by_cases h1 : n < (8)
    · have hI : inB (0) (8) n = true := by simp only [inB, Bool.and_eq_true, decide_eq_true_eq]; exact ⟨h0, h1⟩
      have hE : fieldE l.length l[f].f1.length n 1 = none := by simp [fieldE, hI]
      rw [hE]
      clear hI hE
      go_enter Try.func37, Try.ntmps37
      go_wp2_with (go_at_call 30; refine (need_ok A l.length c f at_ 6 _).mono ?_; rintro x w' ⟨rfl, hb⟩)
      go_end0
      exact ⟨HB.out.trans (hb.mono HB.out.size), rfl⟩
    · have hI : inB (0) (8) n = false := by simp only [inB, Bool.and_eq_false_iff, decide_eq_false_iff_not]; exact .inr h1
      have hE : fieldE l.length l[f].f1.length n 1 = some (6) := by simp [fieldE, hI]
      rw [hE]
      clear hI hE
      go_enter Try.func37, Try.ntmps37
      go_wp2_with (go_at_call 30; refine (need_no A l.length c f at_ 6 _).mono ?_; rintro x w' ⟨rfl, hb⟩)
      exact ⟨rfl, HB.out.trans (hb.mono HB.out.size), rfl⟩
  · have hI : inB (0) (8) n = false := by simp only [inB, Bool.and_eq_false_iff, decide_eq_false_iff_not]; exact .inl h0
    have hE : fieldE l.length l[f].f1.length n 1 = some (6) := by simp [fieldE, hI]
    rw [hE]
    clear hI hE
    go_enter Try.func37, Try.ntmps37
    go_wp2_with (go_at_call 30; refine (need_no A l.length c f at_ 6 _).mono ?_; rintro x w' ⟨rfl, hb⟩)
    exact ⟨rfl, HB.out.trans (hb.mono HB.out.size), rfl⟩
set_option maxRecDepth 100000 in
set_option maxHeartbeats 4000000 in
theorem field_2 (A : Option Addr) (c : Nat) (l : List S58) (f : Nat) (at_ n : Int) (w : World) (hf : f < l.length) :
    Calls Try.prog 37 #[.agg #[.slice A l.length c, .int .i64 f, .int .i64 at_], .int .i64 n, .int .i64 2] w (stopPost f at_ (fieldE l.length l[f].f1.length n 2) w) := by
  have hu104 := Try.underlying104
  have hbl := (Below.refl w.heap.size w).alloc (Nat.le_refl _) (.cells #[.slice A l.length c, .int .i64 f, .int .i64 at_] 104)
  have HB := Aside0.mk hbl
  clear hbl
  by_cases h0 : (0) ≤ n
  · by_cases h1 : n < (4)
    · have hI : inB (0) (4) n = true := by simp only [inB, Bool.and_eq_true, decide_eq_true_eq]; exact ⟨h0, h1⟩
      have hE : fieldE l.length l[f].f1.length n 2 = none := by simp [fieldE, hI]
      rw [hE]
      clear hI hE
      go_enter Try.func37, Try.ntmps37
      go_wp2_with (go_at_call 30; refine (need_ok A l.length c f at_ 6 _).mono ?_; rintro x w' ⟨rfl, hb⟩)
      go_end0
      exact ⟨HB.out.trans (hb.mono HB.out.size), rfl⟩
    · have hI : inB (0) (4) n = false := by simp only [inB, Bool.and_eq_false_iff, decide_eq_false_iff_not]; exact .inr h1
      have hE : fieldE l.length l[f].f1.length n 2 = some (6) := by simp [fieldE, hI]
      rw [hE]
      clear hI hE
      go_enter Try.func37, Try.ntmps37
      go_wp2_with (go_at_call 30; refine (need_no A l.length c f at_ 6 _).mono ?_; rintro x w' ⟨rfl, hb⟩)
      exact ⟨rfl, HB.out.trans (hb.mono HB.out.size), rfl⟩
  · have hI : inB (0) (4) n = false := by simp only [inB, Bool.and_eq_false_iff, decide_eq_false_iff_not]; exact .inl h0
    have hE : fieldE l.length l[f].f1.length n 2 = some (6) := by simp [fieldE, hI]
    rw [hE]
    clear hI hE
    go_enter Try.func37, Try.ntmps37
    go_wp2_with (go_at_call 30; refine (need_no A l.length c f at_ 6 _).mono ?_; rintro x w' ⟨rfl, hb⟩)
    exact ⟨rfl, HB.out.trans (hb.mono HB.out.size), rfl⟩
set_option maxRecDepth 100000 in
set_option maxHeartbeats 4000000 in
theorem field_3 (A : Option Addr) (c : Nat) (l : List S58) (f : Nat) (at_ n : Int) (w : World) (hf : f < l.length) :
    Calls Try.prog 37 #[.agg #[.slice A l.length c, .int .i64 f, .int .i64 at_], .int .i64 n, .int .i64 3] w (stopPost f at_ (fieldE l.length l[f].f1.length n 3) w) := by
  have hu104 := Try.underlying104
  have hbl := (Below.refl w.heap.size w).alloc (Nat.le_refl _) (.cells #[.slice A l.length c, .int .i64 f, .int .i64 at_] 104)
  have HB := Aside0.mk hbl
  clear hbl
  by_cases h0 : (0) ≤ n
  · by_cases h1 : n < (l.length)
    · have hI : inB (0) (l.length) n = true := by simp only [inB, Bool.and_eq_true, decide_eq_true_eq]; exact ⟨h0, h1⟩
      have hE : fieldE l.length l[f].f1.length n 3 = none := by simp [fieldE, hI]
      rw [hE]
      clear hI hE
      go_enter Try.func37, Try.ntmps37
      go_wp2_with (go_at_call 30; refine (need_ok A l.length c f at_ 5 _).mono ?_; rintro x w' ⟨rfl, hb⟩)
      go_end0
      exact ⟨HB.out.trans (hb.mono HB.out.size), rfl⟩
    · have hI : inB (0) (l.length) n = false := by simp only [inB, Bool.and_eq_false_iff, decide_eq_false_iff_not]; exact .inr h1
      have hE : fieldE l.length l[f].f1.length n 3 = some (5) := by simp [fieldE, hI]
      rw [hE]
      clear hI hE
      go_enter Try.func37, Try.ntmps37
      go_wp2_with (go_at_call 30; refine (need_no A l.length c f at_ 5 _).mono ?_; rintro x w' ⟨rfl, hb⟩)
      exact ⟨rfl, HB.out.trans (hb.mono HB.out.size), rfl⟩
  · have hI : inB (0) (l.length) n = false := by simp only [inB, Bool.and_eq_false_iff, decide_eq_false_iff_not]; exact .inl h0
    have hE : fieldE l.length l[f].f1.length n 3 = some (5) := by simp [fieldE, hI]
    rw [hE]
    clear hI hE
    go_enter Try.func37, Try.ntmps37
    go_wp2_with (go_at_call 30; refine (need_no A l.length c f at_ 5 _).mono ?_; rintro x w' ⟨rfl, hb⟩)
    exact ⟨rfl, HB.out.trans (hb.mono HB.out.size), rfl⟩
set_option maxRecDepth 100000 in
set_option maxHeartbeats 4000000 in
theorem field_6 (A : Option Addr) (c : Nat) (l : List S58) (f : Nat) (at_ n : Int) (w : World) (hf : f < l.length) :
    Calls Try.prog 37 #[.agg #[.slice A l.length c, .int .i64 f, .int .i64 at_], .int .i64 n, .int .i64 6] w (stopPost f at_ (fieldE l.length l[f].f1.length n 6) w) := by
  have hu104 := Try.underlying104
  have hbl := (Below.refl w.heap.size w).alloc (Nat.le_refl _) (.cells #[.slice A l.length c, .int .i64 f, .int .i64 at_] 104)
  have HB := Aside0.mk hbl
  clear hbl
  by_cases h0 : (16) ≤ n
  · by_cases h1 : n < (2147483648)
    · have hI : inB (16) (2147483648) n = true := by simp only [inB, Bool.and_eq_true, decide_eq_true_eq]; exact ⟨h0, h1⟩
      have hE : fieldE l.length l[f].f1.length n 6 = none := by simp [fieldE, hI]
      rw [hE]
      clear hI hE
      go_enter Try.func37, Try.ntmps37
      go_wp2_with (go_at_call 30; refine (need_ok A l.length c f at_ 6 _).mono ?_; rintro x w' ⟨rfl, hb⟩)
      go_end0
      exact ⟨HB.out.trans (hb.mono HB.out.size), rfl⟩
    · have hI : inB (16) (2147483648) n = false := by simp only [inB, Bool.and_eq_false_iff, decide_eq_false_iff_not]; exact .inr h1
      have hE : fieldE l.length l[f].f1.length n 6 = some (6) := by simp [fieldE, hI]
      rw [hE]
      clear hI hE
      go_enter Try.func37, Try.ntmps37
      go_wp2_with (go_at_call 30; refine (need_no A l.length c f at_ 6 _).mono ?_; rintro x w' ⟨rfl, hb⟩)
      exact ⟨rfl, HB.out.trans (hb.mono HB.out.size), rfl⟩
  · have hI : inB (16) (2147483648) n = false := by simp only [inB, Bool.and_eq_false_iff, decide_eq_false_iff_not]; exact .inl h0
    have hE : fieldE l.length l[f].f1.length n 6 = some (6) := by simp [fieldE, hI]
    rw [hE]
    clear hI hE
    go_enter Try.func37, Try.ntmps37
    go_wp2_with (go_at_call 30; refine (need_no A l.length c f at_ 6 _).mono ?_; rintro x w' ⟨rfl, hb⟩)
    exact ⟨rfl, HB.out.trans (hb.mono HB.out.size), rfl⟩
set_option maxRecDepth 100000 in
set_option maxHeartbeats 4000000 in
theorem field_4 (A : Option Addr) (c : Nat) (l : List S58) (f : Nat) (at_ n : Int) (w : World) (hf : f < l.length) :
    Calls Try.prog 37 #[.agg #[.slice A l.length c, .int .i64 f, .int .i64 at_], .int .i64 n, .int .i64 4] w (stopPost f at_ (fieldE l.length l[f].f1.length n 4) w) := by
  have hu104 := Try.underlying104
  have hbl := (Below.refl w.heap.size w).alloc (Nat.le_refl _) (.cells #[.slice A l.length c, .int .i64 f, .int .i64 at_] 104)
  have HB := Aside0.mk hbl
  clear hbl
  by_cases h0 : (-2147483648) ≤ n
  · by_cases h1 : n < (2147483648)
    · have hI : inB (-2147483648) (2147483648) n = true := by simp only [inB, Bool.and_eq_true, decide_eq_true_eq]; exact ⟨h0, h1⟩
      have hE : fieldE l.length l[f].f1.length n 4 = none := by simp [fieldE, hI]
      rw [hE]
      clear hI hE
      go_enter Try.func37, Try.ntmps37
      go_wp2_with (go_at_call 30; refine (need_ok A l.length c f at_ 6 _).mono ?_; rintro x w' ⟨rfl, hb⟩)
      go_end0
      exact ⟨HB.out.trans (hb.mono HB.out.size), rfl⟩
    · have hI : inB (-2147483648) (2147483648) n = false := by simp only [inB, Bool.and_eq_false_iff, decide_eq_false_iff_not]; exact .inr h1
      have hE : fieldE l.length l[f].f1.length n 4 = some (6) := by simp [fieldE, hI]
      rw [hE]
      clear hI hE
      go_enter Try.func37, Try.ntmps37
      go_wp2_with (go_at_call 30; refine (need_no A l.length c f at_ 6 _).mono ?_; rintro x w' ⟨rfl, hb⟩)
      exact ⟨rfl, HB.out.trans (hb.mono HB.out.size), rfl⟩
  · have hI : inB (-2147483648) (2147483648) n = false := by simp only [inB, Bool.and_eq_false_iff, decide_eq_false_iff_not]; exact .inl h0
    have hE : fieldE l.length l[f].f1.length n 4 = some (6) := by simp [fieldE, hI]
    rw [hE]
    clear hI hE
    go_enter Try.func37, Try.ntmps37
    go_wp2_with (go_at_call 30; refine (need_no A l.length c f at_ 6 _).mono ?_; rintro x w' ⟨rfl, hb⟩)
    exact ⟨rfl, HB.out.trans (hb.mono HB.out.size), rfl⟩
set_option maxRecDepth 100000 in
set_option maxHeartbeats 4000000 in
theorem field_5 (A : Option Addr) (c : Nat) (l : List S58) (f : Nat) (at_ n : Int) (w : World) (hC : k58.C w A l.length l) (hf : f < l.length) :
    Calls Try.prog 37 #[.agg #[.slice A l.length c, .int .i64 f, .int .i64 at_], .int .i64 n, .int .i64 5] w (stopPost f at_ (fieldE l.length l[f].f1.length n 5) w) := by
  have hu104 := Try.underlying104
  have hbl := (Below.refl w.heap.size w).alloc (Nat.le_refl _) (.cells #[.slice A l.length c, .int .i64 f, .int .i64 at_] 104)
  have hrd : rd_T58 l (f : Int) = l[f] := by simp [rd_T58, hf]
  obtain ⟨ad, Ai, ci, rfl, p0, p1, hci, hCi⟩ := at_T58 hC (f : Int) (by omega) (by omega)
  rw [hrd] at p1 hci
  have hbx := alloc_blk w (.cells #[.slice (some ad) l.length c, .int .i64 f, .int .i64 at_] 104)
  have p1' := (hbl.cell (World.block_lt_of_cell? w _ p1)).trans p1
  rw [Int.toNat_natCast] at p1'
  have HB := Aside0.mk (And.intro hbl (And.intro hbx p1'))
  have hfl : ((f : Int) < (l.length : Int)) = True := eq_true (by omega)
  clear hC hbl p0 p1 hCi hrd hbx p1'
  have HFI := Aside0.mk hfl
  by_cases h0 : 0 ≤ n
  · by_cases h1 : n < (l[f].f1.length : Int)
    · have hI : inB 0 l[f].f1.length n = true := by simp only [inB, Bool.and_eq_true, decide_eq_true_eq]; exact ⟨h0, h1⟩
      have hE : fieldE l.length l[f].f1.length n 5 = none := by simp [fieldE, hI]
      rw [hE]
      clear hI hE
      go_enter Try.func37, Try.ntmps37
      go_wp2_with fail
      refine wp_region_seq (fun w' => Below (w.alloc (.cells #[.slice (some ad) l.length c, .int .i64 f, .int .i64 at_] 104)).heap.size (w.alloc (.cells #[.slice (some ad) l.length c, .int .i64 f, .int .i64 at_] 104)) w') [15] [.take 0, .take 1, .take 2, .take 3, .take 4, .take 5, .take 6, .take 7, .take 8, .take 9, .take 10, .take 11, .take 12, .take 13, .take 14, .fin 15] (by kernel_rfl) (by kernel_rfl) rfl (by kernel_rfl) (panic_via (P := Try.prog) (fn := Try.f37) (fun _ _ _ => rfl)) ?_
      have hs : Below (w.alloc (.cells #[.slice (some ad) l.length c, .int .i64 f, .int .i64 at_] 104)).heap.size (w.alloc (.cells #[.slice (some ad) l.length c, .int .i64 f, .int .i64 at_] 104)) (w.alloc (.cells #[.slice (some ad) l.length c, .int .i64 f, .int .i64 at_] 104)).drew := (Below.refl _ _).drew
      repeat (
        (first
          | (refine runSeq_take (v := ?_) (by rfl) (by rfl) (fun w' hS => ?_) hs ?_
             rotate_left
             · (have hB := (hS.block _ (blk_lt HB.out.2.1)).trans HB.out.2.1; have c0 := blk_cell hB 0; have c1 := blk_cell hB 1; have c2 := blk_cell hB 2; have q1 := (hS.cell (World.block_lt_of_cell? _ _ HB.out.2.2)).trans HB.out.2.2; go_simp; exact rfl))
          | refine runSeq_skip (by rfl) (by rfl) hs ?_)
        (try simp only [Act.put, List.setIfInBounds_toArray, List.set_cons_zero, List.set_cons_succ]))
      refine runSeq_fin (by rfl) (by rfl) (fun K hK => ?_)
      go_simp
      refine (need_any (some ad) l.length c f at_ 6 _ _).mono ?_
      rintro x w' ⟨hb, he⟩
      rw [if_pos (by first | rfl | (exact decide_eq_true h1) | (simp; omega))] at he
      subst he
      have hb2 := HB.out.1.drew.trans (hb.mono HB.out.1.size)
      refine hK _ _ ?_
      clear hK K
      refine runSeq_nil ?_
      have HB2 := Aside0.mk hb2
      clear hb hb2 hs
      go_wp2_with fail
      go_end0
      exact ⟨HB2.out, rfl⟩
    · have hI : inB 0 l[f].f1.length n = false := by simp only [inB, Bool.and_eq_false_iff, decide_eq_false_iff_not]; exact .inr h1
      have hE : fieldE l.length l[f].f1.length n 5 = some 6 := by simp [fieldE, hI]
      rw [hE]
      clear hI hE
      go_enter Try.func37, Try.ntmps37
      go_wp2_with fail
      refine wp_region_seq (fun w' => Below (w.alloc (.cells #[.slice (some ad) l.length c, .int .i64 f, .int .i64 at_] 104)).heap.size (w.alloc (.cells #[.slice (some ad) l.length c, .int .i64 f, .int .i64 at_] 104)) w') [15] [.take 0, .take 1, .take 2, .take 3, .take 4, .take 5, .take 6, .take 7, .take 8, .take 9, .take 10, .take 11, .take 12, .take 13, .take 14, .fin 15] (by kernel_rfl) (by kernel_rfl) rfl (by kernel_rfl) (panic_via (P := Try.prog) (fn := Try.f37) (fun _ _ _ => rfl)) ?_
      have hs : Below (w.alloc (.cells #[.slice (some ad) l.length c, .int .i64 f, .int .i64 at_] 104)).heap.size (w.alloc (.cells #[.slice (some ad) l.length c, .int .i64 f, .int .i64 at_] 104)) (w.alloc (.cells #[.slice (some ad) l.length c, .int .i64 f, .int .i64 at_] 104)).drew := (Below.refl _ _).drew
      repeat (
        (first
          | (refine runSeq_take (v := ?_) (by rfl) (by rfl) (fun w' hS => ?_) hs ?_
             rotate_left
             · (have hB := (hS.block _ (blk_lt HB.out.2.1)).trans HB.out.2.1; have c0 := blk_cell hB 0; have c1 := blk_cell hB 1; have c2 := blk_cell hB 2; have q1 := (hS.cell (World.block_lt_of_cell? _ _ HB.out.2.2)).trans HB.out.2.2; go_simp; exact rfl))
          | refine runSeq_skip (by rfl) (by rfl) hs ?_)
        (try simp only [Act.put, List.setIfInBounds_toArray, List.set_cons_zero, List.set_cons_succ]))
      refine runSeq_fin (by rfl) (by rfl) (fun K hK => ?_)
      go_simp
      refine (need_any (some ad) l.length c f at_ 6 _ _).mono ?_
      rintro x w' ⟨hb, he⟩
      rw [if_neg (fun h => by have := of_decide_eq_true h; omega)] at he
      subst he
      have hb2 := HB.out.1.drew.trans (hb.mono HB.out.1.size)
      exact ⟨rfl, hb2, rfl⟩
  · have hI : inB 0 l[f].f1.length n = false := by simp only [inB, Bool.and_eq_false_iff, decide_eq_false_iff_not]; exact .inl h0
    have hE : fieldE l.length l[f].f1.length n 5 = some 6 := by simp [fieldE, hI]
    rw [hE]
    clear hI hE
    have hd1 : (0 ≤ n) = False := eq_false h0
    go_enter Try.func37, Try.ntmps37
    go_wp2_with fail
    refine wp_region_seq (fun w' => Below (w.alloc (.cells #[.slice (some ad) l.length c, .int .i64 f, .int .i64 at_] 104)).heap.size (w.alloc (.cells #[.slice (some ad) l.length c, .int .i64 f, .int .i64 at_] 104)) w') [15] [.take 0, .take 1, .take 2, .take 3, .take 4, .take 5, .take 6, .take 7, .take 8, .take 9, .take 10, .take 11, .take 12, .take 13, .take 14, .fin 15] (by kernel_rfl) (by kernel_rfl) rfl (by kernel_rfl) (panic_via (P := Try.prog) (fn := Try.f37) (fun _ _ _ => rfl)) ?_
    have hs : Below (w.alloc (.cells #[.slice (some ad) l.length c, .int .i64 f, .int .i64 at_] 104)).heap.size (w.alloc (.cells #[.slice (some ad) l.length c, .int .i64 f, .int .i64 at_] 104)) (w.alloc (.cells #[.slice (some ad) l.length c, .int .i64 f, .int .i64 at_] 104)).drew := (Below.refl _ _).drew
    repeat (
      (first
        | (refine runSeq_take (v := ?_) (by rfl) (by rfl) (fun w' hS => ?_) hs ?_
           rotate_left
           · (have hB := (hS.block _ (blk_lt HB.out.2.1)).trans HB.out.2.1; have c0 := blk_cell hB 0; have c1 := blk_cell hB 1; have c2 := blk_cell hB 2; have q1 := (hS.cell (World.block_lt_of_cell? _ _ HB.out.2.2)).trans HB.out.2.2; go_simp; exact rfl))
        | refine runSeq_skip (by rfl) (by rfl) hs ?_)
      (try simp only [Act.put, List.setIfInBounds_toArray, List.set_cons_zero, List.set_cons_succ]))
    refine runSeq_fin (by rfl) (by rfl) (fun K hK => ?_)
    go_simp
    refine (need_any (some ad) l.length c f at_ 6 _ _).mono ?_
    rintro x w' ⟨hb, he⟩
    rw [if_neg (by simp)] at he
    subst he
    have hb2 := HB.out.1.drew.trans (hb.mono HB.out.1.size)
    exact ⟨rfl, hb2, rfl⟩
set_option maxRecDepth 100000 in
set_option maxHeartbeats 4000000 in
theorem field_none (A : Option Addr) (c : Nat) (l : List S58) (f : Nat) (at_ n p : Int) (w : World) (hf : f < l.length) (h1 : ¬ p = 1) (h2 : ¬ p = 2) (h3 : ¬ p = 3) (h4 : ¬ p = 4) (h5 : ¬ p = 5) (h6 : ¬ p = 6) :
    Calls Try.prog 37 #[.agg #[.slice A l.length c, .int .i64 f, .int .i64 at_], .int .i64 n, .int .i64 p] w (stopPost f at_ (fieldE l.length l[f].f1.length n p) w) := by
  have hu104 := Try.underlying104
  have hbl := (Below.refl w.heap.size w).alloc (Nat.le_refl _) (.cells #[.slice A l.length c, .int .i64 f, .int .i64 at_] 104)
  have hE : fieldE l.length l[f].f1.length n p = none := by simp [fieldE, h1, h2, h3, h4, h5, h6]
  rw [hE]
  have HB := Aside0.mk hbl
  clear hbl hE
  go_enter Try.func37, Try.ntmps37
  go_wp2_with fail
  go_end0
  exact ⟨HB.out, rfl⟩
theorem field_any (A : Option Addr) (c : Nat) (l : List S58) (f : Nat) (at_ n p : Int) (w : World) (hC : k58.C w A l.length l) (hf : f < l.length) :
    Calls Try.prog 37 #[.agg #[.slice A l.length c, .int .i64 f, .int .i64 at_], .int .i64 n, .int .i64 p] w (stopPost f at_ (fieldE l.length l[f].f1.length n p) w) := by
  by_cases h1 : p = 1
  · subst h1; exact field_1 A c l f at_ n w hf
  by_cases h2 : p = 2
  · subst h2; exact field_2 A c l f at_ n w hf
  by_cases h3 : p = 3
  · subst h3; exact field_3 A c l f at_ n w hf
  by_cases h4 : p = 4
  · subst h4; exact field_4 A c l f at_ n w hf
  by_cases h5 : p = 5
  · subst h5; exact field_5 A c l f at_ n w hC hf
  by_cases h6 : p = 6
  · subst h6; exact field_6 A c l f at_ n w hf
  exact field_none A c l f at_ n p w hf h1 h2 h3 h4 h5 h6
end Go.Proofs.Ytnhipdniceoigaa.H
