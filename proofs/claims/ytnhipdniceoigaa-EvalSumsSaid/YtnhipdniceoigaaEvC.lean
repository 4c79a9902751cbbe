/- slices.Clone of a path, of arguments; a number that is told. -/
import Derived.Test.YtnhipdniceoigaaEvS
import Derived.Test.YtnhipdniceoigaaRoomW
set_option linter.unusedVariables false
set_option linter.unusedSimpArgs false
namespace Go.Proofs.Ytnhipdniceoigaa.H
open Go.RowKit Go.Hay Go.Proofs.YtnhipdniceoigaaW.PrintWords Go.Proofs.YtnhipdniceoigaaW.PrintLast Go.Proofs.YtnhipdniceoigaaW.PrintMore
set_option maxRecDepth 100000 in
set_option maxHeartbeats 4000000 in
theorem clonei_any (A : Option Addr) (c : Nat) (xs : List Int) (w : World) (hC : (Kd.int .i64).C w A xs.length xs) (hc : A = none → c = 0 ∧ xs = []) (hl : xs.length ≤ 1000) :
    Calls Try.prog 55 #[.slice A xs.length c] w fun e w' => ∃ v, e = .returned v ∧ (Kd.int .i64).R 3 w' w.heap.size (fun _ => True) v xs ∧ Below w.heap.size w w' := by
  cases A with
  | none =>
    obtain ⟨rfl, rfl⟩ := hc rfl
    have HB := Aside0.mk (Below.refl w.heap.size w)
    have he : ∀ w : World, (binOp .eql 47 (.slice none 0 0) (.slice none 0 0)).run Try.prog w = .ok (.bool true) w := fun _ => rfl
    clear hC
    go_enter Try.func55, Try.ntmps55
    go_wp2_with fail
    go_ret
    exact ⟨_, rfl, Kd.R_nil _ _ _ _ _, HB.out⟩
  | some ad =>
    have HC := Aside0.mk hC
    have HB := Aside0.mk (Below.refl w.heap.size w)
    have he : ∀ w : World, (binOp .eql 47 (.slice (some ad) xs.length c) (.slice none 0 0)).run Try.prog w = .ok (.bool false) w := fun _ => rfl
    have hl8 : (0 + xs.length) * 8 ≤ 140737488355328 := by omega
    clear hC
    go_enter Try.func55, Try.ntmps55
    have hnew : (Kd.int .i64).R 3 (w.alloc (.cells #[] 3)) w.heap.size (fun _ => True) (.slice (some ⟨w.heap.size, 0, none⟩) 0 0) [] :=
      ⟨fun _ _ => trivial, [], ⟨rfl, .inr ⟨w.heap.size, 0, #[], rfl, Nat.le_refl _, alloc_blk _ _, Nat.le_refl _, by decide, rfl, rfl⟩⟩, Reps.none _ _⟩
    go_wp2_with (first | ((with_reducible refine gate_builtin (b := .append) (xs := #[.tmp 5, .tmp 6]) rfl ?_); refine Kd.R_append_rows (Kd.int .i64) (w0 := w) w.heap.size rfl (.tmp 5) (.tmp 6) 47 3 (.int .i64 0) 8 rfl Try.underlying47 info3 rfl (by decide) (by omega) _ [] xs _ _ _ (fun _ => True) (fun _ => False) rfl rfl ?aO ?aR (fun _ _ h => h) (fun _ h => h.elim) ?aF ?aB ?aS ?aL ?_))
    case aO => exact hnew
    case aR => exact Kd.C_alloc HC.out _
    case aF => exact fun _ _ => trivial
    case aB => exact HB.out.alloc (Nat.le_refl _) _
    case aS => simp
    case aL => simpa using hl8
    intro v1 w1 hR hb1 _ _
    have HR1 := Aside0.mk hR
    have HB1 := Aside0.mk hb1
    clear hR hb1 hnew
    go_wp2_with fail
    go_ret
    exact ⟨v1, rfl, HR1.out, HB1.out⟩
set_option maxRecDepth 100000 in
set_option maxHeartbeats 4000000 in
theorem clone64_any (A : Option Addr) (c : Nat) (xs : List Int) (w : World) (hC : (Kd.int .i64).C w A xs.length xs) (hc : A = none → c = 0 ∧ xs = []) (hl : xs.length ≤ 1000) :
    Calls Try.prog 56 #[.slice A xs.length c] w fun e w' => ∃ v, e = .returned v ∧ (Kd.int .i64).R 2 w' w.heap.size (fun _ => True) v xs ∧ Below w.heap.size w w' := by
  cases A with
  | none =>
    obtain ⟨rfl, rfl⟩ := hc rfl
    have HB := Aside0.mk (Below.refl w.heap.size w)
    have he : ∀ w : World, (binOp .eql 23 (.slice none 0 0) (.slice none 0 0)).run Try.prog w = .ok (.bool true) w := fun _ => rfl
    clear hC
    go_enter Try.func56, Try.ntmps56
    go_wp2_with fail
    go_ret
    exact ⟨_, rfl, Kd.R_nil _ _ _ _ _, HB.out⟩
  | some ad =>
    have HC := Aside0.mk hC
    have HB := Aside0.mk (Below.refl w.heap.size w)
    have he : ∀ w : World, (binOp .eql 23 (.slice (some ad) xs.length c) (.slice none 0 0)).run Try.prog w = .ok (.bool false) w := fun _ => rfl
    have hl8 : (0 + xs.length) * 8 ≤ 140737488355328 := by omega
    clear hC
    go_enter Try.func56, Try.ntmps56
    have hnew : (Kd.int .i64).R 2 (w.alloc (.cells #[] 2)) w.heap.size (fun _ => True) (.slice (some ⟨w.heap.size, 0, none⟩) 0 0) [] :=
      ⟨fun _ _ => trivial, [], ⟨rfl, .inr ⟨w.heap.size, 0, #[], rfl, Nat.le_refl _, alloc_blk _ _, Nat.le_refl _, by decide, rfl, rfl⟩⟩, Reps.none _ _⟩
    go_wp2_with (first | ((with_reducible refine gate_builtin (b := .append) (xs := #[.tmp 5, .tmp 6]) rfl ?_); refine Kd.R_append_rows (Kd.int .i64) (w0 := w) w.heap.size rfl (.tmp 5) (.tmp 6) 23 2 (.int .i64 0) 8 rfl Try.underlying23 info2 rfl (by decide) (by omega) _ [] xs _ _ _ (fun _ => True) (fun _ => False) rfl rfl ?aO ?aR (fun _ _ h => h) (fun _ h => h.elim) ?aF ?aB ?aS ?aL ?_))
    case aO => exact hnew
    case aR => exact Kd.C_alloc HC.out _
    case aF => exact fun _ _ => trivial
    case aB => exact HB.out.alloc (Nat.le_refl _) _
    case aS => simp
    case aL => simpa using hl8
    intro v1 w1 hR hb1 _ _
    have HR1 := Aside0.mk hR
    have HB1 := Aside0.mk hb1
    clear hR hb1 hnew
    go_wp2_with fail
    go_ret
    exact ⟨v1, rfl, HR1.out, HB1.out⟩
section
variable {c : Cn} {l : List S58} {G : Gs} {ents : List Ent} {vt vl vw vp : Value} {w : World} {T : Ts} {tb me : Nat}
set_option maxRecDepth 100000 in
set_option maxHeartbeats 4000000 in
theorem temit_any (hg : ES c l G ents vt vl w) (h : TB tb c.wb vp T vw me c.B w) (hlo : c.w0.heap.size ≤ tb) (x : S55) (ha : 0 ≤ x.f1 ∧ x.f1 < 8) (htl : G.told.length ≤ 1000000) : Calls Try.prog 51 #[.pointer (some ⟨tb, 0, none⟩), xv x] w (GoesP c l tb vp me (PA c tb vt vl vw) T { G with told := G.told ++ [rg T x.f1] } w) := by
  obtain ⟨x0, x1, x2, x3, x4⟩ := x
  try simp only at *
  obtain ⟨a, rfl⟩ : ∃ a : Nat, x1 = a := ⟨x1.toNat, by omega⟩
  have hrg : rg T (a : Int) = T.regs.getD a 0 := rfl
  obtain ⟨At, ct, rfl⟩ := Kd.R_slice hg.eg.told
  obtain ⟨W, hW⟩ : ∃ W, W = w.alloc (.cells #[.int .i64 x0, .int .i64 (a), .int .i64 (x2), .int .i64 (x3), .int .i64 x4] 55) := ⟨_, rfl⟩
  have hb1 : Below w.heap.size w W := by rw [hW]; exact (Below.refl w.heap.size w).alloc (Nat.le_refl _) _
  have hbx : W.heap[w.heap.size]? = some (.cells #[.int .i64 x0, .int .i64 (a), .int .i64 (x2), .int .i64 (x3), .int .i64 x4] 55 (0, 0)) := by rw [hW]; exact alloc_blk w _
  have h1 := h.below hb1
  have c0 := blk_cell hbx 0
  have c1 := blk_cell hbx 1
  have c2 := blk_cell hbx 2
  have c3 := blk_cell hbx 3
  have c4 := blk_cell hbx 4
  have t0 := h1.fix.1
  have H := Aside0.mk (And.intro h1 hb1)
  have HWW := Aside0.mk hW
  have hg1 := hg.below hb1
  have ha8 : ((a : Int) < 8) = True := eq_true ha.2
  have r := h1.reg a (by omega)
  rw [hrg]
  generalize T.regs.getD a 0 = y at r
  have HG := Aside0.mk (And.intro hg1 (And.intro (And.intro r t0) (And.intro hbx (And.intro htl hlo))))
  clear hg hg1 ha r hrg htl hlo
  unfold xv
  clear h h1 hb1 hbx hW
  go_enter Try.func51, Try.ntmps51
  go_wp2_with fail
  rw [← HWW.out]
  refine wp_region_seq2 (fun w' => w'.heap[tb]? = W.heap[tb]? ∧ w'.heap[c.wb]? = W.heap[c.wb]? ∧ w'.heap[w.heap.size]? = W.heap[w.heap.size]?) [24] [.take 0, .take 1, .take 2, .take 3, .take 4, .take 5, .take 6, .take 7, .take 8, .take 9, .take 10, .take 11, .take 12, .take 13, .take 14, .take 15, .take 16, .take 17, .take 18, .op 19, .op 20, .op 21, .op 22, .op 23, .fin 24] (by kernel_rfl) (by kernel_rfl) rfl (by kernel_rfl) (panic_viaE (P := Try.prog) (fn := Try.f51) (R := GoesP c l tb vp me (PA c tb (.slice At G.told.length ct) vl vw) T { G with told := G.told ++ [y] } w) (fun _ _ _ => rfl)) ?_
  have hs : W.drew.heap[tb]? = W.heap[tb]? ∧ W.drew.heap[c.wb]? = W.heap[c.wb]? ∧ W.drew.heap[w.heap.size]? = W.heap[w.heap.size]? := ⟨rfl, rfl, rfl⟩
  clear c0 c1 c2 c3 c4 t0
  repeat (
    (first
      | (refine runSeq2_take (v := ?_) (by rfl) (by rfl) (fun w' hS => ?_) hs ?_
         rotate_left
         · (have t0 := (World.cell?_of_block (w := W) (a := ⟨tb, 0, none⟩) hS.1).trans HG.out.2.1.2; have r := (World.cell?_of_block (w := W) (a := ⟨tb, 2 + a, none⟩) hS.1).trans HG.out.2.1.1; have c1 := (World.cell?_of_block (w := W) (a := ⟨w.heap.size, 1, none⟩) hS.2.2).trans (blk_cell HG.out.2.2.1 1); have q6 := (World.cell?_of_block (w := W) (a := ⟨c.wb, 6, none⟩) hS.2.1).trans (blk_cell HG.out.1.eg.node 6); go_simp; exact rfl))
      | refine runSeq2_skip (by rfl) (by rfl) hs ?_)
    (try simp only [Act.put, List.setIfInBounds_toArray, List.set_cons_zero, List.set_cons_succ]))
  refine runSeq2_op (by rfl) (by rfl) (fun K hK => ?_)
  go_simp
  have hb2 : Below W.heap.size W (W.drew.alloc (.cells #[.int .i64 y] 2)) := (Below.refl _ _).drew.alloc (by exact Nat.le_refl _) _
  refine hK _ _ ⟨hb2.block _ (HG.out.1.eg.pB _ (.inl rfl) |>.2 |> fun _ => blk_lt H.out.1.node), hb2.block _ (blk_lt HG.out.1.eg.node), hb2.block _ (blk_lt HG.out.2.2.1)⟩ ?_
  clear hK K
  refine runSeq2_op (by rfl) (by rfl) (fun K hK => ?_)
  have htold := (HG.out.1.eg.below hb2).told
  have hBs : c.B ≤ (W.drew.alloc (.cells #[.int .i64 y] 2)).heap.size := Nat.le_trans (Nat.le_trans HG.out.1.eg.lo (Nat.le_of_lt (blk_lt HG.out.1.eg.node))) hb2.size
  refine wp_append_nums .i64 c.B rfl (.tmp 15) (.tmp 23) 23 2 8 rfl Try.underlying23 info2 (by decide) (.slice At G.told.length ct) G.told [y] _ _ _ rfl rfl htold (reads_nums [y] (alloc_blk _ _) (by simp)) hBs (by have := HG.out.2.2.2.1; omega) ?_
  intro v9 w9 hR9 hbw hgr hat
  have hP := HG.out.1.eg.tell hb2 hR9 hgr hat
  have hne1 : ∀ q, q < W.heap.size → (Value.slice At G.told.length ct).ownBlock ≠ some q → w9.heap[q]? = W.heap[q]? := fun q hq hn => (hgr.block q (Nat.lt_of_lt_of_le hq hb2.size) (fun e => hn e.symm)).trans (hb2.block q hq)
  have hnt : ∀ q cs t, W.heap[q]? = some (.cells cs t (0, 0)) → t ≠ 2 → (Value.slice At G.told.length ct).ownBlock ≠ some q := by
    intro q cs t hq ht e
    obtain ⟨cs', h2⟩ := Kd.R_typed HG.out.1.eg.told q e
    rw [hq] at h2; cases h2; exact ht rfl
  have hE9 : w9.heap[tb]? = W.heap[tb]? ∧ w9.heap[c.wb]? = W.heap[c.wb]? ∧ w9.heap[w.heap.size]? = W.heap[w.heap.size]? := ⟨hne1 tb (blk_lt H.out.1.node) (hnt _ _ _ H.out.1.node (by decide)), hP.2.2.2, hne1 _ (blk_lt HG.out.2.2.1) (hnt _ _ _ HG.out.2.2.1 (by decide))⟩
  obtain ⟨A9, c9, rfl⟩ := Kd.R_slice hR9
  have q6 := (World.cell?_of_block (a := ⟨c.wb, 6, none⟩) hE9.2.1).trans (blk_cell HG.out.1.eg.node 6)
  have z6 := blk_frozen (hE9.2.1.trans HG.out.1.eg.node) 6
  generalize (G.told ++ [y]).length = L9 at hP ⊢
  have HP := Aside0.mk hP
  clear hP hR9 hbw hgr hat hne1 hnt htold hb2 hs
  refine hK _ _ hE9 ?_
  clear hK K
  refine runSeq2_op (by rfl) (by rfl) (fun K hK => ?_)
  go_simp
  refine hK _ _ hE9 ?_
  clear hK K
  refine runSeq2_op (by rfl) (by rfl) (fun K hK => ?_)
  go_simp
  refine hK _ _ hE9 ?_
  clear hK K
  refine runSeq2_op (by rfl) (by rfl) (fun K hK => ?_)
  go_simp
  refine hK _ _ hE9 ?_
  clear hK K
  refine runSeq2_fin (by rfl) (by rfl) (fun K hK => ?_)
  go_simp
  refine hK _ _ ?_
  refine runSeq2_nil ?_
  clear hK K hE9 z6 q6
  go_wp2_with fail
  go_end0
  have hlo := HG.out.2.2.2.2
  have hap := apart HG.out.1.eg H.out.1
  have hB0 : ∀ q, q < c.w0.heap.size → ¬ PG c.wb (.slice At G.told.length ct) vl q := fun q hq hp => by have := HG.out.1.pLo q hp; omega
  have hkw : Keep (PA c tb (.slice At G.told.length ct) vl vw) w (w9.setCell ⟨c.wb, 6, none⟩ (.slice A9 L9 c9)) := (Keep.of_below H.out.2 _).trans (HP.out.2.1.mono (fun q _ h => .inl h))
  refine ⟨rfl, hkw, ents, .slice A9 L9 c9, vl, vw, HG.out.1.turn HP.out.1 HP.out.2.1 hB0, H.out.1.keep HP.out.2.1 (fun q hq hp => hap q hp hq), fun q hq => ?_⟩
  rcases hq with hq | hq
  · rcases HP.out.2.2.1 q hq with h2 | h2
    · exact .inl (.inl h2)
    · exact .inr (Nat.le_trans H.out.2.size h2)
  · exact .inl (.inr hq)
end
end Go.Proofs.Ytnhipdniceoigaa.H
