/- merge.Merge, merge.First, merge.Many: what they answer. -/
import Derived.Test.YtiplpkjjplicjaaMMerge
set_option linter.unusedVariables false
set_option linter.unusedSimpArgs false
namespace Go.Proofs.Ytiplpkjjplicjaa.H
open Go.RowKit Go.Hay Go.Proofs.YtiplpkjjplicjaaW.PrintWords Go.Proofs.YtiplpkjjplicjaaW.PrintLast Go.Proofs.YtiplpkjjplicjaaW.PrintMore
def valT : T → Int
  | .nil => 0
  | .node _ _ v _ => v
def mergeP (t : T) : List Int × Int × Int × Int := if rightT t 0 = true then ((walkT t []).1, if (walkT t []).2.1 = 0 then valT t else 0, (walkT t []).2.1, 0) else ([], 0, 0, 4)
theorem path_nil (w : World) : PathIs w none 0 [] := ⟨Kd.C_nil _ _, .inl ⟨rfl, rfl, rfl⟩, fun ad e => by cases e⟩
set_option maxRecDepth 100000 in
set_option maxHeartbeats 4000000 in
theorem Merge_any (t : T) (a : Option Addr) (w : World) (h : IsT t w a) (hl : rightT t 0 = true → (walkT t []).1.length ≤ 1000000) :
    Calls Try.prog 15 #[.pointer a] w fun e w' => ∃ v, e = .returned (.tuple #[v, .int .i64 (mergeP t).2.1, .int .i64 (mergeP t).2.2.1, .int .i64 (mergeP t).2.2.2]) ∧ (Kd.int .i64).R 2 w' w.heap.size (fun _ => True) v (mergeP t).1 ∧ Below w.heap.size w w' := by
  have hB := (Below.refl w.heap.size w).alloc (Nat.le_refl _) (.cells #[.slice none 0 0] 23)
  have hx := alloc_blk w (.cells #[.slice none 0 0] 23)
  have hmf : ∀ (fn : Fn) (first cap : Array Value) (w : World), (Instr.makeFunc fn first cap).run Try.prog w = .ok (.func fn first cap) w := fun _ _ _ _ => rfl
  have HR := Aside0.mk (Right_any t a _ (h.keep t hB))
  have H := Aside0.mk (And.intro h (And.intro hB hx))
  have HL := Aside0.mk hl
  clear h hB hx hl
  go_enter Try.func15, Try.ntmps15
  go_wp2_with fail
  refine HR.out.mono ?_
  rintro e w1 ⟨rfl, hb⟩
  have hB1 := H.out.2.1.trans (hb.mono H.out.2.1.size)
  have hx1 := (hb.block _ (blk_lt H.out.2.2)).trans H.out.2.2
  have ht := H.out.1
  clear H HR hb
  cases hr : rightT t 0 with
  | false =>
    have c := blk_cell hx1 0
    have f := blk_frozen hx1 0
    have H := Aside0.mk (And.intro hB1 (And.intro hx1 (show mergeP t = ([], 0, 0, 4) by unfold mergeP; rw [if_neg (by rw [hr]; simp)])))
    clear hB1 hx1 ht hr
    go_wp2_with fail
    have e := blk_set H.out.2.1 0 (.slice none 0 0)
    have q := blk_cell e 0
    refine bodyPost_ret (v := .tuple #[.slice none 0 0, .int .i64 0, .int .i64 0, .int .i64 4]) (by simp [results, Try.results15, go_sem, q]) rfl ⟨_, by rw [H.out.2.2], by rw [H.out.2.2]; exact Kd.R_nil _ _ _ _ _, Below.setCell (p := ⟨w.heap.size, 0, none⟩) H.out.1 (Nat.le_refl _) _⟩
  | true =>
    cases t with
    | nil => cases hr
    | node ps ks v f =>
    have h' := ht
    simp only [IsT] at h'
    obtain ⟨b, A1, c1, A2, c2, qs, rfl, g1, -⟩ := h'
    have HG := Aside0.mk g1
    have hM : mergeP (.node ps ks v f) = ((walkT (.node ps ks v f) []).1, if (walkT (.node ps ks v f) []).2.1 = 0 then v else 0, (walkT (.node ps ks v f) []).2.1, 0) := by unfold mergeP; rw [if_pos hr]; rfl
    have hI : IMerge w.heap.size [] none (fun k => k = w.heap.size ∨ (Value.slice none 0 0).ownBlock = some k) w1 := ⟨blk_lt hx1, _, hx1, Kd.R_nil _ _ _ _ _, rfl⟩
    have hcall := walk25_any w.heap.size w (IMerge w.heap.size) (tellerM _) (.node ps ks v f) _ none 0 [] [] _ w1 0 ht hB1 (path_nil _) (fun ad e => by cases e) hI hr (by omega) (by simp) (by simpa using HL.out hr)
    have hS : ∀ k, (k = w.heap.size ∨ (Value.slice none 0 0).ownBlock = some k) → w.heap.size ≤ k := fun k hk => hk.elim (fun e => by omega) (fun e => by cases e)
    obtain ⟨r, hrr⟩ : ∃ r, r = walkT (.node ps ks v f) [] := ⟨_, rfl⟩
    rw [← hrr] at hcall hM
    have HCALL := Aside0.mk hcall
    have H := Aside0.mk (And.intro hB1 (And.intro hM hS))
    clear hB1 hx1 ht hr g1 hM hI hcall hS hrr HL
    go_wp2_with fail
    refine HCALL.out.mono ?_
    rintro e w2 ⟨rfl, S', hI, hk, -⟩
    have hB2 := H.out.1.trans (hk.below H.out.1.size (fun k hkk hs => by have := H.out.2.2 k hs; omega))
    obtain ⟨-, vt, k1, k2, -⟩ := hI
    have gw := (hB2.block _ (blk_lt HG.out)).trans HG.out
    obtain ⟨At, ct, hv⟩ := Kd.R_slice k2
    obtain ⟨L, hL⟩ : ∃ n, n = ([] ++ r.1).length := ⟨_, rfl⟩
    rw [← hL] at hv
    subst hv
    have c := blk_cell k1 0
    have fz := blk_frozen k1 0
    have n2 := blk_cell gw 2
    have HM := H.out.2.1
    clear hL H HCALL hk
    have HE := Aside0.mk (And.intro hB2 (And.intro k1 (And.intro k2 HM)))
    have e := blk_set k1 0 (.slice At L ct)
    have q := blk_cell e 0
    have HQ := Aside0.mk q
    clear hB2 k1 k2 HM gw e q
    by_cases hz : r.2.1 = 0
    · have hz' : (r.2.1 == 0) = true := by rw [hz]; rfl
      have HZ := Aside0.mk hz
      clear hz
      go_wp2_with fail
      obtain ⟨hB2, k1, k2, hM⟩ := HE.out
      have q := HQ.out
      refine bodyPost_ret (v := .tuple #[.slice At L ct, .int .i64 v, .int .i64 r.2.1, .int .i64 0]) (by simp [results, Try.results15, go_sem, q]) rfl ⟨.slice At L ct, by rw [hM]; simp [HZ.out], ?_, Below.setCell (p := ⟨w.heap.size, 0, none⟩) hB2 (Nat.le_refl _) _⟩
      rw [hM]
      rw [List.nil_append] at k2
      exact Kd.R_lower (Kd.R_keep k2 (Keep.set (S := fun k => k = w.heap.size) (p := ⟨w.heap.size, 0, none⟩) (Keep.refl _ _) (.inr rfl) _) (fun k _ hb _ e => by omega)) (by omega)
    · have hz' : (r.2.1 == 0) = false := by simp [hz]
      have HZ := Aside0.mk hz
      clear hz
      go_wp2_with fail
      obtain ⟨hB2, k1, k2, hM⟩ := HE.out
      have q := HQ.out
      refine bodyPost_ret (v := .tuple #[.slice At L ct, .int .i64 0, .int .i64 r.2.1, .int .i64 0]) (by simp [results, Try.results15, go_sem, q]) rfl ⟨.slice At L ct, by rw [hM]; simp [HZ.out], ?_, Below.setCell (p := ⟨w.heap.size, 0, none⟩) hB2 (Nat.le_refl _) _⟩
      rw [hM]
      rw [List.nil_append] at k2
      exact Kd.R_lower (Kd.R_keep k2 (Keep.set (S := fun k => k = w.heap.size) (p := ⟨w.heap.size, 0, none⟩) (Keep.refl _ _) (.inr rfl) _) (fun k _ hb _ e => by omega)) (by omega)

/-! ### First -/
def firstP (t : T) : List Int × Bool := if rightT t 0 = true then (match (walkT t []).2.2 with | some p => (p, true) | none => ([], false)) else ([], false)
set_option maxRecDepth 100000 in
set_option maxHeartbeats 4000000 in
theorem First_any (t : T) (a : Option Addr) (w : World) (h : IsT t w a) (hl : rightT t 0 = true → (walkT t []).1.length ≤ 1000000) :
    Calls Try.prog 12 #[.pointer a] w fun e w' => ∃ A c, e = .returned (.tuple #[.slice A (firstP t).1.length c, .bool (firstP t).2]) ∧ PathIs w' A c (firstP t).1 ∧ Below w.heap.size w w' := by
  have hb0 := (Below.refl w.heap.size w).alloc (Nat.le_refl _) (.cells #[.slice none 0 0] 31)
  have hB := hb0.alloc hb0.size (.cells #[.bool false] 4)
  have hx := blk_alloc (alloc_blk w (.cells #[.slice none 0 0] 31)) (.cells #[.bool false] 4)
  have e1 : (w.alloc (.cells #[.slice none 0 0] 31)).heap.size = w.heap.size + 1 := Array.size_push _
  have hy := alloc_blk (w.alloc (.cells #[.slice none 0 0] 31)) (.cells #[.bool false] 4)
  rw [e1] at hy
  have hmf : ∀ (fn : Fn) (first cap : Array Value) (w : World), (Instr.makeFunc fn first cap).run Try.prog w = .ok (.func fn first cap) w := fun _ _ _ _ => rfl
  have HR := Aside0.mk (Right_any t a _ (h.keep t hB))
  have H := Aside0.mk (And.intro h (And.intro hB (And.intro hx hy)))
  have HL := Aside0.mk hl
  clear h hB hx hy hl hb0 e1
  go_enter Try.func12, Try.ntmps12
  go_wp2_with fail
  refine HR.out.mono ?_
  rintro e w1 ⟨rfl, hb⟩
  have hB1 := H.out.2.1.trans (hb.mono H.out.2.1.size)
  have hx1 := (hb.block _ (blk_lt H.out.2.2.1)).trans H.out.2.2.1
  have hy1 := (hb.block _ (blk_lt H.out.2.2.2)).trans H.out.2.2.2
  have ht := H.out.1
  clear H HR hb
  cases hr : rightT t 0 with
  | false =>
    have c := blk_cell hx1 0
    have f := blk_frozen hx1 0
    have c2 := blk_cell hy1 0
    have f2 := blk_frozen hy1 0
    have hne : w.heap.size ≠ w.heap.size + 1 := by omega
    have H := Aside0.mk (And.intro hB1 (And.intro hx1 (And.intro hy1 (show firstP t = ([], false) by unfold firstP; rw [if_neg (by rw [hr]; simp)]))))
    clear hB1 hx1 hy1 ht hr
    go_wp2_with fail
    have e := blk_farM (p := ⟨w.heap.size + 1, 0, none⟩) (blk_set H.out.2.1 0 (.slice none 0 0)) (show w.heap.size ≠ w.heap.size + 1 by omega) (.bool false)
    have q := blk_cell e 0
    have e2 := blk_set (blk_farM (p := ⟨w.heap.size, 0, none⟩) H.out.2.2.1 (show w.heap.size + 1 ≠ w.heap.size by omega) (.slice none 0 0)) 0 (.bool false)
    have q2 := blk_cell e2 0
    refine bodyPost_ret (v := .tuple #[.slice none 0 0, .bool false]) (by simp [results, Try.results12, go_sem, q, q2]) rfl ⟨none, 0, by rw [H.out.2.2.2]; rfl, by rw [H.out.2.2.2]; exact path_nil _, Below.setCell (p := ⟨w.heap.size + 1, 0, none⟩) (Below.setCell (p := ⟨w.heap.size, 0, none⟩) H.out.1 (Nat.le_refl _) _) (show w.heap.size ≤ w.heap.size + 1 by omega) _⟩
  | true =>
    have hI : IFirst w.heap.size [] none (fun k => k = w.heap.size ∨ k = w.heap.size + 1) w1 := ⟨blk_lt hy1, rfl, hx1, hy1⟩
    have hcall := walk23_any w.heap.size (w.heap.size + 1) w (IFirst w.heap.size) (tellerF _) t a none 0 [] [] _ w1 0 ht hB1 (path_nil _) (fun ad e => by cases e) hI hr (by omega) (by simp) (by simpa using HL.out hr)
    obtain ⟨r, hrr⟩ : ∃ r, r = walkT t [] := ⟨_, rfl⟩
    have hM : firstP t = match r.2.2 with | some p => (p, true) | none => ([], false) := by unfold firstP; rw [if_pos hr, hrr]
    rw [← hrr] at hcall
    have HCALL := Aside0.mk hcall
    have H := Aside0.mk (And.intro hB1 hM)
    clear hB1 hx1 hy1 ht hr hM hI hcall hrr HL
    go_wp2_with fail
    refine HCALL.out.mono ?_
    rintro e w2 ⟨rfl, S', hI, hk, -⟩
    have hB2 := H.out.1.trans (hk.below H.out.1.size (fun k hkk hs => by rcases hs with rfl | rfl <;> omega))
    obtain ⟨hsz, -, hq⟩ := hI
    have hP : ∃ A c, w2.heap[w.heap.size]? = some (.cells #[.slice A (firstP t).1.length c] 31 (0, 0)) ∧ w2.heap[w.heap.size + 1]? = some (.cells #[.bool (firstP t).2] 4 (0, 0)) ∧ PathIs w2 A c (firstP t).1 ∧ ∀ ad, A = some ad → ¬ (ad.block = w.heap.size ∨ ad.block = w.heap.size + 1) := by
      have hM := H.out.2
      cases hn : r.2.2 with
      | none =>
        rw [hn] at hM hq
        rw [hM]
        exact ⟨none, 0, hq.1, hq.2, path_nil _, fun ad e => by cases e⟩
      | some p =>
        rw [hn] at hM hq
        obtain ⟨A, c, h1, h2, h3⟩ := hq
        rw [hM]
        exact ⟨A, c, h1, h2, h3⟩
    obtain ⟨A, c, k1, k2, k3⟩ := hP
    obtain ⟨P2, hP2⟩ : ∃ n, n = (firstP t).2 := ⟨_, rfl⟩
    obtain ⟨L, hL⟩ : ∃ n, n = (firstP t).1.length := ⟨_, rfl⟩
    rw [← hL] at k1
    rw [← hP2] at k2
    have HE := Aside0.mk (And.intro hB2 (And.intro k1 (And.intro k2 (And.intro k3 (And.intro hsz (And.intro hL hP2))))))
    clear hq hk H HCALL hB2 hsz hL hP2
    clear k1 k2 k3
    go_wp2_with fail
    refine wp_region_seq2 (fun w' => w'.heap[w.heap.size]? = some (.cells #[.slice A L c] 31 (0, 0)) ∧ w'.heap[w.heap.size + 1]? = some (.cells #[.bool P2] 4 (0, 0)) ∧ Below w.heap.size w w' ∧ PathIs w' A c (firstP t).1) [] [.take 0, .take 1, .op 2, .op 3] (by kernel_rfl) (by kernel_rfl) rfl (by kernel_rfl) (panic_via (P := Try.prog) (fn := Try.f12) (R := fun e w' => ∃ A c, e = .returned (.tuple #[.slice A (firstP t).1.length c, .bool (firstP t).2]) ∧ PathIs w' A c (firstP t).1 ∧ Below w.heap.size w w') (fun _ _ _ => rfl)) ?_
    have hs : w2.drew.heap[w.heap.size]? = some (.cells #[.slice A L c] 31 (0, 0)) ∧ w2.drew.heap[w.heap.size + 1]? = some (.cells #[.bool P2] 4 (0, 0)) ∧ Below w.heap.size w w2.drew ∧ PathIs w2.drew A c (firstP t).1 :=
      ⟨HE.out.2.1, HE.out.2.2.1, HE.out.1.drew, HE.out.2.2.2.1.1.below (Below.refl _ _).drew⟩
    repeat (
      (first
        | (refine runSeq2_take (v := ?_) (by rfl) (by rfl) (fun w' hS => ?_) hs ?_
           rotate_left
           · (have d0 := blk_cell hS.1 0; have d1 := blk_cell hS.2.1 0; go_simp; exact rfl))
        | refine runSeq2_skip (by rfl) (by rfl) hs ?_)
      (try simp only [Act.put, List.setIfInBounds_toArray, List.set_cons_zero, List.set_cons_succ]))
    obtain ⟨h1, h2, h3, h4⟩ := hs
    have hno := HE.out.2.2.2.1.2
    generalize w2.drew = wa at h1 h2 h3 h4 ⊢
    have c1 := blk_cell h1 0
    have f1 := blk_frozen h1 0
    refine runSeq2_op (by rfl) (by rfl) (fun K hK => ?_)
    go_simp
    have h1' := blk_set h1 0 (.slice A L c)
    have h2' := blk_farM (p := ⟨w.heap.size, 0, none⟩) h2 (show w.heap.size + 1 ≠ w.heap.size by omega) (.slice A L c)
    have h3' := Below.setCell (p := ⟨w.heap.size, 0, none⟩) h3 (Nat.le_refl _) (.slice A L c)
    have h4' := h4.keep ((Keep.refl (fun k => k = w.heap.size ∨ k = w.heap.size + 1) wa).set (p := ⟨w.heap.size, 0, none⟩) (.inr (.inl rfl)) (.slice A L c)) hno
    refine hK _ _ ⟨h1', h2', h3', h4'⟩ ?_
    clear hK K c1 f1 h1 h2 h3 h4
    generalize wa.setCell ⟨w.heap.size, 0, none⟩ (.slice A L c) = wb at h1' h2' h3' h4' ⊢
    have c2 := blk_cell h2' 0
    have f2 := blk_frozen h2' 0
    refine runSeq2_op (by rfl) (by rfl) (fun K hK => ?_)
    go_simp
    have h1 := blk_farM (p := ⟨w.heap.size + 1, 0, none⟩) h1' (show w.heap.size ≠ w.heap.size + 1 by omega) (.bool P2)
    have h2 := blk_set h2' 0 (.bool P2)
    have h3 := Below.setCell (p := ⟨w.heap.size + 1, 0, none⟩) h3' (show w.heap.size ≤ w.heap.size + 1 by omega) (.bool P2)
    have h4 := h4'.keep ((Keep.refl (fun k => k = w.heap.size ∨ k = w.heap.size + 1) wb).set (p := ⟨w.heap.size + 1, 0, none⟩) (.inr (.inr rfl)) (.bool P2)) hno
    refine hK _ _ ⟨h1, h2, h3, h4⟩ ?_
    clear hK K c2 f2 h1' h2' h3' h4'
    generalize wb.setCell ⟨w.heap.size + 1, 0, none⟩ (.bool P2) = wc at h1 h2 h3 h4 ⊢
    refine runSeq2_nil ?_
    have HQ := Aside0.mk (And.intro h1 (And.intro h2 (And.intro h3 h4)))
    clear h1 h2 h3 h4 hno
    go_wp2_with fail
    have q := blk_cell HQ.out.1 0
    have q2 := blk_cell HQ.out.2.1 0
    have hL := HE.out.2.2.2.2.2.1
    have hP2 := HE.out.2.2.2.2.2.2
    refine bodyPost_ret (v := .tuple #[.slice A L c, .bool P2]) (by simp [results, Try.results12, go_sem, q, q2]) rfl ⟨A, c, by rw [hL, hP2], HQ.out.2.2.2, HQ.out.2.2.1⟩
#print axioms Merge_any
#print axioms First_any
end Go.Proofs.Ytiplpkjjplicjaa.H
