/- the chapter's example of merge. -/
import Derived.Test.YtiplpkjjplicjaaMOut
import Derived.Test.YtiplpkjjplicjaaMCount
import Derived.Test.YtiplpkjjplicjaaH13
set_option linter.unusedVariables false
set_option linter.unusedSimpArgs false
namespace Go.Proofs.Ytiplpkjjplicjaa.H
open Go.RowKit Go.Hay Go.Proofs.YtiplpkjjplicjaaW.PrintWords Go.Proofs.YtiplpkjjplicjaaW.PrintLast Go.Proofs.YtiplpkjjplicjaaW.PrintMore
/-- A leaf: no kids. -/
theorem IsT.leaf {w : World} {b : Nat} {A1 : Option Addr} {c1 : Nat} {ps : List S64} {v f : Int} (h : w.heap[b]? = some (.cells #[.slice A1 ps.length c1, .slice none 0 0, .int .i64 v, .int .i64 f] 42 (0, 0))) (hc : ps.length ≤ c1) (hp : k64.C w A1 ps.length ps) : IsT (.node ps [] v f) w (some ⟨b, 0, none⟩) := by
  simp only [IsT, IsTs]
  exact ⟨b, A1, c1, none, 0, [], rfl, h, hc, hp, Nat.le_refl _, Kd.C_nil _ _, rfl⟩
theorem IsT.one {w : World} {b : Nat} {A1 A2 : Option Addr} {c1 c2 : Nat} {ps : List S64} {k : T} {a : Option Addr} {v f : Int} (h : w.heap[b]? = some (.cells #[.slice A1 ps.length c1, .slice A2 1 c2, .int .i64 v, .int .i64 f] 42 (0, 0))) (hc : ps.length ≤ c1) (hp : k64.C w A1 ps.length ps) (hc2 : 1 ≤ c2) (hk : kP.C w A2 1 [a]) (ht : IsT k w a) : IsT (.node ps [k] v f) w (some ⟨b, 0, none⟩) := by
  simp only [IsT, IsTs]
  exact ⟨b, A1, c1, A2, c2, [a], rfl, h, hc, hp, hc2, hk, a, [], rfl, ht, rfl⟩
def exT : T := .node [⟨false, 5⟩, ⟨true, 0⟩, ⟨false, 6⟩] [.node [⟨false, 7⟩] [] 0 0] 0 0
theorem exT_merge : mergeP exT = ([5, 7, 6], 0, 0, 0) := by rfl
theorem numbers_loop (a : List Int) (h : a.length < 9223372036854775807) : ∀ (d i : Nat), a.length - i = d → i ≤ a.length → Ev (fun k => haymowlaw07_numbers.l0 k a a i) true
  | 0, i, hd, hi => by
    obtain rfl : i = a.length := by omega
    refine Ev.step (f := fun _ => some true) (fun k => ?_) (Ev.now _)
    simp [haymowlaw07_numbers.l0]
  | d + 1, i, hd, hi => by
    refine Ev.step (fun k => ?_) (numbers_loop a h d (i + 1) (by omega) (by omega))
    simp only [haymowlaw07_numbers.l0]
    rw [if_pos (by omega), if_pos (by omega), if_pos (by omega), if_pos trivial, show wrap64 ((i : Int) + 1) = ((i + 1 : Nat) : Int) by unfold wrap64; omega]
theorem numbers_same (a : List Int) (h : a.length < 9223372036854775807) : ∃ k, haymowlaw07_numbers.f k a a = some true := by
  refine Ev.rounds (g := fun k => haymowlaw07_numbers.f k a a) (r := true) ?_
  refine Ev.congr (fun k => ?_) (numbers_loop a h _ 0 rfl (by omega))
  unfold haymowlaw07_numbers.f
  rw [if_pos rfl]
  rfl
theorem below_drawn {w w' : World} (h : Drawn0 w w') : Below w.heap.size w w' := by
  obtain ⟨n, rfl⟩ := h
  exact pw_below_drewN (Below.refl _ _) n
def exW (w : World) : World := ((((w.alloc (.cells #[.bool false, .int .i64 7] 44)).alloc (.cells #[.slice (some ⟨w.heap.size, 0, none⟩) 1 1, .slice none 0 0, .int .i64 0, .int .i64 0] 42)).alloc (.cells #[.bool false, .int .i64 5, .bool true, .int .i64 0, .bool false, .int .i64 6] 44)).alloc (.cells #[.pointer (some ⟨w.heap.size + 1, 0, none⟩)] 29)).alloc (.cells #[.slice (some ⟨w.heap.size + 1 + 1, 0, none⟩) 3 3, .slice (some ⟨w.heap.size + 1 + 1 + 1, 0, none⟩) 1 1, .int .i64 0, .int .i64 0] 42)
theorem exW_is (w : World) : IsT exT (exW w) (some ⟨w.heap.size + 1 + 1 + 1 + 1, 0, none⟩) ∧ Below w.heap.size w (exW w) := by
  have h0 : (exW w).heap[w.heap.size]? = some (.cells #[.bool false, .int .i64 7] 44 (0, 0)) := by
    show (((((w.heap.push _).push _).push _).push _).push _)[_]? = _
    rw [Array.getElem?_push, if_neg (by simp only [Array.size_push]; omega), Array.getElem?_push, if_neg (by simp only [Array.size_push]; omega), Array.getElem?_push, if_neg (by simp only [Array.size_push]; omega), Array.getElem?_push, if_neg (by simp only [Array.size_push]; omega), Array.getElem?_push, if_pos (by simp only [Array.size_push])]
  have h1 : (exW w).heap[w.heap.size + 1]? = some (.cells #[.slice (some ⟨w.heap.size, 0, none⟩) 1 1, .slice none 0 0, .int .i64 0, .int .i64 0] 42 (0, 0)) := by
    show (((((w.heap.push _).push _).push _).push _).push _)[_]? = _
    rw [Array.getElem?_push, if_neg (by simp only [Array.size_push]; omega), Array.getElem?_push, if_neg (by simp only [Array.size_push]; omega), Array.getElem?_push, if_neg (by simp only [Array.size_push]; omega), Array.getElem?_push, if_pos (by simp only [Array.size_push])]
  have h2 : (exW w).heap[w.heap.size + 1 + 1]? = some (.cells #[.bool false, .int .i64 5, .bool true, .int .i64 0, .bool false, .int .i64 6] 44 (0, 0)) := by
    show (((((w.heap.push _).push _).push _).push _).push _)[_]? = _
    rw [Array.getElem?_push, if_neg (by simp only [Array.size_push]; omega), Array.getElem?_push, if_neg (by simp only [Array.size_push]; omega), Array.getElem?_push, if_pos (by simp only [Array.size_push])]
  have h3 : (exW w).heap[w.heap.size + 1 + 1 + 1]? = some (.cells #[.pointer (some ⟨w.heap.size + 1, 0, none⟩)] 29 (0, 0)) := by
    show (((((w.heap.push _).push _).push _).push _).push _)[_]? = _
    rw [Array.getElem?_push, if_neg (by simp only [Array.size_push]; omega), Array.getElem?_push, if_pos (by simp only [Array.size_push])]
  have h4 : (exW w).heap[w.heap.size + 1 + 1 + 1 + 1]? = some (.cells #[.slice (some ⟨w.heap.size + 1 + 1, 0, none⟩) 3 3, .slice (some ⟨w.heap.size + 1 + 1 + 1, 0, none⟩) 1 1, .int .i64 0, .int .i64 0] 42 (0, 0)) := by
    show (((((w.heap.push _).push _).push _).push _).push _)[_]? = _
    rw [Array.getElem?_push, if_pos (by simp only [Array.size_push])]
  have b1 := (Below.refl w.heap.size w).alloc (Nat.le_refl _) (.cells #[.bool false, .int .i64 7] 44)
  have b2 := b1.alloc b1.size (.cells #[.slice (some ⟨w.heap.size, 0, none⟩) 1 1, .slice none 0 0, .int .i64 0, .int .i64 0] 42)
  have b3 := b2.alloc b2.size (.cells #[.bool false, .int .i64 5, .bool true, .int .i64 0, .bool false, .int .i64 6] 44)
  have b4 := b3.alloc b3.size (.cells #[.pointer (some ⟨w.heap.size + 1, 0, none⟩)] 29)
  have b5 := b4.alloc b4.size (.cells #[.slice (some ⟨w.heap.size + 1 + 1, 0, none⟩) 3 3, .slice (some ⟨w.heap.size + 1 + 1 + 1, 0, none⟩) 1 1, .int .i64 0, .int .i64 0] 42)
  refine ⟨?_, b5⟩
  have p1 : k64.C (exW w) (some ⟨w.heap.size, 0, none⟩) 1 [⟨false, 7⟩] := reads_cells (R := k64.K (exW w)) (size := 2) (ps := [(⟨false, 7⟩ : S64)]) h0 (Reps.c2 (k64_mk _ (⟨false, 7⟩ : S64)) (Reps.none _ _)) (by simp)
  have p2 : k64.C (exW w) (some ⟨w.heap.size + 1 + 1, 0, none⟩) 3 [⟨false, 5⟩, ⟨true, 0⟩, ⟨false, 6⟩] := reads_cells (R := k64.K (exW w)) (size := 2) (ps := [(⟨false, 5⟩ : S64), ⟨true, 0⟩, ⟨false, 6⟩]) h2 (Reps.c2 (k64_mk _ (⟨false, 5⟩ : S64)) (Reps.c2 (k64_mk _ (⟨true, 0⟩ : S64)) (Reps.c2 (k64_mk _ (⟨false, 6⟩ : S64)) (Reps.none _ _)))) (by simp)
  have p3 : kP.C (exW w) (some ⟨w.heap.size + 1 + 1 + 1, 0, none⟩) 1 [some ⟨w.heap.size + 1, 0, none⟩] := reads_one (R := kP.K (exW w)) (x := some ⟨w.heap.size + 1, 0, none⟩) h3 rfl
  exact IsT.one (ps := [(⟨false, 5⟩ : S64), ⟨true, 0⟩, ⟨false, 6⟩]) h4 (by simp) p2 (Nat.le_refl _) p3 (IsT.leaf (ps := [(⟨false, 7⟩ : S64)]) h1 (by simp) p1)
set_option maxRecDepth 100000 in
set_option maxHeartbeats 4000000 in
theorem awake_any (w : World) : Calls Try.prog 14 #[] w fun e w' => e = .returned (.bool true) ∧ Below w.heap.size w w' := by
  obtain ⟨hT, hB⟩ := exW_is w
  obtain ⟨kn, hkn⟩ := numbers_same [5, 7, 6] (by decide)
  have HKN := Aside0.mk hkn
  clear hkn
  have HC := Aside0.mk (Merge_any exT _ (exW w) hT (fun _ => by decide))
  have HB := Aside0.mk hB
  clear hT hB
  go_enter Try.func14, Try.ntmps14
  go_wp2_with fail
  refine HC.out.mono ?_
  rintro e w2 ⟨v, rfl, hR, hb⟩
  rw [exT_merge] at hR
  obtain ⟨A, c, rfl⟩ := Kd.R_slice hR
  have hq := Kd.R_reads' hR
  have HR := Aside0.mk (And.intro hq.2.1 hq.2.2)
  have hx := exT_merge
  have HB2 := Aside0.mk (HB.out.trans (hb.mono HB.out.size))
  clear hb hR hq HC
  have e1 : (mergeP exT).2.1 = 0 := by rw [hx]
  have e2 : (mergeP exT).2.2.1 = 0 := by rw [hx]
  have e3 : (mergeP exT).2.2.2 = 0 := by rw [hx]
  clear hx
  rw [e1, e2, e3]
  clear e1 e2 e3
  go_wp2_with fail
  refine (haymowlaw07_numbers.calls kn A c [5, 7, 6] (some ⟨w2.heap.size, 0, none⟩) 3 [5, 7, 6] true _ (Kd.C_alloc HR.out.2 _) HR.out.1 (reads_nums [5, 7, 6] (alloc_blk _ _) (by simp)) (by simp) HKN.out).mono ?_
  rintro e w3 ⟨rfl, hd⟩
  have HB3 := Aside0.mk ((HB2.out.alloc HB2.out.size (.cells #[.int .i64 5, .int .i64 7, .int .i64 6] 2)).trans ((below_drawn hd).mono (HB2.out.alloc HB2.out.size _).size))
  clear hd
  go_wp2_with fail
  go_ret
  exact ⟨rfl, HB3.out⟩
#print axioms awake_any
end Go.Proofs.Ytiplpkjjplicjaa.H
