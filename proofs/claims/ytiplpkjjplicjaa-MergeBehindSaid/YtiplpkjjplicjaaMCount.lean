/- merge.Many counts nodes and numbers. -/
import Derived.Test.YtiplpkjjplicjaaMRight
import Derived.Test.YtiplpkjjplicjaaPair
import Derived.Test.YtiplpkjjplicjaaMWalk
set_option linter.unusedVariables false
set_option linter.unusedSimpArgs false
namespace Go.Proofs.Ytiplpkjjplicjaa.H
open Go.RowKit Go.Hay Go.Proofs.YtiplpkjjplicjaaW.PrintWords Go.Proofs.YtiplpkjjplicjaaW.PrintLast Go.Proofs.YtiplpkjjplicjaaW.PrintMore
mutual
def nodesT : T → Int
  | .nil => 0
  | .node ps ks v f => 1 + nodesTs ks
def nodesTs : List T → Int
  | [] => 0
  | k :: r => nodesT k + nodesTs r
end
mutual
def numsT : T → Int
  | .nil => 0
  | .node ps ks v f => ((ps.length : Int) - (ks.length : Int)) + numsTs ks
def numsTs : List T → Int
  | [] => 0
  | k :: r => numsT k + numsTs r
end
theorem metP_len : ∀ {l : List S64} {m r : Int}, metP m l = some r → r ≤ m + (l.length : Int)
  | [], m, r, h => by rw [metP] at h; cases h; simp
  | p :: l, m, r, h => by
    rw [metP] at h
    rw [List.length_cons]
    by_cases h1 : p.f0 = true
    · rw [if_pos h1] at h
      by_cases h2 : p.f1 = m
      · rw [if_pos h2] at h; have := metP_len h; omega
      · rw [if_neg h2] at h; cases h
    · rw [if_neg h1] at h; have := metP_len h; omega
mutual
theorem count_pos : ∀ (t : T) {d : Int}, rightT t d = true → 1 ≤ nodesT t ∧ 0 ≤ numsT t
  | .nil, d, h => by rw [rightT] at h; cases h
  | .node ps ks v f, d, h => by
    obtain ⟨_, _, h3, h4⟩ := right_inv h
    have := counts_pos ks h4
    have := metP_len h3
    rw [nodesT, numsT]; omega
theorem counts_pos : ∀ (l : List T) {d : Int}, rightTs l d = true → 0 ≤ nodesTs l ∧ 0 ≤ numsTs l
  | [], d, h => by rw [nodesTs, numsTs]; omega
  | k :: r, d, h => by
    rw [rightTs, Bool.and_eq_true] at h
    have h1 := count_pos k h.1
    have h2 := counts_pos r h.2
    rw [nodesTs, numsTs]; omega
end
theorem nodesTs_split : ∀ (l : List T) (i : Nat) (h : i < l.length), nodesTs l = nodesTs (l.take i) + nodesT l[i] + nodesTs (l.drop (i + 1))
  | [], i, h => absurd h (Nat.not_lt_zero _)
  | k :: r, 0, h => by simp [nodesTs]
  | k :: r, i + 1, h => by
    have := nodesTs_split r i (by simpa using h)
    simp only [nodesTs, List.take_succ_cons, List.getElem_cons_succ, List.drop_succ_cons]; omega
theorem numsTs_split : ∀ (l : List T) (i : Nat) (h : i < l.length), numsTs l = numsTs (l.take i) + numsT l[i] + numsTs (l.drop (i + 1))
  | [], i, h => absurd h (Nat.not_lt_zero _)
  | k :: r, 0, h => by simp [numsTs]
  | k :: r, i + 1, h => by
    have := numsTs_split r i (by simpa using h)
    simp only [numsTs, List.take_succ_cons, List.getElem_cons_succ, List.drop_succ_cons]; omega
theorem nodesTs_take (l : List T) (i : Nat) (h : i < l.length) : nodesTs (l.take (i + 1)) = nodesTs (l.take i) + nodesT l[i] := by
  have := nodesTs_split (l.take (i + 1)) i (by simp; omega)
  rw [this]; simp [List.take_take, nodesTs, Nat.min_eq_left]
theorem numsTs_take (l : List T) (i : Nat) (h : i < l.length) : numsTs (l.take (i + 1)) = numsTs (l.take i) + numsT l[i] := by
  have := numsTs_split (l.take (i + 1)) i (by simp; omega)
  rw [this]; simp [List.take_take, numsTs, Nat.min_eq_left]
theorem rightTs_part : ∀ {l : List T} {d : Int} (i : Nat), rightTs l d = true → rightTs (l.take i) d = true ∧ rightTs (l.drop i) d = true
  | l, d, 0, h => ⟨by simp [rightTs], by simpa using h⟩
  | [], d, i + 1, h => ⟨by simp [rightTs], by simp [rightTs]⟩
  | k :: r, d, i + 1, h => by
    rw [rightTs, Bool.and_eq_true] at h
    obtain ⟨h1, h2⟩ := rightTs_part i h.2
    exact ⟨by rw [List.take_succ_cons, rightTs, h.1, h1]; rfl, by simpa using h2⟩
def CountOk (t : T) : Prop := ∀ (a : Option Addr) (w : World) (d : Int), IsT t w a → rightT t d = true → nodesT t ≤ 1000000000 → numsT t ≤ 1000000000 → Calls Try.prog 28 #[.pointer a] w fun e w' => e = .returned (.tuple #[.int .i64 (nodesT t), .int .i64 (numsT t)]) ∧ Below w.heap.size w w'
set_option maxRecDepth 100000 in
set_option maxHeartbeats 4000000 in
theorem count_node (ps : List S64) (ks : List T) (v f : Int) (hk : ∀ k ∈ ks, CountOk k) : CountOk (.node ps ks v f) := by
  intro a w d h hr hn hm
  obtain ⟨_, _, h3, h4⟩ := right_inv hr
  have hpos := counts_pos ks h4
  have hlen := metP_len h3
  have h' := h
  simp only [IsT] at h'
  obtain ⟨b, A1, c1, A2, c2, qs, rfl, g1, g2, g3, g4, g5, g6⟩ := h'
  rw [nodesT] at hn
  rw [numsT] at hm
  have hs : w.drew.heap[b]? = some (.cells #[.slice A1 ps.length c1, .slice A2 ks.length c2, .int .i64 v, .int .i64 f] 42 (0, 0)) ∧ Below w.heap.size w w.drew := ⟨g1, (Below.refl _ _).drew⟩
  have hmaxp := Kd.C_max g3
  have hmaxk := Kd.C_max g5
  have G := Aside0.mk (And.intro g1 (And.intro g5 (And.intro g6 h4)))
  have HN := Aside0.mk (And.intro hn (And.intro hm (And.intro hpos hlen)))
  have HK := Aside0.mk hk
  clear h hr h3 h4 hn hm g1 g2 g3 g4 g5 g6 hk hpos hlen
  go_enter Try.func28, Try.ntmps28
  go_wp2_with fail
  refine wp_region_seq2 (fun w' => w'.heap[b]? = some (.cells #[.slice A1 ps.length c1, .slice A2 ks.length c2, .int .i64 v, .int .i64 f] 42 (0, 0)) ∧ Below w.heap.size w w') [] [.take 0, .take 1, .take 2, .take 3, .take 4, .take 5, .take 6, .take 7, .take 8, .take 9, .take 10, .take 11, .take 12] (by kernel_rfl) (by kernel_rfl) rfl (by kernel_rfl) (panic_via (P := Try.prog) (fn := Try.f28) (R := fun e w' => e = .returned (.tuple #[.int .i64 (nodesT (.node ps ks v f)), .int .i64 (numsT (.node ps ks v f))]) ∧ Below w.heap.size w w') (fun _ _ _ => rfl)) ?_
  repeat (
    (first
      | (refine runSeq2_take (v := ?_) (by rfl) (by rfl) (fun w' hS => ?_) hs ?_
         rotate_left
         · (have d0 := blk_cell hS.1 0; have d1 := blk_cell hS.1 1; go_simp; exact rfl))
      | refine runSeq2_skip (by rfl) (by rfl) hs ?_)
    (try simp only [Act.put, List.setIfInBounds_toArray, List.set_cons_zero, List.set_cons_succ]))
  have hwr : IntKind.i64.wrap ((ps.length : Int) - (ks.length : Int)) = (ps.length : Int) - (ks.length : Int) := (i64_w _).trans (by have := HN.out.2.2.2; unfold wrap64; omega)
  rw [hwr]
  refine runSeq2_nil ?_
  obtain ⟨hs1, hs2⟩ := hs
  generalize w.drew = wa at hs1 hs2 ⊢
  have HW := Aside0.mk hs2
  have d1 := blk_cell hs1 1
  clear hs1 hs2 hwr
  go_wp2_with fail
  clear d1
  go_loopw [2, 3, 24] (fun v2 v3 v24 wr => ∃ (i : Nat) (x y : Int), v2 = .int .i64 x ∧ v3 = .int .i64 y ∧ v24 = .int .i64 i ∧ i ≤ ks.length ∧ Aside0 (x = 1 + nodesTs (ks.take i) ∧ y = ((ps.length : Int) - (ks.length : Int)) + numsTs (ks.take i)) ∧ Aside0 (Below w.heap.size w wr)) (fun _ _ v24 _ => ks.length - (intOf v24).toNat)
  case atStart => exact ⟨0, _, _, rfl, rfl, rfl, Nat.zero_le _, ⟨by simp [nodesTs, numsTs]⟩, HW⟩
  case round =>
    clear HW
    obtain ⟨i, x, y, rfl, rfl, rfl, hi, HX, HW⟩ := hrel
    by_cases hlt : i < ks.length
    · obtain ⟨hq, hIs⟩ := IsTs.get G.out.2.2.1 i hlt
      obtain ⟨ad, rfl, hx⟩ := at_P G.out.2.1 i hlt hq
      have hx2 := (HW.out.cell (World.block_lt_of_cell? w _ hx)).trans hx
      have hr := rightTs_mem G.out.2.2.2 i hlt
      have hp := count_pos _ hr
      have ht1 := counts_pos _ (rightTs_part i G.out.2.2.2).1
      have ht2 := counts_pos _ (rightTs_part (i + 1) G.out.2.2.2).2
      have e1 := nodesTs_split ks i hlt
      have e2 := numsTs_split ks i hlt
      have e3 := nodesTs_take ks i hlt
      have e4 := numsTs_take ks i hlt
      have hN := HN.out
      have hX := HX.out
      have hcall := HK.out ks[i] (List.getElem_mem hlt) qs[i] _ (d + 1) (hIs.keep _ HW.out) hr (by omega) (by omega)
      have hb1 : x + nodesT ks[i] ≤ 1000000000 ∧ 1 ≤ x + nodesT ks[i] := by omega
      have hb2 : y + numsT ks[i] ≤ 1000000000 ∧ 0 ≤ y + numsT ks[i] := by omega
      have HX2 := Aside0.mk (show x + nodesT ks[i] = 1 + nodesTs (ks.take (i + 1)) ∧ y + numsT ks[i] = ((ps.length : Int) - (ks.length : Int)) + numsTs (ks.take (i + 1)) by omega)
      have HCALL := Aside0.mk hcall
      have hw1 : IntKind.i64.wrap (x + nodesT ks[i]) = x + nodesT ks[i] := (i64_w _).trans (by unfold wrap64; omega)
      have hw2 : IntKind.i64.wrap (y + numsT ks[i]) = y + numsT ks[i] := (i64_w _).trans (by unfold wrap64; omega)
      clear hx hr hp ht1 ht2 e1 e2 e3 e4 hN hX hcall hIs hb1 hb2
      go_wp2_with fail
      refine HCALL.out.mono ?_
      rintro e w2 ⟨rfl, hb⟩
      have HW2 := Aside0.mk (HW.out.trans (hb.mono HW.out.size))
      clear hb hx2 HCALL HW HX
      go_wp2_with fail
      go_roundw
      case rel => exact ⟨i + 1, _, _, rfl, rfl, by go_num, by omega, HX2, HW2⟩
      case measure => simp [intOf]; omega
    · obtain rfl : i = ks.length := by omega
      have hX := HX.out
      rw [List.take_length] at hX
      obtain ⟨rfl, rfl⟩ := hX
      clear hlt hi HX
      go_wp2_with fail
      go_ret2
      exact ⟨by rw [nodesT, numsT]; rfl, HW.out⟩
mutual
theorem count_any : ∀ t : T, CountOk t
  | .nil => fun a w d h hr => by rw [rightT] at hr; cases hr
  | .node ps ks v f => count_node ps ks v f (counts_any ks)
theorem counts_any : ∀ l : List T, ∀ k ∈ l, CountOk k
  | [], k, h => by cases h
  | x :: r, k, h => by
    rcases List.mem_cons.1 h with h | h
    · exact h ▸ count_any x
    · exact counts_any r k h
end
def manyP (t : T) : Int × Int := if rightT t 0 = true then (nodesT t, numsT t) else (0, 0)
set_option maxRecDepth 100000 in
theorem Many_any (t : T) (a : Option Addr) (w : World) (h : IsT t w a) (hn : nodesT t ≤ 1000000000) (hm : numsT t ≤ 1000000000) :
    Calls Try.prog 18 #[.pointer a] w fun e w' => e = .returned (.tuple #[.int .i64 (manyP t).1, .int .i64 (manyP t).2]) ∧ Below w.heap.size w w' := by
  have HR := Aside0.mk (Right_any t a w h)
  have H := Aside0.mk (And.intro h (And.intro hn hm))
  clear h hn hm
  go_enter Try.func18, Try.ntmps18
  go_wp2_with fail
  refine HR.out.mono ?_
  rintro e w1 ⟨rfl, hb⟩
  cases hr : rightT t 0 with
  | false =>
    have HB := Aside0.mk (And.intro hb (show manyP t = (0, 0) by unfold manyP; rw [if_neg (by rw [hr]; simp)]))
    clear hb hr
    go_wp2_with fail
    go_ret2
    exact ⟨by rw [HB.out.2]; rfl, HB.out.1⟩
  | true =>
    have HC := Aside0.mk (count_any t a w1 0 (H.out.1.keep t hb) hr H.out.2.1 H.out.2.2)
    have HB := Aside0.mk (And.intro hb (show manyP t = (nodesT t, numsT t) by unfold manyP; rw [if_pos hr]))
    clear hb hr
    go_wp2_with fail
    refine HC.out.mono ?_
    rintro e w2 ⟨rfl, hb⟩
    have HB2 := Aside0.mk (HB.out.1.trans (hb.mono HB.out.1.size))
    clear hb
    go_wp2_with fail
    go_ret2
    exact ⟨by rw [HB.out.2]; rfl, HB2.out⟩
#print axioms Many_any
end Go.Proofs.Ytiplpkjjplicjaa.H
