/- EpochActs: the document's epochs in memory, walked. -/
import Derived.Test.YthbooikhegppnaaEpAcP
import Derived.Test.YthbooikhegppnaaEpWs
set_option linter.unusedVariables false
set_option linter.unusedSimpArgs false
namespace Go.Proofs.Ythbooikhegppnaa.H
open Go.RowKit Go.Hay Go.Proofs.YthbooikhegppnaaW.PrintWords Go.Proofs.YthbooikhegppnaaW.PrintLast Go.Proofs.YthbooikhegppnaaW.PrintMore
theorem info45 : (Try.prog.info? 45).map (fun i => (i.zero, i.size, i.bytes)) = some (some (.agg #[(.int .i64 0), (.int .i64 0), (.int .i64 0)]), 3, 24) := by kernel_rfl
theorem k45_flat {e base : Nat} {w w1 : World} {ok ok' : Nat → Prop} {v : Value} {xs : List S45} (h : k45.R e w base ok v xs) (ho : ∀ b, v.ownBlock = some b → ok' b) (hag : ∀ b, v.ownBlock = some b → w1.heap[b]? = w.heap[b]?) : k45.R e w1 base ok' v xs := by
  obtain ⟨_, inner, ⟨h1, h2⟩, h3, h4⟩ := h
  refine ⟨ho, inner, ⟨h1, ?_⟩, h3, fun j p hj => by have := k45_openM (h4 j p hj); rw [this]; exact k45_mkM _ _ _ _⟩
  rcases h2 with h2 | ⟨g, cap, cur, rfl, q2, q3, q4⟩
  · exact .inl h2
  · exact .inr ⟨g, cap, cur, rfl, q2, (hag g rfl).trans q3, q4⟩
theorem k45_own {e base : Nat} {w : World} {ok : Nat → Prop} {v : Value} {xs : List S45} (h : k45.R e w base ok v xs) : ∀ b, v.ownBlock = some b → ok b ∧ base ≤ b ∧ b < w.heap.size :=
  fun b hb => ⟨h.1 b hb, Kd.R_base h b hb, Kd.R_lt h b hb⟩
def PR (r : Nat) (v1 v2 : Value) (q : Nat) : Prop := q = r ∨ v1.ownBlock = some q ∨ v2.ownBlock = some q
structure RS (B r : Nat) (now : Int) (ann : List Int) (L : List S45) (v1 v2 : Value) (wr : World) : Prop where
  node : wr.heap[r]? = some (.cells #[.int .i64 now, v1, v2] 43 (0, 0))
  r1 : (Kd.int .i64).R 3 wr B (fun _ => True) v1 ann
  r2 : k45.R 45 wr B (fun _ => True) v2 L
  lo : B ≤ r
section
variable {B r : Nat} {now : Int} {ann : List Int} {L : List S45} {v1 v2 : Value} {w w1 wr : World}
theorem RS.pB (h : RS B r now ann L v1 v2 wr) : ∀ q, PR r v1 v2 q → B ≤ q ∧ q < wr.heap.size := by
  intro q hq
  rcases hq with rfl | hq | hq
  · exact ⟨h.lo, blk_lt h.node⟩
  · exact (nums_own h.r1 q hq).2
  · exact (k45_own h.r2 q hq).2
theorem RS.keep (h : RS B r now ann L v1 v2 wr) (hk : ∀ q, PR r v1 v2 q → w1.heap[q]? = wr.heap[q]?) : RS B r now ann L v1 v2 w1 :=
  ⟨(hk r (.inl rfl)).trans h.node, nums_flat h.r1 (fun _ _ => trivial) (fun q hq => hk q (.inr (.inl hq))), k45_flat h.r2 (fun _ _ => trivial) (fun q hq => hk q (.inr (.inr hq))), h.lo⟩
theorem RS.below (h : RS B r now ann L v1 v2 wr) (hb : Below wr.heap.size wr w1) : RS B r now ann L v1 v2 w1 := h.keep (fun q hq => hb.block q (h.pB q hq).2)
/-- the blocks are apart: their types differ. -/
theorem RS.ne1 (h : RS B r now ann L v1 v2 wr) : ∀ q, v1.ownBlock = some q → q ≠ r := by
  intro q hq e
  obtain ⟨cs, h1⟩ := Kd.R_typed h.r1 q hq
  rw [e, h.node] at h1; cases h1
theorem RS.ne2 (h : RS B r now ann L v1 v2 wr) : ∀ q, v2.ownBlock = some q → q ≠ r := by
  intro q hq e
  obtain ⟨cs, h1⟩ := Kd.R_typed h.r2 q hq
  rw [e, h.node] at h1; cases h1
theorem RS.ne12 (h : RS B r now ann L v1 v2 wr) : ∀ q, v1.ownBlock = some q → v2.ownBlock ≠ some q := by
  intro q hq e
  obtain ⟨cs, h1⟩ := Kd.R_typed h.r1 q hq
  obtain ⟨cs2, h2⟩ := Kd.R_typed h.r2 q e
  rw [h1] at h2; cases h2
end
theorem nums_at {k : IntKind} {e B g n cap : Nat} {ok : Nat → Prop} {W : World} {xs : List Int} (h : (Kd.int k).R e W B ok (.slice (some ⟨g, 0, none⟩) n cap) xs) {i : Nat} (hi : i < xs.length) : W.cell? ⟨g, i, none⟩ = some (.int k xs[i]) ∧ W.frozen? ⟨g, i, none⟩ = false := by
  have hq := Kd.R_reads' h
  obtain ⟨ad, e1, hc⟩ := hq.2.2.2.2 (by omega)
  cases e1
  obtain ⟨cs, h1, h2, h3⟩ := hc i _ (List.getElem?_eq_getElem hi)
  have h2 : cs = [.int k xs[i]] := h2
  subst h2
  have q0 := h3 0 _ rfl
  rw [add_plain] at q0
  obtain ⟨g', cp, hv, _, _, C, hC⟩ := Kd.R_form h (by omega)
  injection hv with hA _ _
  cases hA
  have q1 : W.cell? ⟨g, i * 1, none⟩ = some (.int k xs[i]) := q0
  rw [Nat.mul_one] at q1
  exact ⟨q1, blk_frozen hC _⟩
theorem nums_set {k : IntKind} {e B g n cap : Nat} {ok : Nat → Prop} {W : World} {xs : List Int} (h : (Kd.int k).R e W B ok (.slice (some ⟨g, 0, none⟩) n cap) xs) {i : Nat} (hi : i < xs.length) (x : Int) :
    (Kd.int k).R e (W.setCell ⟨g, i, none⟩ (.int k x)) B ok (.slice (some ⟨g, 0, none⟩) n cap) (xs.set i x) := by
  have hq := nums_at h hi
  have hn := (Kd.R_reads' h).1
  have := (Kd.R_seg h (i : Int) (by omega) (by omega) (c := [.int k xs[i]]) (seg := [.int k x]) (j := 0) rfl (fun j u hj => by
    rw [Int.toNat_natCast]
    match j, hj with
    | 0, hj => cases hj; have e : i * (Kd.int k).sz = i := Nat.mul_one i; rw [e]; exact hq.1) (Nat.le_refl _) (x' := x) (okp := fun _ => False) rfl (fun _ h => h.elim)).1
  rw [Int.toNat_natCast, show i * (Kd.int k).sz = i from Nat.mul_one i] at this
  exact this
theorem RS.setA {B r : Nat} {now : Int} {ann : List Int} {L : List S45} {g n c : Nat} {v2 : Value} {w : World} (h : RS B r now ann L (.slice (some ⟨g, 0, none⟩) n c) v2 w) {k : Nat} (hk : k < ann.length) (x : Int) : RS B r now (ann.set k x) L (.slice (some ⟨g, 0, none⟩) n c) v2 (w.setCell ⟨g, k, none⟩ (.int .i64 x)).drew := by
  have e := h.ne1 g rfl
  have e2 : ∀ q, v2.ownBlock = some q → q ≠ g := fun q hq he => h.ne12 g rfl (by rw [← he]; exact hq)
  exact ⟨(Below.heap_setCell w ⟨g, k, none⟩ _ r (Ne.symm e)).trans h.node, Kd.R_drewN (nums_set h.r1 hk x) 1, Kd.R_drewN (k45_flat h.r2 (fun _ _ => trivial) (fun q hq => Below.heap_setCell w ⟨g, k, none⟩ _ q (e2 q hq))) 1, h.lo⟩
structure RNI (w : World) (i : Nat) (v : Value) (w' : World) : Prop where
  below : Below w.heap.size w w'
  node : w'.heap[w.heap.size]? = some (.cells #[.int .i64 0, v, .slice none 0 0] 43 (0, 0))
  row : (Kd.int .i64).R 3 w' (w.heap.size + 1) (fun _ => True) v (List.replicate i (-1))
theorem RNI.push {w w1 W : World} {i : Nat} {v v1 : Value} (h : RNI w i v W) (hR : (Kd.int .i64).R 3 w1 (w.heap.size + 1) (fun _ => True) v1 (List.replicate i (-1) ++ [-1])) (hb : Below (w.heap.size + 1) W w1) : RNI w (i + 1) v1 (w1.setCell ⟨w.heap.size, 1, none⟩ v1) := by
  have hn : w1.heap[w.heap.size]? = some (.cells #[.int .i64 0, v, .slice none 0 0] 43 (0, 0)) := (hb.block _ (by omega)).trans h.node
  refine ⟨(h.below.trans (hb.mono (by omega))).setCell (Nat.le_refl _) _, blk_set hn 1 _, ?_⟩
  rw [List.replicate_succ']
  exact nums_flat hR (fun _ _ => trivial) (fun b hb2 => Below.heap_setCell w1 ⟨w.heap.size, 1, none⟩ v1 b (fun e => by have := Kd.R_base hR b hb2; simp at e; omega))
set_option maxRecDepth 100000 in
set_option maxHeartbeats 4000000 in
theorem rnew_any (n : Nat) (w : World) (h1 : n ≤ 64) : Calls Try.prog 13 #[.int .i64 n] w fun e w' => ∃ v, e = .returned (.pointer (some ⟨w.heap.size, 0, none⟩)) ∧ Below w.heap.size w w' ∧ RS w.heap.size w.heap.size 0 (List.replicate n (-1)) [] v (.slice none 0 0) w' := by
  go_enter Try.func13, Try.ntmps13
  have HN := Aside0.mk (show RNI w 0 (.slice none 0 0) (w.alloc (.cells #[.int .i64 0, .slice none 0 0, .slice none 0 0] 43)) from ⟨(Below.refl _ _).alloc (Nat.le_refl _) _, alloc_blk _ _, Kd.R_nil _ _ _ _ _⟩)
  go_wp2_with fail
  go_loopw [4] (fun v4 wr => ∃ (i : Nat) (v : Value), v4 = .int .i64 i ∧ i ≤ n ∧ Aside0 (RNI w i v wr)) (fun v4 _ => n - (intOf v4).toNat)
  case atStart => exact ⟨0, _, rfl, Nat.zero_le _, HN⟩
  case round =>
    clear HN
    obtain ⟨i, v, rfl, hi, HN⟩ := hrel
    by_cases hlt : i < n
    · obtain ⟨A, c, rfl⟩ := Kd.R_slice HN.out.row
      rw [List.length_replicate] at HN
      have d1 := blk_cell HN.out.node 1
      go_wp2_with (first | ((with_reducible refine gate_builtin (b := .append) (xs := #[.tmp 16, .tmp 17]) rfl ?_); refine Kd.R_append (Kd.int .i64) (w0 := wr) (w.heap.size + 1) rfl (.tmp 16) (.tmp 17) 28 3 (.int .i64 0) 8 rfl Try.underlying28 info3 rfl (by decide) (by omega) (.slice A i c) (List.replicate i (-1)) (-1) [.int .i64 (-1)] (fun _ => True) (fun _ => False) rfl (by first | (go_simp; done) | (go_simp; rfl)) ?aP (fun _ hk => hk.elim) ?aF ?aO ?aB ?aS ?aL ?_; (case aP => rfl); (case aF => exact (fun _ _ => trivial)); (case aO => exact HN.out.row); (case aB => exact Below.refl _ _); (case aS => exact blk_lt HN.out.node); (case aL => simp; omega); intro v9 w9 hR9 hb9 hg9 hat9; have HP := Aside0.mk (HN.out.push hR9 hb9); have hn9 := (hb9.block _ (Nat.lt_succ_self _)).trans HN.out.node; have d9 := blk_cell hn9 1; have z9 := blk_frozen hn9 1; obtain ⟨A9, c9, rfl⟩ := Kd.R_slice hR9; rw [show (List.replicate i (-1 : Int) ++ [(-1 : Int)]).length = i + 1 from by simp] at HP; clear hR9 hb9 hg9 hat9 hn9 d1))
      go_roundw
      case rel => exact ⟨i + 1, _, by go_num, hlt, HP⟩
      case measure => simp [intOf]; omega
    · obtain rfl : i = n := by omega
      go_wp2_with fail
      go_ret
      exact ⟨v, rfl, HN.out.below, ⟨HN.out.node, Kd.R_lower HN.out.row (Nat.le_succ _), Kd.R_nil _ _ _ _ _, Nat.le_refl _⟩⟩
theorem all_take {xs : List Int} {now : Int} {i : Nat} (h : i < xs.length) : (xs.take (i + 1)).all (fun a => a == now) = ((xs.take i).all (fun a => a == now) && (xs[i] == now)) := by
  rw [List.take_succ_eq_append_getElem h, List.all_append]; simp
theorem rOut_take {now k : Int} {L : List S45} {i : Nat} (h : i < L.length) : rOut now k (L.take (i + 1)) = rOut now k (L.take i) ++ (if rGoes now k L[i] = true then [L[i].f1] else []) := by
  unfold rOut
  rw [List.take_succ_eq_append_getElem h, List.filter_append, List.map_append]
  cases hg : rGoes now k L[i] <;> simp [hg]
theorem rLeft_take {now k : Int} {L : List S45} {i : Nat} (h : i < L.length) : rLeft now k (L.take (i + 1)) = rLeft now k (L.take i) ++ (if rGoes now k L[i] = true then [] else [L[i]]) := by
  unfold rLeft
  rw [List.take_succ_eq_append_getElem h, List.filter_append]
  cases hg : rGoes now k L[i] <;> simp [hg]
structure RL (w : World) (B r : Nat) (now : Int) (ann : List Int) (L : List S45) (v1 v2 : Value) (k : Int) (i : Nat) (v7 v8 : Value) (wr : World) : Prop where
  rs : RS B r now ann L v1 v2 wr
  kp : Keep (PR r v1 v2) w wr
  lt : ∀ q, PR r v1 v2 q → q < w.heap.size
  o1 : (Kd.int .i64).R 3 wr w.heap.size (fun _ => True) v7 (rOut now k (L.take i))
  o2 : k45.R 45 wr w.heap.size (fun _ => True) v8 (rLeft now k (L.take i))
section
variable {w wr w9 : World} {B r i : Nat} {now k : Int} {ann : List Int} {L : List S45} {v1 v2 v7 v8 v9 : Value}
theorem RL.ne78 (h : RL w B r now ann L v1 v2 k i v7 v8 wr) : ∀ q, v7.ownBlock = some q → v8.ownBlock ≠ some q := by
  intro q hq e
  obtain ⟨cs, h1⟩ := Kd.R_typed h.o1 q hq
  obtain ⟨cs2, h2⟩ := Kd.R_typed h.o2 q e
  rw [h1] at h2; cases h2
theorem RL.drawn (h : RL w B r now ann L v1 v2 k i v7 v8 wr) (n : Nat) : RL w B r now ann L v1 v2 k i v7 v8 (wr.drewN n) :=
  ⟨⟨h.rs.node, Kd.R_drewN h.rs.r1 n, Kd.R_drewN h.rs.r2 n, h.rs.lo⟩, h.kp.drewN n, h.lt, Kd.R_drewN h.o1 n, Kd.R_drewN h.o2 n⟩
theorem RL.out (h : RL w B r now ann L v1 v2 k i v7 v8 wr) (hi : i < L.length) (hg : rGoes now k L[i] = true) (hR : (Kd.int .i64).R 3 w9 w.heap.size (fun _ => True) v9 (rOut now k (L.take i) ++ [L[i].f1])) (hb : Below w.heap.size wr w9) (hgr : wr.grownBy w9 v7.ownBlock) :
    RL w B r now ann L v1 v2 k (i + 1) v9 v8 w9 := by
  refine ⟨h.rs.keep (fun q hq => hb.block q (h.lt q hq)), h.kp.then (Keep.of_belowB hb) (fun q hq h2 => by omega), h.lt, ?_, ?_⟩
  · rw [rOut_take hi, if_pos hg]; exact hR
  · rw [rLeft_take hi, if_pos hg, List.append_nil]
    exact k45_flat h.o2 (fun _ _ => trivial) (fun q hq => hgr.block q (k45_own h.o2 q hq).2.2 (fun e => h.ne78 q e.symm hq))
theorem RL.left (h : RL w B r now ann L v1 v2 k i v7 v8 wr) (hi : i < L.length) (hg : rGoes now k L[i] = false) (hR : k45.R 45 w9 w.heap.size (fun _ => True) v9 (rLeft now k (L.take i) ++ [L[i]])) (hb : Below w.heap.size wr w9) (hgr : wr.grownBy w9 v8.ownBlock) :
    RL w B r now ann L v1 v2 k (i + 1) v7 v9 w9 := by
  refine ⟨h.rs.keep (fun q hq => hb.block q (h.lt q hq)), h.kp.then (Keep.of_belowB hb) (fun q hq h2 => by omega), h.lt, ?_, ?_⟩
  · rw [rOut_take hi, if_neg (by rw [hg]; decide), List.append_nil]
    exact nums_flat h.o1 (fun _ _ => trivial) (fun q hq => hgr.block q (nums_own h.o1 q hq).2.2 (fun e => h.ne78 q hq e.symm))
  · rw [rLeft_take hi, if_neg (by rw [hg]; decide)]; exact hR
theorem RL.done (h : RL w B r now ann L v1 v2 k i v7 v8 wr) (hi : i = L.length) : (Kd.int .i64).R 3 (wr.setCell ⟨r, 2, none⟩ v8) w.heap.size (fun _ => True) v7 (rOut now k L) ∧ RS B r now ann (rLeft now k L) v1 v8 (wr.setCell ⟨r, 2, none⟩ v8) ∧ Keep (PR r v1 v2) w (wr.setCell ⟨r, 2, none⟩ v8) ∧ (∀ q, PR r v1 v8 q → PR r v1 v2 q ∨ w.heap.size ≤ q) := by
  subst hi
  have e1 := h.o1
  have e2 := h.o2
  rw [List.take_length] at e1 e2
  have hr := h.lt r (.inl rfl)
  have hs : ∀ q, q ≠ r → (wr.setCell ⟨r, 2, none⟩ v8).heap[q]? = wr.heap[q]? := fun q hq => Below.heap_setCell wr ⟨r, 2, none⟩ _ q hq
  have hlo := h.rs.lo
  refine ⟨nums_flat e1 (fun _ _ => trivial) (fun q hq => hs q (by have := (nums_own e1 q hq).2.1; omega)), ⟨blk_set h.rs.node 2 v8, nums_flat h.rs.r1 (fun _ _ => trivial) (fun q hq => hs q (h.rs.ne1 q hq)), Kd.R_lower (k45_flat e2 (fun _ _ => trivial) (fun q hq => hs q (by have := (k45_own e2 q hq).2.1; omega))) (by omega), h.rs.lo⟩, h.kp.set (.inr (.inl rfl)) _, fun q hq => ?_⟩
  rcases hq with rfl | hq | hq
  · exact .inl (.inl rfl)
  · exact .inl (.inr (.inl hq))
  · exact .inr (k45_own e2 q hq).2.1
end
def rPost (B r : Nat) (now : Int) (ann : List Int) (L : List S45) (v1 v2 : Value) (k : Nat) (w : World) (e : Ending) (w' : World) : Prop :=
  ∃ A c v8, e = .returned (.slice A (rOut (rNow now ann k) k L).length c) ∧ (Kd.int .i64).R 3 w' w.heap.size (fun _ => True) (.slice A (rOut (rNow now ann k) k L).length c) (rOut (rNow now ann k) k L) ∧
    RS B r (rNow now ann k) (ann.set k now) (rLeft (rNow now ann k) k L) v1 v8 w' ∧ Keep (PR r v1 v2) w w' ∧ (∀ q, PR r v1 v8 q → PR r v1 v2 q ∨ w.heap.size ≤ q)
theorem RS.setNow {B r : Nat} {now : Int} {ann : List Int} {L : List S45} {v1 v2 : Value} {w : World} (h : RS B r now ann L v1 v2 w) (x : Int) : RS B r x ann L v1 v2 (w.setCell ⟨r, 0, none⟩ (.int .i64 x)) := by
  have hs : ∀ q, q ≠ r → (w.setCell ⟨r, 0, none⟩ (.int .i64 x)).heap[q]? = w.heap[q]? := fun q hq => Below.heap_setCell w ⟨r, 0, none⟩ _ q hq
  exact ⟨blk_set h.node 0 _, nums_flat h.r1 (fun _ _ => trivial) (fun q hq => hs q (h.ne1 q hq)), k45_flat h.r2 (fun _ _ => trivial) (fun q hq => hs q (h.ne2 q hq)), h.lo⟩
theorem RS.drewN {B r : Nat} {now : Int} {ann : List Int} {L : List S45} {v1 v2 : Value} {w : World} (h : RS B r now ann L v1 v2 w) (n : Nat) : RS B r now ann L v1 v2 (w.drewN n) :=
  ⟨h.node, Kd.R_drewN h.r1 n, Kd.R_drewN h.r2 n, h.lo⟩
theorem rGoes_eq (now k : Int) (x : S45) : rGoes now k x = ((x.f0 == k) && decide (x.f2 + 2 ≤ now)) := rfl
set_option maxRecDepth 100000 in
set_option maxHeartbeats 4000000 in
theorem rann_any {B r : Nat} {now : Int} {ann : List Int} {L : List S45} {v1 v2 : Value} (k : Nat) (w : World) (h : RS B r now ann L v1 v2 w) (hk : k < ann.length) (hl : L.length ≤ 1000) (ha : ann.length ≤ 1000) (hn0 : 0 ≤ now) (hn1 : now ≤ 1000000) (hf : ∀ x ∈ L, 0 ≤ x.f2 ∧ x.f2 ≤ now) : Calls Try.prog 14 #[.pointer (some ⟨r, 0, none⟩), .int .i64 k] w (rPost B r now ann L v1 v2 k w) := by
  obtain ⟨A1, c1, rfl⟩ := Kd.R_slice h.r1
  obtain ⟨A2, c2, rfl⟩ := Kd.R_slice h.r2
  have d0 := blk_cell h.node 0
  have d1 := blk_cell h.node 1
  obtain ⟨g, cp, hv, hb1, hb2, C, hC⟩ := Kd.R_form h.r1 (by omega)
  cases hv
  obtain ⟨x1, z1⟩ := nums_at h.r1 hk
  have hgr := h.ne1 g rfl
  have H := Aside0.mk h
  have HF := Aside0.mk hf
  clear hf
  go_enter Try.func14, Try.ntmps14
  go_wp2_with fail
  refine wp_region_seq (fun w' => Drawn0 w w') [10] [.take 0, .take 1, .take 2, .take 3, .take 4, .take 5, .take 6, .take 7, .take 8, .take 9, .fin 10] (by kernel_rfl) (by kernel_rfl) rfl (by kernel_rfl) (panic_thn rfl) ?_
  have hs : Drawn0 w w.drew := (Drawn0.refl w).step 1
  repeat (
    (first
      | (refine runSeq_take (v := ?_) (by rfl) (by rfl) (fun w' hS => ?_) hs ?_
         rotate_left
         · (obtain ⟨n, rfl⟩ := hS; go_simp; exact rfl))
      | refine runSeq_skip (by rfl) (by rfl) hs ?_)
    (try simp only [Act.put, List.setIfInBounds_toArray, List.set_cons_zero, List.set_cons_succ]))
  refine runSeq_fin (by rfl) (by rfl) (fun K hK => ?_)
  go_simp
  refine hK _ _ ?_
  clear hK K
  refine runSeq_nil ?_
  have h1 := H.out.setA hk now
  have hkp : Keep (PR r (.slice (some ⟨g, 0, none⟩) ann.length c1) (.slice A2 L.length c2)) w (w.setCell ⟨g, k, none⟩ (.int .i64 now)).drew := ((Keep.refl _ _).set (.inr (.inr (.inl rfl))) _).drew
  have H1 := Aside0.mk (And.intro hkp (fun q hq => (H.out.pB q hq).2))
  obtain ⟨w1, hw1⟩ : ∃ w1, w1 = (w.setCell ⟨g, k, none⟩ (.int .i64 now)).drew := ⟨_, rfl⟩
  have hal : (ann.set k now).length = ann.length := List.length_set ..
  have HN := Aside0.mk (show rNow now ann k = if ((ann.set k now).all (fun a => a == now)) = true then now + 1 else now from rfl)
  rw [← hw1] at H1 h1 ⊢
  have HAN0 : ∃ ann1, ann.set k now = ann1 := ⟨_, rfl⟩
  obtain ⟨ann1, han⟩ := HAN0
  rw [han] at h1 hal HN
  have HAN := Aside0.mk han
  clear han
  have H2 := Aside0.mk h1
  have HA := Aside0.mk hal
  have HD := Aside0.mk (Drawn0.refl w1)
  have HB := Aside0.mk (show true = ((ann1.take 0).all (fun a => a == now)) from rfl)
  clear h d0 d1 hb1 hb2 hC x1 z1 hs hkp hw1 h1 hal
  go_wp2_with fail
  go_loopw [5, 6] (fun v5 v6 wj => ∃ (i : Nat) (b : Bool), v6 = .int .i64 i ∧ v5 = .bool b ∧ i ≤ ann.length ∧ Aside0 (b = ((ann1.take i).all (fun a => a == now))) ∧ Aside0 (Drawn0 w1 wj)) (fun _ v6 _ => ann.length - (intOf v6).toNat)
  case atStart => exact ⟨0, true, rfl, rfl, Nat.zero_le _, HB, HD⟩
  case round =>
    clear HD HB
    obtain ⟨i, b, rfl, rfl, hi, HB, HD⟩ := hrel
    obtain ⟨m, rfl⟩ := HD.out
    have d0 := blk_cell H2.out.node 0
    have d1 := blk_cell H2.out.node 1
    by_cases hlt : i < ann.length
    · have hlt2 : i < ann1.length := by have := HA.out; omega
      obtain ⟨x1, z1⟩ := nums_at H2.out.r1 hlt2
      have HT := Aside0.mk (all_take (now := now) hlt2)
      generalize ann1[i] = a at x1 HT
      cases b with
      | true =>
        go_wp2_with fail
        go_quiet (fail)
        go_wp2_with fail
        go_roundw
        case rel => exact ⟨i + 1, _, by go_num, rfl, by omega, ⟨by rw [HT.out, ← HB.out]; simp⟩, ⟨⟨_, rfl⟩⟩⟩
        case measure => simp [intOf]; omega
      | false =>
        go_wp2_with fail
        go_quiet (fail)
        go_wp2_with fail
        go_roundw
        case rel => exact ⟨i + 1, false, by go_num, rfl, by omega, ⟨by rw [HT.out, ← HB.out]; rfl⟩, ⟨⟨_, rfl⟩⟩⟩
        case measure => simp [intOf]; omega
    · obtain rfl : i = ann.length := by omega
      have hB := HB.out
      rw [List.take_of_length_le (by rw [HA.out]; exact Nat.le_refl _)] at hB
      have hNN := HN.out
      rw [← hB] at hNN
      cases b with
      | true =>
        rw [if_pos rfl] at hNN
        have HRL := Aside0.mk (show RL w B r (now + 1) ann1 L (.slice (some ⟨g, 0, none⟩) ann.length c1) (.slice A2 L.length c2) k 0 (.slice none 0 0) (.slice none 0 0) ((w1.drewN m).setCell ⟨r, 0, none⟩ (.int .i64 (now + 1))) from ⟨(H2.out.drewN m).setNow (now + 1), (H1.out.1.drewN m).set (.inr (.inl rfl)) _, H1.out.2, Kd.R_nil _ _ _ _ _, Kd.R_nil _ _ _ _ _⟩)
        have HNN := Aside0.mk hNN
        have z0 := blk_frozen H2.out.node 0
        clear hB hNN hlt hi HB HD HN
        go_wp2_with fail
        go_loopw [7, 8, 9] (fun v7 v8 v9 wj => ∃ (i : Nat), v9 = .int .i64 i ∧ i ≤ L.length ∧ Aside0 (RL w B r (now + 1) ann1 L (.slice (some ⟨g, 0, none⟩) ann.length c1) (.slice A2 L.length c2) k i v7 v8 wj)) (fun _ _ v9 _ => L.length - (intOf v9).toNat)
        case atStart => exact ⟨0, rfl, Nat.zero_le _, HRL⟩
        case round =>
          clear HRL
          obtain ⟨i, rfl, hi, HRL⟩ := hrel
          by_cases hlt : i < L.length
          · have d0 := blk_cell HRL.out.rs.node 0
            have d2 := blk_cell HRL.out.rs.node 2
            obtain ⟨A7, c7, rfl⟩ := Kd.R_slice HRL.out.o1
            obtain ⟨A8, c8, rfl⟩ := Kd.R_slice HRL.out.o2
            obtain ⟨_, _, hr2⟩ := Kd.R_reads' HRL.out.rs.r2
            obtain ⟨ad2, rfl, p0, p1, p2⟩ := at_T45 hr2 (i : Int) (by omega) (by omega)
            have hrd : rd_T45 L (i : Int) = L[i] := by simp [rd_T45, hlt]
            rw [hrd, Int.toNat_natCast] at p0 p1 p2
            have hf := HF.out L[i] (List.getElem_mem hlt)
            obtain ⟨hf1, hf2⟩ := hf
            have HX := Aside0.mk (rGoes_eq (now + 1) k L[i])
            have HO1 := Aside0.mk (And.intro (rOut_take (now := (now + 1)) (k := k) hlt) (rLeft_take (now := (now + 1)) (k := k) hlt))
            have ho1 : (rOut (now + 1) k (L.take i)).length ≤ L.length := by unfold rOut; rw [List.length_map]; exact Nat.le_trans (List.length_filter_le _ _) (by rw [List.length_take]; omega)
            have ho2 : (rLeft (now + 1) k (L.take i)).length ≤ L.length := Nat.le_trans (List.length_filter_le _ _) (by rw [List.length_take]; omega)
            clear hrd hr2
            cases hg : rGoes (now + 1) k L[i] with
            | true =>
              have hx : L[i].f0 = (k : Int) ∧ L[i].f2 + 2 ≤ now + 1 := by have := HX.out; rw [hg] at this; simpa using this.symm
              have hd : decide (L[i].f2 + 2 ≤ now + 1) = true := decide_eq_true hx.2
              rw [hx.1] at p0
              have HG := Aside0.mk hg
              clear hx hg
              go_wp2_with fail
              go_quiet (fail)
              have HRQ := Aside0.mk (HRL.out.drawn nq)
              go_wp2_with (first | ((with_reducible refine gate_builtin (b := .append) (xs := #[.tmp 87, .tmp 96]) rfl ?_); refine Kd.R_append (Kd.int .i64) (w0 := wr.drewN nq) w.heap.size rfl (.tmp 87) (.tmp 96) 28 3 (.int .i64 0) 8 rfl Try.underlying28 info3 rfl (by decide) (by omega) (.slice A7 (rOut (now + 1) k (L.take i)).length c7) (rOut (now + 1) k (L.take i)) L[i].f1 [.int .i64 L[i].f1] (fun _ => True) (fun _ => False) rfl (by first | (go_simp; done) | (go_simp; rfl)) ?aP (fun _ hk => hk.elim) ?aF ?aO ?aB ?aS ?aL ?_; (case aP => rfl); (case aF => exact (fun _ _ => trivial)); (case aO => exact HRQ.out.o1); (case aB => exact Below.refl _ _); (case aS => exact HRQ.out.kp.size); (case aL => omega); intro v9 w9 hR9 hb9 hg9 hat9; have HP := Aside0.mk (HRQ.out.out hlt HG.out hR9 hb9 hg9); obtain ⟨A9, c9, rfl⟩ := Kd.R_slice hR9; rw [show (rOut (now + 1) k (L.take i) ++ [L[i].f1]).length = (rOut (now + 1) k (L.take i)).length + 1 from by simp] at HP; clear hR9 hb9 hg9 hat9))
              go_roundw
              case rel => exact ⟨i + 1, by go_num, by omega, HP⟩
              case measure => simp [intOf]; omega
            | false =>
              have HG := Aside0.mk hg
              by_cases hx : L[i].f0 = (k : Int)
              · have HX0 := Aside0.mk hx
                rw [hx] at p0
                have hd : decide (L[i].f2 + 2 ≤ now + 1) = false := by have := HX.out; rw [hg, hx] at this; simpa using this.symm
                clear hx hg
                go_wp2_with fail
                go_quiet (fail)
                have HRQ := Aside0.mk (HRL.out.drawn nq)
                go_wp2_with (first | ((with_reducible refine gate_builtin (b := .append) (xs := #[.tmp 98, .tmp 106]) rfl ?_); refine Kd.R_append k45 (w0 := wr.drewN nq) w.heap.size rfl (.tmp 98) (.tmp 106) 41 45 (.agg #[(.int .i64 0), (.int .i64 0), (.int .i64 0)]) 24 rfl Try.underlying41 info45 rfl (by decide) (by omega) (.slice A8 (rLeft (now + 1) k (L.take i)).length c8) (rLeft (now + 1) k (L.take i)) L[i] [.int .i64 k, .int .i64 L[i].f1, .int .i64 L[i].f2] (fun _ => True) (fun _ => False) rfl (by first | (go_simp; done) | (go_simp; rfl)) ?aP (fun _ hk => hk.elim) ?aF ?aO ?aB ?aS ?aL ?_; (case aP => have hm := k45_mkM (wr.drewN nq) w.heap.size (fun _ => False) L[i]; first | exact hm | (rw [HX0.out] at hm; exact hm)); (case aF => exact (fun _ _ => trivial)); (case aO => exact HRQ.out.o2); (case aB => exact Below.refl _ _); (case aS => exact HRQ.out.kp.size); (case aL => omega); intro v9 w9 hR9 hb9 hg9 hat9; have HP := Aside0.mk (HRQ.out.left hlt HG.out hR9 hb9 hg9); obtain ⟨A9, c9, rfl⟩ := Kd.R_slice hR9; rw [show (rLeft (now + 1) k (L.take i) ++ [L[i]]).length = (rLeft (now + 1) k (L.take i)).length + 1 from by simp] at HP; clear hR9 hb9 hg9 hat9))
                go_roundw
                case rel => exact ⟨i + 1, by go_num, by omega, HP⟩
                case measure => simp [intOf]; omega
              · have HX0 := Aside0.mk (rfl : L[i].f0 = L[i].f0)
                have hx2 : (L[i].f0 == (k : Int)) = false := by simpa using hx
                clear hx hg
                go_wp2_with fail
                go_quiet (fail)
                have HRQ := Aside0.mk (HRL.out.drawn nq)
                go_wp2_with (first | ((with_reducible refine gate_builtin (b := .append) (xs := #[.tmp 98, .tmp 106]) rfl ?_); refine Kd.R_append k45 (w0 := wr.drewN nq) w.heap.size rfl (.tmp 98) (.tmp 106) 41 45 (.agg #[(.int .i64 0), (.int .i64 0), (.int .i64 0)]) 24 rfl Try.underlying41 info45 rfl (by decide) (by omega) (.slice A8 (rLeft (now + 1) k (L.take i)).length c8) (rLeft (now + 1) k (L.take i)) L[i] [.int .i64 L[i].f0, .int .i64 L[i].f1, .int .i64 L[i].f2] (fun _ => True) (fun _ => False) rfl (by first | (go_simp; done) | (go_simp; rfl)) ?aP (fun _ hk => hk.elim) ?aF ?aO ?aB ?aS ?aL ?_; (case aP => have hm := k45_mkM (wr.drewN nq) w.heap.size (fun _ => False) L[i]; first | exact hm | (rw [HX0.out] at hm; exact hm)); (case aF => exact (fun _ _ => trivial)); (case aO => exact HRQ.out.o2); (case aB => exact Below.refl _ _); (case aS => exact HRQ.out.kp.size); (case aL => omega); intro v9 w9 hR9 hb9 hg9 hat9; have HP := Aside0.mk (HRQ.out.left hlt HG.out hR9 hb9 hg9); obtain ⟨A9, c9, rfl⟩ := Kd.R_slice hR9; rw [show (rLeft (now + 1) k (L.take i) ++ [L[i]]).length = (rLeft (now + 1) k (L.take i)).length + 1 from by simp] at HP; clear hR9 hb9 hg9 hat9))
                go_roundw
                case rel => exact ⟨i + 1, by go_num, by omega, HP⟩
                case measure => simp [intOf]; omega
          · obtain rfl : i = L.length := by omega
            have d2 := blk_cell HRL.out.rs.node 2
            have z2 := blk_frozen HRL.out.rs.node 2
            obtain ⟨A7, c7, rfl⟩ := Kd.R_slice HRL.out.o1
            obtain ⟨A8, c8, rfl⟩ := Kd.R_slice HRL.out.o2
            have HDN := Aside0.mk (HRL.out.done rfl)
            clear HRL
            go_wp2_with fail
            go_ret
            unfold rPost
            obtain ⟨q1, q2, q3, q4⟩ := HDN.out
            rw [HNN.out, HAN.out]
            rw [List.take_length] at *
            exact ⟨A7, c7, _, rfl, q1, q2, q3, q4⟩
      | false =>
        rw [if_neg (by decide)] at hNN
        have HRL := Aside0.mk (show RL w B r now ann1 L (.slice (some ⟨g, 0, none⟩) ann.length c1) (.slice A2 L.length c2) k 0 (.slice none 0 0) (.slice none 0 0) (w1.drewN m) from ⟨H2.out.drewN m, H1.out.1.drewN m, H1.out.2, Kd.R_nil _ _ _ _ _, Kd.R_nil _ _ _ _ _⟩)
        have HNN := Aside0.mk hNN
        clear hB hNN hlt hi HB HD HN
        go_wp2_with fail
        go_loopw [7, 8, 9] (fun v7 v8 v9 wj => ∃ (i : Nat), v9 = .int .i64 i ∧ i ≤ L.length ∧ Aside0 (RL w B r (now) ann1 L (.slice (some ⟨g, 0, none⟩) ann.length c1) (.slice A2 L.length c2) k i v7 v8 wj)) (fun _ _ v9 _ => L.length - (intOf v9).toNat)
        case atStart => exact ⟨0, rfl, Nat.zero_le _, HRL⟩
        case round =>
          clear HRL
          obtain ⟨i, rfl, hi, HRL⟩ := hrel
          by_cases hlt : i < L.length
          · have d0 := blk_cell HRL.out.rs.node 0
            have d2 := blk_cell HRL.out.rs.node 2
            obtain ⟨A7, c7, rfl⟩ := Kd.R_slice HRL.out.o1
            obtain ⟨A8, c8, rfl⟩ := Kd.R_slice HRL.out.o2
            obtain ⟨_, _, hr2⟩ := Kd.R_reads' HRL.out.rs.r2
            obtain ⟨ad2, rfl, p0, p1, p2⟩ := at_T45 hr2 (i : Int) (by omega) (by omega)
            have hrd : rd_T45 L (i : Int) = L[i] := by simp [rd_T45, hlt]
            rw [hrd, Int.toNat_natCast] at p0 p1 p2
            have hf := HF.out L[i] (List.getElem_mem hlt)
            obtain ⟨hf1, hf2⟩ := hf
            have HX := Aside0.mk (rGoes_eq (now) k L[i])
            have HO1 := Aside0.mk (And.intro (rOut_take (now := (now)) (k := k) hlt) (rLeft_take (now := (now)) (k := k) hlt))
            have ho1 : (rOut (now) k (L.take i)).length ≤ L.length := by unfold rOut; rw [List.length_map]; exact Nat.le_trans (List.length_filter_le _ _) (by rw [List.length_take]; omega)
            have ho2 : (rLeft (now) k (L.take i)).length ≤ L.length := Nat.le_trans (List.length_filter_le _ _) (by rw [List.length_take]; omega)
            clear hrd hr2
            cases hg : rGoes (now) k L[i] with
            | true =>
              have hx : L[i].f0 = (k : Int) ∧ L[i].f2 + 2 ≤ now := by have := HX.out; rw [hg] at this; simpa using this.symm
              have hd : decide (L[i].f2 + 2 ≤ now) = true := decide_eq_true hx.2
              rw [hx.1] at p0
              have HG := Aside0.mk hg
              clear hx hg
              go_wp2_with fail
              go_quiet (fail)
              have HRQ := Aside0.mk (HRL.out.drawn nq)
              go_wp2_with (first | ((with_reducible refine gate_builtin (b := .append) (xs := #[.tmp 87, .tmp 96]) rfl ?_); refine Kd.R_append (Kd.int .i64) (w0 := wr.drewN nq) w.heap.size rfl (.tmp 87) (.tmp 96) 28 3 (.int .i64 0) 8 rfl Try.underlying28 info3 rfl (by decide) (by omega) (.slice A7 (rOut (now) k (L.take i)).length c7) (rOut (now) k (L.take i)) L[i].f1 [.int .i64 L[i].f1] (fun _ => True) (fun _ => False) rfl (by first | (go_simp; done) | (go_simp; rfl)) ?aP (fun _ hk => hk.elim) ?aF ?aO ?aB ?aS ?aL ?_; (case aP => rfl); (case aF => exact (fun _ _ => trivial)); (case aO => exact HRQ.out.o1); (case aB => exact Below.refl _ _); (case aS => exact HRQ.out.kp.size); (case aL => omega); intro v9 w9 hR9 hb9 hg9 hat9; have HP := Aside0.mk (HRQ.out.out hlt HG.out hR9 hb9 hg9); obtain ⟨A9, c9, rfl⟩ := Kd.R_slice hR9; rw [show (rOut (now) k (L.take i) ++ [L[i].f1]).length = (rOut (now) k (L.take i)).length + 1 from by simp] at HP; clear hR9 hb9 hg9 hat9))
              go_roundw
              case rel => exact ⟨i + 1, by go_num, by omega, HP⟩
              case measure => simp [intOf]; omega
            | false =>
              have HG := Aside0.mk hg
              by_cases hx : L[i].f0 = (k : Int)
              · have HX0 := Aside0.mk hx
                rw [hx] at p0
                have hd : decide (L[i].f2 + 2 ≤ now) = false := by have := HX.out; rw [hg, hx] at this; simpa using this.symm
                clear hx hg
                go_wp2_with fail
                go_quiet (fail)
                have HRQ := Aside0.mk (HRL.out.drawn nq)
                go_wp2_with (first | ((with_reducible refine gate_builtin (b := .append) (xs := #[.tmp 98, .tmp 106]) rfl ?_); refine Kd.R_append k45 (w0 := wr.drewN nq) w.heap.size rfl (.tmp 98) (.tmp 106) 41 45 (.agg #[(.int .i64 0), (.int .i64 0), (.int .i64 0)]) 24 rfl Try.underlying41 info45 rfl (by decide) (by omega) (.slice A8 (rLeft (now) k (L.take i)).length c8) (rLeft (now) k (L.take i)) L[i] [.int .i64 k, .int .i64 L[i].f1, .int .i64 L[i].f2] (fun _ => True) (fun _ => False) rfl (by first | (go_simp; done) | (go_simp; rfl)) ?aP (fun _ hk => hk.elim) ?aF ?aO ?aB ?aS ?aL ?_; (case aP => have hm := k45_mkM (wr.drewN nq) w.heap.size (fun _ => False) L[i]; first | exact hm | (rw [HX0.out] at hm; exact hm)); (case aF => exact (fun _ _ => trivial)); (case aO => exact HRQ.out.o2); (case aB => exact Below.refl _ _); (case aS => exact HRQ.out.kp.size); (case aL => omega); intro v9 w9 hR9 hb9 hg9 hat9; have HP := Aside0.mk (HRQ.out.left hlt HG.out hR9 hb9 hg9); obtain ⟨A9, c9, rfl⟩ := Kd.R_slice hR9; rw [show (rLeft (now) k (L.take i) ++ [L[i]]).length = (rLeft (now) k (L.take i)).length + 1 from by simp] at HP; clear hR9 hb9 hg9 hat9))
                go_roundw
                case rel => exact ⟨i + 1, by go_num, by omega, HP⟩
                case measure => simp [intOf]; omega
              · have HX0 := Aside0.mk (rfl : L[i].f0 = L[i].f0)
                have hx2 : (L[i].f0 == (k : Int)) = false := by simpa using hx
                clear hx hg
                go_wp2_with fail
                go_quiet (fail)
                have HRQ := Aside0.mk (HRL.out.drawn nq)
                go_wp2_with (first | ((with_reducible refine gate_builtin (b := .append) (xs := #[.tmp 98, .tmp 106]) rfl ?_); refine Kd.R_append k45 (w0 := wr.drewN nq) w.heap.size rfl (.tmp 98) (.tmp 106) 41 45 (.agg #[(.int .i64 0), (.int .i64 0), (.int .i64 0)]) 24 rfl Try.underlying41 info45 rfl (by decide) (by omega) (.slice A8 (rLeft (now) k (L.take i)).length c8) (rLeft (now) k (L.take i)) L[i] [.int .i64 L[i].f0, .int .i64 L[i].f1, .int .i64 L[i].f2] (fun _ => True) (fun _ => False) rfl (by first | (go_simp; done) | (go_simp; rfl)) ?aP (fun _ hk => hk.elim) ?aF ?aO ?aB ?aS ?aL ?_; (case aP => have hm := k45_mkM (wr.drewN nq) w.heap.size (fun _ => False) L[i]; first | exact hm | (rw [HX0.out] at hm; exact hm)); (case aF => exact (fun _ _ => trivial)); (case aO => exact HRQ.out.o2); (case aB => exact Below.refl _ _); (case aS => exact HRQ.out.kp.size); (case aL => omega); intro v9 w9 hR9 hb9 hg9 hat9; have HP := Aside0.mk (HRQ.out.left hlt HG.out hR9 hb9 hg9); obtain ⟨A9, c9, rfl⟩ := Kd.R_slice hR9; rw [show (rLeft (now) k (L.take i) ++ [L[i]]).length = (rLeft (now) k (L.take i)).length + 1 from by simp] at HP; clear hR9 hb9 hg9 hat9))
                go_roundw
                case rel => exact ⟨i + 1, by go_num, by omega, HP⟩
                case measure => simp [intOf]; omega
          · obtain rfl : i = L.length := by omega
            have d2 := blk_cell HRL.out.rs.node 2
            have z2 := blk_frozen HRL.out.rs.node 2
            obtain ⟨A7, c7, rfl⟩ := Kd.R_slice HRL.out.o1
            obtain ⟨A8, c8, rfl⟩ := Kd.R_slice HRL.out.o2
            have HDN := Aside0.mk (HRL.out.done rfl)
            clear HRL
            go_wp2_with fail
            go_ret
            unfold rPost
            obtain ⟨q1, q2, q3, q4⟩ := HDN.out
            rw [HNN.out, HAN.out]
            rw [List.take_length] at *
            exact ⟨A7, c7, _, rfl, q1, q2, q3, q4⟩
end Go.Proofs.Ythbooikhegppnaa.H
