/- EpochWaits: what lies in memory beside the epochs: a box of six numbers, a row of numbers. -/
import Derived.Test.YthbooikhegppnaaEpT
import Derived.Test.YthbooikhegppnaaEpGoP
set_option linter.unusedVariables false
set_option linter.unusedSimpArgs false
namespace Go.Proofs.Ythbooikhegppnaa.H
open Go.RowKit Go.Hay Go.Proofs.YthbooikhegppnaaW.PrintWords Go.Proofs.YthbooikhegppnaaW.PrintLast Go.Proofs.YthbooikhegppnaaW.PrintMore
def Pw (B8 : Nat) (v : Value) (q : Nat) : Prop := q = B8 ∨ v.ownBlock = some q
/-- the Epochs, a box of numbers at B8, a row of numbers v. -/
structure WS (w : World) (B8 T b : Nat) (now : Int) (ws : List (Int × List Rt)) (last when_ : List Int) (v : Value) (wr : World) : Prop where
  st : St w (Pw B8 v) b now ws wr
  box : wr.heap[B8]? = some (.cells (last.map (Value.int .i64)).toArray T (0, 0))
  row : (Kd.int .i64).R 3 wr (B8 + 1) (fun _ => True) v when_
  lo : w.heap.size ≤ B8
section
variable {w wr w1 : World} {B8 T b : Nat} {now now' : Int} {ws ws' : List (Int × List Rt)} {last when_ : List Int} {v : Value}
theorem WS.pB (h : WS w B8 T b now ws last when_ v wr) : ∀ q, Pw B8 v q → w.heap.size ≤ q := by
  intro q hq
  have h1 := h.lo
  rcases hq with rfl | hq
  · exact h1
  · have := (nums_own h.row q hq).2.1; omega
theorem WS.same (h : WS w B8 T b now ws last when_ v wr) (hs : St w (Pw B8 v) b now' ws' w1) (hk : ∀ q, Pw B8 v q → w1.heap[q]? = wr.heap[q]?) : WS w B8 T b now' ws' last when_ v w1 :=
  ⟨hs, (hk B8 (.inl rfl)).trans h.box, nums_flat h.row (fun _ _ => trivial) (fun q hq => hk q (.inr hq)), h.lo⟩
theorem WS.keep (h : WS w B8 T b now ws last when_ v wr) (hb : Below wr.heap.size wr w1) : WS w B8 T b now ws last when_ v w1 :=
  h.same (h.st.keep hb h.pB) (fun q hq => hb.block q (h.st.lt q hq))
theorem WS.retire (h : WS w B8 T b now ws last when_ v wr) (k : Nat) (t : Int) (hn : ws.length ≤ 1000) (hk : k < ws.length) (hl : (rowP ws k).length ≤ 1000000) :
    Calls Try.prog 10 #[.pointer (some ⟨b, 0, none⟩), .int .i64 k, .int .i64 t] wr fun e w' => e = .returned (.int .i64 0) ∧ WS w B8 T b now (retP now ws k t) last when_ v w' := by
  refine (h.st.retire k t hn hk hl).mono ?_
  rintro e w' ⟨rfl, hs, hq⟩
  exact ⟨rfl, h.same hs hq⟩
theorem WS.announce (h : WS w B8 T b now ws last when_ v wr) (k : Nat) (hn : ws.length ≤ 1000) (hk : k < ws.length) (hl : (rowP ws k).length ≤ 1000000) (hf : Fine now (rowP ws k)) (h0 : 0 ≤ now) (h1 : now ≤ 100000000) :
    Calls Try.prog 11 #[.pointer (some ⟨b, 0, none⟩), .int .i64 k] wr fun e w' => ∃ A c, e = .returned (.tuple #[.slice A (outP now ws k).length c, .int .i64 0]) ∧ (Kd.int .i64).C w' A (outP now ws k).length (outP now ws k) ∧ WS w B8 T b (nowP now ws k) (annP now ws k) last when_ v w' := by
  refine (h.st.announce k hn hk hl hf h0 h1).mono ?_
  rintro e w' ⟨⟨A, c, rfl, hR⟩, hs, hq⟩
  exact ⟨A, c, rfl, (Kd.R_reads' hR).2.2, h.same hs hq⟩
theorem WS.announceR (h : WS w B8 T b now ws last when_ v wr) (k : Nat) (hn : ws.length ≤ 1000) (hk : k < ws.length) (hl : (rowP ws k).length ≤ 1000000) (hf : Fine now (rowP ws k)) (h0 : 0 ≤ now) (h1 : now ≤ 100000000) :
    Calls Try.prog 11 #[.pointer (some ⟨b, 0, none⟩), .int .i64 k] wr fun e w' => ∃ A c, e = .returned (.tuple #[.slice A (outP now ws k).length c, .int .i64 0]) ∧ (Kd.int .i64).R 3 w' (B8 + 1) (fun _ => True) (.slice A (outP now ws k).length c) (outP now ws k) ∧ WS w B8 T b (nowP now ws k) (annP now ws k) last when_ v w' := by
  refine (h.st.announce k hn hk hl hf h0 h1).mono ?_
  rintro e w' ⟨⟨A, c, rfl, hR⟩, hs, hq⟩
  exact ⟨A, c, rfl, Kd.R_lower hR (blk_lt h.box), h.same hs hq⟩
theorem WS.push (h : WS w B8 T b now ws last when_ v wr) {v9 : Value} {w9 : World} {x : Int} (hR : (Kd.int .i64).R 3 w9 (B8 + 1) (fun _ => True) v9 (when_ ++ [x])) (hb : Below (B8 + 1) wr w9) (hg : wr.grownBy w9 v.ownBlock) (hat : v9.ownBlock = v.ownBlock ∨ ∃ q, v9.ownBlock = some q ∧ wr.heap.size ≤ q) :
    WS w B8 T b now ws last (when_ ++ [x]) v9 w9 := by
  refine ⟨h.st.write ((Keep.grown hg).mono (fun k _ hk => .inr hk.symm)) h.pB (fun q hq => ?_), (hb.block B8 (Nat.lt_succ_self _)).trans h.box, hR, h.lo⟩
  have hB := blk_lt h.box
  rcases hq with rfl | hq
  · exact ⟨.inl (.inl rfl), Nat.lt_of_lt_of_le hB hg.size⟩
  · refine ⟨?_, (nums_own hR q hq).2.2⟩
    rcases hat with e | ⟨q', e, hq'⟩
    · rw [e] at hq; exact .inl (.inr hq)
    · rw [e] at hq; cases hq; exact .inr hq'
theorem box_set {B8 T : Nat} {xs : List Int} {w : World} (h : w.heap[B8]? = some (.cells (xs.map (Value.int .i64)).toArray T (0, 0))) (k : Nat) (x : Int) : (w.setCell ⟨B8, k, none⟩ (.int .i64 x)).heap[B8]? = some (.cells ((xs.set k x).map (Value.int .i64)).toArray T (0, 0)) := by
  have := blk_set h k (.int .i64 x)
  rw [this, List.setIfInBounds_toArray, List.map_set]
theorem box_at {B8 T : Nat} {xs : List Int} {w : World} (h : w.heap[B8]? = some (.cells (xs.map (Value.int .i64)).toArray T (0, 0))) {k : Nat} (hk : k < xs.length) : w.cell? ⟨B8, k, none⟩ = some (.int .i64 (xs.getD k 0)) ∧ w.frozen? ⟨B8, k, none⟩ = false := by
  refine ⟨(blk_cell h k).trans ?_, blk_frozen h k⟩
  simp [List.getElem?_map, List.getD_eq_getElem?_getD, hk]
theorem WS.set (h : WS w B8 T b now ws last when_ v wr) (k : Nat) (x : Int) : WS w B8 T b now ws (last.set k x) when_ v (wr.setCell ⟨B8, k, none⟩ (.int .i64 x)) := by
  have hB := blk_lt h.box
  have hk : Keep (Pw B8 v) wr (wr.setCell ⟨B8, k, none⟩ (.int .i64 x)) := (Keep.refl _ _).set (.inr (.inl rfl)) _
  refine ⟨h.st.write hk h.pB (fun q hq => ⟨.inl hq, Nat.lt_of_lt_of_le (h.st.lt q hq) hk.size⟩), box_set h.box k x, nums_flat h.row (fun _ _ => trivial) (fun q hq => Below.heap_setCell wr ⟨B8, k, none⟩ _ q (by have := (nums_own h.row q hq).2.1; simp; omega)), h.lo⟩
theorem WS.start {w w1 : World} {n : Nat} (hs : St w (fun q => q < w.heap.size ∧ w.heap.size ≤ q) w.heap.size 0 (List.replicate n (-1, [])) w1) (xs : List Int) (T : Nat) :
    WS w w1.heap.size T w.heap.size 0 (List.replicate n (-1, [])) xs [] (.slice none 0 0) (w1.alloc (.cells (xs.map (Value.int .i64)).toArray T)) := by
  have hs0 := hs.less (P' := noP) (fun _ h => h.elim)
  have hb := (Below.refl w1.heap.size w1).alloc (Nat.le_refl _) (.cells (xs.map (Value.int .i64)).toArray T)
  refine ⟨hs0.write (Keep.of_below hb _) (fun _ h => h.elim) (fun q hq => ?_), alloc_blk _ _, Kd.R_nil _ _ _ _ _, hs.below.size⟩
  rcases hq with rfl | hq
  · exact ⟨.inr (Nat.le_refl _), blk_lt (alloc_blk _ _)⟩
  · cases hq
end
theorem drawn_keep {w wr w1 : World} {B8 T b : Nat} {now : Int} {ws : List (Int × List Rt)} {last when_ : List Int} {v : Value} (h : WS w B8 T b now ws last when_ v wr) (hd : Drawn0 wr w1) : WS w B8 T b now ws last when_ v w1 := h.keep (below_drawn hd)
/-- which worker an act is meant for. -/
theorem rem_num (x : Int) {n : Nat} (h1 : 1 ≤ n) : ∃ (t : Int) (k : Nat), Int.tmod x n = t ∧ -(n : Int) < t ∧ t < n ∧ (t + n) % (n : Int) = (k : Int) ∧ k < n := by
  have a := Int.tmod_lt_of_pos x (b := (n : Int)) (by omega)
  have b := Int.lt_tmod_of_pos x (b := (n : Int)) (by omega)
  have c := Int.emod_nonneg (Int.tmod x n + n) (b := (n : Int)) (by omega)
  have d := Int.emod_lt_of_pos (Int.tmod x n + n) (b := (n : Int)) (by omega)
  exact ⟨_, ((Int.tmod x n + n) % (n : Int)).toNat, rfl, b, a, by omega, by omega⟩
end Go.Proofs.Ythbooikhegppnaa.H
