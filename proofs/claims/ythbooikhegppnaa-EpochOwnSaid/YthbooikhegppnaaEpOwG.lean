/- EpochOwn: six rows of numbers in a box. -/
import Derived.Test.YthbooikhegppnaaEpOwP
import Derived.Test.YthbooikhegppnaaEpWs
set_option linter.unusedVariables false
set_option linter.unusedSimpArgs false
namespace Go.Proofs.Ythbooikhegppnaa.H
open Go.RowKit Go.Hay Go.Proofs.YthbooikhegppnaaW.PrintWords Go.Proofs.YthbooikhegppnaaW.PrintLast Go.Proofs.YthbooikhegppnaaW.PrintMore
/-- Six rows of numbers in the box g. -/
structure Got (g : Nat) (vs : List Value) (got : List (List Int)) (w : World) : Prop where
  vl : vs.length = 6
  gl : got.length = 6
  box : w.heap[g]? = some (.cells vs.toArray 37 (0, 0))
  row : ∀ j (h : j < 6), (Kd.int .i64).R 3 w (g + 1) (fun _ => True) (vs[j]'(by omega)) (got[j]'(by omega))
  sep : ∀ j j' (h : j < 6) (h' : j' < 6), j ≠ j' → ∀ q, (vs[j]'(by omega)).ownBlock = some q → (vs[j']'(by omega)).ownBlock ≠ some q
def PG (b g : Nat) (vs : List Value) (q : Nat) : Prop := q = b ∨ q = g ∨ ∃ j, ∃ h : j < vs.length, vs[j].ownBlock = some q
section
variable {b g : Nat} {vs : List Value} {got : List (List Int)} {w w1 : World}
theorem Got.keep (h : Got g vs got w) (hk : ∀ q, PG b g vs q → w1.heap[q]? = w.heap[q]?) : Got g vs got w1 :=
  ⟨h.vl, h.gl, (hk g (.inr (.inl rfl))).trans h.box, fun j hj => nums_flat (h.row j hj) (fun _ _ => trivial) (fun q hq => hk q (.inr (.inr ⟨j, by rw [h.vl]; exact hj, hq⟩))), h.sep⟩
theorem Got.pB (h : Got g vs got w) (hb : b < g) : ∀ q, PG b g vs q → b ≤ q ∧ q < w.heap.size := by
  have hg := blk_lt h.box
  intro q hq
  rcases hq with rfl | rfl | ⟨j, hj, hq⟩
  · exact ⟨Nat.le_refl _, by omega⟩
  · exact ⟨by omega, hg⟩
  · have := nums_own (h.row j (by rw [← h.vl]; exact hj)) q hq
    exact ⟨by omega, this.2.2⟩
/-- one row is another one. -/
theorem Got.set (h : Got g vs got w) {r : Nat} (hr : r < 6) {v9 : Value} {xs9 : List Int} {w9 : World} (hR : (Kd.int .i64).R 3 w9 (g + 1) (fun _ => True) v9 xs9) (hg : w.grownBy w9 (vs[r]'(by rw [h.vl]; exact hr)).ownBlock) (hat : v9.ownBlock = (vs[r]'(by rw [h.vl]; exact hr)).ownBlock ∨ ∃ q, v9.ownBlock = some q ∧ w.heap.size ≤ q) :
    Got g (vs.set r v9) (got.set r xs9) (w9.setCell ⟨g, r, none⟩ v9) := by
  have hvl := h.vl
  have hgl := h.gl
  have hgs := blk_lt h.box
  have hne : ∀ q, q ≠ g → (w9.setCell ⟨g, r, none⟩ v9).heap[q]? = w9.heap[q]? := fun q hq => Below.heap_setCell w9 ⟨g, r, none⟩ _ q hq
  have hgb : w9.heap[g]? = w.heap[g]? := hg.block g hgs (fun e => by have := (nums_own (h.row r hr) g e.symm).2.1; omega)
  have h9 : ∀ q, v9.ownBlock = some q → ∀ j (hj : j < 6), j ≠ r → (vs[j]'(by omega)).ownBlock ≠ some q := by
    intro q hq j hj hjr e
    rcases hat with e2 | ⟨q', e2, hq'⟩
    · rw [e2] at hq; exact h.sep j r hj hr hjr q e hq
    · rw [e2] at hq; cases hq
      have := (nums_own (h.row j hj) q e).2.2; omega
  refine ⟨by rw [List.length_set]; exact hvl, by rw [List.length_set]; exact hgl, ?_, fun j hj => ?_, fun j j' hj hj' hjj q hq => ?_⟩
  · have := blk_set (hgb.trans h.box) r v9
    rw [this, List.setIfInBounds_toArray]
  · by_cases e : r = j
    · subst e
      rw [List.getElem_set_self, List.getElem_set_self]
      exact nums_flat hR (fun _ _ => trivial) (fun q hq => hne q (by have := (nums_own hR q hq).2.1; omega))
    · rw [List.getElem_set_ne e, List.getElem_set_ne e]
      exact nums_flat (h.row j hj) (fun _ _ => trivial) (fun q hq => (hne q (by have := (nums_own (h.row j hj) q hq).2.1; omega)).trans (hg.block q (nums_own (h.row j hj) q hq).2.2 (fun e2 => h.sep j r hj hr (Ne.symm e) q hq e2.symm)))
  · by_cases e : r = j
    · subst e
      rw [List.getElem_set_self] at hq
      rw [List.getElem_set_ne hjj]
      exact h9 q hq j' hj' (Ne.symm hjj)
    · rw [List.getElem_set_ne e] at hq
      by_cases e' : r = j'
      · subst e'
        rw [List.getElem_set_self]
        exact fun hq2 => h9 q hq2 j hj (Ne.symm e) hq
      · rw [List.getElem_set_ne e']
        exact h.sep j j' hj hj' hjj q hq
end
/-- the Epochs, the box of how many, the rows. -/
structure OS (w : World) (b g e : Nat) (ys : List Int) (now : Int) (ws : List (Int × List Rt)) (vs : List Value) (got : List (List Int)) (wr : World) : Prop where
  st : St w (PG b g vs) e now ws wr
  got : Got g vs got wr
  many : wr.heap[b]? = some (.cells (ys.map (Value.int .u8)).toArray 36 (0, 0))
  lo : w.heap.size ≤ b
  bg : b < g
section
variable {w wr w1 : World} {b g e : Nat} {ys : List Int} {now now' : Int} {ws ws' : List (Int × List Rt)} {vs : List Value} {got : List (List Int)}
theorem OS.pB (h : OS w b g e ys now ws vs got wr) : ∀ q, PG b g vs q → w.heap.size ≤ q := fun q hq => Nat.le_trans h.lo (h.got.pB h.bg q hq).1
theorem OS.same (h : OS w b g e ys now ws vs got wr) (hs : St w (PG b g vs) e now' ws' w1) (hk : ∀ q, PG b g vs q → w1.heap[q]? = wr.heap[q]?) : OS w b g e ys now' ws' vs got w1 :=
  ⟨hs, h.got.keep (b := b) hk, (hk b (.inl rfl)).trans h.many, h.lo, h.bg⟩
theorem OS.keep (h : OS w b g e ys now ws vs got wr) (hb : Below wr.heap.size wr w1) : OS w b g e ys now ws vs got w1 :=
  h.same (h.st.keep hb h.pB) (fun q hq => hb.block q (h.st.lt q hq))
theorem OS.announce (h : OS w b g e ys now ws vs got wr) (k : Nat) (hn : ws.length ≤ 1000) (hk : k < ws.length) (hl : (rowP ws k).length ≤ 1000000) (hf : Fine now (rowP ws k)) (h0 : 0 ≤ now) (h1 : now ≤ 100000000) :
    Calls Try.prog 11 #[.pointer (some ⟨e, 0, none⟩), .int .i64 k] wr fun x w' => ∃ A c, x = .returned (.tuple #[.slice A (outP now ws k).length c, .int .i64 0]) ∧ (Kd.int .i64).C w' A (outP now ws k).length (outP now ws k) ∧ OS w b g e ys (nowP now ws k) (annP now ws k) vs got w' := by
  refine (h.st.announce k hn hk hl hf h0 h1).mono ?_
  rintro x w' ⟨⟨A, c, rfl, hR⟩, hs, hq⟩
  exact ⟨A, c, rfl, (Kd.R_reads' hR).2.2, h.same hs hq⟩
theorem OS.push (h : OS w b g e ys now ws vs got wr) {r : Nat} (hr : r < 6) {v9 : Value} {xs9 : List Int} {w9 : World} (hR : (Kd.int .i64).R 3 w9 (g + 1) (fun _ => True) v9 xs9) (hb : Below (g + 1) wr w9) (hg : wr.grownBy w9 (vs[r]'(by rw [h.got.vl]; exact hr)).ownBlock) (hat : v9.ownBlock = (vs[r]'(by rw [h.got.vl]; exact hr)).ownBlock ∨ ∃ q, v9.ownBlock = some q ∧ wr.heap.size ≤ q) :
    OS w b g e ys now ws (vs.set r v9) (got.set r xs9) (w9.setCell ⟨g, r, none⟩ v9) := by
  have hvl := h.got.vl
  have hgt := h.got.set hr hR hg hat
  have hgs := blk_lt h.got.box
  have hbg := h.bg
  have hk : Keep (PG b g vs) wr (w9.setCell ⟨g, r, none⟩ v9) := ((Keep.grown hg).mono (fun k _ hk => .inr (.inr ⟨r, by omega, hk.symm⟩))).set (.inr (.inr (.inl rfl))) _
  refine ⟨h.st.write hk h.pB (fun q hq => ⟨?_, (hgt.pB hbg q hq).2⟩), hgt, ?_, h.lo, h.bg⟩
  · rcases hq with rfl | rfl | ⟨j, hj, hq⟩
    · exact .inl (.inl rfl)
    · exact .inl (.inr (.inl rfl))
    · rw [List.length_set] at hj
      by_cases e2 : r = j
      · subst e2
        rw [List.getElem_set_self] at hq
        rcases hat with e3 | ⟨q', e3, hq'⟩
        · rw [e3] at hq; exact .inl (.inr (.inr ⟨r, hj, hq⟩))
        · rw [e3] at hq; cases hq; exact .inr hq'
      · rw [List.getElem_set_ne e2] at hq
        exact .inl (.inr (.inr ⟨j, hj, hq⟩))
  · exact (Below.heap_setCell w9 ⟨g, r, none⟩ _ b (by simp; omega)).trans ((hb.block b (by omega)).trans h.many)
theorem OS.at_ (h : OS w b g e ys now ws vs got wr) {r : Nat} (hr : r < 6) : ∃ A c, vs.toArray[r]? = some (.slice A (got.getD r []).length c) ∧ (Kd.int .i64).R 3 wr (g + 1) (fun _ => True) (.slice A (got.getD r []).length c) (got.getD r []) := by
  have hvl := h.got.vl
  have hgl := h.got.gl
  obtain ⟨Ar, cr, hv⟩ := Kd.R_slice (h.got.row r hr)
  have hgr : got[r]'(by omega) = got.getD r [] := by rw [List.getD_eq_getElem?_getD, List.getElem?_eq_getElem (by omega)]; rfl
  have hrw := h.got.row r hr
  rw [hv, hgr] at hrw
  exact ⟨Ar, cr, by rw [List.getElem?_toArray, List.getElem?_eq_getElem (by omega), hv, hgr], hrw⟩
theorem OS.push2 (h : OS w b g e ys now ws vs got wr) {r : Nat} (hr : r < 6) {v v9 : Value} (hv : vs.toArray[r]? = some v) {xs9 : List Int} {w9 : World} (hR : (Kd.int .i64).R 3 w9 (g + 1) (fun _ => True) v9 xs9) (hb : Below (g + 1) wr w9) (hg : wr.grownBy w9 v.ownBlock) (hat : v9.ownBlock = v.ownBlock ∨ ∃ q, v9.ownBlock = some q ∧ wr.heap.size ≤ q) :
    OS w b g e ys now ws (vs.set r v9) (got.set r xs9) (w9.setCell ⟨g, r, none⟩ v9) := by
  have hvl := h.got.vl
  have e2 : vs[r]'(by omega) = v := by
    rw [List.getElem?_toArray, List.getElem?_eq_getElem (by omega)] at hv
    exact Option.some.inj hv
  exact h.push hr hR hb (by rw [e2]; exact hg) (by rw [e2]; exact hat)
/-- the rows begin empty. -/
theorem OS.start {w wr : World} {b e : Nat} {ys : List Int} {now : Int} {ws : List (Int × List Rt)} (hs : St w (fun q => q = b) e now ws wr) (hm : wr.heap[b]? = some (.cells (ys.map (Value.int .u8)).toArray 36 (0, 0))) (hlo : w.heap.size ≤ b) :
    OS w b wr.heap.size e ys now ws (List.replicate 6 (.slice none 0 0)) [[], [], [], [], [], []] (wr.alloc (.cells (List.replicate 6 (Value.slice none 0 0)).toArray 37)) := by
  have hb := (Below.refl wr.heap.size wr).alloc (Nat.le_refl _) (.cells (List.replicate 6 (Value.slice none 0 0)).toArray 37)
  have hbl := blk_lt hm
  have hgt : Got wr.heap.size (List.replicate 6 (.slice none 0 0)) [[], [], [], [], [], []] (wr.alloc (.cells (List.replicate 6 (Value.slice none 0 0)).toArray 37)) := by
    refine ⟨by simp, rfl, alloc_blk _ _, fun j hj => ?_, fun j j' hj hj' hne q hq => ?_⟩
    · have e1 : ([[], [], [], [], [], []] : List (List Int))[j]'(by simpa using hj) = [] := by
        rcases j with _ | _ | _ | _ | _ | _ | j <;> first | rfl | omega
      rw [List.getElem_replicate, e1]
      exact Kd.R_nil _ _ _ _ _
    · rw [List.getElem_replicate] at hq; cases hq
  refine ⟨hs.write (Keep.of_below hb _) (fun q hq => by subst hq; exact hlo) (fun q hq => ⟨?_, (hgt.pB hbl q hq).2⟩), hgt, (hb.block b hbl).trans hm, hlo, hbl⟩
  rcases hq with rfl | rfl | ⟨j, hj, hq⟩
  · exact .inl rfl
  · exact .inr (Nat.le_refl _)
  · rw [List.getElem_replicate] at hq; cases hq
end
end Go.Proofs.Ythbooikhegppnaa.H
