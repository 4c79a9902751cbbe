/- Epochs in memory: the struct, the workers' row, each worker's limbo. -/
import Derived.Test.YthbooikhegppnaaH0
import Derived.Test.YthbooikhegppnaaRoomW
set_option linter.unusedVariables false
set_option linter.unusedSimpArgs false
namespace Go.Proofs.Ythbooikhegppnaa.H
open Go.RowKit Go.Hay Go.Proofs.YthbooikhegppnaaW.PrintWords Go.Proofs.YthbooikhegppnaaW.PrintLast Go.Proofs.YthbooikhegppnaaW.PrintMore
/-- A thing that was retired, and at which epoch. -/
structure Rt where
  t : Int
  at_ : Int
def kRt : Kd Rt := Kd.iso (Kd.pair (Kd.int .i64) (Kd.int .i64)) (fun x : Rt => (x.t, x.at_))
theorem kRt_open {w : World} {x : Rt} {cs : List Value} (h : kRt.K w x cs) : cs = [.int .i64 x.t, .int .i64 x.at_] := by
  obtain ⟨_, _, rfl, rfl, rfl⟩ := h; rfl
theorem kRt_openM {w : World} {base : Nat} {ok : Nat → Prop} {x : Rt} {cs : List Value} (h : kRt.M w base ok x cs) : cs = [.int .i64 x.t, .int .i64 x.at_] := by
  obtain ⟨_, _, rfl, rfl, rfl⟩ := h; rfl
theorem kRt_mkM (w : World) (base : Nat) (ok : Nat → Prop) (x : Rt) : kRt.M w base ok x [.int .i64 x.t, .int .i64 x.at_] := ⟨_, _, rfl, rfl, rfl⟩
theorem kRt_mk (w : World) (x : Rt) : kRt.K w x [.int .i64 x.t, .int .i64 x.at_] := ⟨_, _, rfl, rfl, rfl⟩
theorem rt_flat {e base : Nat} {w w1 : World} {ok ok' : Nat → Prop} {v : Value} {xs : List Rt} (h : kRt.R e w base ok v xs) (ho : ∀ b, v.ownBlock = some b → ok' b) (hag : ∀ b, v.ownBlock = some b → w1.heap[b]? = w.heap[b]?) : kRt.R e w1 base ok' v xs := by
  obtain ⟨_, inner, ⟨h1, h2⟩, h3, h4⟩ := h
  refine ⟨ho, inner, ⟨h1, ?_⟩, h3, fun j p hj => by have := kRt_openM (h4 j p hj); rw [this]; exact kRt_mkM _ _ _ _⟩
  rcases h2 with h2 | ⟨g, cap, cur, rfl, q2, q3, q4⟩
  · exact .inl h2
  · exact .inr ⟨g, cap, cur, rfl, q2, (hag g rfl).trans q3, q4⟩
theorem rt_own {e base : Nat} {w : World} {ok : Nat → Prop} {v : Value} {xs : List Rt} (h : kRt.R e w base ok v xs) : ∀ b, v.ownBlock = some b → ok b ∧ base ≤ b ∧ b < w.heap.size :=
  fun b hb => ⟨h.1 b hb, Kd.R_base h b hb, Kd.R_lt h b hb⟩
/-- A worker: what it announced, its limbo as a row. -/
structure EW where
  a : Int
  l : List Rt
  A : Option Addr
  c : Nat
def EW.v (x : EW) : Value := .slice x.A x.l.length x.c
/-- The workers' cells. -/
def CW (C : Array Value) (xs : List EW) : Prop := ∀ j (h : j < xs.length), C[j * 2]? = some (.int .i64 xs[j].a) ∧ C[j * 2 + 1]? = some xs[j].v
structure EpI (ok : Nat → Prop) (B b g cap : Nat) (now : Int) (xs : List EW) (w : World) : Prop where
  node : w.heap[b]? = some (.cells #[.int .i64 now, .slice (some ⟨g, 0, none⟩) xs.length cap] 55 (0, 0))
  row : ∃ C, w.heap[g]? = some (.cells C 58 (0, 0)) ∧ CW C xs
  lim : ∀ j (h : j < xs.length), kRt.R 62 w B ok xs[j].v xs[j].l
  sep : ∀ j j' (h : j < xs.length) (h' : j' < xs.length), j ≠ j' → ∀ k, xs[j].v.ownBlock = some k → xs[j'].v.ownBlock ≠ some k
  okb : ok b
  okg : ok g
  hb : B ≤ b
  hg : B ≤ g
  okw : ∀ k, ok k → k < w.heap.size
section
variable {ok : Nat → Prop} {B b g cap : Nat} {now : Int} {xs : List EW} {w w1 w2 : World}
theorem EpI.gb (h : EpI ok B b g cap now xs w) : g ≠ b := by
  intro e
  obtain ⟨C, h1, _⟩ := h.row
  have h2 := h.node
  rw [e] at h1
  rw [h1] at h2; cases h2
theorem EpI.typed (h : EpI ok B b g cap now xs w) {j : Nat} (hj : j < xs.length) {k : Nat} (hk : xs[j].v.ownBlock = some k) : k ≠ b ∧ k ≠ g := by
  obtain ⟨cs, h1⟩ := Kd.R_typed (h.lim j hj) k hk
  refine ⟨fun e => ?_, fun e => ?_⟩
  · rw [e, h.node] at h1; cases h1
  · obtain ⟨C, h2, _⟩ := h.row
    rw [e, h2] at h1; cases h1
/-- where nothing of it is written, it stays. -/
theorem EpI.keep (h : EpI ok B b g cap now xs w) (hk : ∀ k, ok k → w1.heap[k]? = w.heap[k]?) (hz : w.heap.size ≤ w1.heap.size) : EpI ok B b g cap now xs w1 := by
  obtain ⟨C, h1, h2⟩ := h.row
  exact ⟨(hk b h.okb).trans h.node, ⟨C, (hk g h.okg).trans h1, h2⟩, fun j hj => rt_flat (h.lim j hj) (h.lim j hj).1 (fun k hb => hk k ((h.lim j hj).1 k hb)), h.sep, h.okb, h.okg, h.hb, h.hg, fun k hk => Nat.lt_of_lt_of_le (h.okw k hk) hz⟩
theorem EpI.below (h : EpI ok B b g cap now xs w) (hb : Below w.heap.size w w1) : EpI ok B b g cap now xs w1 := h.keep (fun k hk => hb.block k (h.okw k hk)) hb.size
/-- the cells of a worker. -/
theorem EpI.at_ (h : EpI ok B b g cap now xs w) {j : Nat} (hj : j < xs.length) : w.cell? ⟨g, j * 2, none⟩ = some (.int .i64 xs[j].a) ∧ w.cell? ⟨g, j * 2 + 1, none⟩ = some xs[j].v ∧ w.frozen? ⟨g, j * 2, none⟩ = false ∧ w.frozen? ⟨g, j * 2 + 1, none⟩ = false := by
  obtain ⟨C, h1, h2⟩ := h.row
  exact ⟨(blk_cell h1 _).trans (h2 j hj).1, (blk_cell h1 _).trans (h2 j hj).2, blk_frozen h1 _, blk_frozen h1 _⟩
theorem EpI.now_ (h : EpI ok B b g cap now xs w) : w.cell? ⟨b, 0, none⟩ = some (.int .i64 now) ∧ w.cell? ⟨b, 1, none⟩ = some (.slice (some ⟨g, 0, none⟩) xs.length cap) ∧ w.frozen? ⟨b, 0, none⟩ = false := ⟨blk_cell h.node 0, blk_cell h.node 1, blk_frozen h.node 0⟩
theorem EpI.setNow (h : EpI ok B b g cap now xs w) (n : Int) : EpI ok B b g cap n xs (w.setCell ⟨b, 0, none⟩ (.int .i64 n)) := by
  have hs : ∀ k, k ≠ b → (w.setCell ⟨b, 0, none⟩ (.int .i64 n)).heap[k]? = w.heap[k]? := fun k hk => Below.heap_setCell w ⟨b, 0, none⟩ _ k hk
  obtain ⟨C, h1, h2⟩ := h.row
  exact ⟨blk_set h.node 0 _, ⟨C, (hs g h.gb).trans h1, h2⟩, fun j hj => rt_flat (h.lim j hj) (h.lim j hj).1 (fun k hb => hs k (h.typed hj hb).1), h.sep, h.okb, h.okg, h.hb, h.hg, fun k hk => by simpa [World.setCell] using h.okw k hk⟩
theorem CW.setA {C : Array Value} {xs : List EW} (h : CW C xs) {k : Nat} (hk : k < xs.length) (a : Int) : CW (C.setIfInBounds (k * 2) (.int .i64 a)) (xs.set k { xs[k] with a := a }) := by
  intro j hj
  have hj' : j < xs.length := by simpa using hj
  obtain ⟨h1, h2⟩ := h j hj'
  have hlt := (Array.getElem?_eq_some_iff.1 (h k hk).1).1
  rw [List.getElem_set]
  by_cases e : k = j
  · subst e
    rw [if_pos rfl]
    refine ⟨by simp [hlt], ?_⟩
    rw [Array.getElem?_setIfInBounds_ne (by omega)]; exact h2
  · rw [if_neg e]
    exact ⟨by rw [Array.getElem?_setIfInBounds_ne (by omega)]; exact h1, by rw [Array.getElem?_setIfInBounds_ne (by omega)]; exact h2⟩
theorem CW.setL {C : Array Value} {xs : List EW} (h : CW C xs) {k : Nat} (hk : k < xs.length) (l : List Rt) (A : Option Addr) (c : Nat) : CW (C.setIfInBounds (k * 2 + 1) (.slice A l.length c)) (xs.set k ⟨xs[k].a, l, A, c⟩) := by
  intro j hj
  have hj' : j < xs.length := by simpa using hj
  obtain ⟨h1, h2⟩ := h j hj'
  have hlt := (Array.getElem?_eq_some_iff.1 (h k hk).2).1
  rw [List.getElem_set]
  by_cases e : k = j
  · subst e
    rw [if_pos rfl]
    exact ⟨by rw [Array.getElem?_setIfInBounds_ne (by omega)]; exact h1, by simp [hlt, EW.v]⟩
  · rw [if_neg e]
    exact ⟨by rw [Array.getElem?_setIfInBounds_ne (by omega)]; exact h1, by rw [Array.getElem?_setIfInBounds_ne (by omega)]; exact h2⟩
theorem EpI.setA (h : EpI ok B b g cap now xs w) {k : Nat} (hk : k < xs.length) (a : Int) : EpI ok B b g cap now (xs.set k { xs[k] with a := a }) (w.setCell ⟨g, k * 2, none⟩ (.int .i64 a)) := by
  have hs : ∀ q, q ≠ g → (w.setCell ⟨g, k * 2, none⟩ (.int .i64 a)).heap[q]? = w.heap[q]? := fun q hq => Below.heap_setCell w ⟨g, k * 2, none⟩ _ q hq
  obtain ⟨C, h1, h2⟩ := h.row
  have hv : ∀ j (hj : j < (xs.set k { xs[k] with a := a }).length), (xs.set k { xs[k] with a := a })[j].v = (xs[j]'(by simpa using hj)).v ∧ (xs.set k { xs[k] with a := a })[j].l = (xs[j]'(by simpa using hj)).l := fun j hj => by
    rw [List.getElem_set]
    split
    · rename_i e; subst e; exact ⟨rfl, rfl⟩
    · exact ⟨rfl, rfl⟩
  refine ⟨by rw [List.length_set]; exact (hs b (Ne.symm h.gb)).trans h.node, ⟨_, blk_set h1 _ _, h2.setA hk a⟩, fun j hj => ?_, fun j j' hj hj' hne q hq => ?_, h.okb, h.okg, h.hb, h.hg, fun k hk => by simpa [World.setCell] using h.okw k hk⟩
  · have hj' : j < xs.length := by simpa using hj
    rw [(hv j hj).1, (hv j hj).2]
    exact rt_flat (h.lim j hj') (h.lim j hj').1 (fun q hq => hs q (h.typed hj' hq).2)
  · rw [(hv j hj).1] at hq
    rw [(hv j' hj').1]
    exact h.sep j j' _ _ hne q hq
/-- a worker's limbo is another one: what became of its row, then the store. -/
theorem EpI.setL (h : EpI ok B b g cap now xs w) {k : Nat} (hk : k < xs.length) {l : List Rt} {A : Option Addr} {c : Nat} (hR : kRt.R 62 w1 B (fun q => xs[k].v.ownBlock = some q ∨ w.heap.size ≤ q) (.slice A l.length c) l) (hz : w.heap.size ≤ w1.heap.size) (hg : ∀ q, q < w.heap.size → xs[k].v.ownBlock ≠ some q → w1.heap[q]? = w.heap[q]?) :
    EpI (fun q => ok q ∨ (w.heap.size ≤ q ∧ q < w1.heap.size)) B b g cap now (xs.set k ⟨xs[k].a, l, A, c⟩) (w1.setCell ⟨g, k * 2 + 1, none⟩ (.slice A l.length c)) := by
  have hs : ∀ q, q ≠ g → (w1.setCell ⟨g, k * 2 + 1, none⟩ (.slice A l.length c)).heap[q]? = w1.heap[q]? := fun q hq => Below.heap_setCell w1 ⟨g, k * 2 + 1, none⟩ _ q hq
  have hgw := h.okw g h.okg
  have hbw := h.okw b h.okb
  obtain ⟨C, h1, h2⟩ := h.row
  have h1' := (hg g hgw (fun e => (h.typed hk e).2 rfl)).trans h1
  have hsz : (w1.setCell ⟨g, k * 2 + 1, none⟩ (.slice A l.length c)).heap.size = w1.heap.size := by simp [World.setCell]
  have hv : ∀ j (hj : j < (xs.set k ⟨xs[k].a, l, A, c⟩).length), j ≠ k → (xs.set k ⟨xs[k].a, l, A, c⟩)[j] = (xs[j]'(by simpa using hj)) := fun j hj hne => by rw [List.getElem_set, if_neg (Ne.symm hne)]
  have hnew : ∀ q, (Value.slice A l.length c).ownBlock = some q → (xs[k].v.ownBlock = some q ∨ w.heap.size ≤ q) ∧ q < w1.heap.size := fun q hq => ⟨(rt_own hR q hq).1, (rt_own hR q hq).2.2⟩
  refine ⟨by rw [List.length_set]; exact (hs b (Ne.symm h.gb)).trans ((hg b hbw (fun e => (h.typed hk e).1 rfl)).trans h.node), ⟨_, blk_set h1' _ _, h2.setL hk l A c⟩, fun j hj => ?_, fun j j' hj hj' hne q hq => ?_, .inl h.okb, .inl h.okg, h.hb, h.hg, fun q hq => by rw [hsz]; rcases hq with hq | hq; exact Nat.lt_of_lt_of_le (h.okw q hq) hz; exact hq.2⟩
  · have hj' : j < xs.length := by simpa using hj
    by_cases e : j = k
    · subst e
      rw [List.getElem_set_self]
      refine rt_flat hR (fun q hq => ?_) (fun q hq => hs q (fun e => ?_))
      · rcases (hnew q hq).1 with h3 | h3
        · exact .inl ((h.lim j hj').1 q h3)
        · exact .inr ⟨h3, (hnew q hq).2⟩
      · rcases (hnew q hq).1 with h3 | h3
        · exact (h.typed hj' h3).2 e
        · omega
    · rw [hv j hj e]
      exact rt_flat (h.lim j hj') (fun q hq => .inl ((h.lim j hj').1 q hq)) (fun q hq => (hs q (h.typed hj' hq).2).trans (hg q (rt_own (h.lim j hj') q hq).2.2 (fun e2 => h.sep j k hj' hk e q hq e2)))
  · have hj1 : j < xs.length := by simpa using hj
    have hj2 : j' < xs.length := by simpa using hj'
    by_cases e : j = k
    · subst e
      rw [List.getElem_set_self] at hq
      rw [hv j' hj' (Ne.symm hne)]
      intro hq2
      rcases (hnew q hq).1 with h3 | h3
      · exact h.sep j j' hj1 hj2 hne q h3 hq2
      · have := (rt_own (h.lim j' hj2) q hq2).2.2; omega
    · rw [hv j hj e] at hq
      by_cases e' : j' = k
      · subst e'
        rw [List.getElem_set_self]
        intro hq2
        rcases (hnew q hq2).1 with h3 | h3
        · exact h.sep j j' hj1 hj2 hne q hq h3
        · have := (rt_own (h.lim j hj1) q hq).2.2; omega
      · rw [hv j' hj' e']
        exact h.sep j j' hj1 hj2 hne q hq
end
end Go.Proofs.Ythbooikhegppnaa.H
