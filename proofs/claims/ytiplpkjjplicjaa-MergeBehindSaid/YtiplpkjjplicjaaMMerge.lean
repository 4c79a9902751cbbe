/- merge.Merge and merge.First answer what merging a node comes to. -/
import Derived.Test.YtiplpkjjplicjaaMWalk
import Derived.Test.YtiplpkjjplicjaaMRight
set_option linter.unusedVariables false
set_option linter.unusedSimpArgs false
namespace Go.Proofs.Ytiplpkjjplicjaa.H
open Go.RowKit Go.Hay Go.Proofs.YtiplpkjjplicjaaW.PrintWords Go.Proofs.YtiplpkjjplicjaaW.PrintLast Go.Proofs.YtiplpkjjplicjaaW.PrintMore
theorem blk_farM {w : World} {g : Nat} {o : Obj} {p : Addr} (h : w.heap[g]? = some o) (hne : g ≠ p.block) (v : Value) : (w.setCell p v).heap[g]? = some o := (Below.heap_setCell w p v g hne).trans h
/-! ### what Merge's closures keep: the row in the result's cell -/
def IMerge (B : Nat) : Inv := fun told q S w => B < w.heap.size ∧ ∃ v, w.heap[B]? = some (.cells #[v] 23 (0, 0)) ∧ (Kd.int .i64).R 2 w (B + 1) (fun _ => True) v told ∧ S = fun k => k = B ∨ v.ownBlock = some k
theorem own_lt {w : World} {base e : Nat} {v : Value} {xs : List Int} {ok : Nat → Prop} (h : (Kd.int .i64).R e w base ok v xs) : ∀ k, v.ownBlock = some k → base ≤ k ∧ k < w.heap.size := by
  obtain ⟨_, inner, ⟨_, ho⟩, _⟩ := h
  intro k hk
  rcases ho with ⟨h1, h2⟩ | ⟨g, cap, cur, h1, h5, h6, _⟩
  · subst h1; cases hk
  · subst h1; cases hk; exact ⟨h5, blk_lt h6⟩
set_option maxRecDepth 100000 in
set_option maxHeartbeats 4000000 in
theorem tell25 (B : Nat) (told : List Int) (S : Nat → Prop) (w : World) (x : Int) (h : IMerge B told none S w) (hl : told.length ≤ 1000000) :
    Calls Try.prog 25 (#[.int .i64 x] ++ #[.pointer (some ⟨B, 0, none⟩)]) w fun e w' => e = .returned (.tuple #[]) ∧ ∃ S', IMerge B (told ++ [x]) none S' w' ∧ Keep S w w' ∧ ∀ k, S' k → S k ∨ w.heap.size ≤ k := by
  obtain ⟨hB, v, h1, h2, rfl⟩ := h
  show Calls Try.prog 25 #[.int .i64 x, .pointer (some ⟨B, 0, none⟩)] w _
  obtain ⟨A, cc, rfl⟩ := Kd.R_slice h2
  obtain ⟨L, hL⟩ : ∃ L, L = told.length := ⟨_, rfl⟩
  rw [← hL] at h1 h2 ⊢
  have c := blk_cell h1 0
  have H := Aside0.mk (And.intro hB (And.intro h1 h2))
  have HL := Aside0.mk hL
  have hq := blk_alloc h1 (.cells #[.int .i64 x] 2)
  have cq := blk_cell hq 0
  clear h1 h2 hB hq hL
  go_enter Try.func25, Try.ntmps25
  go_wp2_with (first | ((with_reducible refine gate_builtin (b := .append) (xs := #[.tmp 3, .tmp 5]) rfl ?_); refine Kd.R_append_rows (Kd.int .i64) (w0 := w) (B + 1) rfl (.tmp 3) (.tmp 5) 23 2 (.int .i64 0) 8 rfl Try.underlying23 info2 rfl (by decide) (by omega) _ told [x] _ _ _ (fun _ => True) (fun _ => False) rfl rfl ?aO ?aR (fun _ _ h => h) (fun _ h => h.elim) ?aF ?aB ?aS ?aL ?_))
  case aO => exact Kd.R_alloc H.out.2.2 _
  case aR => exact reads_nums [x] (alloc_blk _ _) (by simp)
  case aF => exact fun _ _ => trivial
  case aB => exact (Below.refl _ _).alloc (by have := H.out.1; omega) _
  case aS => have := H.out.1; simp; omega
  case aL => omega
  intro v1 w1 hR hb1 hg1 hat1
  obtain ⟨A1, cc1, hv1⟩ := Kd.R_slice hR
  obtain ⟨L1, hL1⟩ : ∃ n, n = (told ++ [x]).length := ⟨_, rfl⟩
  rw [← hL1] at hv1
  subst hv1
  have HL1 := Aside0.mk hL1
  clear hL1
  have hBw := H.out.1
  have h3 := (hb1.block B (by omega)).trans H.out.2.1
  have c := blk_cell h3 0
  have f := blk_frozen h3 0
  have hg : Keep (fun k => k = B ∨ (Value.slice A L cc).ownBlock = some k) w w1 := by
    have h1 : Keep (fun k => k = B ∨ (Value.slice A L cc).ownBlock = some k) w (w.alloc (.cells #[.int .i64 x] 2)) := (Keep.refl _ _).alloc _
    exact h1.then (Keep.grown hg1) (fun i _ hi => .inr hi.symm)
  have GS := Aside0.mk (And.intro hR (And.intro h3 (And.intro hg hat1)))
  have hsz := hb1.size
  clear hR hb1 hg1 hat1 h3 hg cq
  go_wp2_with fail
  go_end0
  obtain ⟨hR, h3, hg, hat⟩ := GS.out
  refine ⟨rfl, fun k => k = B ∨ (Value.slice A1 L1 cc1).ownBlock = some k, ⟨by simpa [World.setCell] using Nat.lt_of_lt_of_le hBw hsz, _, blk_set h3 0 _, ?_, rfl⟩, hg.set (p := ⟨B, 0, none⟩) (.inr (.inl rfl)) _, ?_⟩
  · refine Kd.R_keep hR (Keep.set (S := fun k => k = B) (p := ⟨B, 0, none⟩) (Keep.refl _ _) (.inr rfl) _) (fun k _ hb _ e => by omega)
  · intro k hk
    rcases hk with rfl | hk
    · exact .inl (.inl rfl)
    · rcases hat with h | ⟨b, h, hb⟩
      · exact .inl (.inr (by rw [← h]; exact hk))
      · rw [h] at hk; cases hk; exact .inr (by omega)
theorem tellerM (B : Nat) : Teller 25 26 #[.pointer (some ⟨B, 0, none⟩)] #[] B (IMerge B) where
  size := by
    rintro told S w ⟨hB, v, h1, h2, rfl⟩
    refine ⟨Nat.le_of_lt hB, fun k hk => ?_⟩
    rcases hk with rfl | hk
    · exact ⟨Nat.le_refl _, hB⟩
    · have := own_lt h2 k hk; exact ⟨by omega, this.2⟩
  keep := by
    rintro told q S w w' ⟨hB, v, h1, h2, rfl⟩ hb
    exact ⟨Nat.lt_of_lt_of_le hB hb.size, v, (hb.block _ (blk_lt h1)).trans h1, Kd.R_keep h2 (Keep.of_below hb (fun _ => False)) (fun _ _ _ _ h => h), rfl⟩
  tell := fun x h hl => tell25 B _ _ _ x h hl
  fails := by
    intro told S w A c path h hp hS
    show Calls Try.prog 26 #[.slice A path.length c] w _
    have H := Aside0.mk h
    clear h hp hS
    go_enter Try.func26, Try.ntmps26
    go_wp2_with fail
    go_end0
    exact ⟨rfl, S, H.out, Keep.refl _ _⟩
/-! ### what First's closures keep: the path's cell, and whether there is one -/
def IFirst (B : Nat) : Inv := fun told q S w => B + 1 < w.heap.size ∧ (S = fun k => k = B ∨ k = B + 1) ∧ match q with
  | none => w.heap[B]? = some (.cells #[.slice none 0 0] 31 (0, 0)) ∧ w.heap[B + 1]? = some (.cells #[.bool false] 4 (0, 0))
  | some path => ∃ A c, w.heap[B]? = some (.cells #[.slice A path.length c] 31 (0, 0)) ∧ w.heap[B + 1]? = some (.cells #[.bool true] 4 (0, 0)) ∧ PathIs w A c path ∧ ∀ ad, A = some ad → ¬ (ad.block = B ∨ ad.block = B + 1)
set_option maxRecDepth 100000 in
set_option maxHeartbeats 4000000 in
theorem fails24 (B : Nat) (told : List Int) (S : Nat → Prop) (w : World) (A : Option Addr) (c : Nat) (path : List Int) (h : IFirst B told none S w) (hp : PathIs w A c path) (hS : ∀ ad, A = some ad → ¬ S ad.block) :
    Calls Try.prog 24 (#[.slice A path.length c] ++ #[.pointer (some ⟨B, 0, none⟩), .pointer (some ⟨B + 1, 0, none⟩)]) w fun e w' => e = .returned (.tuple #[]) ∧ ∃ S', IFirst B told (some path) S' w' ∧ Keep S w w' := by
  obtain ⟨hB, rfl, h1, h2⟩ := h
  show Calls Try.prog 24 #[.slice A path.length c, .pointer (some ⟨B, 0, none⟩), .pointer (some ⟨B + 1, 0, none⟩)] w _
  have c1 := blk_cell h1 0
  have f1 := blk_frozen h1 0
  have c2 := blk_cell h2 0
  have f2 := blk_frozen h2 0
  have hn2 : B ≠ B + 1 := by omega
  have H := Aside0.mk (And.intro hB (And.intro h1 (And.intro h2 (And.intro hp hS))))
  clear hB h1 h2 hp hS
  go_enter Try.func24, Try.ntmps24
  go_wp2_with fail
  go_end0
  obtain ⟨hB, h1, h2, hp, hS⟩ := H.out
  have hk : Keep (fun k => k = B ∨ k = B + 1) w ((w.setCell ⟨B, 0, none⟩ (.slice A path.length c)).setCell ⟨B + 1, 0, none⟩ (.bool true)) :=
    ((Keep.refl _ w).set (p := ⟨B, 0, none⟩) (.inr (.inl rfl)) _).set (p := ⟨B + 1, 0, none⟩) (.inr (.inr rfl)) _
  refine ⟨rfl, ⟨_, ⟨by simpa [World.setCell] using hB, rfl, A, c, ?_, ?_, hp.keep hk hS, hS⟩⟩, hk⟩
  · exact blk_farM (p := ⟨B + 1, 0, none⟩) (blk_set h1 0 _) (show B ≠ B + 1 by omega) _
  · exact blk_set (blk_farM (p := ⟨B, 0, none⟩) h2 (show B + 1 ≠ B by omega) _) 0 _
theorem tellerF (B : Nat) : Teller 23 24 #[] #[.pointer (some ⟨B, 0, none⟩), .pointer (some ⟨B + 1, 0, none⟩)] B (IFirst B) where
  size := by
    rintro told S w ⟨hB, rfl, h1, h2⟩
    exact ⟨by omega, fun k hk => by rcases hk with rfl | rfl <;> omega⟩
  keep := by
    intro told q S w w' h hb
    obtain ⟨hB, hS, hq⟩ := h
    refine ⟨Nat.lt_of_lt_of_le hB hb.size, hS, ?_⟩
    cases q with
    | none => exact ⟨(hb.block _ (by omega)).trans hq.1, (hb.block _ (by omega)).trans hq.2⟩
    | some path =>
      obtain ⟨A, c, h1, h2, h3⟩ := hq
      exact ⟨A, c, (hb.block _ (by omega)).trans h1, (hb.block _ (by omega)).trans h2, h3.1.below hb, h3.2⟩
  tell := by
    intro told S w x h hl
    show Calls Try.prog 23 #[.int .i64 x] w _
    have H := Aside0.mk h
    clear h
    go_enter Try.func23, Try.ntmps23
    go_wp2_with fail
    go_end0
    exact ⟨rfl, S, H.out, Keep.refl _ _, fun k h => .inl h⟩
  fails := fun h hp hS => fails24 B _ _ _ _ _ _ h hp hS
end Go.Proofs.Ytiplpkjjplicjaa.H
