/- Nodes that are being built: what is written where, and that the kids are not touched. -/
import Derived.Test.YtiplpkjjplicjaaMAwake
set_option linter.unusedVariables false
set_option linter.unusedSimpArgs false
namespace Go.Proofs.Ytiplpkjjplicjaa.H
open Go.RowKit Go.Hay Go.Proofs.YtiplpkjjplicjaaW.PrintWords Go.Proofs.YtiplpkjjplicjaaW.PrintLast Go.Proofs.YtiplpkjjplicjaaW.PrintMore
theorem info44 : (Try.prog.info? 44).map (fun i => (i.zero, i.size, i.bytes)) = some (some (.agg #[(.bool false), (.int .i64 0)]), 2, 16) := by kernel_rfl
theorem info29 : (Try.prog.info? 29).map (fun i => (i.zero, i.size, i.bytes)) = some (some (.pointer none), 1, 8) := by kernel_rfl
/-- A kind whose elements lie in their cells alone. -/
def Flat {α : Type} (d : Kd α) : Prop := ∀ {w w' : World} {base base' : Nat} {ok ok' : Nat → Prop} {x : α} {cs : List Value}, d.M w base ok x cs → d.M w' base' ok' x cs
theorem flatP : Flat kP := fun h => h
theorem flatI (k : IntKind) : Flat (Kd.int k) := fun h => h
theorem flat64 : Flat k64 := fun {w w' base base' ok ok' x cs} h => by
  obtain rfl := k64_openM h
  exact k64_mkM _ _ _ x
theorem R_flat {α : Type} {d : Kd α} (hf : Flat d) {e base : Nat} {w w1 : World} {ok ok' : Nat → Prop} {v : Value} {xs : List α} (h : d.R e w base ok v xs) (ho : ∀ k, v.ownBlock = some k → ok' k) (hag : ∀ k, v.ownBlock = some k → w1.heap[k]? = w.heap[k]?) : d.R e w1 base ok' v xs := by
  obtain ⟨_, inner, ⟨h1, h2⟩, h3, h4⟩ := h
  refine ⟨ho, inner, ⟨h1, ?_⟩, h3, fun j p hj => hf (h4 j p hj)⟩
  rcases h2 with h2 | ⟨g, cap, cur, rfl, q2, q3, q4⟩
  · exact .inl h2
  · exact .inr ⟨g, cap, cur, rfl, q2, (hag g rfl).trans q3, q4⟩
theorem R_own {α : Type} {d : Kd α} {e base : Nat} {w : World} {ok : Nat → Prop} {v : Value} {xs : List α} (h : d.R e w base ok v xs) : ∀ k, v.ownBlock = some k → base ≤ k ∧ k < w.heap.size := by
  obtain ⟨_, inner, ⟨_, ho⟩, _⟩ := h
  intro k hk
  rcases ho with ⟨h1, h2⟩ | ⟨g, cap, cur, h1, h5, h6, _⟩
  · subst h1; cases hk
  · subst h1; cases hk; exact ⟨h5, blk_lt h6⟩
/-- The tree at q stands in the blocks from B on. -/
def Own (B : Nat) (w : World) (t : T) (q : Option Addr) : Prop := ∀ W' : World, (∀ k, B ≤ k → k < w.heap.size → W'.heap[k]? = w.heap[k]?) → IsT t W' q
theorem Own.is {B : Nat} {w : World} {t : T} {q : Option Addr} (h : Own B w t q) : IsT t w q := h w (fun _ _ _ => rfl)
theorem Own.keep {B : Nat} {w w' : World} {t : T} {q : Option Addr} (h : Own B w t q) (k : Below w.heap.size w w') : Own B w' t q :=
  fun W' hW => h W' (fun k1 h1 h2 => (hW k1 h1 (Nat.lt_of_lt_of_le h2 k.size)).trans (k.block _ h2))
structure NodeB (X : Option Nat) (B b : Nat) (ps : List S64) (ks : List T) (v f : Int) (vp vk : Value) (qs : List (Option Addr)) (w : World) : Prop where
  node : w.heap[b]? = some (.cells #[vp, vk, .int .i64 v, .int .i64 f] 42 (0, 0))
  hb : B ≤ b
  rp : k64.R 44 w B (fun _ => True) vp ps
  rk : kP.R 29 w B (fun _ => True) vk qs
  hp : vp.ownBlock ≠ some b
  hk : vk.ownBlock ≠ some b
  sep : ∀ k, vp.ownBlock = some k → vk.ownBlock ≠ some k
  xb : X ≠ some b
  xp : ∀ k, vp.ownBlock = some k → X ≠ some k
  xk : ∀ k, vk.ownBlock = some k → X ≠ some k
  xs : ∀ k, X = some k → k < w.heap.size
  kids : ∀ W' : World, (∀ k, B ≤ k → k < w.heap.size → k ≠ b → vp.ownBlock ≠ some k → vk.ownBlock ≠ some k → X ≠ some k → W'.heap[k]? = w.heap[k]?) → IsTs ks W' qs
section
variable {X : Option Nat} {B b : Nat} {ps : List S64} {ks : List T} {v f : Int} {vp vk : Value} {qs : List (Option Addr)} {w w1 W : World}
theorem NodeB.keep (h : NodeB X B b ps ks v f vp vk qs w) (k : Below w.heap.size w w1) : NodeB X B b ps ks v f vp vk qs w1 :=
  ⟨(k.block _ (blk_lt h.node)).trans h.node, h.hb, R_flat flat64 h.rp (fun _ _ => trivial) (fun i hi => k.block i (R_own h.rp i hi).2), R_flat flatP h.rk (fun _ _ => trivial) (fun i hi => k.block i (R_own h.rk i hi).2), h.hp, h.hk, h.sep, h.xb, h.xp, h.xk, fun i hi => Nat.lt_of_lt_of_le (h.xs i hi) k.size,
    fun W' hW => h.kids W' (fun i h1 h2 h3 h4 h5 h6 => (hW i h1 (Nat.lt_of_lt_of_le h2 k.size) h3 h4 h5 h6).trans (k.block i h2))⟩
theorem NodeB.start (B : Nat) (v f : Int) (hB : B ≤ w.heap.size) : NodeB none B w.heap.size [] [] v f (.slice none 0 0) (.slice none 0 0) [] (w.alloc (.cells #[.slice none 0 0, .slice none 0 0, .int .i64 v, .int .i64 f] 42)) :=
  ⟨alloc_blk _ _, hB, Kd.R_nil _ _ _ _ _, Kd.R_nil _ _ _ _ _, (fun h => by cases h), (fun h => by cases h), (fun k h => by cases h), (fun h => by cases h), (fun k h => by cases h), (fun k h => by cases h), (fun k h => by cases h), fun W' _ => by simp only [IsTs]⟩
theorem NodeB.pushP (h : NodeB X B b ps ks v f vp vk qs w) {p : S64} {v1 : Value} (hR : k64.R 44 w1 B (fun _ => True) v1 (ps ++ [p])) (hg : w.grownBy w1 vp.ownBlock) (hat : v1.ownBlock = vp.ownBlock ∨ ∃ k, v1.ownBlock = some k ∧ w.heap.size ≤ k) :
    NodeB X B b (ps ++ [p]) ks v f v1 vk qs (w1.setCell ⟨b, 0, none⟩ v1) := by
  have hlt := blk_lt h.node
  have h1b : v1.ownBlock ≠ some b := fun e => hat.elim (fun h1 => h.hp (h1 ▸ e)) (fun ⟨k, h1, h2⟩ => by rw [h1] at e; cases e; omega)
  have hn : w1.heap[b]? = some (.cells #[vp, vk, .int .i64 v, .int .i64 f] 42 (0, 0)) := (hg.block b hlt (fun e => h.hp e.symm)).trans h.node
  have hset : ∀ k, k ≠ b → (w1.setCell ⟨b, 0, none⟩ v1).heap[k]? = w1.heap[k]? := fun k hk => Below.heap_setCell w1 ⟨b, 0, none⟩ v1 k hk
  refine ⟨blk_set hn 0 _, h.hb, R_flat flat64 hR (fun _ _ => trivial) (fun k hk => hset k (fun e => h1b (e ▸ hk))), R_flat flatP h.rk (fun _ _ => trivial) (fun k hk => ?_), h1b, h.hk, fun k hk => ?_, h.xb, fun k hk e => ?_, h.xk, fun k hk => ?_, fun W' hW => h.kids W' (fun k q1 q2 q3 q4 q5 q6 => ?_)⟩
  · rw [hset k (fun e => h.hk (e ▸ hk))]
    exact hg.block k (R_own h.rk k hk).2 (fun e => h.sep k e.symm hk)
  · rcases hat with h1 | ⟨k', h1, h2⟩
    · exact h.sep k (h1 ▸ hk)
    · rw [h1] at hk; cases hk
      exact fun e => by have := (R_own h.rk _ e).2; omega
  · rcases hat with h1 | ⟨k', h1, h2⟩
    · exact h.xp k (h1 ▸ hk) e
    · rw [h1] at hk; cases hk
      have := h.xs _ e; omega
  · have hs1 : (w1.setCell ⟨b, 0, none⟩ v1).heap.size = w1.heap.size := by simp [World.setCell]
    have hsz := hg.size
    have := h.xs k hk; omega
  · have hs1 : (w1.setCell ⟨b, 0, none⟩ v1).heap.size = w1.heap.size := by simp [World.setCell]
    have hsz := hg.size
    rw [hW k q1 (by omega) q3 (fun e => hat.elim (fun h1 => q4 (h1 ▸ e)) (fun ⟨k', h1, h2⟩ => by rw [h1] at e; cases e; omega)) q5 q6, hset k q3]
    exact hg.block k q2 (fun e => q4 e.symm)
theorem NodeB.pushK (h : NodeB X B b ps ks v f vp vk qs w) {t : T} {q : Option Addr} {v1 : Value} (hR : kP.R 29 w1 B (fun _ => True) v1 (qs ++ [q])) (hg : w.grownBy w1 vk.ownBlock) (hat : v1.ownBlock = vk.ownBlock ∨ ∃ k, v1.ownBlock = some k ∧ w.heap.size ≤ k)
    (ht : ∀ W' : World, (∀ k, B ≤ k → k < w.heap.size → k ≠ b → vp.ownBlock ≠ some k → vk.ownBlock ≠ some k → X ≠ some k → W'.heap[k]? = w.heap[k]?) → IsT t W' q) :
    NodeB X B b ps (ks ++ [t]) v f vp v1 (qs ++ [q]) (w1.setCell ⟨b, 1, none⟩ v1) := by
  have hlt := blk_lt h.node
  have h1b : v1.ownBlock ≠ some b := fun e => hat.elim (fun h1 => h.hk (h1 ▸ e)) (fun ⟨k, h1, h2⟩ => by rw [h1] at e; cases e; omega)
  have hn : w1.heap[b]? = some (.cells #[vp, vk, .int .i64 v, .int .i64 f] 42 (0, 0)) := (hg.block b hlt (fun e => h.hk e.symm)).trans h.node
  have hset : ∀ k, k ≠ b → (w1.setCell ⟨b, 1, none⟩ v1).heap[k]? = w1.heap[k]? := fun k hk => Below.heap_setCell w1 ⟨b, 1, none⟩ v1 k hk
  have happ : ∀ (l : List T) (t : T) (W' : World) (qs : List (Option Addr)) (q : Option Addr), IsTs l W' qs → IsT t W' q → IsTs (l ++ [t]) W' (qs ++ [q]) := by
    intro l
    induction l with
    | nil => intro t W' qs q h1 h2; simp only [IsTs] at h1; subst h1; simp only [List.nil_append, IsTs]; exact ⟨q, [], rfl, h2, rfl⟩
    | cons x r ih =>
      intro t W' qs q h1 h2
      simp only [IsTs] at h1
      obtain ⟨a, s, rfl, h3, h4⟩ := h1
      simp only [List.cons_append, IsTs]
      exact ⟨a, s ++ [q], rfl, h3, ih t W' s q h4 h2⟩
  have hall : ∀ W' : World, (∀ k, B ≤ k → k < (w1.setCell ⟨b, 1, none⟩ v1).heap.size → k ≠ b → vp.ownBlock ≠ some k → v1.ownBlock ≠ some k → X ≠ some k → W'.heap[k]? = (w1.setCell ⟨b, 1, none⟩ v1).heap[k]?) → (∀ k, B ≤ k → k < w.heap.size → k ≠ b → vp.ownBlock ≠ some k → vk.ownBlock ≠ some k → X ≠ some k → W'.heap[k]? = w.heap[k]?) := by
    intro W' hW k q1 q2 q3 q4 q5 q6
    have hs1 : (w1.setCell ⟨b, 1, none⟩ v1).heap.size = w1.heap.size := by simp [World.setCell]
    have hsz := hg.size
    rw [hW k q1 (by omega) q3 q4 (fun e => hat.elim (fun h1 => q5 (h1 ▸ e)) (fun ⟨k', h1, h2⟩ => by rw [h1] at e; cases e; omega)) q6, hset k q3]
    exact hg.block k q2 (fun e => q5 e.symm)
  refine ⟨blk_set hn 1 _, h.hb, R_flat flat64 h.rp (fun _ _ => trivial) (fun k hk => ?_), R_flat flatP hR (fun _ _ => trivial) (fun k hk => hset k (fun e => h1b (e ▸ hk))), h.hp, h1b, fun k hk => ?_, h.xb, h.xp, fun k hk e => ?_, fun k hk => ?_, fun W' hW => happ _ _ _ _ _ (h.kids W' (hall W' hW)) (ht W' (hall W' hW))⟩
  · rw [hset k (fun e => h.hp (e ▸ hk))]
    exact hg.block k (R_own h.rp k hk).2 (fun e => h.sep k hk e.symm)
  · rcases hat with h1 | ⟨k', h1, h2⟩
    · exact h1 ▸ h.sep k hk
    · intro e
      rw [h1] at e; cases e
      have := (R_own h.rp _ hk).2; omega
  · rcases hat with h1 | ⟨k', h1, h2⟩
    · exact h.xk k (h1 ▸ hk) e
    · rw [h1] at hk; cases hk
      have := h.xs _ e; omega
  · have hs1 : (w1.setCell ⟨b, 1, none⟩ v1).heap.size = w1.heap.size := by simp [World.setCell]
    have hsz := hg.size
    have := h.xs k hk; omega
/-- what is excluded grows. -/
theorem NodeB.pushX (h : NodeB X B b ps ks v f vp vk qs w) {X1 : Option Nat} (hg : w.grownBy w1 X) (hat : X1 = X ∨ ∃ k, X1 = some k ∧ w.heap.size ≤ k ∧ k < w1.heap.size) : NodeB X1 B b ps ks v f vp vk qs w1 := by
  have hlt := blk_lt h.node
  have hsz := hg.size
  refine ⟨(hg.block b hlt (fun e => h.xb e.symm)).trans h.node, h.hb, R_flat flat64 h.rp (fun _ _ => trivial) (fun k hk => hg.block k (R_own h.rp k hk).2 (fun e => h.xp k hk e.symm)), R_flat flatP h.rk (fun _ _ => trivial) (fun k hk => hg.block k (R_own h.rk k hk).2 (fun e => h.xk k hk e.symm)), h.hp, h.hk, h.sep, ?_, ?_, ?_, ?_, fun W' hW => h.kids W' (fun k q1 q2 q3 q4 q5 q6 => ?_)⟩
  · rcases hat with rfl | ⟨k, rfl, h2, h3⟩
    · exact h.xb
    · exact fun e => by cases e; omega
  · intro k hk
    rcases hat with rfl | ⟨k', rfl, h2, h3⟩
    · exact h.xp k hk
    · exact fun e => by cases e; have := (R_own h.rp _ hk).2; omega
  · intro k hk
    rcases hat with rfl | ⟨k', rfl, h2, h3⟩
    · exact h.xk k hk
    · exact fun e => by cases e; have := (R_own h.rk _ hk).2; omega
  · intro k hk
    rcases hat with rfl | ⟨k', rfl, h2, h3⟩
    · exact Nat.lt_of_lt_of_le (h.xs k hk) hsz
    · cases hk; exact h3
  · rw [hW k q1 (by omega) q3 q4 q5 (fun e => by
      rcases hat with rfl | ⟨k', rfl, h2, h3⟩
      · exact q6 e
      · cases e; omega)]
    exact hg.block k q2 (fun e => q6 e.symm)
theorem NodeB.own (h : NodeB X B b ps ks v f vp vk qs w) (hl : qs.length = ks.length) : Own B w (.node ps ks v f) (some ⟨b, 0, none⟩) := by
  intro W' hW
  have rp := R_flat (w1 := W') (ok' := fun _ => True) flat64 h.rp (fun _ _ => trivial) (fun k hk => hW k (R_own h.rp k hk).1 (R_own h.rp k hk).2)
  have rk := R_flat (w1 := W') (ok' := fun _ => True) flatP h.rk (fun _ _ => trivial) (fun k hk => hW k (R_own h.rk k hk).1 (R_own h.rk k hk).2)
  obtain ⟨A1, c1, rfl⟩ := Kd.R_slice h.rp
  obtain ⟨A2, c2, rfl⟩ := Kd.R_slice h.rk
  have p := Kd.R_reads' rp
  have q := Kd.R_reads' rk
  simp only [IsT]
  rw [hl] at q
  refine ⟨b, A1, c1, A2, c2, qs, rfl, ?_, p.2.1, p.2.2, q.2.1, q.2.2, h.kids W' (fun k q1 q2 _ _ _ _ => hW k q1 q2)⟩
  rw [hW b h.hb (blk_lt h.node), h.node, hl]
end
end Go.Proofs.Ytiplpkjjplicjaa.H
