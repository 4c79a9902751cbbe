/- built: nodes in a row; each but the first is told to one ahead as its kid. -/
import Derived.Test.YtiplpkjjplicjaaMBuild
import Derived.Test.YtiplpkjjplicjaaPair
set_option linter.unusedVariables false
set_option linter.unusedSimpArgs false
namespace Go.Proofs.Ytiplpkjjplicjaa.H
open Go.RowKit Go.Hay Go.Proofs.YtiplpkjjplicjaaW.PrintWords Go.Proofs.YtiplpkjjplicjaaW.PrintLast Go.Proofs.YtiplpkjjplicjaaW.PrintMore
/-! ### in plain words -/
def kidAt (x : S61) (i : Nat) : Nat := x.f3.toNat % i
def addKid (i : Nat) (y : S63) : S63 := { y with f1 := y.f1 ++ [(i : Int)] }
def nodeOf (x : S61) : S63 := ⟨x.f0, [], x.f1, x.f2⟩
def bStep (ys : List S63) (i : Nat) (x : S61) : List S63 := if 0 < i then (ys ++ [nodeOf x]).modify (kidAt x i) (addKid i) else ys ++ [nodeOf x]
def builtN (l : List S61) : Nat → List S63
  | 0 => []
  | i + 1 => bStep (builtN l i) i (l.getD i z61)
def builtP (l : List S61) : List S63 := builtN l l.length
theorem builtN_length (l : List S61) : ∀ i, (builtN l i).length = i
  | 0 => rfl
  | i + 1 => by
    rw [builtN, bStep]
    split
    · simp [builtN_length l i]
    · simp [builtN_length l i]
theorem builtN_kids (l : List S61) : ∀ i, ∀ y ∈ builtN l i, y.f1.length ≤ i
  | 0 => by simp [builtN]
  | i + 1 => by
    intro y hy
    have h0 : ∀ y ∈ builtN l i ++ [nodeOf (l.getD i z61)], y.f1.length ≤ i := by
      intro y hy
      rcases List.mem_append.1 hy with h1 | h1
      · exact builtN_kids l i y h1
      · rw [List.mem_singleton.1 h1]; simp [nodeOf]
    rw [builtN, bStep] at hy
    split at hy
    · obtain ⟨j, hj, rfl⟩ := List.mem_iff_getElem.1 hy
      rw [List.getElem_modify]
      have hj' := hj
      rw [List.length_modify] at hj'
      have h1 := h0 _ (List.getElem_mem hj')
      split
      · unfold addKid; simp only [List.length_append, List.length_singleton]; omega
      · omega
    · have := h0 y hy; omega
/-! ### nodes whose rows are known by their values -/
structure E4 where
  y : S63
  pA : Option Addr
  pc : Nat
  kA : Option Addr
  kc : Nat
theorem set_kid {ys : List E4} {zs : List S63} (h : ys.map (·.y) = zs) {k : Nat} (hk : k < ys.length) {i : Nat} {x1 : E4} (hx : x1.y = addKid i ys[k].y) : (ys.set k x1).map (·.y) = zs.modify k (addKid i) := by
  subst h
  apply List.ext_getElem
  · simp
  · intro j h1 h2
    simp only [List.getElem_map, List.getElem_set, List.getElem_modify]
    split
    · rename_i e; subst e; rw [hx]
    · rfl
def E4.kv (x : E4) : Value := .slice x.kA x.y.f1.length x.kc
def kSl : Kd (Option Addr × Nat × Nat) := Kd.scalar (fun p => .slice p.1 p.2.1 p.2.2) (fun _ => rfl)
def kE : Kd E4 := Kd.iso (Kd.pair kSl (Kd.pair kSl (Kd.pair (Kd.int .i64) (Kd.int .i64)))) (fun x => ((x.pA, x.y.f0.length, x.pc), (x.kA, x.y.f1.length, x.kc), x.y.f2, x.y.f3))
theorem kE_openM {w : World} {base : Nat} {ok : Nat → Prop} {x : E4} {cs : List Value} (h : kE.M w base ok x cs) : cs = [.slice x.pA x.y.f0.length x.pc, .slice x.kA x.y.f1.length x.kc, .int .i64 x.y.f2, .int .i64 x.y.f3] := by
  obtain ⟨_, _, rfl, rfl, ⟨_, _, rfl, rfl, ⟨_, _, rfl, rfl, rfl⟩⟩⟩ := h
  rfl
theorem kE_open {w : World} {x : E4} {cs : List Value} (h : kE.K w x cs) : cs = [.slice x.pA x.y.f0.length x.pc, .slice x.kA x.y.f1.length x.kc, .int .i64 x.y.f2, .int .i64 x.y.f3] := by
  obtain ⟨_, _, rfl, rfl, ⟨_, _, rfl, rfl, ⟨_, _, rfl, rfl, rfl⟩⟩⟩ := h
  rfl
theorem kE_mkM (w : World) (base : Nat) (ok : Nat → Prop) (x : E4) : kE.M w base ok x [.slice x.pA x.y.f0.length x.pc, .slice x.kA x.y.f1.length x.kc, .int .i64 x.y.f2, .int .i64 x.y.f3] :=
  ⟨[.slice x.pA x.y.f0.length x.pc], [.slice x.kA x.y.f1.length x.kc, .int .i64 x.y.f2, .int .i64 x.y.f3], rfl, rfl, ⟨[.slice x.kA x.y.f1.length x.kc], [.int .i64 x.y.f2, .int .i64 x.y.f3], rfl, rfl, ⟨[.int .i64 x.y.f2], [.int .i64 x.y.f3], rfl, rfl, rfl⟩⟩⟩
theorem flatE : Flat kE := fun {w w' base base' ok ok' x cs} h => by
  rw [kE_openM h]
  exact kE_mkM _ _ _ x
theorem info63 : (Try.prog.info? 63).map (fun i => (i.zero, i.size, i.bytes)) = some (some (.agg #[(.slice none 0 0), (.slice none 0 0), (.int .i64 0), (.int .i64 0)]), 4, 64) := by kernel_rfl
structure BI (w : World) (vo : Value) (xs : List E4) (w' : World) : Prop where
  row : kE.R 63 w' w.heap.size (fun _ => True) vo xs
  pcs : ∀ x ∈ xs, x.y.f0.length ≤ x.pc ∧ k64.C w x.pA x.y.f0.length x.y.f0
  kds : ∀ j (h : j < xs.length), (Kd.int .i64).R 3 w' w.heap.size (fun _ => True) xs[j].kv xs[j].y.f1
  sep : ∀ j j' (h : j < xs.length) (h' : j' < xs.length), j ≠ j' → ∀ b, xs[j].kv.ownBlock = some b → xs[j'].kv.ownBlock ≠ some b
  far : ∀ j (h : j < xs.length) b, xs[j].kv.ownBlock = some b → vo.ownBlock ≠ some b
  below : Below w.heap.size w w'
section
variable {w w1 w2 W : World} {vo v1 : Value} {xs : List E4}
theorem BI.start (w : World) : BI w (.slice none 0 0) [] w := ⟨Kd.R_nil _ _ _ _ _, (by simp), (fun j h => by simp at h), (fun j j' h => by simp at h), (fun j h => by simp at h), Below.refl _ _⟩
theorem BI.keep (h : BI w vo xs W) (k : Below W.heap.size W w1) : BI w vo xs w1 :=
  ⟨R_flat flatE h.row (fun _ _ => trivial) (fun i hi => k.block i (R_own h.row i hi).2), h.pcs, fun j hj => R_flat (flatI _) (h.kds j hj) (fun _ _ => trivial) (fun i hi => k.block i (R_own (h.kds j hj) i hi).2), h.sep, h.far, h.below.trans (k.mono h.below.size)⟩
/-- one node more. -/
theorem BI.push (h : BI w vo xs W) {x : E4} (hx : x.kA = none) (hn : x.y.f1 = []) (hk : x.kc = 0) (hp : x.y.f0.length ≤ x.pc ∧ k64.C w x.pA x.y.f0.length x.y.f0) (hR : kE.R 63 w1 w.heap.size (fun _ => True) v1 (xs ++ [x])) (hb : Below w.heap.size W w1) (hg : W.grownBy w1 vo.ownBlock)
    (hat : v1.ownBlock = vo.ownBlock ∨ ∃ k, v1.ownBlock = some k ∧ W.heap.size ≤ k) : BI w v1 (xs ++ [x]) w1 := by
  have hkv : x.kv = .slice none 0 0 := by unfold E4.kv; rw [hx, hn, hk]; rfl
  refine ⟨hR, fun y hy => ?_, fun j hj => ?_, fun j j' hj hj' hne b hb1 hb2 => ?_, fun j hj b hb1 hb2 => ?_, h.below.trans hb⟩
  · rcases List.mem_append.1 hy with h1 | h1
    · exact h.pcs y h1
    · rw [List.mem_singleton.1 h1]; exact hp
  · rcases Nat.lt_or_ge j xs.length with h1 | h1
    · rw [List.getElem_append_left h1]
      exact R_flat (flatI _) (h.kds j h1) (fun _ _ => trivial) (fun i hi => hg.block i (R_own (h.kds j h1) i hi).2 (fun e => h.far j h1 i hi e.symm))
    · obtain rfl : j = xs.length := by simp at hj; omega
      rw [List.getElem_concat_length rfl, hkv, hn]
      exact Kd.R_nil _ _ _ _ _
  · rcases Nat.lt_or_ge j xs.length with h1 | h1
    · rcases Nat.lt_or_ge j' xs.length with h2 | h2
      · rw [List.getElem_append_left h1] at hb1
        rw [List.getElem_append_left h2] at hb2
        exact h.sep j j' h1 h2 hne b hb1 hb2
      · obtain rfl : j' = xs.length := by simp at hj'; omega
        rw [List.getElem_concat_length rfl, hkv] at hb2
        cases hb2
    · obtain rfl : j = xs.length := by simp at hj; omega
      rw [List.getElem_concat_length rfl, hkv] at hb1
      cases hb1
  · rcases Nat.lt_or_ge j xs.length with h1 | h1
    · rw [List.getElem_append_left h1] at hb1
      rcases hat with h2 | ⟨k, h2, h3⟩
      · exact h.far j h1 b hb1 (h2 ▸ hb2)
      · rw [h2] at hb2; cases hb2
        have := (R_own (h.kds j h1) _ hb1).2; omega
    · obtain rfl : j = xs.length := by simp at hj; omega
      rw [List.getElem_concat_length rfl, hkv] at hb1
      cases hb1
/-- a kid more, of the node at k. -/
theorem BI.kid (h : BI w vo xs W) {k : Nat} (hk : k < xs.length) {i : Int} {A1 : Option Addr} {c1 : Nat} {x1 : E4} (hy : x1 = ⟨⟨xs[k].y.f0, xs[k].y.f1 ++ [i], xs[k].y.f2, xs[k].y.f3⟩, xs[k].pA, xs[k].pc, A1, c1⟩)
    (hR : (Kd.int .i64).R 3 w1 w.heap.size (fun _ => True) x1.kv (xs[k].y.f1 ++ [i])) (hb : Below w.heap.size W w1) (hg : W.grownBy w1 xs[k].kv.ownBlock) (hat : x1.kv.ownBlock = xs[k].kv.ownBlock ∨ ∃ b, x1.kv.ownBlock = some b ∧ W.heap.size ≤ b)
    (hR2 : kE.R 63 w2 w.heap.size (fun _ => True) vo (xs.set k x1)) (hb2 : Below w.heap.size w1 w2) (hg2 : w1.grownBy w2 vo.ownBlock) : BI w vo (xs.set k x1) w2 := by
  have hfar1 : ∀ b, x1.kv.ownBlock = some b → vo.ownBlock ≠ some b := fun b h1 h2 => by
    rcases hat with h3 | ⟨b', h3, h4⟩
    · exact h.far k hk b (h3 ▸ h1) h2
    · rw [h3] at h1; cases h1
      have := (R_own h.row _ h2).2; omega
  have hsep1 : ∀ j (hj : j < xs.length), j ≠ k → ∀ b, x1.kv.ownBlock = some b → xs[j].kv.ownBlock ≠ some b := fun j hj hne b h1 h2 => by
    rcases hat with h3 | ⟨b', h3, h4⟩
    · exact h.sep k j hk hj (Ne.symm hne) b (h3 ▸ h1) h2
    · rw [h3] at h1; cases h1
      have := (R_own (h.kds j hj) _ h2).2; omega
  have hs : ∀ j (hj : j < (xs.set k x1).length) , (xs.set k x1)[j] = if k = j then x1 else xs[j]'(by simpa using hj) := fun j hj => by rw [List.getElem_set]
  refine ⟨hR2, fun x hx => ?_, fun j hj => ?_, fun j j' hj hj' hne b h1 h2 => ?_, fun j hj b h1 h2 => ?_, (h.below.trans hb).trans hb2⟩
  · rcases List.mem_or_eq_of_mem_set hx with h1 | h1
    · exact h.pcs x h1
    · rw [h1, hy]; exact h.pcs xs[k] (List.getElem_mem hk)
  · have hj' : j < xs.length := by simpa using hj
    rw [hs j hj]
    by_cases e : k = j
    · subst e
      rw [if_pos rfl]
      have : x1.y.f1 = xs[k].y.f1 ++ [i] := by rw [hy]
      rw [this]
      exact R_flat (flatI _) hR (fun _ _ => trivial) (fun b hb => hg2.block b (R_own hR b hb).2 (fun e => hfar1 b hb e.symm))
    · rw [if_neg e]
      refine R_flat (flatI _) (h.kds j hj') (fun _ _ => trivial) (fun b hb3 => ?_)
      have hlt := (R_own (h.kds j hj') b hb3).2
      exact (hg2.block b (Nat.lt_of_lt_of_le hlt hg.size) (fun e1 => h.far j hj' b hb3 e1.symm)).trans (hg.block b hlt (fun e1 => h.sep j k hj' hk (Ne.symm e) b hb3 e1.symm))
  · have hj1 : j < xs.length := by simpa using hj
    have hj2 : j' < xs.length := by simpa using hj'
    rw [hs j hj] at h1
    rw [hs j' hj'] at h2
    by_cases e : k = j
    · subst e
      rw [if_pos rfl] at h1
      rw [if_neg hne] at h2
      exact hsep1 j' hj2 (Ne.symm hne) b h1 h2
    · rw [if_neg e] at h1
      by_cases e' : k = j'
      · subst e'
        rw [if_pos rfl] at h2
        exact hsep1 j hj1 hne b h2 h1
      · rw [if_neg e'] at h2
        exact h.sep j j' hj1 hj2 hne b h1 h2
  · have hj1 : j < xs.length := by simpa using hj
    rw [hs j hj] at h1
    by_cases e : k = j
    · rw [if_pos e] at h1; exact hfar1 b h1 h2
    · rw [if_neg e] at h1; exact h.far j hj1 b h1 h2
theorem own_at {α : Type} {d : Kd α} {e base : Nat} {ok : Nat → Prop} {A : Option Addr} {n c : Nat} {xs : List α} (h : d.R e W base ok (.slice A n c) xs) (hn : 0 < n) : ∃ g, A = some ⟨g, 0, none⟩ := by
  obtain ⟨_, inner, ⟨_, h2⟩, _⟩ := h
  rcases h2 with ⟨h2, _⟩ | ⟨g, cap, cur, h3, _⟩
  · injection h2 with _ h4; omega
  · injection h3 with h4; exact ⟨g, h4⟩
/-- the cells of the node at k. -/
theorem BI.at_ {A : Option Addr} {n c : Nat} (h : BI w (.slice A n c) xs W) {k : Nat} (hk : k < xs.length) : ∃ g, A = some ⟨g, 0, none⟩ ∧ W.cell? ⟨g, k * 4, none⟩ = some (.slice xs[k].pA xs[k].y.f0.length xs[k].pc) ∧ W.cell? ⟨g, k * 4 + 1, none⟩ = some (.slice xs[k].kA xs[k].y.f1.length xs[k].kc) ∧
    W.cell? ⟨g, k * 4 + 2, none⟩ = some (.int .i64 xs[k].y.f2) ∧ W.cell? ⟨g, k * 4 + 3, none⟩ = some (.int .i64 xs[k].y.f3) := by
  have hq := Kd.R_reads' h.row
  obtain ⟨g, rfl⟩ := own_at h.row (by rw [hq.1]; omega)
  obtain ⟨ad, e, hc⟩ := hq.2.2.2.2 (by omega)
  cases e
  obtain ⟨cs, h1, h2, h3⟩ := hc k _ (List.getElem?_eq_getElem hk)
  obtain rfl := kE_open h2
  have h4 : ∀ i u, [Value.slice xs[k].pA xs[k].y.f0.length xs[k].pc, .slice xs[k].kA xs[k].y.f1.length xs[k].kc, .int .i64 xs[k].y.f2, .int .i64 xs[k].y.f3][i]? = some u → W.cell? ⟨g, k * 4 + i, none⟩ = some u := fun i u hi => by
    have := h3 i u hi
    rw [add_plain] at this
    exact this
  exact ⟨g, rfl, h4 0 _ rfl, h4 1 _ rfl, h4 2 _ rfl, h4 3 _ rfl⟩
theorem BI.reads (h : BI w vo xs W) : ∃ A c, vo = .slice A xs.length c ∧ xs.length ≤ c ∧ k63.C W A xs.length (xs.map (·.y)) := by
  obtain ⟨A, c, rfl⟩ := Kd.R_slice h.row
  have hq := Kd.R_reads' h.row
  refine ⟨A, c, rfl, hq.2.1, by simp, hq.2.2.2.1, fun hn => ?_⟩
  obtain ⟨ad, e, hc⟩ := hq.2.2.2.2 hn
  refine ⟨ad, e, fun j p hj => ?_⟩
  rw [List.getElem?_map] at hj
  obtain ⟨x, hx, rfl⟩ := Option.map_eq_some_iff.1 hj
  obtain ⟨cs, h1, h2, h3⟩ := hc j x hx
  refine ⟨cs, h1, ?_, h3⟩
  have hlt := (List.getElem?_eq_some_iff.1 hx).1
  have hxe : xs[j] = x := (List.getElem?_eq_some_iff.1 hx).2
  have hp := h.pcs x (hxe ▸ List.getElem_mem hlt)
  have hk := Kd.R_reads' (h.kds j hlt)
  rw [hxe] at hk
  rw [kE_open h2]
  exact k63_mk W x.y hp.1 (Kd.C_below hp.2 h.below) hk.2.1 hk.2.2
end
end Go.Proofs.Ytiplpkjjplicjaa.H
