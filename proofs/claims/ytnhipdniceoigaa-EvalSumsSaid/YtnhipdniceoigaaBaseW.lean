/- General lemmas over the print's words: a literal's row is read; append at an operation. No conditions of a program. -/
import Derived.Test.YtnhipdniceoigaaWApart
import Derived.Test.YtnhipdniceoigaaWMore
import Derived.Test.YtnhipdniceoigaaWInv
import Derived.Test.YtnhipdniceoigaaBase
import Derived.Deep.RegionHeld3
set_option linter.unusedVariables false
set_option linter.unusedSimpArgs false
namespace Go.Hay
open Go.RowKit Go.Proofs.YtnhipdniceoigaaW.PrintWords Go.Proofs.YtnhipdniceoigaaW.PrintLast Go.Proofs.YtnhipdniceoigaaW.PrintMore

theorem reads_cells {α : Type} {R : α → List Value → Prop} {size : Nat} {W : World} {b : Nat} {C : Array Value} {t : TypeId} {fr : Nat × Nat} {ps : List α} (h : W.heap[b]? = some (.cells C t fr)) (hr : Reps R size ps C.toList)
    (hm : ps.length ≤ 9223372036854775807) : ReadsRow R size W (some ⟨b, 0, none⟩) ps.length ps := by
  refine ⟨rfl, hm, fun _ => ⟨_, rfl, fun j p hj => ?_⟩⟩
  have hlt : j < ps.length := (List.getElem?_eq_some_iff.1 hj).1
  have hle : (j + 1) * size ≤ ps.length * size := Nat.mul_le_mul_right _ hlt
  rw [Nat.add_mul, Nat.one_mul] at hle
  refine ⟨_, ?_, hr.2 j p hj, fun i u hu => ?_⟩
  · have := hr.1
    simp only [List.length_take, List.length_drop]
    omega
  · rw [add_plain]
    have hi : i < size := by
      have := (List.getElem?_eq_some_iff.1 hu).1
      simp only [List.length_take] at this
      omega
    rw [cell_of_row W b _ C t fr h]
    rw [List.getElem?_take_of_lt hi, List.getElem?_drop] at hu
    simpa using hu

theorem alloc_blk (w : World) (o : Obj) : (w.alloc o).heap[w.heap.size]? = some o := by
  show (w.heap.push o)[_]? = _
  rw [Array.getElem?_push_size]

/-- A literal of numbers. -/
theorem reads_nums {W : World} {b : Nat} {t : TypeId} {fr : Nat × Nat} {k : IntKind} (ys : List Int) (h : W.heap[b]? = some (.cells (ys.map (Value.int k)).toArray t fr)) (hm : ys.length ≤ 9223372036854775807) :
    ReadsRow ((Kd.int k).K W) 1 W (some ⟨b, 0, none⟩) ys.length ys := by
  refine reads_cells h ⟨by simp, fun j p hj => ?_⟩ hm
  show _ = [Value.int k p]
  have hlt : j < ys.length := (List.getElem?_eq_some_iff.1 hj).1
  simp only [Nat.mul_one, ← List.map_drop, ← List.map_take]
  rw [List.drop_eq_getElem_cons hlt]
  have : ys[j] = p := by rw [List.getElem?_eq_getElem hlt] at hj; exact Option.some.inj hj
  simp [this]

/-- A literal of one element. -/
theorem reads_one {α : Type} {R : α → List Value → Prop} {W : World} {b : Nat} {C : Array Value} {t : TypeId} {fr : Nat × Nat} {x : α} (h : W.heap[b]? = some (.cells C t fr)) (hR : R x C.toList) : ReadsRow R C.size W (some ⟨b, 0, none⟩) 1 [x] := by
  refine reads_cells (ps := [x]) h ⟨by simp, fun j p hj => ?_⟩ (by simp)
  cases j with
  | zero =>
    obtain rfl : x = p := by simpa using hj
    rw [Nat.zero_mul, List.drop_zero, List.take_of_length_le (by simp)]
    exact hR
  | succ j => simp at hj
/-- append(v, ys...) at the operation. -/
theorem wp_append_rows {P : Program} {o : Oper} {a : Act} {K : Act → World → Prop} {Q : Exit → Act → World → Prop} {α : Type} (d : Kd α) {Rr : α → List Value → Prop} {W : World} (base : Nat) (hgd : o.guard = none) (s x : Operand) (t e : TypeId) (z : Value) (bytes : Nat)
    (ho : o.op = .call { callee := .builtin .append, args := #[s, x], argTypes := #[t, t] })
    (ht : P.underlying t = some (.slice e)) (hinfo : (P.info? e).map (fun i => (i.zero, i.size, i.bytes)) = some (some z, d.sz, bytes)) (hz : z.cells.size = d.sz) (hs0 : 0 < d.sz) (hb0 : 0 < bytes)
    (v : Value) (xs ys : List α) (A : Option Addr) (m c : Nat) (ok okp : Nat → Prop) (hs : a.eval s = v) (hx : a.eval x = .slice A m c)
    (HO : d.R e W base ok v xs) (HR : ReadsRow Rr d.sz W A m ys) (hKM : ∀ x cs, Rr x cs → d.M W base okp x cs) (hokp : ∀ k, okp k → ok k ∧ some k ≠ v.ownBlock) (hfresh : ∀ k, W.heap.size ≤ k → ok k)
    (hbase : base ≤ W.heap.size) (hl : (xs.length + m) * bytes ≤ 140737488355328)
    (h : ∀ v1 w1, d.R e w1 base ok v1 (xs ++ ys) → Below base W w1 → W.grownBy w1 v.ownBlock → (v1.ownBlock = v.ownBlock ∨ ∃ b, v1.ownBlock = some b ∧ W.heap.size ≤ b) → K (a.put o.dst v1) w1) :
    o.wp P a W K Q := by
  have hw : Region.wanted o (yielded #[] a.tmps) = true := by simp [Region.wanted, hgd]
  have := Kd.R_append_rows_step (P := P) (ops := #[]) (Kc := K) (Q := Q) d (w0 := W) base hw s x t e z bytes ho ht hinfo hz hs0 hb0 v xs ys A m c ok okp hs hx HO HR hKM hokp hfresh (Below.refl _ _) hbase hl h
  rwa [if_pos hw] at this
/-- append(v, literal of numbers...) at the operation. -/
theorem wp_append_nums {P : Program} {o : Oper} {a : Act} {K : Act → World → Prop} {Q : Exit → Act → World → Prop} (k : IntKind) {W : World} (base : Nat) (hgd : o.guard = none) (s x : Operand) (t e : TypeId) (bytes : Nat)
    (ho : o.op = .call { callee := .builtin .append, args := #[s, x], argTypes := #[t, t] })
    (ht : P.underlying t = some (.slice e)) (hinfo : (P.info? e).map (fun i => (i.zero, i.size, i.bytes)) = some (some (.int k 0), 1, bytes)) (hb0 : 0 < bytes)
    (v : Value) (xs ys : List Int) (A : Option Addr) (m c : Nat) (hs : a.eval s = v) (hx : a.eval x = .slice A m c)
    (HO : (Kd.int k).R e W base (fun _ => True) v xs) (HR : ReadsRow ((Kd.int k).K W) 1 W A m ys)
    (hbase : base ≤ W.heap.size) (hl : (xs.length + m) * bytes ≤ 140737488355328)
    (h : ∀ v1 w1, (Kd.int k).R e w1 base (fun _ => True) v1 (xs ++ ys) → Below base W w1 → W.grownBy w1 v.ownBlock → (v1.ownBlock = v.ownBlock ∨ ∃ b, v1.ownBlock = some b ∧ W.heap.size ≤ b) → K (a.put o.dst v1) w1) :
    o.wp P a W K Q :=
  wp_append_rows (Kd.int k) base hgd s x t e (.int k 0) bytes ho ht hinfo rfl Nat.one_pos hb0 v xs ys A m c (fun _ => True) (fun _ => False) hs hx HO HR (fun x cs h => h) (fun _ h => h.elim) (fun _ _ => trivial) hbase hl h
/-! ### a frame: all that was there is as it was, but the blocks of S -/
structure Keep (S : Nat → Prop) (w w' : World) : Prop where
  os : w'.os = w.os
  tape : w'.tape = w.tape
  output : w'.output = w.output
  size : w.heap.size ≤ w'.heap.size
  block : ∀ k, k < w.heap.size → ¬ S k → w'.heap[k]? = w.heap[k]?
section
variable {S T : Nat → Prop} {w w1 w2 W : World}
theorem Keep.refl (S : Nat → Prop) (w : World) : Keep S w w := ⟨rfl, rfl, rfl, Nat.le_refl _, fun _ _ _ => rfl⟩
theorem Keep.trans (h : Keep S w w1) (k : Keep S w1 w2) : Keep S w w2 :=
  ⟨k.os.trans h.os, k.tape.trans h.tape, k.output.trans h.output, Nat.le_trans h.size k.size, fun i hi hS => (k.block i (Nat.lt_of_lt_of_le hi h.size) hS).trans (h.block i hi hS)⟩
theorem Keep.mono (h : Keep S w w1) (hST : ∀ k, k < w.heap.size → S k → T k) : Keep T w w1 := ⟨h.os, h.tape, h.output, h.size, fun k hk hT => h.block k hk (fun hS => hT (hST k hk hS))⟩
/-- what is written behind the first step's blocks does not matter. -/
theorem Keep.then (h : Keep S w w1) (k : Keep T w1 w2) (hT : ∀ i, i < w.heap.size → T i → S i) : Keep S w w2 :=
  ⟨k.os.trans h.os, k.tape.trans h.tape, k.output.trans h.output, Nat.le_trans h.size k.size, fun i hi hS => (k.block i (Nat.lt_of_lt_of_le hi h.size) (fun hTi => hS (hT i hi hTi))).trans (h.block i hi hS)⟩
theorem Keep.of_below (h : Below w.heap.size w w1) (S : Nat → Prop) : Keep S w w1 := ⟨h.os, h.tape, h.output, h.size, fun k hk _ => h.block k hk⟩
theorem Keep.below {B : Nat} (h : Keep S w w1) (hB : B ≤ w.heap.size) (hS : ∀ k, k < B → ¬ S k) : Below B w w1 := ⟨h.os, h.tape, h.output, h.size, fun k hk => h.block k (Nat.lt_of_lt_of_le hk hB) (hS k hk)⟩
theorem Keep.of_belowB {B : Nat} (h : Below B w w1) : Keep (fun k => B ≤ k) w w1 := ⟨h.os, h.tape, h.output, h.size, fun k hk hS => h.block k (Nat.lt_of_not_le hS)⟩
theorem Keep.grown {row : Option Nat} (h : w.grownBy w1 row) : Keep (fun k => some k = row) w w1 := ⟨h.os, h.tape, h.output, h.size, fun k hk hS => h.block k hk hS⟩
theorem Keep.alloc (h : Keep S w w1) (o : Obj) : Keep S w (w1.alloc o) := h.then (Keep.of_below (below_alloc (Below.refl _ _) o) (fun _ => False)) (fun _ _ h => h.elim)
theorem Keep.drew (h : Keep S w w1) : Keep S w w1.drew := h.then (Keep.of_below (below_drew (Below.refl _ _)) (fun _ => False)) (fun _ _ h => h.elim)
theorem Keep.drewN (h : Keep S w w1) (n : Nat) : Keep S w (w1.drewN n) := h.then (Keep.of_below (pw_below_drewN (Below.refl _ _) n) (fun _ => False)) (fun _ _ h => h.elim)
theorem Keep.set {p : Addr} (h : Keep S w w1) (hp : w.heap.size ≤ p.block ∨ S p.block) (v : Value) : Keep S w (w1.setCell p v) :=
  ⟨h.os, h.tape, h.output, by simpa [World.setCell] using h.size, fun k hk hS => (Below.heap_setCell w1 p v k (fun e => by subst e; exact hp.elim (fun hp => absurd hk (by omega)) (fun hp => hS hp))).trans (h.block k hk hS)⟩
theorem Keep.blk {g : Nat} {o : Obj} (h : Keep S w w1) (hb : w.heap[g]? = some o) (hg : ¬ S g) : w1.heap[g]? = some o := (h.block g (blk_lt hb) hg).trans hb
theorem Keep.cell {a : Addr} {v : Value} (h : Keep S w w1) (hc : w.cell? a = some v) (hg : ¬ S a.block) : w1.cell? a = some v := by
  rw [← hc]; exact World.cell?_of_block (w := w) (h.block a.block (World.block_lt_of_cell? w a hc) hg)
end
namespace Kd
section
variable {α : Type} {d : Go.Proofs.YtnhipdniceoigaaW.PrintWords.Kd α} {e : Nat} {w w1 : World} {base : Nat} {ok : Nat → Prop} {v : Value} {xs : List α} {S : Nat → Prop}
theorem R_keep (h : d.R e w base ok v xs) (hk : Keep S w w1) (hS : ∀ k, ok k → base ≤ k → k < w.heap.size → ¬ S k) : d.R e w1 base ok v xs :=
  Go.Proofs.YtnhipdniceoigaaW.PrintWords.Kd.R_mono (Go.Proofs.YtnhipdniceoigaaW.PrintWords.Kd.R_step (Go.Proofs.YtnhipdniceoigaaW.PrintWords.Kd.R_bound h) (fun k ho hl => hk.block k hl (hS k ho.1 ho.2.1 hl))) (fun _ h => h.1)
theorem S_kp (h : Go.Proofs.YtnhipdniceoigaaW.PrintWords.Kd.S d e w base ok v xs) (hk : Keep S w w1) (hS : ∀ k, ok k → base ≤ k → k < w.heap.size → ¬ S k) : Go.Proofs.YtnhipdniceoigaaW.PrintWords.Kd.S d e w1 base ok v xs :=
  Go.Proofs.YtnhipdniceoigaaW.PrintWords.Kd.S_mono (Go.Proofs.YtnhipdniceoigaaW.PrintWords.Kd.S_step (Go.Proofs.YtnhipdniceoigaaW.PrintWords.Kd.S_bound h) (fun k ho hl => hk.block k hl (hS k ho.1 ho.2.1 hl))) (fun _ h => h.1)
theorem M_keep {x : α} {cs : List Value} (h : d.M w base ok x cs) (hk : Keep S w w1) (hS : ∀ k, ok k → base ≤ k → k < w.heap.size → ¬ S k) : d.M w1 base ok x cs :=
  d.M_mono (fun _ h => h.1) (Go.Proofs.YtnhipdniceoigaaW.PrintWords.Kd.M_step (d.M_bound h) (fun k ho hl => hk.block k hl (hS k ho.1 ho.2.1 hl)))
end
end Kd
theorem panic_thn {P : Program} {fn : Func} {R : Ending → World → Prop} {ops : Array Oper} {K : Act → World → Prop} {Q : Exit → Act → World → Prop} (hQ : Q = bodyPost P fn R) :
    ∀ o ∈ ops.toList, ∀ c a v w, Exit.then K Q (.panic c) (a.put o.dst v) w → Exit.then K Q (.panic c) a w := by
  subst hQ; exact fun o ho c a v w h => panic_put (P := P) (fn := fn) (R := R) o ho c a v w h
end Go.Hay
