/- What the laws' walks share. -/
import Derived.Test.YtnhipdniceoigaaEvQ
set_option linter.unusedVariables false
set_option linter.unusedSimpArgs false
namespace Go.Proofs.Ytnhipdniceoigaa.H
open Go.RowKit Go.Hay Go.Proofs.YtnhipdniceoigaaW.PrintWords Go.Proofs.YtnhipdniceoigaaW.PrintLast Go.Proofs.YtnhipdniceoigaaW.PrintMore
def inR (lo hi n : Int) : Bool := decide (lo ≤ n ∧ n < hi)
theorem i64_small {i : Nat} (h : i < 100) : IntKind.i64.wrap ((i : Int) + 1) = (i : Int) + 1 := IntWalk.i64_in _ (by omega)
theorem i64_sub {i k : Nat} (h : i < k) (hk : k < 100) : IntKind.i64.wrap ((k : Int) - i) = (k : Int) - i := IntWalk.i64_in _ (by omega)
theorem le_true {i k : Nat} (h : i ≤ k) : ((i : Int) ≤ (k : Int)) = True := eq_true (by omega)
theorem lt_true {i k : Nat} (h : i < k) : ((i : Int) < (k : Nat)) = True := eq_true (by omega)
theorem up_lt {k i : Nat} (h : i < k) : k - (intOf (.int .i64 ((i : Int) + 1))).toNat < k - (intOf (.int .i64 (i : Int))).toNat := by simp [intOf]; omega
theorem infoI : (Try.prog.info? 55).map (fun i => (i.zero, i.size, i.bytes)) = some (some (.agg #[.int .i64 0, .int .i64 0, .int .i64 0, .int .i64 0, .int .i64 0]), 5, 40) := by kernel_rfl
/-- a row of instructions, newly written. -/
theorem code_R (W : World) (xs : List S55) (hl : xs.length ≤ 1000) : k55.R 55 (W.alloc (.cells (xs.flatMap icells).toArray 55)) W.heap.size (fun _ => True) (.slice (some ⟨W.heap.size, 0, none⟩) xs.length xs.length) xs := by
  have hlen : (xs.flatMap icells).length = xs.length * 5 := by
    clear hl
    induction xs with
    | nil => rfl
    | cons x xs ih => rw [List.flatMap_cons, List.length_append, ih, List.length_cons, Nat.succ_mul, Nat.add_comm]; rfl
  refine ⟨fun _ _ => trivial, xs.flatMap icells, ?_, ⟨hlen, fun j p hj => ?_⟩⟩
  · have h2 := World.ownsRow_lit (base := W.heap.size) (e := 55) (size := k55.sz) W (xs.flatMap icells).toArray xs.length (Nat.le_refl _) (by unfold maxLen; omega) (show (xs.flatMap icells).toArray.size = xs.length * 5 from hlen)
    simpa using h2
  · have hlt : j < xs.length := (List.getElem?_eq_some_iff.1 hj).1
    rw [List.getElem?_eq_getElem hlt] at hj
    have hj : xs[j] = p := Option.some.inj hj
    subst hj
    have := flatMap_piece (s := 5) icells xs (fun _ _ => rfl) j hlt
    show k55.M _ _ _ _ (((xs.flatMap icells).drop (j * 5)).take 5)
    rw [this]
    exact k55_mkM _ _ _ _
/-- a row of instructions is appended. -/
theorem wpList_codes {ops : Array Oper} {rest : List Oper} {o : Oper} {a : Act} {Q : Exit → Act → World → Prop} (hgd : o.guard = none) (s x : Operand)
    (ho : o.op = .call { callee := .builtin .append, args := #[s, x], argTypes := #[56, 56] }) {w W : World} {b0 : Nat} {v : Value} (xs ys : List S55) (hb : Below w.heap.size w W) (hw : w.heap.size ≤ b0) (hR : k55.R 55 W b0 (fun _ => True) v xs) (hbW : b0 ≤ W.heap.size) (hl : xs.length + ys.length ≤ 1000)
    (hs : a.eval s = v) (bk : Nat) (hbk : W.heap.size = bk) (hx : a.eval x = .slice (some ⟨bk, 0, none⟩) ys.length ys.length)
    (h : ∀ A9 c9 w9, Below w.heap.size w w9 → k55.C w9 A9 (xs ++ ys).length (xs ++ ys) → (xs ++ ys).length ≤ c9 → wpList Try.prog ops Q rest (a.put o.dst (.slice A9 (xs ++ ys).length c9)) w9) :
    wpList Try.prog ops Q (o :: rest) a (W.alloc (.cells (ys.flatMap icells).toArray 55)) := by
  subst hbk
  have hba : Below W.heap.size W (W.alloc (.cells (ys.flatMap icells).toArray 55)) := (Below.refl _ _).alloc (Nat.le_refl _) _
  have hR2 : k55.R 55 (W.alloc (.cells (ys.flatMap icells).toArray 55)) b0 (fun _ => True) v xs := Kd.R_alloc hR _
  have hy := reads_flat (W := W.alloc (.cells (ys.flatMap icells).toArray 55)) (b := W.heap.size) (t := 55) (fr := (0, 0)) (R := k55.M (W.alloc (.cells (ys.flatMap icells).toArray 55)) b0 (fun _ => False)) (s := 5) id icells ys (fun _ _ => rfl) (fun x _ => k55_mkM _ _ _ x) (alloc_blk W _) (by omega)
  rw [List.map_id] at hy
  refine wpList_plain hgd (fun K hK => ?_)
  refine wp_append_rows k55 (Rr := k55.M (W.alloc (.cells (ys.flatMap icells).toArray 55)) b0 (fun _ => False)) b0 hgd s x 56 55 (.agg #[.int .i64 0, .int .i64 0, .int .i64 0, .int .i64 0, .int .i64 0]) 40 ho Try.underlying56 infoI rfl (by decide) (by decide) v xs ys _ _ _ (fun _ => True) (fun _ => False) hs hx hR2 hy (fun _ _ h => h) (fun _ h => h.elim) (fun _ _ => trivial) (Nat.le_trans hbW hba.size) (by omega) ?_
  intro v9 w9 hR9 hbw hgr hat
  obtain ⟨A9, c9, rfl⟩ := Kd.R_slice hR9
  have hq := Kd.R_reads' hR9
  exact hK _ _ (h A9 c9 w9 ((hb.trans (hba.mono hb.size)).trans (hbw.mono hw)) hq.2.2 hq.2.1)
end Go.Proofs.Ytnhipdniceoigaa.H
