/- A plain run, instruction by instruction. -/
import Derived.Test.YtnhipdniceoigaaEvH
set_option linter.unusedVariables false
set_option linter.unusedSimpArgs false
namespace Go.Proofs.Ytnhipdniceoigaa.H
open Go.RowKit Go.Hay Go.Proofs.YtnhipdniceoigaaW.PrintWords Go.Proofs.YtnhipdniceoigaaW.PrintLast Go.Proofs.YtnhipdniceoigaaW.PrintMore
theorem evalR_end {l : List S58} {args : List Int} {b d : Int} {most : Nat} (h : evRight l args.length b d = true) : evalR l args b d most = endR (runP l b d (most + 1) ⟨most, [], [([], 0)]⟩ [] (rd_T58 l 0).f1 0 (newTask args noHands)) := by
  unfold evalR evalP
  rw [if_pos h]
  have e : beginP l b d (most + 1) ⟨most, [], []⟩ 0 [] args noHands = runP l b d (most + 1) ⟨most, [], [([], 0)]⟩ [] (rd_T58 l 0).f1 0 (newTask args noHands) := rfl
  rw [e]
  obtain ⟨o, G⟩ := runP l b d (most + 1) ⟨most, [], [([], 0)]⟩ [] (rd_T58 l 0).f1 0 (newTask args noHands)
  cases o <;> rfl
section
variable {l : List S58} {b d : Int} {k n me : Nat} {told : List Int} {log : List (List Int × Int)} {path : List Int} {code : List S55} {T T' : Ts} {x : S55}
/-- an instruction that concerns the task alone. -/
theorem q_go (x : S55) (hb : (log.getD me ([], 0)).2 ≠ b) (hx : rd_T55 code T.at_ = x) (h3 : x.f0 ≠ 17 ∧ x.f0 ≠ 11 ∧ x.f0 ≠ 13 ∧ x.f0 ≠ 15) (hs : simple x { T with at_ := T.at_ + 1 } = .go T') :
    runP l b d (k + 1) ⟨n + 1, told, log⟩ path code me T = runP l b d k ⟨n, told, bump log me⟩ path code me T' := by
  refine runP_go hb (Nat.succ_ne_zero n) hx h3.1 ?_
  unfold stepP
  rw [if_neg (by omega), if_neg h3.2.2.2, hs]
  rfl
theorem q_fail (x : S55) {why : Int} (hb : (log.getD me ([], 0)).2 ≠ b) (hx : rd_T55 code T.at_ = x) (h3 : x.f0 ≠ 17 ∧ x.f0 ≠ 11 ∧ x.f0 ≠ 13 ∧ x.f0 ≠ 15) (hs : simple x { T with at_ := T.at_ + 1 } = .stop why) :
    runP l b d (k + 1) ⟨n + 1, told, log⟩ path code me T = (.fail why, ⟨n, told, bump log me⟩) := by
  refine runP_stop hb (Nat.succ_ne_zero n) hx h3.1 ?_
  unfold stepP
  rw [if_neg (by omega), if_neg h3.2.2.2, hs]
  rfl
theorem q_emit (x : S55) (hb : (log.getD me ([], 0)).2 ≠ b) (hx : rd_T55 code T.at_ = x) (h3 : x.f0 = 15) :
    runP l b d (k + 1) ⟨n + 1, told, log⟩ path code me T = runP l b d k ⟨n, told ++ [rg T x.f1], bump log me⟩ path code me { T with at_ := T.at_ + 1 } := by
  refine runP_go hb (Nat.succ_ne_zero n) hx (by omega) ?_
  unfold stepP
  rw [if_neg (by omega), if_pos h3]
  rfl
theorem q_ret (x : S55) (hb : (log.getD me ([], 0)).2 ≠ b) (hx : rd_T55 code T.at_ = x) (h3 : x.f0 = 17) :
    runP l b d (k + 1) ⟨n + 1, told, log⟩ path code me T = (.val (rg (syncP { T with at_ := T.at_ + 1 }) x.f1), ⟨n, told, bump log me⟩) :=
  runP_ret hb (Nat.succ_ne_zero n) hx h3
theorem q_budget (hb : (log.getD me ([], 0)).2 = b) : runP l b d (k + 1) ⟨n, told, log⟩ path code me T = (.fail 3, ⟨n, told, log⟩) := by
  rw [runP.eq_2, if_pos hb]
theorem q_deep (x : S55) (hb : (log.getD me ([], 0)).2 ≠ b) (hx : rd_T55 code T.at_ = x) (h3 : x.f0 = 11 ∨ x.f0 = 13) (hd : (path.length : Int) = d) :
    runP l b d (k + 1) ⟨n + 1, told, log⟩ path code me T = (.fail 4, ⟨n, told, bump log me⟩) := by
  refine runP_stop hb (Nat.succ_ne_zero n) hx (by omega) ?_
  unfold stepP
  rw [if_pos h3, if_pos hd]
  rfl
/-- what a task that begins another one goes on with. -/
def goOn (x : S55) (T : Ts) (v : Int) : Ts := if x.f0 = 11 then { T with kids := T.kids + 1, wait := T.wait ++ [(x.f1, v)] } else { T with kids := T.kids + 1, hands := T.hands.set x.f1.toNat (true, v) }
theorem q_kid (x : S55) {o : Out} {G2 : Gs} (hb : (log.getD me ([], 0)).2 ≠ b) (hx : rd_T55 code T.at_ = x) (h3 : x.f0 = 11 ∨ x.f0 = 13) (hd : (path.length : Int) ≠ d)
    (hr : runP l b d k ⟨n, told, bump log me ++ [(path ++ [(T.kids : Int)], 0)]⟩ (path ++ [(T.kids : Int)]) (rd_T58 l x.f3).f1 (bump log me).length (newTask (argsOf l x T) T.hands) = (o, G2)) :
    runP l b d (k + 1) ⟨n + 1, told, log⟩ path code me T = (match o with | .val v => runP l b d k G2 path code me (goOn x { T with at_ := T.at_ + 1 } v) | o => (o, G2)) := by
  have hs : stepP l d (runP l b d k) path x { T with at_ := T.at_ + 1 } { left := n + 1 - 1, told := told, log := bump log me } = (match o with | .val v => .go (goOn x { T with at_ := T.at_ + 1 } v) G2 | o => .stop o G2) := by
    unfold stepP
    rw [if_pos h3, if_neg hd]
    have e : runP l b d k { left := n + 1 - 1, told := told, log := bump log me ++ [(path ++ [(T.kids : Int)], 0)] } (path ++ [(T.kids : Int)]) (rd_T58 l x.f3).f1 (bump log me).length (newTask (argsOf l x { T with at_ := T.at_ + 1 }) T.hands) = (o, G2) := hr
    show (match runP l b d k { left := n + 1 - 1, told := told, log := bump log me ++ [(path ++ [(T.kids : Int)], 0)] } (path ++ [(T.kids : Int)]) (rd_T58 l x.f3).f1 (bump log me).length (newTask (argsOf l x { T with at_ := T.at_ + 1 }) T.hands) with
      | (.val v, G2) => SR.go (if x.f0 = 11 then { ({ T with at_ := T.at_ + 1 } : Ts) with kids := T.kids + 1, wait := T.wait ++ [(x.f1, v)] } else { ({ T with at_ := T.at_ + 1 } : Ts) with kids := T.kids + 1, hands := T.hands.set x.f1.toNat (true, v) }) G2
      | (o, G2) => SR.stop o G2) = _
    rw [e]
    cases o <;> rfl
  cases o with
  | val v => exact runP_go hb (Nat.succ_ne_zero n) hx (by omega) hs
  | fail why => exact runP_stop hb (Nat.succ_ne_zero n) hx (by omega) hs
  | long => exact runP_stop hb (Nat.succ_ne_zero n) hx (by omega) hs
end
/-- a program of one function, and its arguments, newly written. -/
theorem prog1_C (w : World) (f : S58) (args : List Int) (hf : f.f1.length ≤ 1000) (ha : args.length ≤ 1000) {W : World} (hW : W = ((w.alloc (.cells (f.f1.flatMap icells).toArray 55)).alloc (.cells #[.int .i64 f.f0, .slice (some ⟨w.heap.size, 0, none⟩) f.f1.length f.f1.length] 58)).alloc (.cells (args.map (Value.int .i64)).toArray 2)) :
    Below w.heap.size w W ∧ k58.C W (some ⟨w.heap.size + 1, 0, none⟩) 1 [f] ∧ (Kd.int .i64).C W (some ⟨w.heap.size + 1 + 1, 0, none⟩) args.length args := by
  have e1 : (w.alloc (.cells (f.f1.flatMap icells).toArray 55)).heap.size = w.heap.size + 1 := Array.size_push _
  have e2 : ((w.alloc (.cells (f.f1.flatMap icells).toArray 55)).alloc (.cells #[.int .i64 f.f0, .slice (some ⟨w.heap.size, 0, none⟩) f.f1.length f.f1.length] 58)).heap.size = w.heap.size + 1 + 1 := by rw [← e1]; exact Array.size_push _
  have b1 := (Below.refl w.heap.size w).alloc (Nat.le_refl _) (.cells (f.f1.flatMap icells).toArray 55)
  have b2 := b1.alloc b1.size (.cells #[.int .i64 f.f0, .slice (some ⟨w.heap.size, 0, none⟩) f.f1.length f.f1.length] 58)
  have b3 := b2.alloc b2.size (.cells (args.map (Value.int .i64)).toArray 2)
  have h1 : W.heap[w.heap.size]? = some (.cells (f.f1.flatMap icells).toArray 55 (0, 0)) := by rw [hW]; exact blk_alloc (blk_alloc (alloc_blk w _) _) _
  have h2 : W.heap[w.heap.size + 1]? = some (.cells (([(f, some ⟨w.heap.size, 0, none⟩, f.f1.length)] : List (S58 × Option Addr × Nat)).flatMap fcells).toArray 58 (0, 0)) := by
    have := alloc_blk (w.alloc (.cells (f.f1.flatMap icells).toArray 55)) (.cells #[.int .i64 f.f0, .slice (some ⟨w.heap.size, 0, none⟩) f.f1.length f.f1.length] 58)
    rw [e1] at this
    rw [hW]; exact blk_alloc this _
  have h3 : W.heap[w.heap.size + 1 + 1]? = some (.cells (args.map (Value.int .i64)).toArray 2 (0, 0)) := by
    have := alloc_blk ((w.alloc (.cells (f.f1.flatMap icells).toArray 55)).alloc (.cells #[.int .i64 f.f0, .slice (some ⟨w.heap.size, 0, none⟩) f.f1.length f.f1.length] 58)) (.cells (args.map (Value.int .i64)).toArray 2)
    rw [e2] at this
    rw [hW]; exact this
  refine ⟨by rw [hW]; exact b3, prog_C [(f, some ⟨w.heap.size, 0, none⟩, f.f1.length)] h2 (by simp) (fun p hp => ?_), reads_nums args h3 (by omega)⟩
  obtain rfl := List.mem_singleton.1 hp
  exact ⟨code_C _ h1 (by show f.f1.length ≤ _; omega), Nat.le_refl _⟩
end Go.Proofs.Ytnhipdniceoigaa.H
