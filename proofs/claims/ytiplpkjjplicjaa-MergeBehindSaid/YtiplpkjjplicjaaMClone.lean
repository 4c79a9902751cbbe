/- slices.Clone of a row of numbers; a row that is one longer. -/
import Derived.Test.YtiplpkjjplicjaaTree
import Derived.Test.YtiplpkjjplicjaaPair
set_option linter.unusedVariables false
set_option linter.unusedSimpArgs false
namespace Go.Proofs.Ytiplpkjjplicjaa.H
open Go.RowKit Go.Hay Go.Proofs.YtiplpkjjplicjaaW.PrintWords Go.Proofs.YtiplpkjjplicjaaW.PrintLast Go.Proofs.YtiplpkjjplicjaaW.PrintMore
theorem info3 : (Try.prog.info? 3).map (fun i => (i.zero, i.size, i.bytes)) = some (some (.int .i64 0), 1, 8) := by kernel_rfl
theorem info2 : (Try.prog.info? 2).map (fun i => (i.zero, i.size, i.bytes)) = some (some (.int .i64 0), 1, 8) := by kernel_rfl
/-- A path: nil, or a row. -/
def PathIs (w : World) (A : Option Addr) (c : Nat) (path : List Int) : Prop := (Kd.int .i64).C w A path.length path ∧ ((A = none ∧ c = 0 ∧ path = []) ∨ ((∃ ad, A = some ad) ∧ path.length ≤ c)) ∧ ∀ ad, A = some ad → ad.block < w.heap.size
theorem PathIs.len {w : World} {A : Option Addr} {c : Nat} {path : List Int} (h : PathIs w A c path) : path.length ≤ c := by
  rcases h.2.1 with ⟨_, h2, h3⟩ | ⟨_, h2⟩
  · rw [h2, h3]; exact Nat.le_refl _
  · exact h2
set_option maxRecDepth 100000 in
set_option maxHeartbeats 4000000 in
theorem clone_any (A : Option Addr) (c : Nat) (path : List Int) (w : World) (h : PathIs w A c path) (hl : path.length ≤ 1000) :
    Calls Try.prog 29 #[.slice A path.length c] w fun e w' => ∃ v, e = .returned v ∧ (Kd.int .i64).R 3 w' w.heap.size (fun _ => True) v path ∧ Below w.heap.size w w' := by
  obtain ⟨hC, ⟨rfl, rfl, rfl⟩ | ⟨⟨ad, rfl⟩, _⟩, _⟩ := h
  · have HB := Aside0.mk (Below.refl w.heap.size w)
    have he : ∀ w : World, (binOp .eql 31 (.slice none 0 0) (.slice none 0 0)).run Try.prog w = .ok (.bool true) w := fun _ => rfl
    clear hC
    go_enter Try.func29, Try.ntmps29
    go_wp2_with fail
    go_ret
    exact ⟨_, rfl, Kd.R_nil _ _ _ _ _, HB.out⟩
  · have HC := Aside0.mk hC
    have HB := Aside0.mk (Below.refl w.heap.size w)
    have he : ∀ w : World, (binOp .eql 31 (.slice (some ad) path.length c) (.slice none 0 0)).run Try.prog w = .ok (.bool false) w := fun _ => rfl
    have hl8 : (0 + path.length) * 8 ≤ 140737488355328 := by omega
    clear hC
    go_enter Try.func29, Try.ntmps29
    have hnew : (Kd.int .i64).R 3 (w.alloc (.cells #[] 3)) w.heap.size (fun _ => True) (.slice (some ⟨w.heap.size, 0, none⟩) 0 0) [] :=
      ⟨fun _ _ => trivial, [], ⟨rfl, .inr ⟨w.heap.size, 0, #[], rfl, Nat.le_refl _, alloc_blk _ _, Nat.le_refl _, by decide, rfl, rfl⟩⟩, Reps.none _ _⟩
    go_wp2_with (first | ((with_reducible refine gate_builtin (b := .append) (xs := #[.tmp 5, .tmp 6]) rfl ?_); refine Kd.R_append_rows (Kd.int .i64) (w0 := w) w.heap.size rfl (.tmp 5) (.tmp 6) 31 3 (.int .i64 0) 8 rfl Try.underlying31 info3 rfl (by decide) (by omega) _ [] path _ _ _ (fun _ => True) (fun _ => False) rfl rfl ?aO ?aR (fun _ _ h => h) (fun _ h => h.elim) ?aF ?aB ?aS ?aL ?_))
    case aO => exact hnew
    case aR => exact Kd.C_alloc HC.out _
    case aF => exact fun _ _ => trivial
    case aB => exact HB.out.alloc (Nat.le_refl _) _
    case aS => simp
    case aL => simpa using hl8
    intro v1 w1 hR hb1 _ _
    have HR1 := Aside0.mk hR
    have HB1 := Aside0.mk hb1
    clear hR hb1 hnew
    go_wp2_with fail
    go_ret
    exact ⟨v1, rfl, HR1.out, HB1.out⟩
#print axioms clone_any
end Go.Proofs.Ytiplpkjjplicjaa.H
