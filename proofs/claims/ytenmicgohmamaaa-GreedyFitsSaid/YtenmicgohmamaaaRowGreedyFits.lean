-- made by this session's gen.py: the row of the law haymow/haymowlaw15.GreedyFits; not trusted: Lean checks it
import Derived.Test.YtenmicgohmamaaaRows
import Derived.Test.YtenmicgohmamaaaH18
import Derived.Test.YtenmicgohmamaaaOpens
import Derived.WalkKit
import Derived.ProofKit
import Derived.OpenShut
import Derived.ShutString
import Derived.ChangeOld
import Derived.Below
import Derived.SizedLaws
namespace Go.Proofs.Ytenmicgohmamaaa.greedyFits
open Go.ChangeShapes Go.WideShapes Go.ChangeAt Go.RowKit Go.Hay Go.Proofs.Ytenmicgohmamaaa.H Go.Proofs.YtenmicgohmamaaaW.PrintWords Go.Proofs.YtenmicgohmamaaaW.PrintLast Go.Proofs.YtenmicgohmamaaaW.PrintMore
open Go.ChangeMaps (open_string shut_string)
set_option linter.unusedVariables false
set_option linter.unusedSimpArgs false
theorem own : ownKnob Try.prog.godebug = none := by kernel_rfl
theorem laidOut : laidOutB Try.prog = true := by kernel_rfl
theorem opens3 : Opens Try.prog 3 (Kd.int .i64) (fun x => (Lit.int .i64 x).wf = true) := opens_int Try.underlying3
theorem opens24 : Opens Try.prog 24 (Kd.slice 3 (Kd.int .i64)) (fun x => (∀ y24 ∈ x, (Lit.int .i64 y24).wf = true)) := opens_slice (e := 3) Try.underlying24 (by kernel_rfl) opens3
theorem opens22 : Opens Try.prog 22 (Kd.slice 24 (Kd.slice 3 (Kd.int .i64))) (fun x => (∀ y22 ∈ x, (∀ y24 ∈ y22, (Lit.int .i64 y24).wf = true))) := opens_slice (e := 24) Try.underlying22 (by kernel_rfl) opens24
def Pure : Prop := ∀ (l0 : List (List Int)) (a1 : Int) (l2 : List Int), (∀ y22 ∈ l0, (∀ y24 ∈ y22, (Lit.int .i64 y24).wf = true)) → (Lit.int .i64 a1).wf = true → (∀ y24 ∈ l2, (Lit.int .i64 y24).wf = true) → ∃ k, haymowlaw15_GreedyFits.f k l0 a1 l2 = some true
set_option maxRecDepth 100000 in
theorem lifted (PU : Pure) (os : Os) (started : os.Started) (H : Type) (enc : TypeId × Value → H) :
    ReturnsInHanded {} Try.checked os 6 .any (Rows.greedyFitsSpec.pre6 enc Try.prog Try.f6 Rows.greedyFitsRow.domain false) (Rows.greedyFitsSpec.post enc Try.prog Try.f6 false true false false) := by
  refine returnsInHanded_of_change_sized (C := Try.checked) own started (by kernel_rfl) Try.func6
    (ChangeSpec.witness6 (enc := enc) (C := Try.checked) false ⟨#[], #[.slice none 0 0, .int .i64 0, .slice none 0 0], []⟩ 8 (by kernel_rfl) (by kernel_rfl) (by kernel_rfl) (by kernel_rfl)) ?_
  intro W base args ds gs before hval0 hW hcnd hsz0 _
  have hval : ∀ (j : Nat) t v, Try.f6.params[j]? = some t → args[j]? = some v → Value.okWide Try.prog W .any base t v := hval0
  have hW' := hW
  obtain ⟨p, q, hA0, hV, rfl, hfz, hnd⟩ := hW
  have hA : DataW.TrodAll enc Try.prog W 0 (fun _ => true) true Try.f6.params.toList args.toList ds p := hA0
  rw [Try.params6] at hA hval
  obtain ⟨v0, vs0, d0, ds0, p0, q0, hargs, rfl, rfl, h0, r0⟩ := trodAll_cons hA
  obtain ⟨v1, vs1, d1, ds1, p1, q1, rfl, rfl, rfl, h1, r1⟩ := trodAll_cons r0
  obtain ⟨v2, vs2, d2, ds2, p2, q2, rfl, rfl, rfl, h2, r2⟩ := trodAll_cons r1
  obtain ⟨rfl, rfl, rfl⟩ := trodAll_nil r2
  obtain rfl : args = #[v0, v1, v2] := by cases args; simp_all
  obtain ⟨rfl, rfl⟩ := trodVars_none hV
  obtain ⟨a0, len0, cap0, rfl⟩ := okWide_slice Try.underlying22 (hval 0 22 v0 rfl rfl)
  have k0 := h0
  have lt0 : ∀ x ∈ p0, x.block < W.heap.size := by obtain ⟨m, hm⟩ := k0; exact DataW.trod_lt m _ _ _ hm
  obtain ⟨fuel0, hf0⟩ := h0
  obtain ⟨l0, ⟨A0, c0, hcs0, hc0, hC0⟩, hwf0⟩ := opens22 hf0
  obtain ⟨rfl, rfl, rfl⟩ : a0 = A0 ∧ len0 = l0.length ∧ cap0 = c0 := by simpa [Value.cells] using hcs0
  clear hcs0
  obtain ⟨a1, rfl, rfl, rfl, w1⟩ := open_int Try.underlying3 (hval 1 3 v1 rfl rfl) h1
  obtain ⟨a2, len2, cap2, rfl⟩ := okWide_slice Try.underlying24 (hval 2 24 v2 rfl rfl)
  have k2 := h2
  have lt2 : ∀ x ∈ p2, x.block < W.heap.size := by obtain ⟨m, hm⟩ := k2; exact DataW.trod_lt m _ _ _ hm
  obtain ⟨fuel2, hf2⟩ := h2
  obtain ⟨l2, ⟨A2, c2, hcs2, hc2, hC2⟩, hwf2⟩ := opens24 hf2
  obtain ⟨rfl, rfl, rfl⟩ : a2 = A2 ∧ len2 = l2.length ∧ cap2 = c2 := by simpa [Value.cells] using hcs2
  clear hcs2
  clear hA0 hval0 hsz0
  obtain ⟨k, hpure⟩ := PU l0 a1 l2 hwf0 w1 hwf2
  refine (haymowlaw15_GreedyFits.calls k _ _ l0 a1 _ _ l2 true W hC0 hc0 hC2 hc2 hpure).mono fun e W' hpost => ?_
  obtain ⟨he, bel⟩ := hpost
  subst he
  exact ⟨_, rfl, _, _, _, [], _, [], hW', trodAll_mk1 (shut_bool Try.underlying4 _), (trodAll_cons_mk (Below.trod laidOut (by kernel_rfl) (of_decide_eq_true (by kernel_rfl)) k0 bel lt0) (trodAll_cons_mk (shut_int Try.underlying3 w1) (trodAll_cons_mk (Below.trod laidOut (by kernel_rfl) (of_decide_eq_true (by kernel_rfl)) k2 bel lt2) trodAll_mk0))), rfl, bel.frame _, fun h => by cases h⟩
theorem over (PU : Pure) : Rows.greedyFitsRow.holds Try.pinned (OpenSpec.ofChange Rows.greedyFitsSpec) :=
  OpenClaim.holds_of_wide 6 Try.f6 rfl rfl rfl rfl rfl rfl rfl ⟨rfl, rfl, rfl, rfl, rfl⟩ rfl rfl rfl rfl rfl (by kernel_rfl) Try.func6 (by kernel_rfl)
    (of_decide_eq_true (by kernel_rfl)) (by unfold Func.isWrapper; first | (rw [if_pos (by decide +kernel)]; kernel_rfl) | (rw [if_neg (by decide +kernel)]; exact ⟨rfl, rfl⟩))
    (fun os started H enc _ => lifted PU os started H enc)
theorem said (PU : Pure) : Rows.GreedyFitsSaid := over PU
end Go.Proofs.Ytenmicgohmamaaa.greedyFits
