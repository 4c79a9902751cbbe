-- made by this session's gen.py: the row of the law haymow/haymowlaw03.ValidFits; not trusted: Lean checks it
import Derived.Test.YtkbbgkhanmmhpaaRows
import Derived.Test.YtkbbgkhanmmhpaaH23
import Derived.Test.YtkbbgkhanmmhpaaOpens
import Derived.WalkKit
import Derived.ProofKit
import Derived.OpenShut
import Derived.ShutString
import Derived.ChangeOld
import Derived.Below
import Derived.SizedLaws
namespace Go.Proofs.Ytkbbgkhanmmhpaa.validFits
open Go.ChangeShapes Go.WideShapes Go.ChangeAt Go.RowKit Go.Hay Go.Proofs.Ytkbbgkhanmmhpaa.H Go.Proofs.YtkbbgkhanmmhpaaW.PrintWords Go.Proofs.YtkbbgkhanmmhpaaW.PrintLast Go.Proofs.YtkbbgkhanmmhpaaW.PrintMore
open Go.ChangeMaps (open_string shut_string)
set_option linter.unusedVariables false
set_option linter.unusedSimpArgs false
theorem own : ownKnob Try.prog.godebug = none := by kernel_rfl
theorem laidOut : laidOutB Try.prog = true := by kernel_rfl
theorem opens3 : Opens Try.prog 3 (Kd.int .i64) (fun x => (Lit.int .i64 x).wf = true) := opens_int Try.underlying3
def wfT58 (x : S58) : Prop := ((Lit.int .i64 x.f0).wf = true ∧ (Lit.int .i64 x.f1).wf = true ∧ (Lit.int .i64 x.f2).wf = true ∧ (Lit.int .i64 x.f3).wf = true ∧ (Lit.int .i64 x.f4).wf = true)
theorem opens58 : Opens Try.prog 58 k58 wfT58 := opens_iso _ (fun y => (⟨y.1, y.2.1, y.2.2.1, y.2.2.2.1, y.2.2.2.2⟩ : S58)) (fun _ => rfl) (opens_struct Try.underlying58 (by kernel_rfl) (opens_cons rfl (by kernel_rfl) opens3 (opens_cons rfl (by kernel_rfl) opens3 (opens_cons rfl (by kernel_rfl) opens3 (opens_cons rfl (by kernel_rfl) opens3 (opens_last rfl (by kernel_rfl) opens3))))))
theorem opens48 : Opens Try.prog 48 (Kd.slice 58 k58) (fun x => (∀ y48 ∈ x, wfT58 y48)) := opens_slice (e := 58) Try.underlying48 (by kernel_rfl) opens58
def wfT50 (x : S50) : Prop := ((Lit.int .i64 x.f0).wf = true ∧ (∀ y48 ∈ x.f1, wfT58 y48))
theorem opens50 : Opens Try.prog 50 k50 wfT50 := opens_iso _ (fun y => (⟨y.1, y.2⟩ : S50)) (fun _ => rfl) (opens_struct Try.underlying50 (by kernel_rfl) (opens_cons rfl (by kernel_rfl) opens3 (opens_last rfl (by kernel_rfl) opens48)))
theorem opens22 : Opens Try.prog 22 (Kd.slice 50 k50) (fun x => (∀ y22 ∈ x, wfT50 y22)) := opens_slice (e := 50) Try.underlying22 (by kernel_rfl) opens50
def Pure : Prop := ∀ (l0 : List (S50)), (∀ y22 ∈ l0, wfT50 y22) → ∃ k, haymowlaw03_ValidFits.f k l0 = some true
set_option maxRecDepth 100000 in
theorem lifted (PU : Pure) (os : Os) (started : os.Started) (H : Type) (enc : TypeId × Value → H) :
    ReturnsInHanded {} Try.checked os 8 .any (Rows.validFitsSpec.pre6 enc Try.prog Try.f8 Rows.validFitsRow.domain false) (Rows.validFitsSpec.post enc Try.prog Try.f8 false true false false) := by
  refine returnsInHanded_of_change_sized (C := Try.checked) own started (by kernel_rfl) Try.func8
    (ChangeSpec.witness6 (enc := enc) (C := Try.checked) false ⟨#[], #[.slice none 0 0], []⟩ 8 (by kernel_rfl) (by kernel_rfl) (by kernel_rfl) (by kernel_rfl)) ?_
  intro W base args ds gs before hval0 hW hcnd hsz0 _
  have hval : ∀ (j : Nat) t v, Try.f8.params[j]? = some t → args[j]? = some v → Value.okWide Try.prog W .any base t v := hval0
  have hW' := hW
  obtain ⟨p, q, hA0, hV, rfl, hfz, hnd⟩ := hW
  have hA : DataW.TrodAll enc Try.prog W 0 (fun _ => true) true Try.f8.params.toList args.toList ds p := hA0
  rw [Try.params8] at hA hval
  obtain ⟨v0, vs0, d0, ds0, p0, q0, hargs, rfl, rfl, h0, r0⟩ := trodAll_cons hA
  obtain ⟨rfl, rfl, rfl⟩ := trodAll_nil r0
  obtain rfl : args = #[v0] := by cases args; simp_all
  obtain ⟨rfl, rfl⟩ := trodVars_none hV
  obtain ⟨a0, len0, cap0, rfl⟩ := okWide_slice Try.underlying22 (hval 0 22 v0 rfl rfl)
  have k0 := h0
  have lt0 : ∀ x ∈ p0, x.block < W.heap.size := by obtain ⟨m, hm⟩ := k0; exact DataW.trod_lt m _ _ _ hm
  obtain ⟨fuel0, hf0⟩ := h0
  obtain ⟨l0, ⟨A0, c0, hcs0, hc0, hC0⟩, hwf0⟩ := opens22 hf0
  obtain ⟨rfl, rfl, rfl⟩ : a0 = A0 ∧ len0 = l0.length ∧ cap0 = c0 := by simpa [Value.cells] using hcs0
  clear hcs0
  clear hA0 hval0 hsz0
  obtain ⟨k, hpure⟩ := PU l0 hwf0
  refine (haymowlaw03_ValidFits.calls k _ _ l0 true W hC0 hc0 hpure).mono fun e W' hpost => ?_
  obtain ⟨he, bel⟩ := hpost
  subst he
  exact ⟨_, rfl, _, _, _, [], _, [], hW', trodAll_mk1 (shut_bool Try.underlying4 _), (trodAll_cons_mk (Below.trod laidOut (by kernel_rfl) (of_decide_eq_true (by kernel_rfl)) k0 bel lt0) trodAll_mk0), rfl, bel.frame _, fun h => by cases h⟩
theorem over (PU : Pure) : Rows.validFitsRow.holds Try.pinned (OpenSpec.ofChange Rows.validFitsSpec) :=
  OpenClaim.holds_of_wide 8 Try.f8 rfl rfl rfl rfl rfl rfl rfl ⟨rfl, rfl, rfl, rfl, rfl⟩ rfl rfl rfl rfl rfl (by kernel_rfl) Try.func8 (by kernel_rfl)
    (of_decide_eq_true (by kernel_rfl)) (by unfold Func.isWrapper; first | (rw [if_pos (by decide +kernel)]; kernel_rfl) | (rw [if_neg (by decide +kernel)]; exact ⟨rfl, rfl⟩))
    (fun os started H enc _ => lifted PU os started H enc)
theorem said (PU : Pure) : Rows.ValidFitsSaid := over PU
end Go.Proofs.Ytkbbgkhanmmhpaa.validFits
