-- made by this session's gen.py: the row of the law haymow/haymowlaw07.MergeJoins; not trusted: Lean checks it
import Derived.Test.YtiplpkjjplicjaaRows
import Derived.Test.YtiplpkjjplicjaaMJoinsW
import Derived.Test.YtiplpkjjplicjaaOpens
import Derived.WalkKit
import Derived.ProofKit
import Derived.OpenShut
import Derived.ShutString
import Derived.ChangeOld
import Derived.Below
import Derived.SizedLaws
namespace Go.Proofs.Ytiplpkjjplicjaa.mergeJoins
open Go.ChangeShapes Go.WideShapes Go.ChangeAt Go.RowKit Go.Hay Go.Proofs.Ytiplpkjjplicjaa.H Go.Proofs.YtiplpkjjplicjaaW.PrintWords Go.Proofs.YtiplpkjjplicjaaW.PrintLast Go.Proofs.YtiplpkjjplicjaaW.PrintMore
open Go.ChangeMaps (open_string shut_string)
set_option linter.unusedVariables false
set_option linter.unusedSimpArgs false
theorem own : ownKnob Try.prog.godebug = none := by kernel_rfl
theorem laidOut : laidOutB Try.prog = true := by kernel_rfl
theorem opens2 : Opens Try.prog 2 (Kd.int .i64) (fun x => (Lit.int .i64 x).wf = true) := opens_int Try.underlying2
theorem opens23 : Opens Try.prog 23 (Kd.slice 2 (Kd.int .i64)) (fun x => (∀ y23 ∈ x, (Lit.int .i64 y23).wf = true)) := opens_slice (e := 2) Try.underlying23 (by kernel_rfl) opens2
theorem opens49 : Opens Try.prog 49 (Kd.slice 23 (Kd.slice 2 (Kd.int .i64))) (fun x => (∀ y49 ∈ x, (∀ y23 ∈ y49, (Lit.int .i64 y23).wf = true))) := opens_slice (e := 23) Try.underlying49 (by kernel_rfl) opens23
def Pure : Prop := ∀ (l0 : List (List Int)) (a1 : Int), (∀ y49 ∈ l0, (∀ y23 ∈ y49, (Lit.int .i64 y23).wf = true)) → (Lit.int .i64 a1).wf = true → haymowlaw07_MergeJoins.f l0 a1 = some true
set_option maxRecDepth 100000 in
theorem lifted (PU : Pure) (os : Os) (started : os.Started) (H : Type) (enc : TypeId × Value → H) :
    ReturnsInHanded {} Try.checked os 6 .any (Rows.mergeJoinsSpec.pre6 enc Try.prog Try.f6 Rows.mergeJoinsRow.domain false) (Rows.mergeJoinsSpec.post enc Try.prog Try.f6 false true false false) := by
  refine returnsInHanded_of_change_sized (C := Try.checked) own started (by kernel_rfl) Try.func6
    (ChangeSpec.witness6 (enc := enc) (C := Try.checked) false ⟨#[], #[.slice none 0 0, .int .i64 0], []⟩ 8 (by kernel_rfl) (by kernel_rfl) (by kernel_rfl) (by kernel_rfl)) ?_
  intro W base args ds gs before hval0 hW hcnd hsz0 _
  have hval : ∀ (j : Nat) t v, Try.f6.params[j]? = some t → args[j]? = some v → Value.okWide Try.prog W .any base t v := hval0
  have hW' := hW
  obtain ⟨p, q, hA0, hV, rfl, hfz, hnd⟩ := hW
  have hA : DataW.TrodAll enc Try.prog W 0 (fun _ => true) true Try.f6.params.toList args.toList ds p := hA0
  rw [Try.params6] at hA hval
  obtain ⟨v0, vs0, d0, ds0, p0, q0, hargs, rfl, rfl, h0, r0⟩ := trodAll_cons hA
  obtain ⟨v1, vs1, d1, ds1, p1, q1, rfl, rfl, rfl, h1, r1⟩ := trodAll_cons r0
  obtain ⟨rfl, rfl, rfl⟩ := trodAll_nil r1
  obtain rfl : args = #[v0, v1] := by cases args; simp_all
  obtain ⟨rfl, rfl⟩ := trodVars_none hV
  obtain ⟨a0, len0, cap0, rfl⟩ := okWide_slice Try.underlying49 (hval 0 49 v0 rfl rfl)
  have k0 := h0
  have lt0 : ∀ x ∈ p0, x.block < W.heap.size := by obtain ⟨m, hm⟩ := k0; exact DataW.trod_lt m _ _ _ hm
  obtain ⟨fuel0, hf0⟩ := h0
  obtain ⟨l0, ⟨A0, c0, hcs0, hc0, hC0⟩, hwf0⟩ := opens49 hf0
  obtain ⟨rfl, rfl, rfl⟩ : a0 = A0 ∧ len0 = l0.length ∧ cap0 = c0 := by simpa [Value.cells] using hcs0
  clear hcs0
  obtain ⟨a1, rfl, rfl, rfl, w1⟩ := open_int Try.underlying2 (hval 1 2 v1 rfl rfl) h1
  clear hA0 hval0 hsz0
  have hpure := PU l0 a1 hwf0 w1
  refine (haymowlaw07_MergeJoins.calls _ _ l0 a1 true W hC0 hc0 hpure).mono fun e W' hpost => ?_
  obtain ⟨he, bel⟩ := hpost
  subst he
  exact ⟨_, rfl, _, _, _, [], _, [], hW', trodAll_mk1 (shut_bool Try.underlying4 _), (trodAll_cons_mk (Below.trod laidOut (by kernel_rfl) (of_decide_eq_true (by kernel_rfl)) k0 bel lt0) (trodAll_cons_mk (shut_int Try.underlying2 w1) trodAll_mk0)), rfl, bel.frame _, fun h => by cases h⟩
theorem over (PU : Pure) : Rows.mergeJoinsRow.holds Try.pinned (OpenSpec.ofChange Rows.mergeJoinsSpec) :=
  OpenClaim.holds_of_wide 6 Try.f6 rfl rfl rfl rfl rfl rfl rfl ⟨rfl, rfl, rfl, rfl, rfl⟩ rfl rfl rfl rfl rfl (by kernel_rfl) Try.func6 (by kernel_rfl)
    (of_decide_eq_true (by kernel_rfl)) (by unfold Func.isWrapper; first | (rw [if_pos (by decide +kernel)]; kernel_rfl) | (rw [if_neg (by decide +kernel)]; exact ⟨rfl, rfl⟩))
    (fun os started H enc _ => lifted PU os started H enc)
theorem said (PU : Pure) : Rows.MergeJoinsSaid := over PU
end Go.Proofs.Ytiplpkjjplicjaa.mergeJoins
