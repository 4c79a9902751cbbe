-- made by this session's gen.py: the row of the law haymow/haymowlaw07.MergeBehind; not trusted: Lean checks it
import Derived.Test.YtiplpkjjplicjaaRows
import Derived.Test.YtiplpkjjplicjaaMBehind
import Derived.Test.YtiplpkjjplicjaaOpens
import Derived.WalkKit
import Derived.ProofKit
import Derived.OpenShut
import Derived.ShutString
import Derived.ChangeOld
import Derived.Below
import Derived.SizedLaws
namespace Go.Proofs.Ytiplpkjjplicjaa.mergeBehind
open Go.ChangeShapes Go.WideShapes Go.ChangeAt Go.RowKit Go.Hay Go.Proofs.Ytiplpkjjplicjaa.H Go.Proofs.YtiplpkjjplicjaaW.PrintWords Go.Proofs.YtiplpkjjplicjaaW.PrintLast Go.Proofs.YtiplpkjjplicjaaW.PrintMore
open Go.ChangeMaps (open_string shut_string)
set_option linter.unusedVariables false
set_option linter.unusedSimpArgs false
theorem own : ownKnob Try.prog.godebug = none := by kernel_rfl
theorem laidOut : laidOutB Try.prog = true := by kernel_rfl
theorem opens4 : Opens Try.prog 4 Kd.bool (fun x => True) := opens_bool Try.underlying4
theorem opens2 : Opens Try.prog 2 (Kd.int .i64) (fun x => (Lit.int .i64 x).wf = true) := opens_int Try.underlying2
def wfT64 (x : S64) : Prop := (True ∧ (Lit.int .i64 x.f1).wf = true)
theorem opens64 : Opens Try.prog 64 k64 wfT64 := opens_iso _ (fun y => (⟨y.1, y.2⟩ : S64)) (fun _ => rfl) (opens_struct Try.underlying64 (by kernel_rfl) (opens_cons rfl (by kernel_rfl) opens4 (opens_last rfl (by kernel_rfl) opens2)))
theorem opens59 : Opens Try.prog 59 (Kd.slice 64 k64) (fun x => (∀ y59 ∈ x, wfT64 y59)) := opens_slice (e := 64) Try.underlying59 (by kernel_rfl) opens64
theorem opens3 : Opens Try.prog 3 (Kd.int .i64) (fun x => (Lit.int .i64 x).wf = true) := opens_int Try.underlying3
theorem opens5 : Opens Try.prog 5 (Kd.int .u8) (fun x => (Lit.int .u8 x).wf = true) := opens_int Try.underlying5
def wfT61 (x : S61) : Prop := ((∀ y59 ∈ x.f0, wfT64 y59) ∧ (Lit.int .i64 x.f1).wf = true ∧ (Lit.int .i64 x.f2).wf = true ∧ (Lit.int .u8 x.f3).wf = true)
theorem opens61 : Opens Try.prog 61 k61 wfT61 := opens_iso _ (fun y => (⟨y.1, y.2.1, y.2.2.1, y.2.2.2⟩ : S61)) (fun _ => rfl) (opens_struct Try.underlying61 (by kernel_rfl) (opens_cons rfl (by kernel_rfl) opens59 (opens_cons rfl (by kernel_rfl) opens2 (opens_cons rfl (by kernel_rfl) opens3 (opens_last rfl (by kernel_rfl) opens5)))))
theorem opens22 : Opens Try.prog 22 (Kd.slice 61 k61) (fun x => (∀ y22 ∈ x, wfT61 y22)) := opens_slice (e := 61) Try.underlying22 (by kernel_rfl) opens61
theorem opens23 : Opens Try.prog 23 (Kd.slice 2 (Kd.int .i64)) (fun x => (∀ y23 ∈ x, (Lit.int .i64 y23).wf = true)) := opens_slice (e := 2) Try.underlying23 (by kernel_rfl) opens2
def wfT25 (x : S25) : Prop := ((∀ y22 ∈ x.f0, wfT61 y22) ∧ (∀ y23 ∈ x.f1, (Lit.int .i64 y23).wf = true) ∧ (Lit.int .i64 x.f2).wf = true ∧ (Lit.int .u8 x.f3).wf = true)
theorem opens25 : Opens Try.prog 25 k25 wfT25 := opens_iso _ (fun y => (⟨y.1, y.2.1, y.2.2.1, y.2.2.2⟩ : S25)) (fun _ => rfl) (opens_struct Try.underlying25 (by kernel_rfl) (opens_cons rfl (by kernel_rfl) opens22 (opens_cons rfl (by kernel_rfl) opens23 (opens_cons rfl (by kernel_rfl) opens2 (opens_last rfl (by kernel_rfl) opens5)))))
def Pure : Prop := ∀ (l0_0 : List (S61)) (l0_1 : List Int) (a0_2 : Int) (a0_3 : Int), wfT25 ⟨l0_0, l0_1, a0_2, a0_3⟩ → haymowlaw07_MergeBehind.f l0_0 l0_1 a0_2 a0_3 = some true
set_option maxRecDepth 100000 in
theorem lifted (PU : Pure) (os : Os) (started : os.Started) (H : Type) (enc : TypeId × Value → H) :
    ReturnsInHanded {} Try.checked os 3 .any (Rows.mergeBehindSpec.pre6 enc Try.prog Try.f3 Rows.mergeBehindRow.domain false) (Rows.mergeBehindSpec.post enc Try.prog Try.f3 false true false false) := by
  refine returnsInHanded_of_change_sized (C := Try.checked) own started (by kernel_rfl) Try.func3
    (ChangeSpec.witness6 (enc := enc) (C := Try.checked) false ⟨#[], #[.agg #[.slice none 0 0, .slice none 0 0, .int .i64 0, .int .u8 0]], []⟩ 8 (by kernel_rfl) (by kernel_rfl) (by kernel_rfl) (by kernel_rfl)) ?_
  intro W base args ds gs before hval0 hW hcnd hsz0 _
  have hval : ∀ (j : Nat) t v, Try.f3.params[j]? = some t → args[j]? = some v → Value.okWide Try.prog W .any base t v := hval0
  have hW' := hW
  obtain ⟨p, q, hA0, hV, rfl, hfz, hnd⟩ := hW
  have hA : DataW.TrodAll enc Try.prog W 0 (fun _ => true) true Try.f3.params.toList args.toList ds p := hA0
  rw [Try.params3] at hA hval
  obtain ⟨v0, vs0, d0, ds0, p0, q0, hargs, rfl, rfl, h0, r0⟩ := trodAll_cons hA
  obtain ⟨rfl, rfl, rfl⟩ := trodAll_nil r0
  obtain rfl : args = #[v0] := by cases args; simp_all
  obtain ⟨rfl, rfl⟩ := trodVars_none hV
  obtain ⟨cs0, rfl, hz0⟩ := okWide_struct Try.underlying25 (hval 0 25 v0 rfl rfl)
  have k0 := h0
  have lt0 : ∀ x ∈ p0, x.block < W.heap.size := by obtain ⟨m, hm⟩ := k0; exact DataW.trod_lt m _ _ _ hm
  obtain ⟨fuel0, hf0⟩ := h0
  obtain ⟨x0, hK0, hwf0⟩ := opens25 hf0
  obtain ⟨A0_0, c0_0, A0_1, c0_1, hcs0, hc0_0, hC0_0, hc0_1, hC0_1⟩ := k25_open hK0
  obtain rfl : cs0 = #[.slice A0_0 x0.f0.length c0_0, .slice A0_1 x0.f1.length c0_1, .int .i64 x0.f2, .int .u8 x0.f3] := by cases cs0; simpa [Value.cells] using hcs0
  clear hA0 hval0 hsz0
  have hpure := PU x0.f0 x0.f1 x0.f2 x0.f3 hwf0
  refine (haymowlaw07_MergeBehind.calls _ _ x0.f0 _ _ x0.f1 x0.f2 x0.f3 true W hC0_0 hc0_0 hC0_1 hc0_1 hpure).mono fun e W' hpost => ?_
  obtain ⟨he, bel⟩ := hpost
  subst he
  exact ⟨_, rfl, _, _, _, [], _, [], hW', trodAll_mk1 (shut_bool Try.underlying4 _), (trodAll_cons_mk (Below.trod laidOut (by kernel_rfl) (of_decide_eq_true (by kernel_rfl)) k0 bel lt0) trodAll_mk0), rfl, bel.frame _, fun h => by cases h⟩
theorem over (PU : Pure) : Rows.mergeBehindRow.holds Try.pinned (OpenSpec.ofChange Rows.mergeBehindSpec) :=
  OpenClaim.holds_of_wide 3 Try.f3 rfl rfl rfl rfl rfl rfl rfl ⟨rfl, rfl, rfl, rfl, rfl⟩ rfl rfl rfl rfl rfl (by kernel_rfl) Try.func3 (by kernel_rfl)
    (of_decide_eq_true (by kernel_rfl)) (by unfold Func.isWrapper; first | (rw [if_pos (by decide +kernel)]; kernel_rfl) | (rw [if_neg (by decide +kernel)]; exact ⟨rfl, rfl⟩))
    (fun os started H enc _ => lifted PU os started H enc)
theorem said (PU : Pure) : Rows.MergeBehindSaid := over PU
end Go.Proofs.Ytiplpkjjplicjaa.mergeBehind
