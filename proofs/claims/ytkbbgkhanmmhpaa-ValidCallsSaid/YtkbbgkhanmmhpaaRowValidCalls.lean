-- made by this session's gen.py: the row of the law haymow/haymowlaw03.ValidCalls; not trusted: Lean checks it
import Derived.Test.YtkbbgkhanmmhpaaRows
import Derived.Test.YtkbbgkhanmmhpaaH15
import Derived.Test.YtkbbgkhanmmhpaaOpens
import Derived.WalkKit
import Derived.ProofKit
import Derived.OpenShut
import Derived.ShutString
import Derived.ChangeOld
import Derived.Below
import Derived.SizedLaws
namespace Go.Proofs.Ytkbbgkhanmmhpaa.validCalls
open Go.ChangeShapes Go.WideShapes Go.ChangeAt Go.RowKit Go.Hay Go.Proofs.Ytkbbgkhanmmhpaa.H Go.Proofs.YtkbbgkhanmmhpaaW.PrintWords Go.Proofs.YtkbbgkhanmmhpaaW.PrintLast Go.Proofs.YtkbbgkhanmmhpaaW.PrintMore
open Go.ChangeMaps (open_string shut_string)
set_option linter.unusedVariables false
set_option linter.unusedSimpArgs false
theorem own : ownKnob Try.prog.godebug = none := by kernel_rfl
theorem laidOut : laidOutB Try.prog = true := by kernel_rfl
theorem opens5 : Opens Try.prog 5 (Kd.int .u8) (fun x => (Lit.int .u8 x).wf = true) := opens_int Try.underlying5
theorem opens3 : Opens Try.prog 3 (Kd.int .i64) (fun x => (Lit.int .i64 x).wf = true) := opens_int Try.underlying3
theorem opens4 : Opens Try.prog 4 Kd.bool (fun x => True) := opens_bool Try.underlying4
structure S40 where
  f0 : Int
  f1 : Int
  f2 : Int
  f3 : Bool
def k40 : Kd S40 := Kd.iso (Kd.pair (Kd.int .u8) (Kd.pair (Kd.int .u8) (Kd.pair (Kd.int .i64) Kd.bool))) (fun x : S40 => (x.f0, x.f1, x.f2, x.f3))
theorem k40_open {w : World} {x : S40} {cs : List Value} (h : k40.K w x cs) : cs = [.int .u8 x.f0, .int .u8 x.f1, .int .i64 x.f2, .bool x.f3] := by
  obtain ⟨_, _, rfl, rfl, ⟨_, _, rfl, rfl, ⟨_, _, rfl, rfl, rfl⟩⟩⟩ := h
  exact rfl
def wfT40 (x : S40) : Prop := ((Lit.int .u8 x.f0).wf = true ∧ (Lit.int .u8 x.f1).wf = true ∧ (Lit.int .i64 x.f2).wf = true ∧ True)
theorem opens40 : Opens Try.prog 40 k40 wfT40 := opens_iso _ (fun y => (⟨y.1, y.2.1, y.2.2.1, y.2.2.2⟩ : S40)) (fun _ => rfl) (opens_struct Try.underlying40 (by kernel_rfl) (opens_cons rfl (by kernel_rfl) opens5 (opens_cons rfl (by kernel_rfl) opens5 (opens_cons rfl (by kernel_rfl) opens3 (opens_last rfl (by kernel_rfl) opens4)))))
def Pure : Prop := ∀ (a0_0 : Int) (a0_1 : Int) (a0_2 : Int) (a0_3 : Bool), wfT40 ⟨a0_0, a0_1, a0_2, a0_3⟩ → ∃ k, haymowlaw03_ValidCalls.f k a0_0 a0_1 a0_2 a0_3 = some true
set_option maxRecDepth 100000 in
theorem lifted (PU : Pure) (os : Os) (started : os.Started) (H : Type) (enc : TypeId × Value → H) :
    ReturnsInHanded {} Try.checked os 6 .any (Rows.validCallsSpec.pre6 enc Try.prog Try.f6 Rows.validCallsRow.domain false) (Rows.validCallsSpec.post enc Try.prog Try.f6 false true false false) := by
  refine returnsInHanded_of_change_sized (C := Try.checked) own started (by kernel_rfl) Try.func6
    (ChangeSpec.witness6 (enc := enc) (C := Try.checked) false ⟨#[], #[.agg #[.int .u8 0, .int .u8 0, .int .i64 0, .bool false]], []⟩ 8 (by kernel_rfl) (by kernel_rfl) (by kernel_rfl) (by kernel_rfl)) ?_
  intro W base args ds gs before hval0 hW hcnd hsz0 _
  have hval : ∀ (j : Nat) t v, Try.f6.params[j]? = some t → args[j]? = some v → Value.okWide Try.prog W .any base t v := hval0
  have hW' := hW
  obtain ⟨p, q, hA0, hV, rfl, hfz, hnd⟩ := hW
  have hA : DataW.TrodAll enc Try.prog W 0 (fun _ => true) true Try.f6.params.toList args.toList ds p := hA0
  rw [Try.params6] at hA hval
  obtain ⟨v0, vs0, d0, ds0, p0, q0, hargs, rfl, rfl, h0, r0⟩ := trodAll_cons hA
  obtain ⟨rfl, rfl, rfl⟩ := trodAll_nil r0
  obtain rfl : args = #[v0] := by cases args; simp_all
  obtain ⟨rfl, rfl⟩ := trodVars_none hV
  obtain ⟨cs0, rfl, hz0⟩ := okWide_struct Try.underlying40 (hval 0 40 v0 rfl rfl)
  have k0 := h0
  have lt0 : ∀ x ∈ p0, x.block < W.heap.size := by obtain ⟨m, hm⟩ := k0; exact DataW.trod_lt m _ _ _ hm
  obtain ⟨fuel0, hf0⟩ := h0
  obtain ⟨x0, hK0, hwf0⟩ := opens40 hf0
  have hcs0 := k40_open hK0
  obtain rfl : cs0 = #[.int .u8 x0.f0, .int .u8 x0.f1, .int .i64 x0.f2, .bool x0.f3] := by cases cs0; simpa [Value.cells] using hcs0
  clear hA0 hval0 hsz0
  obtain ⟨k, hpure⟩ := PU x0.f0 x0.f1 x0.f2 x0.f3 hwf0
  refine (haymowlaw03_ValidCalls.calls k x0.f0 x0.f1 x0.f2 x0.f3 true W hpure).mono fun e W' hpost => ?_
  obtain ⟨he, bel⟩ := hpost
  subst he
  exact ⟨_, rfl, _, _, _, [], _, [], hW', trodAll_mk1 (shut_bool Try.underlying4 _), (trodAll_cons_mk (Below.trod laidOut (by kernel_rfl) (of_decide_eq_true (by kernel_rfl)) k0 bel lt0) trodAll_mk0), rfl, bel.frame _, fun h => by cases h⟩
theorem over (PU : Pure) : Rows.validCallsRow.holds Try.pinned (OpenSpec.ofChange Rows.validCallsSpec) :=
  OpenClaim.holds_of_wide 6 Try.f6 rfl rfl rfl rfl rfl rfl rfl ⟨rfl, rfl, rfl, rfl, rfl⟩ rfl rfl rfl rfl rfl (by kernel_rfl) Try.func6 (by kernel_rfl)
    (of_decide_eq_true (by kernel_rfl)) (by unfold Func.isWrapper; first | (rw [if_pos (by decide +kernel)]; kernel_rfl) | (rw [if_neg (by decide +kernel)]; exact ⟨rfl, rfl⟩))
    (fun os started H enc _ => lifted PU os started H enc)
theorem said (PU : Pure) : Rows.ValidCallsSaid := over PU
end Go.Proofs.Ytkbbgkhanmmhpaa.validCalls
