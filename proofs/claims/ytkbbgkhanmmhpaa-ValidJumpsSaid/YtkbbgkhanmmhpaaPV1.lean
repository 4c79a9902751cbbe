/- Plain law of what may run: the reference answers as the program does. No conditions of a machine. -/
import Derived.Test.YtkbbgkhanmmhpaaH1
import Derived.Test.YtkbbgkhanmmhpaaH7
import Derived.Test.YtkbbgkhanmmhpaaH8
import Derived.Test.YtkbbgkhanmmhpaaH9
import Derived.Test.YtkbbgkhanmmhpaaH10
import Derived.Test.YtkbbgkhanmmhpaaVal
namespace Go.Proofs.Ytkbbgkhanmmhpaa.H
open Go.RowKit Go.Proofs.YtkbbgkhanmmhpaaW.PrintWords Go.Proofs.YtkbbgkhanmmhpaaW.PrintLast Go.Proofs.YtkbbgkhanmmhpaaW.PrintMore
set_option linter.unusedVariables false
set_option linter.unusedSimpArgs false

theorem wrap_id {x : Int} (h0 : -9223372036854775808 ≤ x) (h1 : x < 9223372036854775808) : wrap64 x = x := by unfold wrap64; omega
theorem rd50 {l : List S50} {i : Nat} (h : i < l.length) : rd_T50 l (i : Int) = l[i] := by simp [rd_T50, h]
theorem rd58 {l : List S58} {i : Nat} (h : i < l.length) : rd_T58 l (i : Int) = l[i] := by simp [rd_T58, h]
theorem drop_cons {α : Type} {l : List α} {i : Nat} (h : i < l.length) : l.drop i = l[i] :: l.drop (i + 1) := List.drop_eq_getElem_cons h

def ofI (x : S58) : S33 := ⟨x.f0, x.f1, x.f2, x.f3, x.f4⟩
def ofF (f : S50) : S36 := ⟨f.f0, f.f1.map ofI⟩

theorem light_loop (l : List S50) (hl : l.length ≤ 20) : ∀ (d i : Nat), l.length - i = d → i ≤ l.length → ∃ b, Ev (fun k => haymowlaw03_light.l0 k l i) b ∧ (b = true → ∀ f ∈ l.drop i, f.f1.length ≤ 70)
  | 0, i, hd, hi => by
    obtain rfl : i = l.length := by omega
    refine ⟨true, Ev.step (f := fun _ => some true) (fun k => ?_) (Ev.now _), by simp⟩
    simp [haymowlaw03_light.l0]
  | d + 1, i, hd, hi => by
    have hlt : i < l.length := by omega
    by_cases hb : l[i].f1.length > 70
    · refine ⟨false, Ev.step (f := fun _ => some false) (fun k => ?_) (Ev.now _), by simp⟩
      simp only [haymowlaw03_light.l0, rd50 hlt]
      rw [if_pos (by omega), if_pos (by omega), if_pos (by omega)]
    · obtain ⟨b, h1, h2⟩ := light_loop l hl d (i + 1) (by omega) (by omega)
      refine ⟨b, Ev.step (fun k => ?_) h1, fun e f hf => ?_⟩
      · simp only [haymowlaw03_light.l0, rd50 hlt]
        rw [if_pos (by omega), if_pos (by omega), if_neg (by omega), wrap_id (x := (i : Int) + 1) (by omega) (by omega)]
        rfl
      · rw [drop_cons hlt] at hf
        rcases List.mem_cons.1 hf with rfl | hf
        · omega
        · exact h2 e f hf
theorem light_ev (l : List S50) : ∃ b, Ev (fun k => haymowlaw03_light.f k l) b ∧ (b = true → l.length ≤ 20 ∧ ∀ f ∈ l, f.f1.length ≤ 70) := by
  by_cases hl : (l.length : Int) > 20
  · exact ⟨false, Ev.congr (fun k => by unfold haymowlaw03_light.f; rw [if_pos hl]) (Ev.now _), by simp⟩
  · obtain ⟨b, h1, h2⟩ := light_loop l (by omega) l.length 0 (by omega) (by omega)
    refine ⟨b, Ev.congr (fun k => by unfold haymowlaw03_light.f; rw [if_neg hl]; rfl) h1, fun e => ⟨by omega, fun f hf => h2 e f (by simpa using hf)⟩⟩

theorem of_inner (l : List S50) (acc : List S36) (i : Nat) (hi : i < l.length) (hf : l[i].f1.length ≤ 300) (c : Int) (r : List S36)
    (hnext : ∀ cs, cs = l[i].f1.map ofI → Ev (fun k => haymowlaw03_of.l0 k l (acc ++ [⟨c, cs⟩]) ((i : Int) + 1)) r) (ha : acc.length < 4398046511104) (hil : l.length < 9223372036854775807) :
    ∀ (d j : Nat) (cs : List S33), l[i].f1.length - j = d → j ≤ l[i].f1.length → cs = (l[i].f1.take j).map ofI → Ev (fun k => haymowlaw03_of.l1 k l acc i j c cs) r
  | 0, j, cs, hd, hj, hcs => by
    obtain rfl : j = l[i].f1.length := by omega
    rw [List.take_length] at hcs
    refine Ev.step (fun k => ?_) (hnext cs hcs)
    simp only [haymowlaw03_of.l1, rd50 hi]
    rw [if_pos (by omega), if_pos (by omega), if_neg (by omega), if_pos ha, wrap_id (x := (i : Int) + 1) (by omega) (by omega)]
  | d + 1, j, cs, hd, hj, hcs => by
    have hlt : j < l[i].f1.length := by omega
    refine Ev.step (fun k => ?_) (of_inner l acc i hi hf c r hnext ha hil d (j + 1) (cs ++ [ofI l[i].f1[j]]) (by omega) (by omega) (by rw [hcs, List.take_succ_eq_append_getElem hlt, List.map_append]; rfl))
    have hc : cs.length = j := by rw [hcs]; simp; omega
    simp only [haymowlaw03_of.l1, rd50 hi, rd58 hlt]
    rw [if_pos (by omega), if_pos (by omega), if_pos (by omega), if_pos (by omega), if_pos (by omega), wrap_id (x := (j : Int) + 1) (by omega) (by omega)]
    rfl
theorem of_loop (l : List S50) (hl : l.length ≤ 300) (hf : ∀ f ∈ l, f.f1.length ≤ 300) : ∀ (d i : Nat) (acc : List S36), l.length - i = d → i ≤ l.length → acc = (l.take i).map ofF → Ev (fun k => haymowlaw03_of.l0 k l acc i) (l.map ofF)
  | 0, i, acc, hd, hi, ha => by
    obtain rfl : i = l.length := by omega
    rw [List.take_length] at ha
    subst ha
    refine Ev.step (f := fun _ => some (l.map ofF)) (fun k => ?_) (Ev.now _)
    simp [haymowlaw03_of.l0]
  | d + 1, i, acc, hd, hi, ha => by
    have hlt : i < l.length := by omega
    have hal : acc.length = i := by rw [ha]; simp; omega
    refine Ev.step (fun k => ?_) (of_inner l acc i hlt (hf _ (List.getElem_mem hlt)) l[i].f0 (l.map ofF) (fun cs hcs => ?_) (by omega) (by omega) _ 0 [] rfl (by omega) (by simp))
    · simp only [haymowlaw03_of.l0, rd50 hlt]
      rw [if_pos (by omega), if_pos (by omega)]
      rfl
    · have := of_loop l hl hf d (i + 1) (acc ++ [⟨l[i].f0, cs⟩]) (by omega) (by omega) (by rw [ha, hcs, List.take_succ_eq_append_getElem hlt, List.map_append]; rfl)
      simpa using this
theorem of_ev (l : List S50) (hl : l.length ≤ 300) (hf : ∀ f ∈ l, f.f1.length ≤ 300) : Ev (fun k => haymowlaw03_of.f k l) (l.map ofF) := by
  have := of_loop l hl hf l.length 0 [] (by omega) (by omega) (by simp)
  exact this

/-! ### an instruction -/
def chr : Int → Int
  | 1 => 114 | 2 => 104 | 3 => 102 | 4 => 110 | 5 => 116 | 6 => 99 | _ => 48
section
variable (l : List S50) (f : Nat) (hf : f < l.length) (u : ByteArray) (ns : List Int) (i : Nat) (hi : i < 4) (hu : u.size = 4) (hn : ns.length = 4) (o a b c k0 : Int)
include hi hu hn
theorem l0_step (r : Int) (h : Ev (fun k => haymowref03_instr.l0 k l f u ns ((i + 1 : Nat) : Int) o a b c k0) r) (hz : bt u i = 48 → rd ns i = 0) :
    Ev (fun k => haymowref03_instr.l0 k l f u ns (i : Int) o a b c k0) r := by
  refine Ev.step (fun k => ?_) h
  simp only [haymowref03_instr.l0]
  rw [if_pos (by omega), if_pos (by omega), if_pos (by omega), wrap_id (x := (i : Int) + 1) (by omega) (by omega)]
  by_cases hb : bt u i = 48
  · rw [if_pos hb, if_pos (by omega), if_pos (hz hb)]; rfl
  · rw [if_neg hb]; rfl
theorem l0_no (hb : bt u i = 48) (hz : rd ns i ≠ 0) : Ev (fun k => haymowref03_instr.l0 k l f u ns (i : Int) o a b c k0) 4 := by
  refine Ev.step (f := fun _ => some 4) (fun k => ?_) (Ev.now _)
  simp only [haymowref03_instr.l0]
  rw [if_pos (by omega), if_pos (by omega), if_pos (by omega), if_pos hb, if_pos (by omega), if_neg hz]
omit hi hu hn in
theorem j4_yes : Ev (fun k => haymowref03_instr.j4 k l f u ns i true o a b c k0) 6 := Ev.step (f := fun _ => some 6) (fun k => by simp only [haymowref03_instr.j4, if_true]) (Ev.now _)
omit hi hu hn in
theorem j3_yes : Ev (fun k => haymowref03_instr.j3 k l f u ns i true o a b c k0) 6 := Ev.step (fun k => by simp only [haymowref03_instr.j3, if_true]) (j4_yes l f u ns i o a b c k0)
omit hi hu hn in
theorem j5_yes : Ev (fun k => haymowref03_instr.j5 k l f u ns i true o a b c k0) 5 := Ev.step (f := fun _ => some 5) (fun k => by simp only [haymowref03_instr.j5, if_true]) (Ev.now _)
omit hi hu hn in
theorem j6_yes : Ev (fun k => haymowref03_instr.j6 k l f u ns i true o a b c k0) 6 := Ev.step (f := fun _ => some 6) (fun k => by simp only [haymowref03_instr.j6, if_true]) (Ev.now _)
omit hi hu hn in
theorem j7_yes : Ev (fun k => haymowref03_instr.j7 k l f u ns i true o a b c k0) 6 := Ev.step (f := fun _ => some 6) (fun k => by simp only [haymowref03_instr.j7, if_true]) (Ev.now _)
theorem j7_no (r : Int) (hc : bt u i ≠ 110) (h : Ev (fun k => haymowref03_instr.l1 k l f u ns ((i + 1 : Nat) : Int) o a b c k0) r) : Ev (fun k => haymowref03_instr.j7 k l f u ns (i : Int) false o a b c k0) r := by
  have _ := hn
  refine Ev.step (fun k => ?_) h
  simp only [haymowref03_instr.j7, wrap_id (x := (i : Int) + 1) (by omega) (by omega)]
  rw [if_neg (by simp), if_pos (by omega), if_pos (by omega), if_neg hc]; rfl
theorem j6_no (r : Int) (hc : bt u i ≠ 99) (h : Ev (fun k => haymowref03_instr.j7 k l f u ns i false o a b c k0) r) : Ev (fun k => haymowref03_instr.j6 k l f u ns (i : Int) false o a b c k0) r := by
  have _ := hn
  refine Ev.step (fun k => ?_) h
  simp only [haymowref03_instr.j6]
  rw [if_neg (by simp), if_pos (by omega), if_pos (by omega), if_neg hc]
theorem j5_no (r : Int) (hc : bt u i ≠ 116) (h : Ev (fun k => haymowref03_instr.j6 k l f u ns i false o a b c k0) r) : Ev (fun k => haymowref03_instr.j5 k l f u ns (i : Int) false o a b c k0) r := by
  have _ := hn
  refine Ev.step (fun k => ?_) h
  simp only [haymowref03_instr.j5]
  rw [if_neg (by simp), if_pos (by omega), if_pos (by omega), if_neg hc]
theorem j4_no (r : Int) (hc : bt u i ≠ 102) (h : Ev (fun k => haymowref03_instr.j5 k l f u ns i false o a b c k0) r) : Ev (fun k => haymowref03_instr.j4 k l f u ns (i : Int) false o a b c k0) r := by
  have _ := hn
  refine Ev.step (fun k => ?_) h
  simp only [haymowref03_instr.j4]
  rw [if_neg (by simp), if_pos (by omega), if_pos (by omega), if_neg hc]
theorem j3_no (r : Int) (hc : bt u i ≠ 104) (h : Ev (fun k => haymowref03_instr.j4 k l f u ns i false o a b c k0) r) : Ev (fun k => haymowref03_instr.j3 k l f u ns (i : Int) false o a b c k0) r := by
  have _ := hn
  refine Ev.step (fun k => ?_) h
  simp only [haymowref03_instr.j3]
  rw [if_neg (by simp), if_pos (by omega), if_pos (by omega), if_neg hc]
theorem l1_no (r : Int) (hc : bt u i ≠ 114) (h : Ev (fun k => haymowref03_instr.j3 k l f u ns i false o a b c k0) r) : Ev (fun k => haymowref03_instr.l1 k l f u ns (i : Int) o a b c k0) r := by
  have _ := hn
  refine Ev.step (fun k => ?_) h
  simp only [haymowref03_instr.l1]
  rw [if_pos (by omega), if_pos (by omega), if_pos (by omega), if_neg hc]
include hf in
/-- A field that is wrong ends it; one that is not is passed. -/
theorem l1_step (p : Int) (hp : p = 0 ∨ p = 1 ∨ p = 2 ∨ p = 3 ∨ p = 4 ∨ p = 5 ∨ p = 6) (hb : bt u i = chr p) (r : Int)
    (h : fieldE l.length l[f].f1.length (rd ns i) p = none → Ev (fun k => haymowref03_instr.l1 k l f u ns ((i + 1 : Nat) : Int) o a b c k0) r) (he : ∀ e, fieldE l.length l[f].f1.length (rd ns i) p = some e → r = e) :
    Ev (fun k => haymowref03_instr.l1 k l f u ns (i : Int) o a b c k0) r := by
  rcases hp with rfl | rfl | rfl | rfl | rfl | rfl | rfl
  · simp only [chr] at hb
    have n : ∀ x : Int, x ≠ 48 → bt u i ≠ x := fun x hx e => hx (by rw [← e, hb])
    refine l1_no l f u ns i hi hu hn o a b c k0 r (n _ (by decide)) (j3_no l f u ns i hi hu hn o a b c k0 r (n _ (by decide)) (j4_no l f u ns i hi hu hn o a b c k0 r (n _ (by decide)) (j5_no l f u ns i hi hu hn o a b c k0 r (n _ (by decide)) (j6_no l f u ns i hi hu hn o a b c k0 r (n _ (by decide)) (j7_no l f u ns i hi hu hn o a b c k0 r (n _ (by decide)) (h ?_))))))
    simp [fieldE]
  · simp only [chr] at hb
    have n : ∀ x : Int, x ≠ 114 → bt u i ≠ x := fun x hx e => hx (by rw [← e, hb])
    by_cases hI : inB 0 8 (rd ns i) = true
    · have hE : fieldE l.length l[f].f1.length (rd ns i) 1 = none := by simp [fieldE, hI]
      simp only [inB, Bool.and_eq_true, decide_eq_true_eq] at hI
      refine Ev.step (fun k => ?_) (j3_no l f u ns i hi hu hn o a b c k0 r (n _ (by decide)) (j4_no l f u ns i hi hu hn o a b c k0 r (n _ (by decide)) (j5_no l f u ns i hi hu hn o a b c k0 r (n _ (by decide)) (j6_no l f u ns i hi hu hn o a b c k0 r (n _ (by decide)) (j7_no l f u ns i hi hu hn o a b c k0 r (n _ (by decide)) (h hE))))))
      simp only [haymowref03_instr.l1]
      rw [if_pos (by omega), if_pos (by omega), if_pos (by omega), if_pos hb, if_pos (by omega), if_neg (by omega), decide_eq_false (by omega)]
    · have hE : fieldE l.length l[f].f1.length (rd ns i) 1 = some 6 := by simp [fieldE, hI]
      obtain rfl := he _ hE
      simp only [inB, Bool.and_eq_true, decide_eq_true_eq] at hI
      refine Ev.step (fun k => ?_) (j3_yes l f u ns i o a b c k0)
      simp only [haymowref03_instr.l1]
      rw [if_pos (by omega), if_pos (by omega), if_pos (by omega), if_pos hb, if_pos (by omega)]
      by_cases h0 : rd ns i < 0
      · rw [if_pos h0]
      · rw [if_neg h0, decide_eq_true (by omega)]
  · simp only [chr] at hb
    have n : ∀ x : Int, x ≠ 104 → bt u i ≠ x := fun x hx e => hx (by rw [← e, hb])
    refine l1_no l f u ns i hi hu hn o a b c k0 r (n _ (by decide)) ?_
    by_cases hI : inB 0 4 (rd ns i) = true
    · have hE : fieldE l.length l[f].f1.length (rd ns i) 2 = none := by simp [fieldE, hI]
      simp only [inB, Bool.and_eq_true, decide_eq_true_eq] at hI
      refine Ev.step (fun k => ?_) (j4_no l f u ns i hi hu hn o a b c k0 r (n _ (by decide)) (j5_no l f u ns i hi hu hn o a b c k0 r (n _ (by decide)) (j6_no l f u ns i hi hu hn o a b c k0 r (n _ (by decide)) (j7_no l f u ns i hi hu hn o a b c k0 r (n _ (by decide)) (h hE)))))
      simp only [haymowref03_instr.j3]
      rw [if_neg (by simp), if_pos (by omega), if_pos (by omega), if_pos hb, if_pos (by omega), if_neg (by omega), decide_eq_false (by omega)]
    · have hE : fieldE l.length l[f].f1.length (rd ns i) 2 = some 6 := by simp [fieldE, hI]
      obtain rfl := he _ hE
      simp only [inB, Bool.and_eq_true, decide_eq_true_eq] at hI
      refine Ev.step (fun k => ?_) (j4_yes l f u ns i o a b c k0)
      simp only [haymowref03_instr.j3]
      rw [if_neg (by simp), if_pos (by omega), if_pos (by omega), if_pos hb, if_pos (by omega)]
      by_cases h0 : rd ns i < 0
      · rw [if_pos h0]
      · rw [if_neg h0, decide_eq_true (by omega)]
  · simp only [chr] at hb
    have n : ∀ x : Int, x ≠ 102 → bt u i ≠ x := fun x hx e => hx (by rw [← e, hb])
    refine l1_no l f u ns i hi hu hn o a b c k0 r (n _ (by decide)) (j3_no l f u ns i hi hu hn o a b c k0 r (n _ (by decide)) ?_)
    by_cases hI : inB 0 l.length (rd ns i) = true
    · have hE : fieldE l.length l[f].f1.length (rd ns i) 3 = none := by simp [fieldE, hI]
      simp only [inB, Bool.and_eq_true, decide_eq_true_eq] at hI
      refine Ev.step (fun k => ?_) (j5_no l f u ns i hi hu hn o a b c k0 r (n _ (by decide)) (j6_no l f u ns i hi hu hn o a b c k0 r (n _ (by decide)) (j7_no l f u ns i hi hu hn o a b c k0 r (n _ (by decide)) (h hE))))
      simp only [haymowref03_instr.j4]
      rw [if_neg (by simp), if_pos (by omega), if_pos (by omega), if_pos hb, if_pos (by omega), if_neg (by omega), decide_eq_false (by omega)]
    · have hE : fieldE l.length l[f].f1.length (rd ns i) 3 = some 5 := by simp [fieldE, hI]
      obtain rfl := he _ hE
      simp only [inB, Bool.and_eq_true, decide_eq_true_eq] at hI
      refine Ev.step (fun k => ?_) (j5_yes l f u ns i o a b c k0)
      simp only [haymowref03_instr.j4]
      rw [if_neg (by simp), if_pos (by omega), if_pos (by omega), if_pos hb, if_pos (by omega)]
      by_cases h0 : rd ns i < 0
      · rw [if_pos h0]
      · rw [if_neg h0, decide_eq_true (by omega)]
  · simp only [chr] at hb
    have n : ∀ x : Int, x ≠ 110 → bt u i ≠ x := fun x hx e => hx (by rw [← e, hb])
    refine l1_no l f u ns i hi hu hn o a b c k0 r (n _ (by decide)) (j3_no l f u ns i hi hu hn o a b c k0 r (n _ (by decide)) (j4_no l f u ns i hi hu hn o a b c k0 r (n _ (by decide)) (j5_no l f u ns i hi hu hn o a b c k0 r (n _ (by decide)) (j6_no l f u ns i hi hu hn o a b c k0 r (n _ (by decide)) ?_))))
    by_cases hI : inB (-2147483648) 2147483648 (rd ns i) = true
    · have hE : fieldE l.length l[f].f1.length (rd ns i) 4 = none := by simp [fieldE, hI]
      simp only [inB, Bool.and_eq_true, decide_eq_true_eq] at hI
      refine Ev.step (fun k => ?_) (h hE)
      simp only [haymowref03_instr.j7, wrap_id (x := (i : Int) + 1) (by omega) (by omega)]
      rw [if_neg (by simp), if_pos (by omega), if_pos (by omega), if_pos hb, if_pos (by omega), if_neg (by omega), if_neg (by omega)]; rfl
    · have hE : fieldE l.length l[f].f1.length (rd ns i) 4 = some 6 := by simp [fieldE, hI]
      obtain rfl := he _ hE
      simp only [inB, Bool.and_eq_true, decide_eq_true_eq] at hI
      refine Ev.step (f := fun _ => some 6) (fun k => ?_) (Ev.now _)
      simp only [haymowref03_instr.j7]
      rw [if_neg (by simp), if_pos (by omega), if_pos (by omega), if_pos hb, if_pos (by omega)]
      by_cases h0 : rd ns i < -2147483648
      · rw [if_pos h0]
      · rw [if_neg h0, if_pos (by omega)]
  · simp only [chr] at hb
    have n : ∀ x : Int, x ≠ 116 → bt u i ≠ x := fun x hx e => hx (by rw [← e, hb])
    refine l1_no l f u ns i hi hu hn o a b c k0 r (n _ (by decide)) (j3_no l f u ns i hi hu hn o a b c k0 r (n _ (by decide)) (j4_no l f u ns i hi hu hn o a b c k0 r (n _ (by decide)) ?_))
    by_cases hI : inB 0 l[f].f1.length (rd ns i) = true
    · have hE : fieldE l.length l[f].f1.length (rd ns i) 5 = none := by simp [fieldE, hI]
      simp only [inB, Bool.and_eq_true, decide_eq_true_eq] at hI
      refine Ev.step (fun k => ?_) (j6_no l f u ns i hi hu hn o a b c k0 r (n _ (by decide)) (j7_no l f u ns i hi hu hn o a b c k0 r (n _ (by decide)) (h hE)))
      simp only [haymowref03_instr.j5, rd50 hf]
      rw [if_neg (by simp), if_pos (by omega), if_pos (by omega), if_pos hb, if_pos (by omega), if_neg (by omega), if_pos (by omega), if_pos (by omega), decide_eq_false (by omega)]
    · have hE : fieldE l.length l[f].f1.length (rd ns i) 5 = some 6 := by simp [fieldE, hI]
      obtain rfl := he _ hE
      simp only [inB, Bool.and_eq_true, decide_eq_true_eq] at hI
      refine Ev.step (fun k => ?_) (j6_yes l f u ns i o a b c k0)
      simp only [haymowref03_instr.j5, rd50 hf]
      rw [if_neg (by simp), if_pos (by omega), if_pos (by omega), if_pos hb, if_pos (by omega)]
      by_cases h0 : rd ns i < 0
      · rw [if_pos h0]
      · rw [if_neg h0, if_pos (by omega), if_pos (by omega), decide_eq_true (by omega)]
  · simp only [chr] at hb
    have n : ∀ x : Int, x ≠ 99 → bt u i ≠ x := fun x hx e => hx (by rw [← e, hb])
    refine l1_no l f u ns i hi hu hn o a b c k0 r (n _ (by decide)) (j3_no l f u ns i hi hu hn o a b c k0 r (n _ (by decide)) (j4_no l f u ns i hi hu hn o a b c k0 r (n _ (by decide)) (j5_no l f u ns i hi hu hn o a b c k0 r (n _ (by decide)) ?_)))
    by_cases hI : inB 16 2147483648 (rd ns i) = true
    · have hE : fieldE l.length l[f].f1.length (rd ns i) 6 = none := by simp [fieldE, hI]
      simp only [inB, Bool.and_eq_true, decide_eq_true_eq] at hI
      refine Ev.step (fun k => ?_) (j7_no l f u ns i hi hu hn o a b c k0 r (n _ (by decide)) (h hE))
      simp only [haymowref03_instr.j6]
      rw [if_neg (by simp), if_pos (by omega), if_pos (by omega), if_pos hb, if_pos (by omega), if_neg (by omega), decide_eq_false (by omega)]
    · have hE : fieldE l.length l[f].f1.length (rd ns i) 6 = some 6 := by simp [fieldE, hI]
      obtain rfl := he _ hE
      simp only [inB, Bool.and_eq_true, decide_eq_true_eq] at hI
      refine Ev.step (fun k => ?_) (j7_yes l f u ns i o a b c k0)
      simp only [haymowref03_instr.j6]
      rw [if_neg (by simp), if_pos (by omega), if_pos (by omega), if_pos hb, if_pos (by omega)]
      by_cases h0 : rd ns i < 16
      · rw [if_pos h0]
      · rw [if_neg h0, decide_eq_true (by omega)]
end

def IsPart (p : Int) : Prop := p = 0 ∨ p = 1 ∨ p = 2 ∨ p = 3 ∨ p = 4 ∨ p = 5 ∨ p = 6
instance (p : Int) : Decidable (IsPart p) := inferInstanceAs (Decidable (p = 0 ∨ p = 1 ∨ p = 2 ∨ p = 3 ∨ p = 4 ∨ p = 5 ∨ p = 6))
theorem chr_zero {p : Int} (h : IsPart p) : chr p = 48 ↔ p = 0 := by
  rcases h with rfl | rfl | rfl | rfl | rfl | rfl | rfl <;> decide
theorem chr_three {p : Int} (h : IsPart p) : chr p = 102 ↔ p = 3 := by
  rcases h with rfl | rfl | rfl | rfl | rfl | rfl | rfl <;> decide
theorem shape_out {op : Int} (h : ¬ (1 ≤ op ∧ op ≤ 17)) : shapeP op = (0, 0, 0, 0, false) := by
  unfold shapeP
  repeat' split
  all_goals first | rfl | omega
theorem uses_some {op : Int} (h1 : 1 ≤ op) (h2 : op ≤ 17) : ∃ u, haymowref03_Uses.f op = some u ∧ u.size = 4 ∧ bt u 0 = chr (shapeP op).1 ∧ bt u 1 = chr (shapeP op).2.1 ∧ bt u 2 = chr (shapeP op).2.2.1 ∧ bt u 3 = chr (shapeP op).2.2.2.1 ∧
    (shapeP op).2.2.2.2 = true ∧ IsPart (shapeP op).1 ∧ IsPart (shapeP op).2.1 ∧ IsPart (shapeP op).2.2.1 ∧ IsPart (shapeP op).2.2.2.1 := by
  have : op = 1 ∨ op = 2 ∨ op = 3 ∨ op = 4 ∨ op = 5 ∨ op = 6 ∨ op = 7 ∨ op = 8 ∨ op = 9 ∨ op = 10 ∨ op = 11 ∨ op = 12 ∨ op = 13 ∨ op = 14 ∨ op = 15 ∨ op = 16 ∨ op = 17 := by omega
  rcases this with rfl | rfl | rfl | rfl | rfl | rfl | rfl | rfl | rfl | rfl | rfl | rfl | rfl | rfl | rfl | rfl | rfl <;>
    exact ⟨_, rfl, rfl, rfl, rfl, rfl, rfl, rfl, by decide, by decide, by decide, by decide⟩
theorem field_three {np lc : Nat} {n : Int} (h : fieldE np lc n 3 = none) : 0 ≤ n ∧ n < np := by
  by_cases hI : inB 0 np n = true
  · simpa [inB] using hI
  · simp [fieldE, hI] at h
theorem field_one {np lc : Nat} {n : Int} (h : fieldE np lc n 1 = none) : 0 ≤ n ∧ n < 8 := by
  by_cases hI : inB 0 8 n = true
  · simpa [inB] using hI
  · simp [fieldE, hI] at h
theorem rd36_map (l : List S50) (i : Int) (h0 : 0 ≤ i) (h1 : i < l.length) : rd_T36 (l.map ofF) i = ofF (rd_T50 l i) := by
  obtain ⟨n, rfl⟩ := Int.eq_ofNat_of_zero_le h0
  have hn : n < l.length := by omega
  rw [rd50 hn]; simp [rd_T36, hn]
theorem rd33_map (l : List S58) (i : Int) (h0 : 0 ≤ i) (h1 : i < l.length) : rd_T33 (l.map ofI) i = ofI (rd_T58 l i) := by
  obtain ⟨n, rfl⟩ := Int.eq_ofNat_of_zero_le h0
  have hn : n < l.length := by omega
  rw [rd58 hn]; simp [rd_T33, hn]
theorem instr_ev (l : List S50) (f : Nat) (hf : f < l.length) (x : S58) : Ev (fun k => haymowref03_instr.f k l f x.f0 x.f1 x.f2 x.f3 x.f4) ((instrE l[f].f1.length (l.map ofF) (ofI x)).getD 0) := by
  by_cases hop : 1 ≤ x.f0 ∧ x.f0 ≤ 17
  · obtain ⟨u, hU, hsz, b0, b1, b2, b3, his, pa, pb, pc, pk⟩ := uses_some hop.1 hop.2
    have h3 := shape_three x.f0
    obtain ⟨⟨a, b, c, k0, is⟩, hsh⟩ : ∃ s, s = shapeP x.f0 := ⟨_, rfl⟩
    have hE : instrE l[f].f1.length (l.map ofF) (ofI x) = (if is = false then some 4 else if a = 0 ∧ x.f1 ≠ 0 then some 4 else if b = 0 ∧ x.f2 ≠ 0 then some 4 else if c = 0 ∧ x.f3 ≠ 0 then some 4 else if k0 = 0 ∧ x.f4 ≠ 0 then some 4
      else (fieldE (l.map ofF).length l[f].f1.length x.f1 a).or ((fieldE (l.map ofF).length l[f].f1.length x.f2 b).or ((fieldE (l.map ofF).length l[f].f1.length x.f3 c).or ((fieldE (l.map ofF).length l[f].f1.length x.f4 k0).or (arityE (l.map ofF) (ofI x) c))))) :=
      instrE_eq (lc := l[f].f1.length) (l := l.map ofF) (x := ofI x) hsh.symm
    rw [hE]
    rw [← hsh] at b0 b1 b2 b3 his pa pb pc pk h3
    clear hE hsh
    dsimp only at b0 b1 b2 b3 his pa pb pc pk h3
    subst his
    rw [if_neg (by simp)]
    refine Ev.congr (g := fun k => haymowref03_instr.f k l f x.f0 x.f1 x.f2 x.f3 x.f4) (f := fun k => haymowref03_instr.j0 k l f false x.f0 x.f1 x.f2 x.f3 x.f4) (fun k => by unfold haymowref03_instr.f; rw [if_neg (by omega), decide_eq_false (by omega)]) ?_
    refine Ev.step (f := fun k => haymowref03_instr.l0 k l f u [x.f1, x.f2, x.f3, x.f4] ((0 : Nat) : Int) x.f0 x.f1 x.f2 x.f3 x.f4) (fun k => ?_) ?_
    · simp only [haymowref03_instr.j0]; rw [if_neg (by simp), hU]; rfl
    by_cases z0 : a = 0 ∧ x.f1 ≠ 0
    · rw [if_pos z0]
      exact l0_no l f u _ 0 (by decide) hsz rfl _ _ _ _ _ (b0.trans ((chr_zero pa).2 z0.1)) z0.2
    rw [if_neg z0]
    refine l0_step l f u _ 0 (by decide) hsz rfl _ _ _ _ _ _ ?_ (fun h => Classical.not_not.1 fun hn => z0 ⟨(chr_zero pa).1 (b0.symm.trans h), hn⟩)
    by_cases z1 : b = 0 ∧ x.f2 ≠ 0
    · rw [if_pos z1]
      exact l0_no l f u _ 1 (by decide) hsz rfl _ _ _ _ _ (b1.trans ((chr_zero pb).2 z1.1)) z1.2
    rw [if_neg z1]
    refine l0_step l f u _ 1 (by decide) hsz rfl _ _ _ _ _ _ ?_ (fun h => Classical.not_not.1 fun hn => z1 ⟨(chr_zero pb).1 (b1.symm.trans h), hn⟩)
    by_cases z2 : c = 0 ∧ x.f3 ≠ 0
    · rw [if_pos z2]
      exact l0_no l f u _ 2 (by decide) hsz rfl _ _ _ _ _ (b2.trans ((chr_zero pc).2 z2.1)) z2.2
    rw [if_neg z2]
    refine l0_step l f u _ 2 (by decide) hsz rfl _ _ _ _ _ _ ?_ (fun h => Classical.not_not.1 fun hn => z2 ⟨(chr_zero pc).1 (b2.symm.trans h), hn⟩)
    by_cases z3 : k0 = 0 ∧ x.f4 ≠ 0
    · rw [if_pos z3]
      exact l0_no l f u _ 3 (by decide) hsz rfl _ _ _ _ _ (b3.trans ((chr_zero pk).2 z3.1)) z3.2
    rw [if_neg z3]
    refine l0_step l f u _ 3 (by decide) hsz rfl _ _ _ _ _ _ ?_ (fun h => Classical.not_not.1 fun hn => z3 ⟨(chr_zero pk).1 (b3.symm.trans h), hn⟩)
    refine Ev.step (f := fun k => haymowref03_instr.l1 k l f u [x.f1, x.f2, x.f3, x.f4] ((0 : Nat) : Int) x.f0 x.f1 x.f2 x.f3 x.f4) (fun k => ?_) ?_
    · simp only [haymowref03_instr.l0]; rw [if_neg (by omega)]; rfl
    rw [List.length_map]
    refine l1_step l f hf u _ 0 (by decide) hsz rfl _ _ _ _ _ a pa b0 _ (fun e0 => ?_) (fun e h => by rw [show rd [x.f1, x.f2, x.f3, x.f4] ((0 : Nat) : Int) = x.f1 from rfl] at h; rw [h]; rfl)
    rw [show rd [x.f1, x.f2, x.f3, x.f4] ((0 : Nat) : Int) = x.f1 from rfl] at e0
    rw [e0, Option.none_or]
    refine l1_step l f hf u _ 1 (by decide) hsz rfl _ _ _ _ _ b pb b1 _ (fun e1 => ?_) (fun e h => by rw [show rd [x.f1, x.f2, x.f3, x.f4] ((1 : Nat) : Int) = x.f2 from rfl] at h; rw [h]; rfl)
    rw [show rd [x.f1, x.f2, x.f3, x.f4] ((1 : Nat) : Int) = x.f2 from rfl] at e1
    rw [e1, Option.none_or]
    refine l1_step l f hf u _ 2 (by decide) hsz rfl _ _ _ _ _ c pc b2 _ (fun e2 => ?_) (fun e h => by rw [show rd [x.f1, x.f2, x.f3, x.f4] ((2 : Nat) : Int) = x.f3 from rfl] at h; rw [h]; rfl)
    rw [show rd [x.f1, x.f2, x.f3, x.f4] ((2 : Nat) : Int) = x.f3 from rfl] at e2
    rw [e2, Option.none_or]
    refine l1_step l f hf u _ 3 (by decide) hsz rfl _ _ _ _ _ k0 pk b3 _ (fun e3 => ?_) (fun e h => by rw [show rd [x.f1, x.f2, x.f3, x.f4] ((3 : Nat) : Int) = x.f4 from rfl] at h; rw [h]; rfl)
    rw [show rd [x.f1, x.f2, x.f3, x.f4] ((3 : Nat) : Int) = x.f4 from rfl] at e3
    rw [e3, Option.none_or]
    refine Ev.step (f := fun _ => some ((arityE (l.map ofF) (ofI x) c).getD 0)) (fun k => ?_) (Ev.now _)
    simp only [haymowref03_instr.l1]
    rw [if_neg (by omega), if_pos (by omega)]
    unfold arityE
    by_cases hc : c = 3
    · subst hc
      have hb := h3 rfl
      subst hb
      have g2 := field_three e2
      have g1 := field_one e1
      rw [if_pos (show bt u 2 = 102 from b2), if_pos g2.1, if_pos g2.2, if_pos rfl]
      show _ = some ((if (rd_T36 (l.map ofF) x.f3).f0 ≤ 8 - x.f2 then none else some 6 : Option Int).getD 0)
      rw [rd36_map l x.f3 g2.1 g2.2, wrap_id (x := 8 - x.f2) (by omega) (by omega)]
      show _ = some ((if (rd_T50 l x.f3).f0 ≤ 8 - x.f2 then none else some 6 : Option Int).getD 0)
      by_cases hg : (rd_T50 l x.f3).f0 > 8 - x.f2
      · rw [if_pos hg, if_neg (by omega)]; rfl
      · rw [if_neg hg, if_pos (by omega)]; rfl
    · rw [if_neg hc, if_neg (fun h => hc ((chr_three pc).1 ((show bt u 2 = chr c from b2).symm.trans h)))]; rfl
  · have hs := shape_out hop
    have e : instrE l[f].f1.length (l.map ofF) (ofI x) = some 4 := by rw [instrE_eq (x := ofI x) hs]; rfl
    rw [e]
    have key : Ev (fun k => haymowref03_instr.j0 k l f true x.f0 x.f1 x.f2 x.f3 x.f4) 4 := Ev.step (f := fun _ => some 4) (fun k => by simp only [haymowref03_instr.j0, if_true]) (Ev.now _)
    refine Ev.congr (fun k => ?_) key
    unfold haymowref03_instr.f
    by_cases h1 : x.f0 < 1
    · rw [if_pos h1]
    · rw [if_neg h1, decide_eq_true (by omega)]

/-! ### a program -/
theorem instrE_ne {lc : Nat} {l : List S36} {x : S33} {e : Int} (h : instrE lc l x = some e) : e ≠ 0 := by
  have hf : ∀ {np lc : Nat} {n p e : Int}, fieldE np lc n p = some e → e ≠ 0 := by
    intro np lc n p e h
    unfold fieldE at h
    repeat' split at h
    all_goals first | (cases h; decide) | cases h
  have ha : ∀ {c e : Int}, arityE l x c = some e → e ≠ 0 := by
    intro c e h
    unfold arityE at h
    repeat' split at h
    all_goals first | (cases h; decide) | cases h
  unfold instrE at h
  split at h
  repeat' split at h
  all_goals first | (cases h; decide) | skip
  simp only [Option.or_eq_some_iff] at h
  rcases h with h | ⟨_, h | ⟨_, h | ⟨_, h | ⟨_, h⟩⟩⟩⟩
  · exact hf h
  · exact hf h
  · exact hf h
  · exact hf h
  · exact ha h
theorem ck_l1 (l : List S50) (hl : l.length ≤ 20) (f : Nat) (hf : f < l.length) (h1 : 1 ≤ l[f].f1.length) (h2 : l[f].f1.length ≤ 64) (r : Int × Int × Int) (hnext : Ev (fun k => haymowref03_Check.l0 k l ((f : Int) + 1)) r) :
    ∀ (d j : Nat), l[f].f1.length - j = d → j ≤ l[f].f1.length →
      Ev (fun k => haymowref03_Check.l1 k l f j) (match (instrsE l[f].f1.length (l.map ofF) j ((l[f].f1.drop j).map ofI)).or (lastE (ofF l[f])) with | some e => ((f : Int), e.1, e.2) | none => r)
  | 0, j, hd, hj => by
    obtain rfl : j = l[f].f1.length := by omega
    rw [List.drop_length, List.map_nil]
    simp only [instrsE, Option.none_or]
    have hw : wrap64 ((l[f].f1.length : Int) - 1) = (l[f].f1.length : Int) - 1 := wrap_id (by omega) (by omega)
    have hlast : lastE (ofF l[f]) = (if (rd_T58 l[f].f1 ((l[f].f1.length : Int) - 1)).f0 = 9 ∨ (rd_T58 l[f].f1 ((l[f].f1.length : Int) - 1)).f0 = 16 ∨ (rd_T58 l[f].f1 ((l[f].f1.length : Int) - 1)).f0 = 17 then none else some ((l[f].f1.length : Int) - 1, 11)) := by
      unfold lastE
      simp only [ofF, List.length_map]
      rw [rd33_map _ _ (by omega) (by omega)]
      rfl
    rw [hlast]
    have hw1 : wrap64 ((f : Int) + 1) = (f : Int) + 1 := wrap_id (by omega) (by omega)
    generalize ho : (rd_T58 l[f].f1 ((l[f].f1.length : Int) - 1)).f0 = o
    by_cases hc : o = 9 ∨ o = 16 ∨ o = 17
    · rw [if_pos hc]
      refine Ev.step (fun k => ?_) hnext
      simp only [haymowref03_Check.l1, rd50 hf, hw, ho, hw1]
      rw [if_pos (by omega), if_pos (by omega), if_neg (by omega), if_pos (by omega), if_pos (by omega)]
      rcases hc with rfl | rfl | rfl
      · rw [if_pos rfl]
      · rw [if_neg (by decide), if_pos rfl]
      · rw [if_neg (by decide), if_neg (by decide), if_pos rfl]
    · rw [if_neg hc]
      refine Ev.step (f := fun _ => some ((f : Int), (l[f].f1.length : Int) - 1, 11)) (fun k => ?_) (Ev.now _)
      simp only [haymowref03_Check.l1, rd50 hf, hw, ho, hw1]
      rw [if_pos (by omega), if_pos (by omega), if_neg (by omega), if_pos (by omega), if_pos (by omega), if_neg (by omega), if_neg (by omega), if_neg (by omega)]
  | d + 1, j, hd, hj => by
    have hlt : j < l[f].f1.length := by omega
    rw [drop_cons hlt, List.map_cons]
    refine Ev.step (f := fun k => (haymowref03_instr.f k l f l[f].f1[j].f0 l[f].f1[j].f1 l[f].f1[j].f2 l[f].f1[j].f3 l[f].f1[j].f4).bind fun t => if t = 0 then haymowref03_Check.l1 k l f ((j + 1 : Nat) : Int) else some ((f : Int), (j : Int), t)) (fun k => ?_) ?_
    · simp only [haymowref03_Check.l1, rd50 hf, rd58 hlt]
      rw [if_pos (by omega), if_pos (by omega), if_pos (by omega), if_pos (by omega), wrap_id (x := (j : Int) + 1) (by omega) (by omega)]
      rfl
    refine Ev.bind (f := fun k t => if t = 0 then haymowref03_Check.l1 k l f ((j + 1 : Nat) : Int) else some ((f : Int), (j : Int), t)) (instr_ev l f hf l[f].f1[j]) ?_
    simp only [instrsE]
    cases hE : instrE l[f].f1.length (l.map ofF) (ofI l[f].f1[j]) with
    | some e =>
      have := instrE_ne hE
      refine Ev.congr (f := fun _ => some ((f : Int), (j : Int), e)) (fun k => ?_) (Ev.now _)
      show (if e = 0 then _ else _) = _
      rw [if_neg this]; rfl
    | none => exact Ev.congr (fun k => by simp only [Option.getD_none, if_true]) (ck_l1 l hl f hf h1 h2 r hnext d (j + 1) (by omega) (by omega))
theorem ck_l0 (l : List S50) (hl : l.length ≤ 20) : ∀ (d i : Nat), l.length - i = d → i ≤ l.length → Ev (fun k => haymowref03_Check.l0 k l i) ((funcsE (l.map ofF) i ((l.drop i).map ofF)).getD (0, 0, 0))
  | 0, i, hd, hi => by
    obtain rfl : i = l.length := by omega
    rw [List.drop_length]
    refine Ev.step (f := fun _ => some (0, 0, 0)) (fun k => ?_) (Ev.now _)
    simp [haymowref03_Check.l0]
  | d + 1, i, hd, hi => by
    have hlt : i < l.length := by omega
    have ih := ck_l0 l hl d (i + 1) (by omega) (by omega)
    rw [drop_cons hlt, List.map_cons]
    simp only [funcsE]
    have e1 : (ofF l[i]).f0 = l[i].f0 := rfl
    have e2 : (ofF l[i]).f1.length = l[i].f1.length := by simp [ofF]
    by_cases ha : 0 ≤ l[i].f0 ∧ l[i].f0 ≤ 4
    · refine Ev.step (f := fun k => haymowref03_Check.j2 k l i false) (fun k => ?_) ?_
      · simp only [haymowref03_Check.l0, rd50 hlt]
        rw [if_pos (by omega), if_pos (by omega), if_neg (by omega), decide_eq_false (by omega)]
      by_cases hb : 1 ≤ l[i].f1.length ∧ l[i].f1.length ≤ 64
      · refine Ev.step (f := fun k => haymowref03_Check.j3 k l i false) (fun k => ?_) ?_
        · simp only [haymowref03_Check.j2, rd50 hlt]
          rw [if_neg (by simp), if_pos (by omega), if_pos (by omega), if_neg (by omega), decide_eq_false (by omega)]
        refine Ev.step (f := fun k => haymowref03_Check.l1 k l i ((0 : Nat) : Int)) (fun k => ?_) ?_
        · simp only [haymowref03_Check.j3]; rw [if_neg (by simp)]; rfl
        have hF : funcE (l.map ofF) (ofF l[i]) = (instrsE l[i].f1.length (l.map ofF) 0 (l[i].f1.map ofI)).or (lastE (ofF l[i])) := by
          unfold funcE; rw [if_pos (by rw [e1]; exact ha), if_pos (by rw [e2]; exact hb), e2]; rfl
        have := ck_l1 l hl i hlt hb.1 hb.2 _ ih l[i].f1.length 0 rfl (by omega)
        rw [List.drop_zero] at this
        rw [hF]
        cases hc : (instrsE l[i].f1.length (l.map ofF) 0 (l[i].f1.map ofI)).or (lastE (ofF l[i])) with
        | none => rw [hc] at this; exact this
        | some e => rw [hc] at this; exact this
      · have hF : funcE (l.map ofF) (ofF l[i]) = some (0, 3) := by
          unfold funcE; rw [if_pos (by rw [e1]; exact ha), if_neg (by rw [e2]; exact hb)]
        rw [hF]
        refine Ev.step (f := fun k => haymowref03_Check.j3 k l i true) (fun k => ?_) (Ev.step (f := fun _ => some ((i : Int), 0, 3)) (fun k => by simp only [haymowref03_Check.j3, if_true]) (Ev.now _))
        simp only [haymowref03_Check.j2, rd50 hlt]
        rw [if_neg (by simp), if_pos (by omega), if_pos (by omega)]
        by_cases h0 : (l[i].f1.length : Int) < 1
        · rw [if_pos h0]
        · rw [if_neg h0, decide_eq_true (by omega)]
    · have hF : funcE (l.map ofF) (ofF l[i]) = some (0, 6) := by
        unfold funcE; rw [if_neg (by rw [e1]; exact ha)]
      rw [hF]
      refine Ev.step (f := fun k => haymowref03_Check.j2 k l i true) (fun k => ?_) (Ev.step (f := fun _ => some ((i : Int), 0, 6)) (fun k => by simp only [haymowref03_Check.j2, if_true]) (Ev.now _))
      simp only [haymowref03_Check.l0, rd50 hlt]
      rw [if_pos (by omega), if_pos (by omega)]
      by_cases h0 : l[i].f0 < 0
      · rw [if_pos h0]
      · rw [if_neg h0, decide_eq_true (by omega)]
theorem check_ev (l : List S50) (hl : l.length ≤ 20) : Ev (fun k => haymowref03_Check.f k l) (checkP (l.map ofF)) := by
  unfold checkP
  rw [List.length_map]
  by_cases hb : 1 ≤ l.length ∧ l.length ≤ 16
  · rw [if_pos hb]
    refine Ev.congr (f := fun k => haymowref03_Check.j0 k l false) (fun k => ?_) (Ev.step (f := fun k => haymowref03_Check.l0 k l ((0 : Nat) : Int)) (fun k => by simp only [haymowref03_Check.j0]; rw [if_neg (by simp)]; rfl) (by simpa using ck_l0 l hl l.length 0 rfl (by omega)))
    unfold haymowref03_Check.f
    rw [if_neg (by omega), decide_eq_false (by omega)]
  · rw [if_neg hb]
    refine Ev.congr (f := fun k => haymowref03_Check.j0 k l true) (fun k => ?_) (Ev.step (f := fun _ => some (0, 0, 3)) (fun k => by simp only [haymowref03_Check.j0, if_true]) (Ev.now _))
    unfold haymowref03_Check.f
    by_cases h0 : (l.length : Int) < 1
    · rw [if_pos h0]
    · rw [if_neg h0, decide_eq_true (by omega)]
end Go.Proofs.Ytkbbgkhanmmhpaa.H
