/- Plain law of code's bytes: what the reference writes is what the program writes. No conditions of a machine. -/
import Derived.Test.YtojnimaiggobeaaH8
import Derived.Test.YtojnimaiggobeaaH6
import Derived.Test.YtojnimaiggobeaaH2
import Derived.Test.YtojnimaiggobeaaH9
import Derived.Test.YtojnimaiggobeaaH10
import Derived.Test.YtojnimaiggobeaaCodeWrite
namespace Go.Proofs.Ytojnimaiggobeaa.H
open Go.RowKit Go.Hay Go.Proofs.YtojnimaiggobeaaW.PrintWords Go.Proofs.YtojnimaiggobeaaW.PrintLast Go.Proofs.YtojnimaiggobeaaW.PrintMore
set_option linter.unusedVariables false
set_option linter.unusedSimpArgs false

theorem wrap_id {x : Int} (h0 : -9223372036854775808 ≤ x) (h1 : x < 9223372036854775808) : wrap64 x = x := by unfold wrap64; omega
theorem rd51 {l : List S51} {i : Nat} (h : i < l.length) : rd_T51 l (i : Int) = l[i] := by simp [rd_T51, h]
theorem rd56 {l : List S56} {i : Nat} (h : i < l.length) : rd_T56 l (i : Int) = l[i] := by simp [rd_T56, h]
theorem drop_cons {α : Type} {l : List α} {i : Nat} (h : i < l.length) : l.drop i = l[i] :: l.drop (i + 1) := List.drop_eq_getElem_cons h

def ofI (x : S56) : S44 := ⟨x.f0, x.f1, x.f2, x.f3, x.f4⟩
def ofF (f : S51) : S47 := ⟨f.f0, f.f1.map ofI⟩

theorem light_loop (l : List S51) (hl : l.length ≤ 300) : ∀ (d i : Nat) (x3 : Int), l.length - i = d → i ≤ l.length → ∃ b, Ev (fun k => haymowlaw02_light.l0 k l x3 i) b ∧ (b = true → ∀ f ∈ l.drop i, f.f1.length ≤ 300)
  | 0, i, x3, hd, hi => by
    obtain rfl : i = l.length := by omega
    refine ⟨decide (x3 ≤ 600), Ev.step (f := fun _ => some (decide (x3 ≤ 600))) (fun k => ?_) (Ev.now _), by simp⟩
    simp [haymowlaw02_light.l0]
  | d + 1, i, x3, hd, hi => by
    have hlt : i < l.length := by omega
    by_cases hb : l[i].f1.length > 300
    · refine ⟨false, Ev.step (f := fun _ => some false) (fun k => ?_) (Ev.now _), by simp⟩
      simp only [haymowlaw02_light.l0, rd51 hlt]
      rw [if_pos (by omega), if_pos (by omega), if_pos (by omega)]
    · obtain ⟨b, h1, h2⟩ := light_loop l hl d (i + 1) (wrap64 (x3 + (l[i].f1.length : Int))) (by omega) (by omega)
      refine ⟨b, Ev.step (fun k => ?_) h1, fun e f hf => ?_⟩
      · simp only [haymowlaw02_light.l0, rd51 hlt]
        rw [if_pos (by omega), if_pos (by omega), if_neg (by omega), wrap_id (x := (i : Int) + 1) (by omega) (by omega)]
        rfl
      · rw [drop_cons hlt] at hf
        rcases List.mem_cons.1 hf with rfl | hf
        · omega
        · exact h2 e f hf
theorem light_ev (l : List S51) : ∃ b, Ev (fun k => haymowlaw02_light.f k l) b ∧ (b = true → l.length ≤ 300 ∧ ∀ f ∈ l, f.f1.length ≤ 300) := by
  by_cases hl : (l.length : Int) > 300
  · exact ⟨false, Ev.congr (fun k => by unfold haymowlaw02_light.f; rw [if_pos hl]) (Ev.now _), by simp⟩
  · obtain ⟨b, h1, h2⟩ := light_loop l (by omega) l.length 0 0 (by omega) (by omega)
    refine ⟨b, Ev.congr (fun k => by unfold haymowlaw02_light.f; rw [if_neg hl]; rfl) h1, fun e => ⟨by omega, fun f hf => h2 e f (by simpa using hf)⟩⟩

theorem of_inner (l : List S51) (acc : List S47) (i : Nat) (hi : i < l.length) (hf : l[i].f1.length ≤ 300) (c : Int) (r : List S47)
    (hnext : ∀ cs, cs = l[i].f1.map ofI → Ev (fun k => haymowlaw02_of.l0 k l (acc ++ [⟨c, cs⟩]) ((i : Int) + 1)) r) (ha : acc.length < 4398046511104) (hil : l.length < 9223372036854775807) :
    ∀ (d j : Nat) (cs : List S44), l[i].f1.length - j = d → j ≤ l[i].f1.length → cs = (l[i].f1.take j).map ofI → Ev (fun k => haymowlaw02_of.l1 k l acc i j c cs) r
  | 0, j, cs, hd, hj, hcs => by
    obtain rfl : j = l[i].f1.length := by omega
    rw [List.take_length] at hcs
    refine Ev.step (fun k => ?_) (hnext cs hcs)
    simp only [haymowlaw02_of.l1, rd51 hi]
    rw [if_pos (by omega), if_pos (by omega), if_neg (by omega), if_pos ha, wrap_id (x := (i : Int) + 1) (by omega) (by omega)]
  | d + 1, j, cs, hd, hj, hcs => by
    have hlt : j < l[i].f1.length := by omega
    refine Ev.step (fun k => ?_) (of_inner l acc i hi hf c r hnext ha hil d (j + 1) (cs ++ [ofI l[i].f1[j]]) (by omega) (by omega) (by rw [hcs, List.take_succ_eq_append_getElem hlt, List.map_append]; rfl))
    have hc : cs.length = j := by rw [hcs]; simp; omega
    simp only [haymowlaw02_of.l1, rd51 hi, rd56 hlt]
    rw [if_pos (by omega), if_pos (by omega), if_pos (by omega), if_pos (by omega), if_pos (by omega), wrap_id (x := (j : Int) + 1) (by omega) (by omega)]
    rfl
theorem of_loop (l : List S51) (hl : l.length ≤ 300) (hf : ∀ f ∈ l, f.f1.length ≤ 300) : ∀ (d i : Nat) (acc : List S47), l.length - i = d → i ≤ l.length → acc = (l.take i).map ofF → Ev (fun k => haymowlaw02_of.l0 k l acc i) (l.map ofF)
  | 0, i, acc, hd, hi, ha => by
    obtain rfl : i = l.length := by omega
    rw [List.take_length] at ha
    subst ha
    refine Ev.step (f := fun _ => some (l.map ofF)) (fun k => ?_) (Ev.now _)
    simp [haymowlaw02_of.l0]
  | d + 1, i, acc, hd, hi, ha => by
    have hlt : i < l.length := by omega
    have hal : acc.length = i := by rw [ha]; simp; omega
    refine Ev.step (fun k => ?_) (of_inner l acc i hlt (hf _ (List.getElem_mem hlt)) l[i].f0 (l.map ofF) (fun cs hcs => ?_) (by omega) (by omega) _ 0 [] rfl (by omega) (by simp))
    · simp only [haymowlaw02_of.l0, rd51 hlt]
      rw [if_pos (by omega), if_pos (by omega)]
      rfl
    · have := of_loop l hl hf d (i + 1) (acc ++ [⟨l[i].f0, cs⟩]) (by omega) (by omega) (by rw [ha, hcs, List.take_succ_eq_append_getElem hlt, List.map_append]; rfl)
      simpa using this
theorem of_ev (l : List S51) (hl : l.length ≤ 300) (hf : ∀ f ∈ l, f.f1.length ≤ 300) : Ev (fun k => haymowlaw02_of.f k l) (l.map ofF) := by
  have := of_loop l hl hf l.length 0 [] (by omega) (by omega) (by simp)
  exact this

theorem okInstr_iff (x : S44) : okInstr x = true ↔ (-2147483648 ≤ x.f4 ∧ x.f4 < 2147483648 ∧ fitsB x.f0 = true ∧ fitsB x.f1 = true ∧ fitsB x.f2 = true ∧ fitsB x.f3 = true) := by
  simp [okInstr, and_assoc]
theorem fits_eq (n : Int) : haymowref02_fits.f n = some (fitsB n) := by
  unfold haymowref02_fits.f fitsB
  by_cases h : n ≥ 0
  · rw [if_pos h]; simp [h]
  · rw [if_neg h]; simp; omega
theorem mod_small {n : Int} (h : fitsB n = true) : n % 256 = n := by
  simp only [fitsB, Bool.and_eq_true, decide_eq_true_eq] at h
  omega
theorem bytes_pos {n : Int} (h0 : 0 ≤ n) (h1 : n < 4294967296) : (Int.tmod n 256) % 256 = n % 256 ∧ (Int.tmod (wrap64 (Int.tdiv n 256)) 256) % 256 = (n / 256) % 256 ∧
    (Int.tmod (wrap64 (Int.tdiv n 65536)) 256) % 256 = (n / 65536) % 256 ∧ (wrap64 (Int.tdiv n 16777216)) % 256 = (n / 16777216) % 256 := by
  rw [Int.tmod_eq_emod_of_nonneg h0, Int.tdiv_eq_ediv_of_nonneg h0, Int.tdiv_eq_ediv_of_nonneg h0, Int.tdiv_eq_ediv_of_nonneg h0]
  rw [wrap_id (x := n / 256) (by omega) (by omega), wrap_id (x := n / 65536) (by omega) (by omega), wrap_id (x := n / 16777216) (by omega) (by omega)]
  rw [Int.tmod_eq_emod_of_nonneg (by omega), Int.tmod_eq_emod_of_nonneg (by omega)]
  refine ⟨?_, ?_, ?_, rfl⟩ <;> omega
theorem ref_j3 (x0 : List S51) (x4 : List Int) (i j : Nat) (c : Int) (cs : List S56) (x : S56) (r : List Int × Bool) (hok : okInstr (ofI x) = true) (hx : x4.length < 140737488355000) (hj : j < 1000)
    (h : Ev (fun k => haymowref02_Write.l1 k x0 (x4 ++ wInstr (ofI x)) i ((j : Int) + 1) c cs) r) :
    Ev (fun k => haymowref02_Write.j3 k x0 x4 i j false c cs x.f0 x.f1 x.f2 x.f3 x.f4) r := by
  refine Ev.step (fun k => ?_) h
  have hok' := (okInstr_iff _).1 hok
  simp only [ofI] at hok'
  obtain ⟨h1, h2, h3, h4, h5, h6⟩ := hok'
  simp only [haymowref02_Write.j3, wInstr, ofI]
  rw [if_neg (by simp), mod_small h3, mod_small h4, mod_small h5, mod_small h6, wrap_id (x := (j : Int) + 1) (by omega) (by omega)]
  by_cases hn : x.f4 < 0
  · rw [if_pos hn]
    have hb := bytes_pos (n := x.f4 + 4294967296) (by omega) (by omega)
    rw [wrap_id (x := x.f4 + 4294967296) (by omega) (by omega), hb.1, hb.2.1, hb.2.2.1, hb.2.2.2]
    have e1 : (x.f4 + 4294967296) % 256 = x.f4 % 256 := by omega
    have e2 : (x.f4 + 4294967296) / 256 % 256 = x.f4 / 256 % 256 := by omega
    have e3 : (x.f4 + 4294967296) / 65536 % 256 = x.f4 / 65536 % 256 := by omega
    have e4 : (x.f4 + 4294967296) / 16777216 % 256 = x.f4 / 16777216 % 256 := by omega
    rw [e1, e2, e3, e4, Option.bind_some, if_pos (by simp; omega)]
  · rw [if_neg hn]
    have hb := bytes_pos (n := x.f4) (by omega) (by omega)
    rw [hb.1, hb.2.1, hb.2.2.1, hb.2.2.2, Option.bind_some, if_pos (by simp; omega)]
theorem ref_j3_no (x0 : List S51) (x4 : List Int) (x5 x7 c : Int) (cs : List S56) (a b d e f : Int) : Ev (fun k => haymowref02_Write.j3 k x0 x4 x5 x7 true c cs a b d e f) ([], false) :=
  Ev.step (f := fun _ => some ([], false)) (fun k => by simp only [haymowref02_Write.j3, if_true]) (Ev.now _)
/-- the instructions of one function. -/
theorem ref_l1 (x0 : List S51) (i : Nat) (c : Int) (cs : List S56) (r : List Int × Bool) (hcs : cs.length ≤ 300) :
    ∀ (d j : Nat) (x4 : List Int), cs.length - j = d → j ≤ cs.length → x4.length + 8 * d < 140737488355000 →
      ((cs.drop j).all (fun x => okInstr (ofI x)) = true → Ev (fun k => haymowref02_Write.l0 k x0 (x4 ++ (cs.drop j).flatMap (fun x => wInstr (ofI x))) (wrap64 ((i : Int) + 1))) r) →
      ((cs.drop j).all (fun x => okInstr (ofI x)) = false → r = ([], false)) → Ev (fun k => haymowref02_Write.l1 k x0 x4 i j c cs) r
  | 0, j, x4, hd, hj, hx, h1, h2 => by
    obtain rfl : j = cs.length := by omega
    have := h1 (by simp)
    refine Ev.step (fun k => ?_) this
    simp only [haymowref02_Write.l1]
    rw [if_neg (by omega)]
    simp
  | d + 1, j, x4, hd, hj, hx, h1, h2 => by
    have hlt : j < cs.length := by omega
    rw [drop_cons hlt, List.all_cons, List.flatMap_cons] at h1
    rw [drop_cons hlt, List.all_cons] at h2
    cases ho : okInstr (ofI cs[j]) with
    | true =>
      simp only [ho, Bool.true_and] at h1 h2
      have ih := ref_l1 x0 i c cs r hcs d (j + 1) (x4 ++ wInstr (ofI cs[j])) (by omega) (by omega) (by simp [wInstr]; omega) (fun e => by have := h1 e; rwa [← List.append_assoc] at this) h2
      have h3 := ref_j3 x0 x4 i j c cs cs[j] r ho (by omega) (by omega) ih
      refine Ev.step (fun k => ?_) h3
      have ho' := (okInstr_iff _).1 ho
      simp only [ofI] at ho'
      obtain ⟨g1, g2, g3, g4, g5, g6⟩ := ho'
      simp only [haymowref02_Write.l1, rd56 hlt, fits_eq, Option.bind_some, g3, g4, g5, g6, if_true]
      rw [if_pos (by omega), if_pos (by omega), if_neg (by omega)]
      simp only [show decide (cs[j].f4 > 2147483647) = false by simp; omega]
    | false =>
      simp only [ho, Bool.false_and] at h2
      rw [h2 trivial]
      have h3 := ref_j3_no x0 x4 i j c cs cs[j].f0 cs[j].f1 cs[j].f2 cs[j].f3 cs[j].f4
      refine Ev.step (fun k => ?_) h3
      simp only [haymowref02_Write.l1, rd56 hlt, fits_eq, Option.bind_some]
      rw [if_pos (by omega), if_pos (by omega)]
      cases g3 : fitsB cs[j].f0 <;> simp only [if_true, Bool.false_eq_true, if_false]
      cases g4 : fitsB cs[j].f1 <;> simp only [if_true, Bool.false_eq_true, if_false]
      cases g5 : fitsB cs[j].f2 <;> simp only [if_true, Bool.false_eq_true, if_false]
      cases g6 : fitsB cs[j].f3 <;> simp only [if_true, Bool.false_eq_true, if_false]
      by_cases hn : cs[j].f4 < -2147483648
      · rw [if_pos hn]
      · rw [if_neg hn]
        have : decide (cs[j].f4 > 2147483647) = true := by
          have hno : ¬ (-2147483648 ≤ cs[j].f4 ∧ cs[j].f4 < 2147483648) := fun hc => by
            have := (okInstr_iff (ofI cs[j])).2 ⟨hc.1, hc.2, g3, g4, g5, g6⟩
            rw [ho] at this; cases this
          simp; omega
        rw [this]
theorem ref_l0 (l : List S51) (hl : l.length ≤ 300) (hf : ∀ f ∈ l, f.f1.length ≤ 300) :
    ∀ (d i : Nat) (x4 : List Int), l.length - i = d → i ≤ l.length → x4.length + 3000 * d < 140737488355000 →
      Ev (fun k => haymowref02_Write.l0 k l x4 i) (if (l.drop i).all (fun f => okFunc (ofF f)) then (x4 ++ (l.drop i).flatMap (fun f => wFunc (ofF f)), true) else ([], false))
  | 0, i, x4, hd, hi, hx => by
    obtain rfl : i = l.length := by omega
    refine Ev.step (f := fun _ => some _) (fun k => ?_) (Ev.now _)
    simp [haymowref02_Write.l0]
  | d + 1, i, x4, hd, hi, hx => by
    have hlt : i < l.length := by omega
    have hfi := hf _ (List.getElem_mem hlt)
    rw [drop_cons hlt, List.all_cons, List.flatMap_cons]
    cases h0 : fitsB l[i].f0 with
    | false =>
      have ho : okFunc (ofF l[i]) = false := by simp [okFunc, ofF, h0]
      rw [ho, Bool.false_and, if_neg (by simp)]
      refine Ev.step (f := fun k => haymowref02_Write.j1 k l x4 i true l[i].f0 l[i].f1) (fun k => ?_) (Ev.step (f := fun _ => some ([], false)) (fun k => by simp only [haymowref02_Write.j1, if_true]) (Ev.now _))
      simp only [haymowref02_Write.l0, rd51 hlt, fits_eq, Option.bind_some, h0]
      rw [if_pos (by omega), if_pos (by omega), if_neg (by simp)]
    | true =>
      by_cases h1 : l[i].f1.length > 255
      · have ho : okFunc (ofF l[i]) = false := by simp [okFunc, ofF, fitsB]; omega
        rw [ho, Bool.false_and, if_neg (by simp)]
        refine Ev.step (f := fun k => haymowref02_Write.j1 k l x4 i true l[i].f0 l[i].f1) (fun k => ?_) (Ev.step (f := fun _ => some ([], false)) (fun k => by simp only [haymowref02_Write.j1, if_true]) (Ev.now _))
        simp only [haymowref02_Write.l0, rd51 hlt, fits_eq, Option.bind_some, h0]
        rw [if_pos (by omega), if_pos (by omega), if_pos trivial, show decide ((l[i].f1.length : Int) > 255) = true by simp; omega]
      · have hlen : fitsB (l[i].f1.length : Int) = true := by simp [fitsB]; omega
        have hall : okFunc (ofF l[i]) = l[i].f1.all (fun x => okInstr (ofI x)) := by simp [okFunc, ofF, h0, hlen, List.all_map]; rfl
        have hw : wFunc (ofF l[i]) = [l[i].f0, (l[i].f1.length : Int)] ++ l[i].f1.flatMap (fun x => wInstr (ofI x)) := by simp [wFunc, ofF, List.flatMap_map]
        have hil := wInstr_len (l[i].f1.map ofI)
        rw [List.length_map, List.flatMap_map] at hil
        rw [hall, hw]
        have ih := fun y hy => ref_l0 l hl hf d (i + 1) y (by omega) (by omega) hy
        have h2 := ref_l1 l i l[i].f0 l[i].f1 (if (l[i].f1.all (fun x => okInstr (ofI x)) && (l.drop (i + 1)).all (fun f => okFunc (ofF f))) = true then (x4 ++ ([l[i].f0, (l[i].f1.length : Int)] ++ l[i].f1.flatMap (fun x => wInstr (ofI x)) ++ (l.drop (i + 1)).flatMap (fun f => wFunc (ofF f))), true) else ([], false)) hfi
          l[i].f1.length 0 (x4 ++ [l[i].f0, (l[i].f1.length : Int)]) (by omega) (by omega) (by simp; omega) (fun e => ?_) (fun e => ?_)
        · refine Ev.step (f := fun k => haymowref02_Write.j1 k l x4 i false l[i].f0 l[i].f1) (fun k => ?_) (Ev.step (fun k => ?_) h2)
          · simp only [haymowref02_Write.l0, rd51 hlt, fits_eq, Option.bind_some, h0]
            rw [if_pos (by omega), if_pos (by omega), if_pos trivial, show decide ((l[i].f1.length : Int) > 255) = false by simp; omega]
          · simp only [haymowref02_Write.j1]
            rw [if_neg (by simp), mod_small h0, mod_small hlen, Option.bind_some, if_pos (by simp; omega)]
            rfl
        · rw [List.drop_zero] at e ⊢
          have := ih (x4 ++ [l[i].f0, (l[i].f1.length : Int)] ++ l[i].f1.flatMap (fun x => wInstr (ofI x))) (by simp only [List.length_append, List.length_cons, List.length_nil]; omega)
          rw [e, Bool.true_and, wrap_id (x := (i : Int) + 1) (by omega) (by omega)]
          simpa [List.append_assoc] using this
        · rw [List.drop_zero] at e
          rw [e]; simp
theorem ref_write (l : List S51) (hl : l.length ≤ 300) (hf : ∀ f ∈ l, f.f1.length ≤ 300) : Ev (fun k => haymowref02_Write.f k l) (if okProg (l.map ofF) then (wProg (l.map ofF), true) else ([], false)) := by
  by_cases h : (l.length : Int) > 255
  · have ho : okProg (l.map ofF) = false := by simp [okProg, fitsB]; omega
    rw [ho, if_neg (by simp)]
    exact Ev.congr (fun k => by unfold haymowref02_Write.f; rw [if_pos h]) (Ev.now _)
  · have hlen : fitsB (l.length : Int) = true := by simp [fitsB]; omega
    have := ref_l0 l hl hf l.length 0 [72, (l.length : Int)] (by omega) (by omega) (by simp; omega)
    have ho : okProg (l.map ofF) = l.all (fun f => okFunc (ofF f)) := by simp [okProg, hlen, List.all_map]; rfl
    have hw : wProg (l.map ofF) = [72, (l.length : Int)] ++ l.flatMap (fun f => wFunc (ofF f)) := by simp [wProg, List.flatMap_map]
    rw [ho, hw]
    refine Ev.congr (fun k => ?_) (by simpa using this)
    unfold haymowref02_Write.f
    rw [if_neg h, mod_small hlen]
theorem awake_eq : haymowlaw02_awake.f = some true := by decide +kernel
theorem codeWrites_pure (l : List S51) : ∃ k, haymowlaw02_CodeWrites.f k l = some true := by
  obtain ⟨b, h1, h2⟩ := light_ev l
  refine Ev.rounds (r := true) ?_
  unfold haymowlaw02_CodeWrites.f
  refine Ev.bind h1 ?_
  cases b with
  | false => simp only [Bool.false_eq_true, if_false]; exact Ev.now _
  | true =>
    obtain ⟨hl, hf⟩ := h2 rfl
    simp only [if_true]
    refine Ev.bind (of_ev l hl hf) ?_
    refine Ev.bind (f := fun k bt => (haymowref02_Write.f k l).bind fun bt163 => _) (g := fun _ => code_Write.f (l.map ofF)) (Ev.now _) ?_
    refine Ev.bind (ref_write l hl hf) ?_
    cases ho : okProg (l.map ofF) with
    | true => simp [ho, awake_eq]; exact Ev.now _
    | false => simp [ho, awake_eq]; exact Ev.now _
end Go.Proofs.Ytojnimaiggobeaa.H
