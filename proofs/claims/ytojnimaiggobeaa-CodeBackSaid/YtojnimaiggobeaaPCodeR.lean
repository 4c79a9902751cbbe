/- Plain laws of code's reading: what the reference reads is what the program reads; back, again, cut. -/
import Derived.Test.YtojnimaiggobeaaPCodeM
import Derived.Test.YtojnimaiggobeaaH16
import Derived.Test.YtojnimaiggobeaaH17
import Derived.Test.YtojnimaiggobeaaH18
import Derived.Test.YtojnimaiggobeaaH19
namespace Go.Proofs.Ytojnimaiggobeaa.H
open Go.RowKit Go.Hay Go.Proofs.YtojnimaiggobeaaW.PrintWords Go.Proofs.YtojnimaiggobeaaW.PrintLast Go.Proofs.YtojnimaiggobeaaW.PrintMore
set_option linter.unusedVariables false
set_option linter.unusedSimpArgs false

theorem rd47 {l : List S47} {i : Nat} (h : i < l.length) : rd_T47 l (i : Int) = l[i] := by simp [rd_T47, h]
theorem rd44 {l : List S44} {i : Nat} (h : i < l.length) : rd_T44 l (i : Int) = l[i] := by simp [rd_T44, h]
theorem told_l1 (x : List S47) (i : Nat) (hi : i < x.length) (hl : x.length ≤ 1000) (hf : x[i].f1.length ≤ 1000) (hn : Ev (fun k => haymowlaw02_told.l0 k x x ((i : Int) + 1)) true) :
    ∀ (d j : Nat), x[i].f1.length - j = d → j ≤ x[i].f1.length → Ev (fun k => haymowlaw02_told.l1 k x x i j) true
  | 0, j, hd, hj => by
    refine Ev.step (fun k => ?_) hn
    simp only [haymowlaw02_told.l1, rd47 hi]
    rw [if_pos (by omega), if_pos (by omega), if_neg (by omega), wrap_id (x := (i : Int) + 1) (by omega) (by omega)]
  | d + 1, j, hd, hj => by
    have hlt : j < x[i].f1.length := by omega
    refine Ev.step (fun k => ?_) (told_l1 x i hi hl hf hn d (j + 1) (by omega) (by omega))
    simp only [haymowlaw02_told.l1, rd47 hi]
    rw [if_pos (by omega), if_pos (by omega), if_pos (by omega), if_pos (by omega), if_pos (by omega), if_pos (by omega), if_neg (by simp), wrap_id (x := (j : Int) + 1) (by omega) (by omega)]
    rfl
theorem told_l0 (x : List S47) (hl : x.length ≤ 1000) (hf : ∀ f ∈ x, f.f1.length ≤ 1000) : ∀ (d i : Nat), x.length - i = d → i ≤ x.length → Ev (fun k => haymowlaw02_told.l0 k x x i) true
  | 0, i, hd, hi => by
    refine Ev.step (f := fun _ => some true) (fun k => ?_) (Ev.now _)
    simp only [haymowlaw02_told.l0]
    rw [if_neg (by omega)]
  | d + 1, i, hd, hi => by
    have hlt : i < x.length := by omega
    refine Ev.step (f := fun k => haymowlaw02_told.j1 k x x i false) (fun k => ?_) (Ev.step (fun k => ?_) (told_l1 x i hlt hl (hf _ (List.getElem_mem hlt)) (told_l0 x hl hf d (i + 1) (by omega) (by omega)) _ 0 rfl (by omega)))
    · simp only [haymowlaw02_told.l0, rd47 hlt]
      rw [if_pos (by omega), if_pos (by omega), if_pos (by omega), if_pos trivial]
      simp
    · simp only [haymowlaw02_told.j1]
      rw [if_neg (by simp)]
      rfl
theorem told_ev (w : List S51) (p : List S47) (hp : w.map ofF = p) (hl : w.length ≤ 300) (hf : ∀ f ∈ w, f.f1.length ≤ 300) : Ev (fun k => haymowlaw02_told.f k p w) true := by
  unfold haymowlaw02_told.f
  refine Ev.bind (of_ev w hl hf) ?_
  subst hp
  simp only [if_true]
  refine told_l0 (w.map ofF) (by simp; omega) (fun f hm => ?_) _ 0 rfl (by omega)
  obtain ⟨g, hg, rfl⟩ := List.mem_map.1 hm
  have := hf g hg
  simp [ofF]; omega

theorem codeBack_pure (l : List S51) : ∃ k, haymowlaw02_CodeBack.f k l = some true := by
  obtain ⟨b, h1, h2⟩ := light_ev l
  refine Ev.rounds (r := true) ?_
  unfold haymowlaw02_CodeBack.f
  refine Ev.bind h1 ?_
  cases b with
  | false => simp only [Bool.false_eq_true, if_false]; exact Ev.now _
  | true =>
    obtain ⟨hl, hf⟩ := h2 rfl
    simp only [if_true]
    refine Ev.bind (of_ev l hl hf) ?_
    cases ho : okProg (l.map ofF) with
    | true =>
      simp only [code_Write.f, ho, if_true, Option.bind_some, read_write ho, awake_eq]
      refine Ev.bind (told_ev l _ rfl hl hf) ?_
      simp only [if_true]
      exact Ev.now _
    | false => simp [code_Write.f, ho, awake_eq]; exact Ev.now _

theorem wf8 {l : List Int} (h : ∀ x ∈ l, (Lit.int .u8 x).wf = true) : rngB l := by
  intro x hx
  have := h x hx
  have e1 : IntKind.u8.min = 0 := by decide
  have e2 : IntKind.u8.max = 255 := by decide
  simp [Lit.wf, go_sem, e1, e2] at this
  omega
theorem codeAgain_pure (l : List Int) (h : ∀ x ∈ l, (Lit.int .u8 x).wf = true) : haymowlaw02_CodeAgain.f l = some true := by
  have hr := wf8 h
  unfold haymowlaw02_CodeAgain.f
  by_cases hl : (l.length : Int) > 3000
  · rw [if_pos hl]
  · rw [if_neg hl]
    have he : code_Read.f l = some (readP l) := by unfold code_Read.f; rw [if_pos hr]
    rw [he, Option.bind_some]
    by_cases h0 : (readP l).2 = 0
    · obtain ⟨p, e1, e2, e3⟩ := readP_inv hr h0
      rw [if_pos h0, e1]
      simp only [code_Write.f, e3, if_true, Option.bind_some, ← e2, awake_eq]
    · rw [if_neg h0, readP_err h0]
      simp [awake_eq]

/-! ### the reference reads -/
def toI (x : S44) : S56 := ⟨x.f0, x.f1, x.f2, x.f3, x.f4⟩
def toF (f : S47) : S51 := ⟨f.f0, f.f1.map toI⟩
theorem of_to (f : S47) : ofF (toF f) = f := by
  obtain ⟨a, c⟩ := f
  have : ofI ∘ toI = id := rfl
  simp [ofF, toF, this]
theorem rd_get {b : List Int} {i : Nat} (h : i < b.length) : rd b (i : Int) = b[i] := by simp [rd, h]
theorem drop8 {b : List Int} {a : Nat} (h : a + 8 ≤ b.length) : b.drop a = rd b (a : Int) :: rd b ((a : Int) + 1) :: rd b ((a : Int) + 2) :: rd b ((a : Int) + 3) :: rd b ((a : Int) + 4) :: rd b ((a : Int) + 5) :: rd b ((a : Int) + 6) :: rd b ((a : Int) + 7) :: b.drop (a + 8) := by
  have e : ∀ j : Nat, a + j < b.length → rd b ((a : Int) + (j : Int)) = b.getD (a + j) 0 := fun j hj => by
    rw [← Int.natCast_add, rd_get hj]; simp [hj]
  have e0 := e 0 (by omega); have e1 := e 1 (by omega); have e2 := e 2 (by omega); have e3 := e 3 (by omega)
  have e4 := e 4 (by omega); have e5 := e 5 (by omega); have e6 := e 6 (by omega); have e7 := e 7 (by omega)
  simp only [Int.natCast_zero, Int.add_zero] at e0
  rw [e0, show ((a : Int) + 1) = (a : Int) + ((1 : Nat) : Int) from rfl, show ((a : Int) + 2) = (a : Int) + ((2 : Nat) : Int) from rfl, show ((a : Int) + 3) = (a : Int) + ((3 : Nat) : Int) from rfl, show ((a : Int) + 4) = (a : Int) + ((4 : Nat) : Int) from rfl, show ((a : Int) + 5) = (a : Int) + ((5 : Nat) : Int) from rfl, show ((a : Int) + 6) = (a : Int) + ((6 : Nat) : Int) from rfl, show ((a : Int) + 7) = (a : Int) + ((7 : Nat) : Int) from rfl, e1, e2, e3, e4, e5, e6, e7]
  apply List.ext_getElem?
  intro j
  rw [List.getElem?_drop]
  match j with
  | 0 => simp [List.getD_eq_getElem?_getD, List.getElem?_eq_getElem (show a < b.length by omega)]
  | 1 => simp [List.getD_eq_getElem?_getD, List.getElem?_eq_getElem (show a + 1 < b.length by omega)]
  | 2 => simp [List.getD_eq_getElem?_getD, List.getElem?_eq_getElem (show a + 2 < b.length by omega)]
  | 3 => simp [List.getD_eq_getElem?_getD, List.getElem?_eq_getElem (show a + 3 < b.length by omega)]
  | 4 => simp [List.getD_eq_getElem?_getD, List.getElem?_eq_getElem (show a + 4 < b.length by omega)]
  | 5 => simp [List.getD_eq_getElem?_getD, List.getElem?_eq_getElem (show a + 5 < b.length by omega)]
  | 6 => simp [List.getD_eq_getElem?_getD, List.getElem?_eq_getElem (show a + 6 < b.length by omega)]
  | 7 => simp [List.getD_eq_getElem?_getD, List.getElem?_eq_getElem (show a + 7 < b.length by omega)]
  | j + 8 => simp [List.getElem?_drop, Nat.add_assoc, Nat.add_comm 8 j]
theorem drop2 {b : List Int} {a : Nat} (h : a + 2 ≤ b.length) : b.drop a = rd b (a : Int) :: rd b ((a : Int) + 1) :: b.drop (a + 2) := by
  rw [show ((a : Int) + 1) = ((a + 1 : Nat) : Int) by omega, rd_get (by omega), rd_get (by omega), List.drop_eq_getElem_cons (by omega), List.drop_eq_getElem_cons (by omega : a + 1 < b.length)]
theorem rd_rng {b : List Int} (hr : rngB b) {i : Int} (h0 : 0 ≤ i) (h1 : i < b.length) : 0 ≤ rd b i ∧ rd b i ≤ 255 := by
  obtain ⟨n, rfl⟩ := Int.eq_ofNat_of_zero_le h0
  rw [rd_get (by omega)]
  exact hr _ (List.getElem_mem _)
theorem pI_none : ∀ (n : Nat) (bs : List Int), bs.length < 8 * n → pMany pInstr n bs = none
  | 0, bs, h => by omega
  | n + 1, bs, h => by
    simp only [pMany]
    match bs, h with
    | a :: b :: c :: d :: e :: f :: g :: k :: r, h =>
      simp only [pInstr, pWord, Option.map_some, Option.bind_some]
      rw [pI_none n r (by simp at h; omega)]
      rfl
    | [], h | [_], h | [_, _], h | [_, _, _], h => simp [pInstr]
    | [_, _, _, _], h | [_, _, _, _, _], h | [_, _, _, _, _, _], h | [_, _, _, _, _, _, _], h => simp [pInstr, pWord]
theorem read_l1 (b : List Int) (hr : rngB b) (hb : b.length ≤ 3000) (acc : List S51) (hacc : acc.length ≤ 1000) (i : Nat) (hi : i ≤ 255) (c : Int) (many : Nat) (hm : many ≤ 255) (r : List S51 × Int) :
    ∀ (d j a : Nat) (cs : List S56), many - j = d → j ≤ many → a + 8 * d ≤ b.length → cs.length = j →
      (∀ l, pMany pInstr d (b.drop a) = some (l, b.drop (a + 8 * d)) → Ev (fun k => haymowref02_Read.l0 k b (acc ++ [⟨c, cs ++ l.map toI⟩]) ((a + 8 * d : Nat) : Int) ((i : Int) + 1)) r) →
      Ev (fun k => haymowref02_Read.l1 k b acc a i many j c cs) r
  | 0, j, a, cs, hd, hj, ha, hc, hn => by
    have := hn [] (by simp [pMany])
    refine Ev.step (fun k => ?_) this
    simp only [haymowref02_Read.l1]
    rw [if_neg (by omega), if_pos (by omega), wrap_id (x := (i : Int) + 1) (by omega) (by omega)]
    simp
  | d + 1, j, a, cs, hd, hj, ha, hc, hn => by
    have h8 := drop8 (b := b) (a := a) (by omega)
    have r0 := rd_rng hr (i := (a : Int)) (by omega) (by omega)
    have r1 := rd_rng hr (i := (a : Int) + 1) (by omega) (by omega)
    have r2 := rd_rng hr (i := (a : Int) + 2) (by omega) (by omega)
    have r3 := rd_rng hr (i := (a : Int) + 3) (by omega) (by omega)
    have r4 := rd_rng hr (i := (a : Int) + 4) (by omega) (by omega)
    have r5 := rd_rng hr (i := (a : Int) + 5) (by omega) (by omega)
    have r6 := rd_rng hr (i := (a : Int) + 6) (by omega) (by omega)
    have r7 := rd_rng hr (i := (a : Int) + 7) (by omega) (by omega)
    have ih := read_l1 b hr hb acc hacc i hi c many hm r d (j + 1) (a + 8) (cs ++ [⟨rd b (a : Int), rd b ((a : Int) + 1), rd b ((a : Int) + 2), rd b ((a : Int) + 3), sgn (rd b ((a : Int) + 4) + 256 * rd b ((a : Int) + 5) + 65536 * rd b ((a : Int) + 6) + 16777216 * rd b ((a : Int) + 7))⟩]) (by omega) (by omega) (by omega) (by simp [hc]) (fun l hl => by
      have := hn (⟨rd b (a : Int), rd b ((a : Int) + 1), rd b ((a : Int) + 2), rd b ((a : Int) + 3), sgn (rd b ((a : Int) + 4) + 256 * rd b ((a : Int) + 5) + 65536 * rd b ((a : Int) + 6) + 16777216 * rd b ((a : Int) + 7))⟩ :: l) (by
        simp only [pMany, h8, pInstr, pWord, Option.map_some, Option.bind_some, hl]
        rw [show a + 8 + 8 * d = a + 8 * (d + 1) by omega])
      rw [show a + 8 + 8 * d = a + 8 * (d + 1) by omega, List.append_assoc]
      exact this)
    refine Ev.step (fun k => ?_) ih
    simp only [haymowref02_Read.l1]
    have w : ∀ j : Int, 0 ≤ j → j ≤ 8 → wrap64 ((a : Int) + j) = a + j := fun j h0 h1 => wrap_id (by omega) (by omega)
    have v : ∀ x : Int, 0 ≤ x ∧ x ≤ 255 → wrap64 x = x := fun x h => wrap_id (by omega) (by omega)
    simp only [w 1 (by omega) (by omega), w 2 (by omega) (by omega), w 3 (by omega) (by omega), w 4 (by omega) (by omega), w 5 (by omega) (by omega), w 6 (by omega) (by omega), w 7 (by omega) (by omega), w 8 (by omega) (by omega),
      v _ r0, v _ r1, v _ r2, v _ r3, v _ r4, v _ r5, v _ r6, v _ r7]
    generalize rd b ((a : Int) + 4) = b4 at r4 ⊢
    generalize rd b ((a : Int) + 5) = b5 at r5 ⊢
    generalize rd b ((a : Int) + 6) = b6 at r6 ⊢
    generalize rd b ((a : Int) + 7) = b7 at r7 ⊢
    rw [wrap_id (x := 256 * b7) (by omega) (by omega), wrap_id (x := b6 + 256 * b7) (by omega) (by omega), wrap_id (x := 256 * (b6 + 256 * b7)) (by omega) (by omega), wrap_id (x := b5 + 256 * (b6 + 256 * b7)) (by omega) (by omega), wrap_id (x := 256 * (b5 + 256 * (b6 + 256 * b7))) (by omega) (by omega), wrap_id (x := b4 + 256 * (b5 + 256 * (b6 + 256 * b7))) (by omega) (by omega), wrap_id (x := b4 + 256 * (b5 + 256 * (b6 + 256 * b7)) - 4294967296) (by omega) (by omega), wrap_id (x := (j : Int) + 1) (by omega) (by omega)]
    rw [if_pos (by omega), if_pos (by omega), if_pos (by omega), if_pos (by omega), if_pos (by omega), if_pos (by omega), if_pos (by omega), if_pos (by omega), if_pos (by omega)]
    have e8 : ((a : Int) + 8) = ((a + 8 : Nat) : Int) := by omega
    have ej : ((j : Int) + 1) = ((j + 1 : Nat) : Int) := by omega
    by_cases hn2 : b4 + 256 * (b5 + 256 * (b6 + 256 * b7)) ≥ 2147483648
    · rw [if_pos hn2, if_pos (by omega), if_pos (by omega), if_pos (by omega), if_pos (by omega), if_pos (by omega), if_pos (by omega), if_pos (by omega), if_pos (by omega), if_pos (by omega), e8, ej]
      rw [show sgn (b4 + 256 * b5 + 65536 * b6 + 16777216 * b7) = b4 + 256 * (b5 + 256 * (b6 + 256 * b7)) - 4294967296 by unfold sgn; split <;> omega]
    · rw [if_neg hn2, if_pos (by omega), if_pos (by omega), if_pos (by omega), if_pos (by omega), if_pos (by omega), if_pos (by omega), if_pos (by omega), if_pos (by omega), if_pos (by omega), e8, ej]
      rw [show sgn (b4 + 256 * b5 + 65536 * b6 + 16777216 * b7) = b4 + 256 * (b5 + 256 * (b6 + 256 * b7)) by unfold sgn; split <;> omega]
def endsR (o : Option (List S47 × List Int)) (acc : List S51) : List S51 × Int :=
  match o with
  | none => ([], 2)
  | some (p, []) => (acc ++ p.map toF, 0)
  | some (_, _ :: _) => ([], 3)
theorem read_l0 (b : List Int) (hr : rngB b) (hb : b.length ≤ 3000) (h2 : 2 ≤ b.length) (n : Nat) (hn : rd b 1 = n) (hn5 : n ≤ 255) :
    ∀ (d i a : Nat) (acc : List S51), n - i = d → i ≤ n → 2 ≤ a → a ≤ b.length → acc.length = i → Ev (fun k => haymowref02_Read.l0 k b acc a i) (endsR (pMany pFunc d (b.drop a)) acc)
  | 0, i, a, acc, hd, hi, ha, hab, hc => by
    refine Ev.step (f := fun _ => some (endsR (pMany pFunc 0 (b.drop a)) acc)) (fun k => ?_) (Ev.now _)
    simp only [haymowref02_Read.l0, hn]
    rw [if_pos (by omega), wrap_id (x := (n : Int)) (by omega) (by omega), if_neg (by omega)]
    by_cases h : a = b.length
    · rw [if_neg (by omega)]
      have : b.drop a = [] := List.drop_eq_nil_of_le (by omega)
      rw [this]
      simp [pMany, endsR]
    · rw [if_pos (by omega)]
      obtain ⟨y, ys, hy⟩ : ∃ y ys, b.drop a = y :: ys := ⟨_, _, drop_cons (show a < b.length by omega)⟩
      rw [hy]
      rfl
  | d + 1, i, a, acc, hd, hi, ha, hab, hc => by
    have wi : wrap64 ((b.length : Int) - a) = (b.length : Int) - a := wrap_id (by omega) (by omega)
    by_cases hs : (b.length : Int) - a < 2
    · have hnone : pMany pFunc (d + 1) (b.drop a) = none := by
        have hlen : (b.drop a).length = b.length - a := List.length_drop
        generalize b.drop a = q at hlen
        match q with
        | [] => simp [pMany, pFunc]
        | [y] => simp [pMany, pFunc, pSeveral]
        | _ :: _ :: _ => simp at hlen; omega
      rw [hnone]
      refine Ev.step (f := fun _ => some _) (fun k => ?_) (Ev.now _)
      simp only [haymowref02_Read.l0, hn]
      rw [if_pos (by omega), wrap_id (x := (n : Int)) (by omega) (by omega), if_pos (by omega), wi, if_pos hs]
      rfl
    · have hd2 := drop2 (b := b) (a := a) (by omega)
      have r0 := rd_rng hr (i := (a : Int)) (by omega) (by omega)
      have r1 := rd_rng hr (i := (a : Int) + 1) (by omega) (by omega)
      obtain ⟨many, hmany⟩ := Int.eq_ofNat_of_zero_le r1.1
      rw [hmany] at r1 hd2
      have hmp : pMany pFunc (d + 1) (b.drop a) = (pMany pInstr many (b.drop (a + 2))).bind fun x => (pMany pFunc d x.2).map fun y => ((⟨rd b (a : Int), x.1⟩ : S47) :: y.1, y.2) := by
        rw [hd2]
        simp only [pMany, pFunc, pSeveral, Int.ofNat_eq_natCast, Int.toNat_natCast]
        cases pMany pInstr many (b.drop (a + 2)) <;> rfl
      have hpre : ∀ k, haymowref02_Read.l0 (k + 1) b acc a i = if ((b.length : Int) - ((a : Int) + 2) < 8 * (many : Int)) then some (([] : List S51), 2) else haymowref02_Read.l1 k b acc ((a : Int) + 2) i many 0 (rd b (a : Int)) [] := by
        intro k
        simp only [haymowref02_Read.l0, hn]
        rw [if_pos (by omega), wrap_id (x := (n : Int)) (by omega) (by omega), if_pos (by omega), wi, if_neg hs, if_pos (by omega), if_pos (by omega)]
        rw [wrap_id (x := (a : Int) + 1) (by omega) (by omega), wrap_id (x := (a : Int) + 2) (by omega) (by omega), if_pos (by omega), if_pos (by omega), hmany, wrap_id (x := rd b (a : Int)) (by omega) (by omega)]
        rw [wrap_id (x := (b.length : Int) - ((a : Int) + 2)) (by omega) (by omega), wrap_id (x := (many : Int)) (by omega) (by omega), wrap_id (x := 8 * (many : Int)) (by omega) (by omega)]
      by_cases hm : (b.length : Int) - ((a : Int) + 2) < 8 * (many : Int)
      · rw [hmp, pI_none many _ (by rw [List.length_drop]; omega), Option.bind_none]
        refine Ev.step (f := fun _ => some _) (fun k => ?_) (Ev.now _)
        rw [hpre, if_pos hm]
        rfl
      · have hfin := read_l1 b hr hb acc (by omega) i (by omega) (rd b (a : Int)) many (by omega) (endsR (pMany pFunc (d + 1) (b.drop a)) acc) many 0 (a + 2) [] (by omega) (by omega) (by omega) rfl (fun l hl => by
          have ih := read_l0 b hr hb h2 n hn hn5 d (i + 1) (a + 2 + 8 * many) (acc ++ [⟨rd b (a : Int), l.map toI⟩]) (by omega) (by omega) (by omega) (by omega) (by simp [hc])
          rw [List.nil_append]
          rw [show ((i : Int) + 1) = ((i + 1 : Nat) : Int) by omega]
          have he : endsR (pMany pFunc (d + 1) (b.drop a)) acc = endsR (pMany pFunc d (b.drop (a + 2 + 8 * many))) (acc ++ [⟨rd b (a : Int), l.map toI⟩]) := by
            rw [hmp, hl, Option.bind_some]
            cases h : pMany pFunc d (b.drop (a + 2 + 8 * many)) with
            | none => rfl
            | some y =>
              obtain ⟨p, q⟩ := y
              cases q <;> simp [endsR, toF]
          rw [he]
          exact ih)
        refine Ev.step (fun k => ?_) hfin
        rw [hpre, if_neg hm]
        rfl
theorem readP_ends (n : Int) (t : List Int) : ((readP (72 :: n :: t)).1.map toF, (readP (72 :: n :: t)).2) = endsR (pMany pFunc n.toNat t) [] := by
  simp only [readP, pSeveral]
  cases pMany pFunc n.toNat t with
  | none => rfl
  | some y =>
    obtain ⟨p, q⟩ := y
    cases q <;> simp [endsR]
theorem ref_read (b : List Int) (hr : rngB b) (hb : b.length ≤ 3000) : Ev (fun k => haymowref02_Read.f k b) ((readP b).1.map toF, (readP b).2) := by
  match b, hr, hb with
  | [], _, _ =>
    refine Ev.congr (f := fun k => haymowref02_Read.j0 k [] true) (fun k => by unfold haymowref02_Read.f; simp) ?_
    refine Ev.step (f := fun _ => some _) (fun k => ?_) (Ev.now _)
    simp [haymowref02_Read.j0, readP]
  | m :: t, hr, hb =>
    by_cases hm : m = 72
    · subst hm
      refine Ev.congr (f := fun k => haymowref02_Read.j0 k (72 :: t) false) (fun k => by
        unfold haymowref02_Read.f
        rw [if_neg (by simp <;> omega), if_pos (by simp <;> omega)]
        rfl) ?_
      match t, hr, hb with
      | [], _, _ =>
        refine Ev.step (f := fun _ => some _) (fun k => ?_) (Ev.now _)
        simp [haymowref02_Read.j0, readP, pSeveral]
      | n :: t, hr, hb =>
        have hn := hr n (by simp)
        rw [readP_ends]
        have := read_l0 (72 :: n :: t) hr hb (by simp) n.toNat (by show n = _; omega) (by omega) n.toNat 0 2 [] (by omega) (by omega) (by omega) (by simp) rfl
        refine Ev.step (fun k => ?_) this
        simp only [haymowref02_Read.j0]
        rw [if_neg (by simp), if_neg (by simp; omega)]
        rfl
    · refine Ev.congr (f := fun k => haymowref02_Read.j0 k (m :: t) true) (fun k => by
        unfold haymowref02_Read.f
        rw [if_neg (by simp <;> omega), if_pos (by simp <;> omega)]
        have : (rd (m :: t) 0 != 72) = true := by simp [rd, hm]
        rw [this]) ?_
      refine Ev.step (f := fun _ => some _) (fun k => ?_) (Ev.now _)
      rw [readP_no hm]
      simp [haymowref02_Read.j0]
theorem pI_short {f : List Int → Option (S44 × List Int)} : ∀ (n : Nat) (bs : List Int) (l : List S44) (t : List Int), pMany f n bs = some (l, t) → l.length = n
  | 0, bs, l, t, h => by simp only [pMany, Option.some.injEq, Prod.mk.injEq] at h; simp [← h.1]
  | n + 1, bs, l, t, h => by
    simp only [pMany] at h
    cases h1 : f bs with
    | none => rw [h1] at h; cases h
    | some y =>
    rw [h1, Option.bind_some] at h
    cases h2 : pMany f n y.2 with
    | none => rw [h2] at h; cases h
    | some z =>
    rw [h2] at h
    simp only [Option.map_some, Option.some.injEq, Prod.mk.injEq] at h
    rw [← h.1]
    simp [pI_short n y.2 z.1 z.2 h2]
theorem readP_small {b : List Int} (hr : rngB b) : (readP b).1.length ≤ 300 ∧ ∀ f ∈ (readP b).1, f.f1.length ≤ 300 := by
  by_cases h : (readP b).2 = 0
  · obtain ⟨p, e1, e2, e3⟩ := readP_inv hr h
    rw [e1]
    simp only [okProg, Bool.and_eq_true] at e3
    have h1 := fitsB_iff.1 e3.1
    refine ⟨by show p.length ≤ 300; omega, fun f hf => ?_⟩
    have := List.all_eq_true.1 e3.2 f hf
    simp only [okFunc, Bool.and_eq_true] at this
    have := fitsB_iff.1 this.1.2
    omega
  · rw [readP_err h]
    simp
theorem codeReads_pure (l : List Int) (h : ∀ x ∈ l, (Lit.int .u8 x).wf = true) : ∃ k, haymowlaw02_CodeReads.f k l = some true := by
  have hr := wf8 h
  refine Ev.rounds (r := true) ?_
  unfold haymowlaw02_CodeReads.f
  by_cases hl : (l.length : Int) > 3000
  · simp only [if_pos hl]; exact Ev.now _
  · simp only [if_neg hl, Option.bind_some, List.nil_append, List.length_nil]
    have he : code_Read.f l = some (readP l) := by unfold code_Read.f; rw [if_pos hr]
    simp only [if_pos (show 0 + l.length < 140737488355328 by omega), he, Option.bind_some]
    refine Ev.bind (ref_read l hr (by omega)) ?_
    obtain ⟨q1, q2⟩ := readP_small hr
    have hmm : ((readP l).1.map toF).map ofF = (readP l).1 := by
      rw [List.map_map]
      have : ofF ∘ toF = id := funext of_to
      rw [this, List.map_id]
    refine Ev.bind (told_ev ((readP l).1.map toF) _ hmm (by simpa using q1) (fun f hf => ?_)) ?_
    · obtain ⟨g, hg, rfl⟩ := List.mem_map.1 hf
      have := q2 g hg
      simpa [toF] using this
    · simp only [if_true, awake_eq, Option.bind_some]
      exact Ev.now _
theorem codeCut_pure (l m : List Int) (a : Int) (h : ∀ x ∈ l, (Lit.int .u8 x).wf = true) (hm : ∀ x ∈ m, (Lit.int .u8 x).wf = true) (ha : (Lit.int .u16 a).wf = true) : ∃ k, haymowlaw02_CodeCut.f k l m a = some true := by
  have hr := wf8 h
  have hr2 := wf8 hm
  have ha2 : 0 ≤ a ∧ a ≤ 65535 := by
    have e1 : IntKind.u16.min = 0 := by decide
    have e2 : IntKind.u16.max = 65535 := by decide
    simp [Lit.wf, go_sem, e1, e2] at ha
    omega
  refine Ev.rounds (r := true) ?_
  have big : Ev (fun k => haymowlaw02_CodeCut.j0 k l m a true) true := Ev.step (f := fun _ => some true) (fun k => by simp only [haymowlaw02_CodeCut.j0, if_true]) (Ev.now _)
  unfold haymowlaw02_CodeCut.f
  by_cases hl : (l.length : Int) > 3000
  · simp only [if_pos hl]; exact big
  · simp only [if_neg hl]
    by_cases hl2 : (m.length : Int) > 100
    · simp only [hl2, decide_true]; exact big
    · simp only [hl2, decide_false]
      have he : code_Read.f l = some (readP l) := by unfold code_Read.f; rw [if_pos hr]
      have out : Ev (fun k => haymowlaw02_CodeCut.j1 k l m a true) true := Ev.step (f := fun _ => some true) (fun k => by simp only [haymowlaw02_CodeCut.j1, if_true, awake_eq, Option.bind_some]) (Ev.now _)
      by_cases h0 : (readP l).2 = 0
      · by_cases hs : (l.length : Int) < 2
        · refine Ev.step (fun k => ?_) out
          simp only [haymowlaw02_CodeCut.j0, he, Option.bind_some, h0, if_true]
          rw [if_neg (by simp)]
          simp [hs]
        · refine Ev.step (f := fun k => haymowlaw02_CodeCut.j1 k l m a false) (fun k => ?_) (Ev.step (f := fun _ => some true) (fun k => ?_) (Ev.now _))
          · simp only [haymowlaw02_CodeCut.j0, he, Option.bind_some, h0, if_true]
            rw [if_neg (by simp)]
            simp [hs]
          · simp only [haymowlaw02_CodeCut.j1]
            rw [if_neg (by simp), wrap_id (x := (l.length : Int) - 1) (by omega) (by omega), wrap_id (x := a) (by omega) (by omega)]
            have t1 : 0 ≤ Int.tmod a ((l.length : Int) - 1) := Int.tmod_nonneg _ (by omega)
            have t2 : Int.tmod a ((l.length : Int) - 1) < (l.length : Int) - 1 := Int.tmod_lt_of_pos _ (by omega)
            generalize Int.tmod a ((l.length : Int) - 1) = q at t1 t2
            rw [wrap_id (x := 1 + q) (by omega) (by omega), if_neg (by omega), if_pos (by omega), if_pos (by omega)]
            have c1 : code_Read.f (l.take (1 + q).toNat) = some ([], 2) := by
              unfold code_Read.f
              rw [if_pos (show rngB _ from fun x hx => hr x (List.mem_of_mem_take hx)), readP_cut h0 (by omega) (by omega)]
            have c2 : code_Read.f (l ++ m) = some (readP (l ++ m)) := by
              unfold code_Read.f
              rw [if_pos (rngB_app.2 ⟨hr, hr2⟩)]
            rw [c1]
            simp only [Option.bind_some, List.nil_append, List.length_nil]
            rw [if_pos (by omega), if_pos (by omega), c2]
            simp only [Option.bind_some, if_true, awake_eq]
            cases m with
            | nil => simp [h0]
            | cons y ys => rw [readP_more h0 (by simp)]; simp
      · refine Ev.step (fun k => ?_) out
        simp only [haymowlaw02_CodeCut.j0, he, Option.bind_some]
        rw [if_neg (by simp), if_neg h0]
end Go.Proofs.Ytojnimaiggobeaa.H
