/- Plain law: what may run fits its bytes. No conditions of a machine. -/
import Derived.Test.YtkbbgkhanmmhpaaPVB
import Derived.Test.YtkbbgkhanmmhpaaVCodeRead
import Derived.Test.YtkbbgkhanmmhpaaH23
namespace Go.Proofs.Ytkbbgkhanmmhpaa.H
open Go.RowKit Go.Proofs.YtkbbgkhanmmhpaaW.PrintWords Go.Proofs.YtkbbgkhanmmhpaaW.PrintLast Go.Proofs.YtkbbgkhanmmhpaaW.PrintMore
set_option linter.unusedVariables false
set_option linter.unusedSimpArgs false
theorem okInstr_iff (x : S33) : okInstr x = true ↔ (-2147483648 ≤ x.f4 ∧ x.f4 < 2147483648 ∧ fitsB x.f0 = true ∧ fitsB x.f1 = true ∧ fitsB x.f2 = true ∧ fitsB x.f3 = true) := by
  simp [okInstr, and_assoc]
theorem sgn_bytes {n : Int} (h0 : -2147483648 ≤ n) (h1 : n < 2147483648) : sgn (n % 256 + 256 * (n / 256 % 256) + 65536 * (n / 65536 % 256) + 16777216 * (n / 16777216 % 256)) = n := by
  unfold sgn; split <;> omega
theorem fitsB_iff {n : Int} : fitsB n = true ↔ 0 ≤ n ∧ n ≤ 255 := by simp [fitsB]

/-! ### read of what is written -/
theorem pInstr_w {x : S33} (h : okInstr x = true) (t : List Int) : pInstr (wInstr x ++ t) = some (x, t) := by
  obtain ⟨h1, h2, _⟩ := (okInstr_iff x).1 h
  simp [wInstr, pInstr, pWord, sgn_bytes h1 h2]
theorem pMany_w {α : Type} {f : List Int → Option (α × List Int)} {w : α → List Int} {ok : α → Bool} (hf : ∀ x t, ok x = true → f (w x ++ t) = some (x, t)) :
    ∀ (l : List α) (t : List Int), l.all ok = true → pMany f l.length (l.flatMap w ++ t) = some (l, t)
  | [], t, _ => by simp [pMany]
  | x :: l, t, h => by
    rw [List.all_cons, Bool.and_eq_true] at h
    simp only [List.length_cons, pMany, List.flatMap_cons, List.append_assoc]
    rw [hf x _ h.1, Option.bind_some, pMany_w hf l t h.2]
    rfl
theorem pFunc_w {x : S36} (h : okFunc x = true) (t : List Int) : pFunc (wFunc x ++ t) = some (x, t) := by
  simp only [okFunc, Bool.and_eq_true] at h
  have := pMany_w (f := pInstr) (w := wInstr) (ok := okInstr) (fun x t h => pInstr_w h t) x.f1 t h.2
  simp [wFunc, pFunc, pSeveral, this]
theorem readP_w {p : List S36} (h : okProg p = true) : readP (wProg p) = (p, 0) := by
  simp only [okProg, Bool.and_eq_true] at h
  have := pMany_w (f := pFunc) (w := wFunc) (ok := okFunc) (fun x t h => pFunc_w h t) p [] h.2
  simp only [List.append_nil] at this
  simp [wProg, readP, pSeveral, this]
theorem rngB_app {a b : List Int} : rngB (a ++ b) ↔ rngB a ∧ rngB b := by
  simp only [rngB, List.mem_append]
  exact ⟨fun h => ⟨fun x hx => h x (.inl hx), fun x hx => h x (.inr hx)⟩, fun h x hx => hx.elim (h.1 x) (h.2 x)⟩
theorem rng_wInstr {x : S33} (h : okInstr x = true) : rngB (wInstr x) := by
  obtain ⟨h1, h2, h3, h4, h5, h6⟩ := (okInstr_iff x).1 h
  rw [fitsB_iff] at h3 h4 h5 h6
  intro y hy
  simp only [wInstr, List.mem_cons, List.not_mem_nil, or_false] at hy
  rcases hy with rfl | rfl | rfl | rfl | rfl | rfl | rfl | rfl <;> omega
theorem rng_many {α : Type} {w : α → List Int} {ok : α → Bool} (hf : ∀ x, ok x = true → rngB (w x)) (l : List α) (h : l.all ok = true) : rngB (l.flatMap w) := by
  intro y hy
  obtain ⟨x, hx, hy⟩ := List.mem_flatMap.1 hy
  exact hf x (List.all_eq_true.1 h x hx) y hy
theorem rng_wFunc {x : S36} (h : okFunc x = true) : rngB (wFunc x) := by
  simp only [okFunc, Bool.and_eq_true] at h
  refine rngB_app.2 ⟨?_, rng_many (fun _ => rng_wInstr) _ h.2⟩
  intro y hy
  simp only [List.mem_cons, List.not_mem_nil, or_false] at hy
  rcases hy with rfl | rfl
  · exact fitsB_iff.1 h.1.1
  · exact fitsB_iff.1 h.1.2
theorem rng_wProg {p : List S36} (h : okProg p = true) : rngB (wProg p) := by
  simp only [okProg, Bool.and_eq_true] at h
  refine rngB_app.2 ⟨?_, rng_many (fun _ => rng_wFunc) _ h.2⟩
  intro y hy
  simp only [List.mem_cons, List.not_mem_nil, or_false] at hy
  rcases hy with rfl | rfl
  · omega
  · exact fitsB_iff.1 h.1
theorem read_write {p : List S36} (h : okProg p = true) : code_Read.f (wProg p) = some (p, 0) := by
  unfold code_Read.f; rw [if_pos (rng_wProg h), readP_w h]

/-! ### write of what is read -/
theorem shape_parts {op : Int} (h1 : 1 ≤ op) (h2 : op ≤ 17) : ((shapeP op).1 = 0 ∨ (shapeP op).1 = 1 ∨ (shapeP op).1 = 2 ∨ (shapeP op).1 = 3) ∧ ((shapeP op).2.1 = 0 ∨ (shapeP op).2.1 = 1 ∨ (shapeP op).2.1 = 2 ∨ (shapeP op).2.1 = 3) ∧
    ((shapeP op).2.2.1 = 0 ∨ (shapeP op).2.2.1 = 1 ∨ (shapeP op).2.2.1 = 2 ∨ (shapeP op).2.2.1 = 3) ∧ ((shapeP op).2.2.2.1 = 0 ∨ (shapeP op).2.2.2.1 = 4 ∨ (shapeP op).2.2.2.1 = 5 ∨ (shapeP op).2.2.2.1 = 6) := by
  have : op = 1 ∨ op = 2 ∨ op = 3 ∨ op = 4 ∨ op = 5 ∨ op = 6 ∨ op = 7 ∨ op = 8 ∨ op = 9 ∨ op = 10 ∨ op = 11 ∨ op = 12 ∨ op = 13 ∨ op = 14 ∨ op = 15 ∨ op = 16 ∨ op = 17 := by omega
  rcases this with rfl | rfl | rfl | rfl | rfl | rfl | rfl | rfl | rfl | rfl | rfl | rfl | rfl | rfl | rfl | rfl | rfl <;> decide
theorem inB_of {lo hi n : Int} (h : inB lo hi n = true) : lo ≤ n ∧ n < hi := by simpa [inB] using h
theorem part_byte {np lc : Nat} {n p : Int} (hnp : np ≤ 16) (hp : p = 0 ∨ p = 1 ∨ p = 2 ∨ p = 3) (hz : ¬ (p = 0 ∧ n ≠ 0)) (h : fieldE np lc n p = none) : fitsB n = true := by
  rw [fitsB_iff]
  rcases hp with rfl | rfl | rfl | rfl
  · have : n = 0 := Classical.not_not.1 fun hn => hz ⟨rfl, hn⟩
    omega
  · have := field_one h; omega
  · by_cases hI : inB 0 4 n = true
    · have := inB_of hI; omega
    · simp [fieldE, hI] at h
  · have := field_three h; omega
theorem part_word {np lc : Nat} {n p : Int} (hlc : lc ≤ 64) (hp : p = 0 ∨ p = 4 ∨ p = 5 ∨ p = 6) (hz : ¬ (p = 0 ∧ n ≠ 0)) (h : fieldE np lc n p = none) : -2147483648 ≤ n ∧ n < 2147483648 := by
  rcases hp with rfl | rfl | rfl | rfl
  · have : n = 0 := Classical.not_not.1 fun hn => hz ⟨rfl, hn⟩
    omega
  · by_cases hI : inB (-2147483648) 2147483648 n = true
    · exact inB_of hI
    · simp [fieldE, hI] at h
  · by_cases hI : inB 0 lc n = true
    · have := inB_of hI; omega
    · simp [fieldE, hI] at h
  · by_cases hI : inB 16 2147483648 n = true
    · have := inB_of hI; omega
    · simp [fieldE, hI] at h
theorem instr_fits {lc : Nat} {l : List S36} {x : S33} (hl : l.length ≤ 16) (hlc : lc ≤ 64) (h : instrE lc l x = none) : okInstr x = true := by
  by_cases hop : 1 ≤ x.f0 ∧ x.f0 ≤ 17
  · obtain ⟨pa, pb, pc, pk⟩ := shape_parts hop.1 hop.2
    obtain ⟨⟨a, b, c, k, is⟩, hsh⟩ : ∃ s, s = shapeP x.f0 := ⟨_, rfl⟩
    rw [instrE_eq hsh.symm] at h
    rw [← hsh] at pa pb pc pk
    dsimp only at pa pb pc pk
    repeat' split at h
    all_goals first | cases h | skip
    rename_i h0 h1 h2 h3 h4
    simp only [Option.or_eq_none_iff] at h
    obtain ⟨e1, e2, e3, e4, e5⟩ := h
    have hk := part_word hlc pk h4 e4
    exact (okInstr_iff x).2 ⟨hk.1, hk.2, fitsB_iff.2 (by omega), part_byte hl pa h1 e1, part_byte hl pb h2 e2, part_byte hl pc h3 e3⟩
  · rw [instrE_eq (shape_out hop)] at h
    cases h
theorem instrs_fit {lc : Nat} {l : List S36} (hl : l.length ≤ 16) (hlc : lc ≤ 64) : ∀ (c : List S33) (k : Nat), instrsE lc l k c = none → c.all okInstr = true
  | [], k, h => rfl
  | x :: r, k, h => by
    simp only [instrsE] at h
    cases he : instrE lc l x with
    | some e => rw [he] at h; cases h
    | none =>
      rw [he] at h
      rw [List.all_cons, instr_fits hl hlc he, instrs_fit hl hlc r (k + 1) h]
      rfl
theorem func_fits {l : List S36} (hl : l.length ≤ 16) {f : S36} (h : funcE l f = none) : okFunc f = true := by
  unfold funcE at h
  by_cases h0 : 0 ≤ f.f0 ∧ f.f0 ≤ 4
  · rw [if_pos h0] at h
    by_cases h1 : 1 ≤ f.f1.length ∧ f.f1.length ≤ 64
    · rw [if_pos h1] at h
      simp only [Option.or_eq_none_iff] at h
      simp only [okFunc, Bool.and_eq_true]
      exact ⟨⟨fitsB_iff.2 (by omega), fitsB_iff.2 (by omega)⟩, instrs_fit hl h1.2 _ _ h.1⟩
    · rw [if_neg h1] at h; cases h
  · rw [if_neg h0] at h; cases h
theorem funcs_fit {l : List S36} (hl : l.length ≤ 16) : ∀ (r : List S36) (k : Nat), funcsE l k r = none → r.all okFunc = true
  | [], k, h => rfl
  | x :: r, k, h => by
    simp only [funcsE] at h
    cases he : funcE l x with
    | some e => rw [he] at h; cases h
    | none =>
      rw [he] at h
      rw [List.all_cons, func_fits hl he, funcs_fit hl r (k + 1) h]
      rfl
theorem check_fits {l : List S36} (h : (checkP l).2.2 = 0) : okProg l = true := by
  obtain ⟨hb, hf, _⟩ := check_zero h
  simp only [okProg, Bool.and_eq_true]
  exact ⟨fitsB_iff.2 (by omega), funcs_fit hb.2 l 0 hf⟩
theorem validFits_pure (l : List S50) : ∃ k, haymowlaw03_ValidFits.f k l = some true := by
  obtain ⟨b, h1, h2⟩ := light_ev l
  refine Ev.rounds (g := fun k => haymowlaw03_ValidFits.f k l) (r := true) ?_
  cases b with
  | false =>
    refine Ev.bind (g := fun k => haymowlaw03_light.f k l) (f := fun k t => if t = true then _ else some true) h1 ?_
    exact Ev.congr (fun k => if_neg (by simp)) (Ev.now true)
  | true =>
    obtain ⟨hl, hf⟩ := h2 rfl
    refine Ev.bind (g := fun k => haymowlaw03_light.f k l) (f := fun k t => if t = true then _ else some true) h1 ?_
    refine Ev.congr (fun k => if_pos rfl) ?_
    refine Ev.bind (g := fun k => haymowlaw03_of.f k l) (f := fun k t => (valid_Check.f t).bind fun bt203 => _) (of_ev l (by omega) (fun f h => by have := hf f h; omega)) ?_
    refine Ev.congr (f := fun _ => some true) (fun k => ?_) (Ev.now true)
    simp only [valid_Check.f, Option.bind_some]
    by_cases h0 : (checkP (l.map ofF)).2.2 = 0
    · rw [if_pos h0]
      have hok := check_fits h0
      simp only [code_Write.f, hok, if_true, Option.bind_some, read_write hok]
      rw [if_pos h0]
      simp only [awake_bind]
    · rw [if_neg h0, awake_bind]
end Go.Proofs.Ytkbbgkhanmmhpaa.H
