/- What is written is read, what is read is written: of the models alone. -/
import Derived.Test.YtojnimaiggobeaaPCode
import Derived.Test.YtojnimaiggobeaaCodeRead
namespace Go.Proofs.Ytojnimaiggobeaa.H
open Go.RowKit Go.Hay Go.Proofs.YtojnimaiggobeaaW.PrintWords Go.Proofs.YtojnimaiggobeaaW.PrintLast Go.Proofs.YtojnimaiggobeaaW.PrintMore
set_option linter.unusedVariables false
set_option linter.unusedSimpArgs false

theorem sgn_bytes {n : Int} (h0 : -2147483648 ≤ n) (h1 : n < 2147483648) : sgn (n % 256 + 256 * (n / 256 % 256) + 65536 * (n / 65536 % 256) + 16777216 * (n / 16777216 % 256)) = n := by
  unfold sgn; split <;> omega
theorem bytes_sgn {a b c d : Int} (a0 : 0 ≤ a ∧ a ≤ 255) (b0 : 0 ≤ b ∧ b ≤ 255) (c0 : 0 ≤ c ∧ c ≤ 255) (d0 : 0 ≤ d ∧ d ≤ 255) :
    -2147483648 ≤ sgn (a + 256 * b + 65536 * c + 16777216 * d) ∧ sgn (a + 256 * b + 65536 * c + 16777216 * d) < 2147483648 ∧
    sgn (a + 256 * b + 65536 * c + 16777216 * d) % 256 = a ∧ sgn (a + 256 * b + 65536 * c + 16777216 * d) / 256 % 256 = b ∧ sgn (a + 256 * b + 65536 * c + 16777216 * d) / 65536 % 256 = c ∧ sgn (a + 256 * b + 65536 * c + 16777216 * d) / 16777216 % 256 = d := by
  unfold sgn; split <;> omega
theorem fitsB_iff {n : Int} : fitsB n = true ↔ 0 ≤ n ∧ n ≤ 255 := by simp [fitsB]

/-! ### read of what is written -/
theorem pInstr_w {x : S44} (h : okInstr x = true) (t : List Int) : pInstr (wInstr x ++ t) = some (x, t) := by
  obtain ⟨h1, h2, _⟩ := (okInstr_iff x).1 h
  simp [wInstr, pInstr, pWord, sgn_bytes h1 h2]
theorem pMany_w {α : Type} {f : List Int → Option (α × List Int)} {w : α → List Int} {ok : α → Bool} (hf : ∀ x t, ok x = true → f (w x ++ t) = some (x, t)) :
    ∀ (l : List α) (t : List Int), l.all ok = true → pMany f l.length (l.flatMap w ++ t) = some (l, t)
  | [], t, _ => by simp [pMany]
  | x :: l, t, h => by
    rw [List.all_cons, Bool.and_eq_true] at h
    simp only [List.length_cons, pMany, List.flatMap_cons, List.append_assoc]
    rw [hf x _ h.1, Option.bind_some, pMany_w hf l t h.2]
    rfl
theorem pFunc_w {x : S47} (h : okFunc x = true) (t : List Int) : pFunc (wFunc x ++ t) = some (x, t) := by
  simp only [okFunc, Bool.and_eq_true] at h
  have := pMany_w (f := pInstr) (w := wInstr) (ok := okInstr) (fun x t h => pInstr_w h t) x.f1 t h.2
  simp [wFunc, pFunc, pSeveral, this]
theorem readP_w {p : List S47} (h : okProg p = true) : readP (wProg p) = (p, 0) := by
  simp only [okProg, Bool.and_eq_true] at h
  have := pMany_w (f := pFunc) (w := wFunc) (ok := okFunc) (fun x t h => pFunc_w h t) p [] h.2
  simp only [List.append_nil] at this
  simp [wProg, readP, pSeveral, this]
theorem rngB_app {a b : List Int} : rngB (a ++ b) ↔ rngB a ∧ rngB b := by
  simp only [rngB, List.mem_append]
  exact ⟨fun h => ⟨fun x hx => h x (.inl hx), fun x hx => h x (.inr hx)⟩, fun h x hx => hx.elim (h.1 x) (h.2 x)⟩
theorem rng_wInstr {x : S44} (h : okInstr x = true) : rngB (wInstr x) := by
  obtain ⟨h1, h2, h3, h4, h5, h6⟩ := (okInstr_iff x).1 h
  rw [fitsB_iff] at h3 h4 h5 h6
  intro y hy
  simp only [wInstr, List.mem_cons, List.not_mem_nil, or_false] at hy
  rcases hy with rfl | rfl | rfl | rfl | rfl | rfl | rfl | rfl <;> omega
theorem rng_many {α : Type} {w : α → List Int} {ok : α → Bool} (hf : ∀ x, ok x = true → rngB (w x)) (l : List α) (h : l.all ok = true) : rngB (l.flatMap w) := by
  intro y hy
  obtain ⟨x, hx, hy⟩ := List.mem_flatMap.1 hy
  exact hf x (List.all_eq_true.1 h x hx) y hy
theorem rng_wFunc {x : S47} (h : okFunc x = true) : rngB (wFunc x) := by
  simp only [okFunc, Bool.and_eq_true] at h
  refine rngB_app.2 ⟨?_, rng_many (fun _ => rng_wInstr) _ h.2⟩
  intro y hy
  simp only [List.mem_cons, List.not_mem_nil, or_false] at hy
  rcases hy with rfl | rfl
  · exact fitsB_iff.1 h.1.1
  · exact fitsB_iff.1 h.1.2
theorem rng_wProg {p : List S47} (h : okProg p = true) : rngB (wProg p) := by
  simp only [okProg, Bool.and_eq_true] at h
  refine rngB_app.2 ⟨?_, rng_many (fun _ => rng_wFunc) _ h.2⟩
  intro y hy
  simp only [List.mem_cons, List.not_mem_nil, or_false] at hy
  rcases hy with rfl | rfl
  · omega
  · exact fitsB_iff.1 h.1
theorem read_write {p : List S47} (h : okProg p = true) : code_Read.f (wProg p) = some (p, 0) := by
  unfold code_Read.f; rw [if_pos (rng_wProg h), readP_w h]

/-! ### write of what is read -/
theorem pInstr_inv {bs : List Int} {x : S44} {t : List Int} (hr : rngB bs) (h : pInstr bs = some (x, t)) : bs = wInstr x ++ t ∧ okInstr x = true := by
  match bs, h with
  | a :: b :: c :: d :: e :: f :: g :: k :: r, h =>
    simp only [pInstr, pWord, Option.map_some, Option.some.injEq, Prod.mk.injEq] at h
    obtain ⟨rfl, rfl⟩ := h
    have q := bytes_sgn (hr e (by simp)) (hr f (by simp)) (hr g (by simp)) (hr k (by simp))
    refine ⟨?_, (okInstr_iff _).2 ⟨q.1, q.2.1, fitsB_iff.2 (hr a (by simp)), fitsB_iff.2 (hr b (by simp)), fitsB_iff.2 (hr c (by simp)), fitsB_iff.2 (hr d (by simp))⟩⟩
    simp [wInstr, q.2.2.1, q.2.2.2.1, q.2.2.2.2.1, q.2.2.2.2.2]
  | [], h | [_], h | [_, _], h | [_, _, _], h => simp [pInstr] at h
  | [_, _, _, _], h | [_, _, _, _, _], h | [_, _, _, _, _, _], h | [_, _, _, _, _, _, _], h => simp [pInstr, pWord] at h
theorem pMany_inv {α : Type} {f : List Int → Option (α × List Int)} {w : α → List Int} {ok : α → Bool} (hf : ∀ bs x t, rngB bs → f bs = some (x, t) → bs = w x ++ t ∧ ok x = true) :
    ∀ (n : Nat) (bs : List Int) (l : List α) (t : List Int), rngB bs → pMany f n bs = some (l, t) → bs = l.flatMap w ++ t ∧ l.all ok = true ∧ l.length = n
  | 0, bs, l, t, hr, h => by
    simp only [pMany, Option.some.injEq, Prod.mk.injEq] at h
    obtain ⟨rfl, rfl⟩ := h
    simp
  | n + 1, bs, l, t, hr, h => by
    simp only [pMany] at h
    cases h1 : f bs with
    | none => rw [h1] at h; cases h
    | some y =>
    obtain ⟨x, r⟩ := y
    rw [h1, Option.bind_some] at h
    obtain ⟨e1, e2⟩ := hf bs x r hr h1
    cases h2 : pMany f n r with
    | none => rw [h2] at h; cases h
    | some y =>
    obtain ⟨l2, r2⟩ := y
    rw [h2] at h
    simp only [Option.map_some, Option.some.injEq, Prod.mk.injEq] at h
    obtain ⟨rfl, rfl⟩ := h
    rw [e1] at hr
    obtain ⟨g1, g2, g3⟩ := pMany_inv hf n r l2 r2 (rngB_app.1 hr).2 h2
    exact ⟨by rw [e1, g1]; simp, by simp [e2, g2], by simp [g3]⟩
theorem pFunc_inv {bs : List Int} {x : S47} {t : List Int} (hr : rngB bs) (h : pFunc bs = some (x, t)) : bs = wFunc x ++ t ∧ okFunc x = true := by
  match bs, h with
  | a :: n :: r, h =>
    simp only [pFunc, pSeveral] at h
    cases h2 : pMany pInstr n.toNat r with
    | none => rw [h2] at h; cases h
    | some y =>
    obtain ⟨l, r2⟩ := y
    rw [h2] at h
    simp only [Option.map_some, Option.some.injEq, Prod.mk.injEq] at h
    obtain ⟨rfl, rfl⟩ := h
    obtain ⟨g1, g2, g3⟩ := pMany_inv (fun _ _ _ => pInstr_inv) n.toNat r l r2 (fun y hy => hr y (by simp [hy])) h2
    have hn := hr n (by simp)
    have e : (l.length : Int) = n := by omega
    refine ⟨by simp [wFunc, e, ← g1], ?_⟩
    simp only [okFunc, Bool.and_eq_true]
    exact ⟨⟨fitsB_iff.2 (hr a (by simp)), by rw [e]; exact fitsB_iff.2 hn⟩, g2⟩
  | [], h => simp [pFunc] at h
  | [_], h => simp [pFunc, pSeveral] at h
theorem readP_ok {bs : List Int} (h : (readP bs).2 = 0) : ∃ t p, bs = 72 :: t ∧ pSeveral pFunc t = some (p, []) ∧ readP bs = (p, 0) := by
  unfold readP at h ⊢
  split at h
  · rename_i t
    split at h
    · cases h
    · rename_i p hp
      exact ⟨t, p, rfl, hp, by simp [hp]⟩
    · cases h
  · cases h
theorem readP_inv {bs : List Int} (hr : rngB bs) (h : (readP bs).2 = 0) : ∃ p, readP bs = (p, 0) ∧ bs = wProg p ∧ okProg p = true := by
  obtain ⟨t, p, rfl, hp, e⟩ := readP_ok h
  refine ⟨p, e, ?_⟩
  match t, hp with
  | n :: r, hp =>
    simp only [pSeveral] at hp
    obtain ⟨g1, g2, g3⟩ := pMany_inv (fun _ _ _ => pFunc_inv) n.toNat r p [] (fun y hy => hr y (by simp [hy])) hp
    have hn := hr n (by simp)
    have e : (p.length : Int) = n := by omega
    rw [List.append_nil] at g1
    refine ⟨by simp [wProg, e, ← g1], ?_⟩
    simp only [okProg, Bool.and_eq_true]
    exact ⟨by rw [e]; exact fitsB_iff.2 hn, g2⟩
  | [], hp => simp [pSeveral] at hp
theorem readP_err {bs : List Int} (h : (readP bs).2 ≠ 0) : (readP bs).1 = [] := by
  unfold readP at h ⊢
  split at h
  · split at h <;> simp_all
  · rfl

/-! ### more bytes, fewer bytes -/
theorem pInstr_more {bs : List Int} {x : S44} {t : List Int} (m : List Int) (h : pInstr bs = some (x, t)) : pInstr (bs ++ m) = some (x, t ++ m) := by
  match bs, h with
  | a :: b :: c :: d :: e :: f :: g :: k :: r, h =>
    simp only [pInstr, pWord, Option.map_some, Option.some.injEq, Prod.mk.injEq] at h
    obtain ⟨rfl, rfl⟩ := h
    rfl
  | [], h | [_], h | [_, _], h | [_, _, _], h => simp [pInstr] at h
  | [_, _, _, _], h | [_, _, _, _, _], h | [_, _, _, _, _, _], h | [_, _, _, _, _, _, _], h => simp [pInstr, pWord] at h
theorem pMany_more {α : Type} {f : List Int → Option (α × List Int)} (m : List Int) (hf : ∀ bs x t, f bs = some (x, t) → f (bs ++ m) = some (x, t ++ m)) :
    ∀ (n : Nat) (bs : List Int) (l : List α) (t : List Int), pMany f n bs = some (l, t) → pMany f n (bs ++ m) = some (l, t ++ m)
  | 0, bs, l, t, h => by
    simp only [pMany, Option.some.injEq, Prod.mk.injEq] at h ⊢
    obtain ⟨rfl, rfl⟩ := h
    exact ⟨rfl, rfl⟩
  | n + 1, bs, l, t, h => by
    simp only [pMany] at h ⊢
    cases h1 : f bs with
    | none => rw [h1] at h; cases h
    | some y =>
    obtain ⟨x, r⟩ := y
    rw [h1, Option.bind_some] at h
    rw [hf bs x r h1, Option.bind_some]
    cases h2 : pMany f n r with
    | none => rw [h2] at h; cases h
    | some y =>
    obtain ⟨l2, r2⟩ := y
    rw [h2] at h
    rw [pMany_more m hf n r l2 r2 h2]
    simp only [Option.map_some, Option.some.injEq, Prod.mk.injEq] at h ⊢
    obtain ⟨rfl, rfl⟩ := h
    exact ⟨rfl, rfl⟩
theorem pSeveral_more {α : Type} {f : List Int → Option (α × List Int)} (m : List Int) (hf : ∀ bs x t, f bs = some (x, t) → f (bs ++ m) = some (x, t ++ m)) {bs : List Int} {l : List α} {t : List Int} (h : pSeveral f bs = some (l, t)) : pSeveral f (bs ++ m) = some (l, t ++ m) := by
  cases bs with
  | nil => simp [pSeveral] at h
  | cons n r => exact pMany_more m hf n.toNat r l t h
theorem pFunc_more {bs : List Int} {x : S47} {t : List Int} (m : List Int) (h : pFunc bs = some (x, t)) : pFunc (bs ++ m) = some (x, t ++ m) := by
  cases bs with
  | nil => simp [pFunc] at h
  | cons a r =>
    simp only [pFunc, List.cons_append] at h ⊢
    cases h2 : pSeveral pInstr r with
    | none => rw [h2] at h; cases h
    | some y =>
    obtain ⟨l, r2⟩ := y
    rw [h2] at h
    rw [pSeveral_more m (fun _ _ _ => pInstr_more m) h2]
    simp only [Option.map_some, Option.some.injEq, Prod.mk.injEq] at h ⊢
    obtain ⟨rfl, rfl⟩ := h
    exact ⟨rfl, rfl⟩
theorem readP_more {bs m : List Int} (h : (readP bs).2 = 0) (hm : m ≠ []) : readP (bs ++ m) = ([], 3) := by
  obtain ⟨t, p, rfl, hp, e⟩ := readP_ok h
  have := pSeveral_more m (fun _ _ _ => pFunc_more m) hp
  cases m with
  | nil => exact absurd rfl hm
  | cons a m => simp [readP, this]
theorem readP_cut {bs : List Int} (h : (readP bs).2 = 0) {k : Nat} (h1 : 1 ≤ k) (h2 : k < bs.length) : readP (bs.take k) = ([], 2) := by
  obtain ⟨t, p, rfl, hp, e⟩ := readP_ok h
  obtain ⟨k, rfl⟩ : ∃ j, k = j + 1 := ⟨k - 1, by omega⟩
  simp only [List.length_cons] at h2
  rw [List.take_succ_cons]
  cases hq : pSeveral pFunc (t.take k) with
  | none => simp [readP, hq]
  | some y =>
    obtain ⟨l, r⟩ := y
    have := pSeveral_more (t.drop k) (fun _ _ _ => pFunc_more _) hq
    rw [List.take_append_drop, hp] at this
    simp only [Option.some.injEq, Prod.mk.injEq] at this
    have h3 := this.2
    have : (t.drop k).length = 0 := by
      have := congrArg List.length h3
      simp only [List.length_append, List.length_nil] at this
      omega
    rw [List.length_drop] at this
    omega
end Go.Proofs.Ytojnimaiggobeaa.H
