/- What the proof of FrameNew stands on, part 11: this session's own texts and the words that the kit's print lays, those that are used. -/
import Derived.Test.YtcciejcpijlkfaaZFrameNew10
set_option linter.unusedVariables false
set_option linter.unusedSimpArgs false
namespace Go.Proofs.Ytcciejcpijlkfaa.H
open Go.RowKit Go.Hay Go.Proofs.YtcciejcpijlkfaaW.PrintWords Go.Proofs.YtcciejcpijlkfaaW.PrintLast Go.Proofs.YtcciejcpijlkfaaW.PrintMore
theorem idx4 {a b c d e : Value} {i : Int} (w : World) (h : (i = 0 ∧ e = a) ∨ (i = 1 ∧ e = b) ∨ (i = 2 ∧ e = c) ∨ (i = 3 ∧ e = d)) : (Instr.index 188 (.agg #[a, b, c, d]) (.int .i64 i)).run Try.prog w = .ok e w := by
  have hu188 := Try.underlying188
  rcases h with ⟨rfl, rfl⟩ | ⟨rfl, rfl⟩ | ⟨rfl, rfl⟩ | ⟨rfl, rfl⟩ <;> simp [Instr.index, run_underlying hu188, asIntOf, go_sem]
theorem blk_other {w : World} {g b : Nat} {o : Obj} (h : w.heap[g]? = some o) (hne : g ≠ b) (i : Nat) (v : Value) : (w.setCell ⟨b, i, none⟩ v).heap[g]? = some o := (Below.heap_setCell w _ v g hne).trans h
structure IW (w : World) (A : Option Addr) (n c : Nat) (f at_ : Int) (x : S65) (w' : World) : Prop where
  below : Below w.heap.size w w'
  b0 : w'.heap[w.heap.size]? = some (.cells #[.slice A n c, .int .i64 f, .int .i64 at_] 158 (0, 0))
  b1 : w'.heap[w.heap.size + 1]? = some (.cells #[.int .i64 x.f0, .int .i64 x.f1, .int .i64 x.f2, .int .i64 x.f3, .int .i64 x.f4] 65 (0, 0))
theorem IW.size {w : World} {A : Option Addr} {n c : Nat} {f at_ : Int} {x : S65} {w' : World} (h : IW w A n c f at_ x w') : w.heap.size + 2 ≤ w'.heap.size := by
  have := blk_lt h.b1; omega
theorem IW.keep {w : World} {A : Option Addr} {n c : Nat} {f at_ : Int} {x : S65} {w' w'' : World} (h : IW w A n c f at_ x w') (k : Keep (fun b => w.heap.size + 2 ≤ b) w' w'') : IW w A n c f at_ x w'' :=
  ⟨h.below.trans (k.below h.below.size (fun b hb hs => by omega)), k.blk h.b0 (by omega), k.blk h.b1 (by omega)⟩
theorem IW.start (w : World) (A : Option Addr) (n c : Nat) (f at_ : Int) (x : S65) : IW w A n c f at_ x ((w.alloc (.cells #[.slice A n c, .int .i64 f, .int .i64 at_] 158)).alloc (.cells #[.int .i64 x.f0, .int .i64 x.f1, .int .i64 x.f2, .int .i64 x.f3, .int .i64 x.f4] 65)) := by
  have hb0 := ((Below.refl w.heap.size w).alloc (Nat.le_refl _) (.cells #[.slice A n c, .int .i64 f, .int .i64 at_] 158))
  refine ⟨hb0.alloc hb0.size _, blk_alloc (alloc_blk w _) _, ?_⟩
  have := alloc_blk (w.alloc (.cells #[.slice A n c, .int .i64 f, .int .i64 at_] 158)) (.cells #[.int .i64 x.f0, .int .i64 x.f1, .int .i64 x.f2, .int .i64 x.f3, .int .i64 x.f4] 65)
  have e : (w.alloc (.cells #[.slice A n c, .int .i64 f, .int .i64 at_] 158)).heap.size = w.heap.size + 1 := Array.size_push _
  rwa [e] at this
structure JW (w : World) (A : Option Addr) (n c : Nat) (f at_ : Int) (x : S65) (g4 b6 b7 : Nat) (pa pb pc pk : Int) (w' : World) : Prop where
  iw : IW w A n c f at_ x w'
  h4 : w'.heap[g4]? = some (.cells #[.int .i64 pa, .int .i64 pb, .int .i64 pc, .int .i64 pk] 185 (0, 0))
  h6 : w'.heap[b6]? = some (.cells #[.int .i64 x.f1, .int .i64 x.f2, .int .i64 x.f3, .int .i64 x.f4] 25 (0, 0))
  h7 : w'.heap[b7]? = some (.cells #[.int .i64 pa, .int .i64 pb, .int .i64 pc, .int .i64 pk] 188 (0, 0))
theorem JW.keep {w : World} {A : Option Addr} {n c : Nat} {f at_ : Int} {x : S65} {g4 b6 b7 : Nat} {pa pb pc pk : Int} {w' w'' : World} (h : JW w A n c f at_ x g4 b6 b7 pa pb pc pk w') (k : Below w'.heap.size w' w'') : JW w A n c f at_ x g4 b6 b7 pa pb pc pk w'' :=
  ⟨h.iw.keep (Keep.of_belowB (k.mono h.iw.size)), (k.block _ (blk_lt h.h4)).trans h.h4, (k.block _ (blk_lt h.h6)).trans h.h6, (k.block _ (blk_lt h.h7)).trans h.h7⟩
def formTo (x : S65) (pa pb pc pk : Int) (i : Nat) : Prop := (0 < i → ¬ (pa = 0 ∧ x.f1 ≠ 0)) ∧ (1 < i → ¬ (pb = 0 ∧ x.f2 ≠ 0)) ∧ (2 < i → ¬ (pc = 0 ∧ x.f3 ≠ 0)) ∧ (3 < i → ¬ (pk = 0 ∧ x.f4 ≠ 0))
section
variable {x : S65} {pa pb pc pk : Int} {E : Option Int}
theorem form_no0 (h : formTo x pa pb pc pk 0) (hp : pa = 0) (hq : ¬ x.f1 = 0) : (if pa = 0 ∧ x.f1 ≠ 0 then some 4 else if pb = 0 ∧ x.f2 ≠ 0 then some 4 else if pc = 0 ∧ x.f3 ≠ 0 then some 4 else if pk = 0 ∧ x.f4 ≠ 0 then some 4 else E) = some 4 := if_pos ⟨hp, hq⟩
theorem form_no1 (h : formTo x pa pb pc pk 1) (hp : pb = 0) (hq : ¬ x.f2 = 0) : (if pa = 0 ∧ x.f1 ≠ 0 then some 4 else if pb = 0 ∧ x.f2 ≠ 0 then some 4 else if pc = 0 ∧ x.f3 ≠ 0 then some 4 else if pk = 0 ∧ x.f4 ≠ 0 then some 4 else E) = some 4 := by
  rw [if_neg (h.1 (by omega)), if_pos ⟨hp, hq⟩]
theorem form_no2 (h : formTo x pa pb pc pk 2) (hp : pc = 0) (hq : ¬ x.f3 = 0) : (if pa = 0 ∧ x.f1 ≠ 0 then some 4 else if pb = 0 ∧ x.f2 ≠ 0 then some 4 else if pc = 0 ∧ x.f3 ≠ 0 then some 4 else if pk = 0 ∧ x.f4 ≠ 0 then some 4 else E) = some 4 := by
  rw [if_neg (h.1 (by omega)), if_neg (h.2.1 (by omega)), if_pos ⟨hp, hq⟩]
theorem form_no3 (h : formTo x pa pb pc pk 3) (hp : pk = 0) (hq : ¬ x.f4 = 0) : (if pa = 0 ∧ x.f1 ≠ 0 then some 4 else if pb = 0 ∧ x.f2 ≠ 0 then some 4 else if pc = 0 ∧ x.f3 ≠ 0 then some 4 else if pk = 0 ∧ x.f4 ≠ 0 then some 4 else E) = some 4 := by
  rw [if_neg (h.1 (by omega)), if_neg (h.2.1 (by omega)), if_neg (h.2.2.1 (by omega)), if_pos ⟨hp, hq⟩]
theorem form_all (h : formTo x pa pb pc pk 4) : (if pa = 0 ∧ x.f1 ≠ 0 then some 4 else if pb = 0 ∧ x.f2 ≠ 0 then some 4 else if pc = 0 ∧ x.f3 ≠ 0 then some 4 else if pk = 0 ∧ x.f4 ≠ 0 then some 4 else E) = E := by
  rw [if_neg (h.1 (by omega)), if_neg (h.2.1 (by omega)), if_neg (h.2.2.1 (by omega)), if_neg (h.2.2.2 (by omega))]
theorem form_next0 (h : formTo x pa pb pc pk 0) (hq : ¬ (pa = 0 ∧ x.f1 ≠ 0)) : formTo x pa pb pc pk (0 + 1) := ⟨fun _ => hq, fun h => by omega, fun h => by omega, fun h => by omega⟩
theorem form_next1 (h : formTo x pa pb pc pk 1) (hq : ¬ (pb = 0 ∧ x.f2 ≠ 0)) : formTo x pa pb pc pk (1 + 1) := ⟨fun _ => h.1 (by omega), fun _ => hq, fun h => by omega, fun h => by omega⟩
theorem form_next2 (h : formTo x pa pb pc pk 2) (hq : ¬ (pc = 0 ∧ x.f3 ≠ 0)) : formTo x pa pb pc pk (2 + 1) := ⟨fun _ => h.1 (by omega), fun _ => h.2.1 (by omega), fun _ => hq, fun h => by omega⟩
theorem form_next3 (h : formTo x pa pb pc pk 3) (hq : ¬ (pk = 0 ∧ x.f4 ≠ 0)) : formTo x pa pb pc pk (3 + 1) := ⟨fun _ => h.1 (by omega), fun _ => h.2.1 (by omega), fun _ => h.2.2.1 (by omega), fun _ => hq⟩
end
def passTo (np lc : Nat) (x : S65) (pa pb pc pk : Int) (i : Nat) : Prop := (0 < i → fieldE np lc x.f1 pa = none) ∧ (1 < i → fieldE np lc x.f2 pb = none) ∧ (2 < i → fieldE np lc x.f3 pc = none) ∧ (3 < i → fieldE np lc x.f4 pk = none)
section
variable {np lc : Nat} {x : S65} {pa pb pc pk : Int} {E : Option Int}
theorem pass_all (h : passTo np lc x pa pb pc pk 4) : (fieldE np lc x.f1 pa).or ((fieldE np lc x.f2 pb).or ((fieldE np lc x.f3 pc).or ((fieldE np lc x.f4 pk).or E))) = E := by
  rw [h.1 (by omega), h.2.1 (by omega), h.2.2.1 (by omega), h.2.2.2 (by omega)]; rfl
theorem pass_no0 (h : passTo np lc x pa pb pc pk 0) {e : Int} (he : fieldE np lc x.f1 pa = some e) : (fieldE np lc x.f1 pa).or ((fieldE np lc x.f2 pb).or ((fieldE np lc x.f3 pc).or ((fieldE np lc x.f4 pk).or E))) = some e := by
  rw [he]; rfl
theorem pass_no1 (h : passTo np lc x pa pb pc pk 1) {e : Int} (he : fieldE np lc x.f2 pb = some e) : (fieldE np lc x.f1 pa).or ((fieldE np lc x.f2 pb).or ((fieldE np lc x.f3 pc).or ((fieldE np lc x.f4 pk).or E))) = some e := by
  rw [h.1 (by omega), he]; rfl
theorem pass_no2 (h : passTo np lc x pa pb pc pk 2) {e : Int} (he : fieldE np lc x.f3 pc = some e) : (fieldE np lc x.f1 pa).or ((fieldE np lc x.f2 pb).or ((fieldE np lc x.f3 pc).or ((fieldE np lc x.f4 pk).or E))) = some e := by
  rw [h.1 (by omega), h.2.1 (by omega), he]; rfl
theorem pass_no3 (h : passTo np lc x pa pb pc pk 3) {e : Int} (he : fieldE np lc x.f4 pk = some e) : (fieldE np lc x.f1 pa).or ((fieldE np lc x.f2 pb).or ((fieldE np lc x.f3 pc).or ((fieldE np lc x.f4 pk).or E))) = some e := by
  rw [h.1 (by omega), h.2.1 (by omega), h.2.2.1 (by omega), he]; rfl
theorem pass_next0 (h : passTo np lc x pa pb pc pk 0) (he : fieldE np lc x.f1 pa = none) : passTo np lc x pa pb pc pk (0 + 1) := ⟨fun _ => he, fun h => by omega, fun h => by omega, fun h => by omega⟩
theorem pass_next1 (h : passTo np lc x pa pb pc pk 1) (he : fieldE np lc x.f2 pb = none) : passTo np lc x pa pb pc pk (1 + 1) := ⟨fun _ => h.1 (by omega), fun _ => he, fun h => by omega, fun h => by omega⟩
theorem pass_next2 (h : passTo np lc x pa pb pc pk 2) (he : fieldE np lc x.f3 pc = none) : passTo np lc x pa pb pc pk (2 + 1) := ⟨fun _ => h.1 (by omega), fun _ => h.2.1 (by omega), fun _ => he, fun h => by omega⟩
theorem pass_next3 (h : passTo np lc x pa pb pc pk 3) (he : fieldE np lc x.f4 pk = none) : passTo np lc x pa pb pc pk (3 + 1) := ⟨fun _ => h.1 (by omega), fun _ => h.2.1 (by omega), fun _ => h.2.2.1 (by omega), fun _ => he⟩
theorem field_threeN {n : Int} (h : fieldE np lc n 3 = none) : 0 ≤ n ∧ n < np := by
  by_cases hI : inB 0 np n = true
  · simpa [inB] using hI
  · simp [fieldE, hI] at h
theorem field_oneN {n : Int} (h : fieldE np lc n 1 = none) : 0 ≤ n ∧ n < 8 := by
  by_cases hI : inB 0 8 n = true
  · simpa [inB] using hI
  · simp [fieldE, hI] at h
end
set_option maxRecDepth 100000 in
set_option maxHeartbeats 4000000 in
theorem instr_any (A : Option Addr) (c : Nat) (l : List S68) (f : Nat) (at_ : Int) (x : S65) (w : World) (hC : k68.C w A l.length l) (hf : f < l.length) :
    Calls Try.prog 61 #[.agg #[.slice A l.length c, .int .i64 f, .int .i64 at_], .agg #[.int .i64 x.f0, .int .i64 x.f1, .int .i64 x.f2, .int .i64 x.f3, .int .i64 x.f4]] w (stopPost f at_ (instrE l[f].f1.length l x) w) := by
  have hu158 := Try.underlying158
  have hu65 := Try.underlying65
  have hu185 := Try.underlying185
  have hu25 := Try.underlying25
  have hu188 := Try.underlying188
  have hse := shape_eq x.f0
  have h3 := shape_three x.f0
  obtain ⟨⟨pa, pb, pc, pk, is⟩, hsh⟩ : ∃ s, s = shapeP x.f0 := ⟨_, rfl⟩
  have hE := instrE_eq (lc := l[f].f1.length) (l := l) (x := x) hsh.symm
  rw [← hsh] at hse h3
  have hfa : ∀ (n p : Int) (w' : World), k68.C w' A l.length l → Calls Try.prog 81 #[.agg #[.slice A l.length c, .int .i64 f, .int .i64 at_], .int .i64 n, .int .i64 p] w' (stopPost f at_ (fieldE l.length l[f].f1.length n p) w') :=
    fun n p w' h => field_any A c l f at_ n p w' h hf
  obtain ⟨r, hr⟩ : ∃ r, r = instrE l[f].f1.length l x := ⟨_, rfl⟩
  rw [← hr] at hE ⊢
  clear hr
  generalize l[f].f1.length = lc at hE hfa
  have HE := Aside0.mk hE
  have HS := Aside0.mk hse
  have H3 := Aside0.mk h3
  have HC := Aside0.mk hC
  have HFA := Aside0.mk hfa
  have hi0 := fun w' => idx4 (a := .int .i64 pa) (b := .int .i64 pb) (c := .int .i64 pc) (d := .int .i64 pk) (i := 0) w' (.inl ⟨rfl, rfl⟩)
  have hi1 := fun w' => idx4 (a := .int .i64 pa) (b := .int .i64 pb) (c := .int .i64 pc) (d := .int .i64 pk) (i := 1) w' (.inr (.inl ⟨rfl, rfl⟩))
  have hi2 := fun w' => idx4 (a := .int .i64 pa) (b := .int .i64 pb) (c := .int .i64 pc) (d := .int .i64 pk) (i := 2) w' (.inr (.inr (.inl ⟨rfl, rfl⟩)))
  have hi3 := fun w' => idx4 (a := .int .i64 pa) (b := .int .i64 pb) (c := .int .i64 pc) (d := .int .i64 pk) (i := 3) w' (.inr (.inr (.inr ⟨rfl, rfl⟩)))
  have HX := Aside0.mk (IW.start w A l.length c f at_ x)
  clear hse h3 hsh hE hC hf hfa
  go_enter Try.func61, Try.ntmps61
  go_wp2_with fail
  refine (valid_shapeOf.calls 3 x.f0 pa pb pc pk is _ HS.out).mono ?_
  rintro e w1 ⟨rfl, hb1⟩
  have hx1 := HX.out.keep (Keep.of_belowB (hb1.mono HX.out.size))
  clear HX hb1
  have HX := Aside0.mk hx1
  have hx2 := hx1.keep ((Keep.refl (fun b => w.heap.size + 2 ≤ b) w1).alloc (.cells #[.int .i64 pa, .int .i64 pb, .int .i64 pc, .int .i64 pk] 185))
  have hg := alloc_blk w1 (.cells #[.int .i64 pa, .int .i64 pb, .int .i64 pc, .int .i64 pk] 185)
  have hg4 := HX.out.size
  have c0 := blk_cell hx2.b0 0
  have c1 := blk_cell hx2.b0 1
  have c2 := blk_cell hx2.b0 2
  clear hx1 HX
  have HX := Aside0.mk (And.intro hx2 (And.intro hg hg4))
  clear hx2 hg hg4
  go_wp2_with fail
  clear c0 c1 c2
  obtain ⟨hx2, hg, hg4⟩ := HX.out
  clear HX
  generalize w1.heap.size = g4 at hg hg4 ⊢
  generalize w1.alloc (.cells #[.int .i64 pa, .int .i64 pb, .int .i64 pc, .int .i64 pk] 185) = w2 at hx2 hg ⊢
  clear w1
  have HX := Aside0.mk (And.intro hx2 (And.intro hg hg4))
  clear hx2 hg hg4
  refine (need_any A l.length c f at_ 4 is w2).mono ?_
  rintro e w3 ⟨hb3, he⟩
  cases is with
  | false => 
    have hr : r = some 4 := HE.out
    subst hr
    subst he
    exact ⟨rfl, HX.out.1.below.trans (hb3.mono HX.out.1.below.size), rfl⟩
  | true =>
  subst he
  have hx3 := HX.out.1.keep (Keep.of_belowB (hb3.mono HX.out.1.size))
  have hg3 := (hb3.block _ (blk_lt HX.out.2.1)).trans HX.out.2.1
  have hg4 := HX.out.2.2
  clear HX hb3
  have HX := Aside0.mk (And.intro hx3 (And.intro hg3 hg4))
  clear hx3 hg3 hg4 w2
  have he := HE.out
  rw [if_neg (by simp)] at he
  clear HE
  have HE := Aside0.mk he
  clear he
  go_wp2_with fail
  refine wp_region_seq2 (fun w' => Below w3.heap.size w3 w') [] [.take 0, .take 1, .take 2, .take 3, .take 4, .take 5, .take 6, .take 7, .take 8, .take 9, .take 10, .take 11, .take 12, .take 13, .take 14, .take 15, .take 16, .take 17, .pair 18 19, .op 20, .op 21] (by kernel_rfl) (by kernel_rfl) rfl (by kernel_rfl) (panic_via (P := Try.prog) (fn := Try.f61) (fun _ _ _ => rfl)) ?_
  have hs : Below w3.heap.size w3 w3.drew := (Below.refl _ _).drew
  repeat (
    (first
      | (refine runSeq2_take (v := ?_) (by rfl) (by rfl) (fun w' hS => ?_) hs ?_
         rotate_left
         · (have hX := HX.out.1.keep (Keep.of_belowB (hS.mono HX.out.1.size)); have c1 := blk_cell hX.b1 1; have c2 := blk_cell hX.b1 2; have c3 := blk_cell hX.b1 3; have c4 := blk_cell hX.b1 4; have hG := (hS.block _ (blk_lt HX.out.2.1)).trans HX.out.2.1; have g0 := blk_cell hG 0; have g1 := blk_cell hG 1; have g2 := blk_cell hG 2; have g3 := blk_cell hG 3; go_simp; exact rfl))
      | refine runSeq2_skip (by rfl) (by rfl) hs ?_)
    (try simp only [Act.put, List.setIfInBounds_toArray, List.set_cons_zero, List.set_cons_succ]))
  refine runSeq2_two (di := 6) (dj := 7) (Zi := .cells #[.int .i64 0, .int .i64 0, .int .i64 0, .int .i64 0] 25 (0, 0)) (Zj := .cells #[.int .i64 0, .int .i64 0, .int .i64 0, .int .i64 0] 188 (0, 0)) (by rfl) (by rfl) rfl rfl (by intro a w K h; go_simp; exact h) (by intro a w K h; go_simp; exact h) (by decide) (fun w' h o => h.alloc h.size o) hs ?_
  intro b6 b7 w4 hs4 h67 h6 h7 hz6 hz7
  replace h6 : w3.heap.size ≤ b6 := h6
  replace h7 : w3.heap.size ≤ b7 := h7
  (try simp only [Act.put, List.setIfInBounds_toArray, List.set_cons_zero, List.set_cons_succ])
  have hs6 := ((((hs4.setCell (p := ⟨b6, 0, none⟩) h6 (.int .i64 x.f1)).setCell (p := ⟨b6, 1, none⟩) h6 (.int .i64 x.f2)).setCell (p := ⟨b6, 2, none⟩) h6 (.int .i64 x.f3)).setCell (p := ⟨b6, 3, none⟩) h6 (.int .i64 x.f4))
  have e6 := blk_set (blk_set (blk_set (blk_set hz6 0 (.int .i64 x.f1)) 1 (.int .i64 x.f2)) 2 (.int .i64 x.f3)) 3 (.int .i64 x.f4)
  have e7 := blk_other (blk_other (blk_other (blk_other hz7 (Ne.symm h67) 0 (.int .i64 x.f1)) (Ne.symm h67) 1 (.int .i64 x.f2)) (Ne.symm h67) 2 (.int .i64 x.f3)) (Ne.symm h67) 3 (.int .i64 x.f4)
  have G := Aside0.mk (And.intro hs6 (And.intro e6 e7))
  have c0 := blk_cell hz6 0
  have c1 := blk_cell hz6 1
  have c2 := blk_cell hz6 2
  have c3 := blk_cell hz6 3
  have f0 := blk_frozen hz6 0
  have f1 := blk_frozen hz6 1
  have f2 := blk_frozen hz6 2
  have f3 := blk_frozen hz6 3
  clear hs6 e6 e7 hz7 hs4 hs
  refine runSeq2_op (by rfl) (by rfl) (fun K hK => ?_)
  go_simp
  refine hK _ _ G.out.1 ?_
  clear hK K c0 c1 c2 c3 f0 f1 f2 f3 hz6
  obtain ⟨hs5, e6, e7⟩ := G.out
  clear G
  generalize (((w4.setCell ⟨b6, 0, none⟩ (.int .i64 x.f1)).setCell ⟨b6, 1, none⟩ (.int .i64 x.f2)).setCell ⟨b6, 2, none⟩ (.int .i64 x.f3)).setCell ⟨b6, 3, none⟩ (.int .i64 x.f4) = w5 at hs5 e6 e7 ⊢
  clear w4
  have hs7 := ((((hs5.setCell (p := ⟨b7, 0, none⟩) h7 (.int .i64 pa)).setCell (p := ⟨b7, 1, none⟩) h7 (.int .i64 pb)).setCell (p := ⟨b7, 2, none⟩) h7 (.int .i64 pc)).setCell (p := ⟨b7, 3, none⟩) h7 (.int .i64 pk))
  have e7' := blk_set (blk_set (blk_set (blk_set e7 0 (.int .i64 pa)) 1 (.int .i64 pb)) 2 (.int .i64 pc)) 3 (.int .i64 pk)
  have e6' := blk_other (blk_other (blk_other (blk_other e6 h67 0 (.int .i64 pa)) h67 1 (.int .i64 pb)) h67 2 (.int .i64 pc)) h67 3 (.int .i64 pk)
  have G := Aside0.mk (And.intro hs7 (And.intro e6' e7'))
  have c0 := blk_cell e7 0
  have c1 := blk_cell e7 1
  have c2 := blk_cell e7 2
  have c3 := blk_cell e7 3
  have f0 := blk_frozen e7 0
  have f1 := blk_frozen e7 1
  have f2 := blk_frozen e7 2
  have f3 := blk_frozen e7 3
  clear hs7 e7' e6' e6 hs5
  refine runSeq2_op (by rfl) (by rfl) (fun K hK => ?_)
  go_simp
  refine hK _ _ G.out.1 ?_
  clear hK K c0 c1 c2 c3 f0 f1 f2 f3 e7
  obtain ⟨hs6, e6, e7⟩ := G.out
  clear G
  generalize (((w5.setCell ⟨b7, 0, none⟩ (.int .i64 pa)).setCell ⟨b7, 1, none⟩ (.int .i64 pb)).setCell ⟨b7, 2, none⟩ (.int .i64 pc)).setCell ⟨b7, 3, none⟩ (.int .i64 pk) = w6 at hs6 e6 e7 ⊢
  clear w5
  refine runSeq2_nil ?_
  have hx6 := HX.out.1.keep (Keep.of_belowB (hs6.mono HX.out.1.size))
  have hg6 := (hs6.block _ (blk_lt HX.out.2.1)).trans HX.out.2.1
  have HJ := Aside0.mk (JW.mk hx6 hg6 e6 e7)
  have c0 := blk_cell e7 0
  have c1 := blk_cell e7 1
  have c2 := blk_cell e7 2
  have c3 := blk_cell e7 3
  clear hx6 hg6 HX hs6 e6 e7 h67 h6 h7 w3
  go_wp2_with fail
  clear c0 c1 c2 c3
  go_loopw [40] (fun v40 wr => ∃ i : Nat, v40 = .int .i64 i ∧ i ≤ 4 ∧ Aside0 (formTo x pa pb pc pk i) ∧ Aside0 (JW w A l.length c f at_ x g4 b6 b7 pa pb pc pk wr)) (fun v40 _ => 4 - (intOf v40).toNat)
  case atStart => exact ⟨0, rfl, by omega, ⟨by simp [formTo]⟩, HJ⟩
  case round =>
    clear HJ w6
    obtain ⟨i, rfl, hi, HFT, HJ⟩ := hrel
    by_cases hlt : i < 4
    · have : i = 0 ∨ i = 1 ∨ i = 2 ∨ i = 3 := by omega
      clear hlt hi
      rcases this with rfl | rfl | rfl | rfl
      · skip
        go_wp2_with fail
        by_cases hp : pa = 0
        · by_cases hq : x.f1 = 0
          · have HFN := Aside0.mk (form_next0 HFT.out (fun h => h.2 hq))
            have hp2 : (pa != 0) = false := by rw [hp]; rfl
            have hq2 : (x.f1 == 0) = true := by rw [hq]; rfl
            clear hp hq
            refine wp_region_seq (fun w' => Below wr.heap.size wr w') [9] [.take 0, .take 1, .take 2, .take 3, .take 4, .take 5, .take 6, .take 7, .take 8, .fin 9] (by kernel_rfl) (by kernel_rfl) rfl (by kernel_rfl) (panic_via (P := Try.prog) (fn := Try.f61) (fun _ _ _ => rfl)) ?_
            have hs : Below wr.heap.size wr wr.drew := (Below.refl _ _).drew
            repeat (
              (first
                | (refine runSeq_take (v := ?_) (by rfl) (by rfl) (fun w' hS => ?_) hs ?_
                   rotate_left
                   · (have hJ := HJ.out.keep hS; have c0 := blk_cell hJ.iw.b0 0; have c1 := blk_cell hJ.iw.b0 1; have c2 := blk_cell hJ.iw.b0 2; have d := blk_cell hJ.h6 0; go_simp; exact rfl))
                | refine runSeq_skip (by rfl) (by rfl) hs ?_)
              (try simp only [Act.put, List.setIfInBounds_toArray, List.set_cons_zero, List.set_cons_succ]))
            refine runSeq_fin (by rfl) (by rfl) (fun K hK => ?_)
            go_simp
            clear hp2 hq2
            refine (need_ok A l.length c f at_ 4 _).mono ?_
            rintro e w'' ⟨rfl, hb⟩
            refine hK _ _ ?_
            clear hK K
            refine runSeq_nil ?_
            have hj2 := HJ.out.keep (hs.trans (hb.mono hs.size))
            clear HJ hs hb
            have HJ := Aside0.mk hj2
            clear hj2
            go_wp2_with fail
            go_roundw
            case rel => exact ⟨0 + 1, by go_num, by omega, HFN, HJ⟩
            case measure => simp [intOf]
          · have HR := Aside0.mk (HE.out.trans (form_no0 HFT.out hp hq))
            have hp2 : (pa != 0) = false := by rw [hp]; rfl
            have hq2 : (x.f1 == 0) = false := by simp [hq]
            clear hp hq
            refine wp_region_seq (fun w' => Below wr.heap.size wr w') [9] [.take 0, .take 1, .take 2, .take 3, .take 4, .take 5, .take 6, .take 7, .take 8, .fin 9] (by kernel_rfl) (by kernel_rfl) rfl (by kernel_rfl) (panic_via (P := Try.prog) (fn := Try.f61) (fun _ _ _ => rfl)) ?_
            have hs : Below wr.heap.size wr wr.drew := (Below.refl _ _).drew
            repeat (
              (first
                | (refine runSeq_take (v := ?_) (by rfl) (by rfl) (fun w' hS => ?_) hs ?_
                   rotate_left
                   · (have hJ := HJ.out.keep hS; have c0 := blk_cell hJ.iw.b0 0; have c1 := blk_cell hJ.iw.b0 1; have c2 := blk_cell hJ.iw.b0 2; have d := blk_cell hJ.h6 0; go_simp; exact rfl))
                | refine runSeq_skip (by rfl) (by rfl) hs ?_)
              (try simp only [Act.put, List.setIfInBounds_toArray, List.set_cons_zero, List.set_cons_succ]))
            refine runSeq_fin (by rfl) (by rfl) (fun K hK => ?_)
            go_simp
            refine (need_no A l.length c f at_ 4 _).mono ?_
            rintro e w'' ⟨rfl, hb⟩
            have hr := HR.out
            subst hr
            exact ⟨rfl, HJ.out.iw.below.trans ((hs.trans (hb.mono hs.size)).mono HJ.out.iw.below.size), rfl⟩
        · have HFN := Aside0.mk (form_next0 HFT.out (fun h => hp h.1))
          have hp2 : (pa != 0) = true := by simp [hp]
          clear hp
          refine wp_region_seq (fun w' => Below wr.heap.size wr w') [9] [.take 0, .take 1, .take 2, .take 3, .take 4, .take 5, .take 6, .take 7, .take 8, .fin 9] (by kernel_rfl) (by kernel_rfl) rfl (by kernel_rfl) (panic_via (P := Try.prog) (fn := Try.f61) (fun _ _ _ => rfl)) ?_
          have hs : Below wr.heap.size wr wr.drew := (Below.refl _ _).drew
          repeat (
            (first
              | (refine runSeq_take (v := ?_) (by rfl) (by rfl) (fun w' hS => ?_) hs ?_
                 rotate_left
                 · (have hJ := HJ.out.keep hS; have c0 := blk_cell hJ.iw.b0 0; have c1 := blk_cell hJ.iw.b0 1; have c2 := blk_cell hJ.iw.b0 2; have d := blk_cell hJ.h6 0; go_simp; exact rfl))
              | refine runSeq_skip (by rfl) (by rfl) hs ?_)
            (try simp only [Act.put, List.setIfInBounds_toArray, List.set_cons_zero, List.set_cons_succ]))
          refine runSeq_fin (by rfl) (by rfl) (fun K hK => ?_)
          go_simp
          clear hp2
          refine (need_ok A l.length c f at_ 4 _).mono ?_
          rintro e w'' ⟨rfl, hb⟩
          refine hK _ _ ?_
          clear hK K
          refine runSeq_nil ?_
          have hj2 := HJ.out.keep (hs.trans (hb.mono hs.size))
          clear HJ hs hb
          have HJ := Aside0.mk hj2
          clear hj2
          go_wp2_with fail
          go_roundw
          case rel => exact ⟨0 + 1, by go_num, by omega, HFN, HJ⟩
          case measure => simp [intOf]
      · skip
        go_wp2_with fail
        by_cases hp : pb = 0
        · by_cases hq : x.f2 = 0
          · have HFN := Aside0.mk (form_next1 HFT.out (fun h => h.2 hq))
            have hp2 : (pb != 0) = false := by rw [hp]; rfl
            have hq2 : (x.f2 == 0) = true := by rw [hq]; rfl
            clear hp hq
            refine wp_region_seq (fun w' => Below wr.heap.size wr w') [9] [.take 0, .take 1, .take 2, .take 3, .take 4, .take 5, .take 6, .take 7, .take 8, .fin 9] (by kernel_rfl) (by kernel_rfl) rfl (by kernel_rfl) (panic_via (P := Try.prog) (fn := Try.f61) (fun _ _ _ => rfl)) ?_
            have hs : Below wr.heap.size wr wr.drew := (Below.refl _ _).drew
            repeat (
              (first
                | (refine runSeq_take (v := ?_) (by rfl) (by rfl) (fun w' hS => ?_) hs ?_
                   rotate_left
                   · (have hJ := HJ.out.keep hS; have c0 := blk_cell hJ.iw.b0 0; have c1 := blk_cell hJ.iw.b0 1; have c2 := blk_cell hJ.iw.b0 2; have d := blk_cell hJ.h6 1; go_simp; exact rfl))
                | refine runSeq_skip (by rfl) (by rfl) hs ?_)
              (try simp only [Act.put, List.setIfInBounds_toArray, List.set_cons_zero, List.set_cons_succ]))
            refine runSeq_fin (by rfl) (by rfl) (fun K hK => ?_)
            go_simp
            clear hp2 hq2
            refine (need_ok A l.length c f at_ 4 _).mono ?_
            rintro e w'' ⟨rfl, hb⟩
            refine hK _ _ ?_
            clear hK K
            refine runSeq_nil ?_
            have hj2 := HJ.out.keep (hs.trans (hb.mono hs.size))
            clear HJ hs hb
            have HJ := Aside0.mk hj2
            clear hj2
            go_wp2_with fail
            go_roundw
            case rel => exact ⟨1 + 1, by go_num, by omega, HFN, HJ⟩
            case measure => simp [intOf]
          · have HR := Aside0.mk (HE.out.trans (form_no1 HFT.out hp hq))
            have hp2 : (pb != 0) = false := by rw [hp]; rfl
            have hq2 : (x.f2 == 0) = false := by simp [hq]
            clear hp hq
            refine wp_region_seq (fun w' => Below wr.heap.size wr w') [9] [.take 0, .take 1, .take 2, .take 3, .take 4, .take 5, .take 6, .take 7, .take 8, .fin 9] (by kernel_rfl) (by kernel_rfl) rfl (by kernel_rfl) (panic_via (P := Try.prog) (fn := Try.f61) (fun _ _ _ => rfl)) ?_
            have hs : Below wr.heap.size wr wr.drew := (Below.refl _ _).drew
            repeat (
              (first
                | (refine runSeq_take (v := ?_) (by rfl) (by rfl) (fun w' hS => ?_) hs ?_
                   rotate_left
                   · (have hJ := HJ.out.keep hS; have c0 := blk_cell hJ.iw.b0 0; have c1 := blk_cell hJ.iw.b0 1; have c2 := blk_cell hJ.iw.b0 2; have d := blk_cell hJ.h6 1; go_simp; exact rfl))
                | refine runSeq_skip (by rfl) (by rfl) hs ?_)
              (try simp only [Act.put, List.setIfInBounds_toArray, List.set_cons_zero, List.set_cons_succ]))
            refine runSeq_fin (by rfl) (by rfl) (fun K hK => ?_)
            go_simp
            refine (need_no A l.length c f at_ 4 _).mono ?_
            rintro e w'' ⟨rfl, hb⟩
            have hr := HR.out
            subst hr
            exact ⟨rfl, HJ.out.iw.below.trans ((hs.trans (hb.mono hs.size)).mono HJ.out.iw.below.size), rfl⟩
        · have HFN := Aside0.mk (form_next1 HFT.out (fun h => hp h.1))
          have hp2 : (pb != 0) = true := by simp [hp]
          clear hp
          refine wp_region_seq (fun w' => Below wr.heap.size wr w') [9] [.take 0, .take 1, .take 2, .take 3, .take 4, .take 5, .take 6, .take 7, .take 8, .fin 9] (by kernel_rfl) (by kernel_rfl) rfl (by kernel_rfl) (panic_via (P := Try.prog) (fn := Try.f61) (fun _ _ _ => rfl)) ?_
          have hs : Below wr.heap.size wr wr.drew := (Below.refl _ _).drew
          repeat (
            (first
              | (refine runSeq_take (v := ?_) (by rfl) (by rfl) (fun w' hS => ?_) hs ?_
                 rotate_left
                 · (have hJ := HJ.out.keep hS; have c0 := blk_cell hJ.iw.b0 0; have c1 := blk_cell hJ.iw.b0 1; have c2 := blk_cell hJ.iw.b0 2; have d := blk_cell hJ.h6 1; go_simp; exact rfl))
              | refine runSeq_skip (by rfl) (by rfl) hs ?_)
            (try simp only [Act.put, List.setIfInBounds_toArray, List.set_cons_zero, List.set_cons_succ]))
          refine runSeq_fin (by rfl) (by rfl) (fun K hK => ?_)
          go_simp
          clear hp2
          refine (need_ok A l.length c f at_ 4 _).mono ?_
          rintro e w'' ⟨rfl, hb⟩
          refine hK _ _ ?_
          clear hK K
          refine runSeq_nil ?_
          have hj2 := HJ.out.keep (hs.trans (hb.mono hs.size))
          clear HJ hs hb
          have HJ := Aside0.mk hj2
          clear hj2
          go_wp2_with fail
          go_roundw
          case rel => exact ⟨1 + 1, by go_num, by omega, HFN, HJ⟩
          case measure => simp [intOf]
      · skip
        go_wp2_with fail
        by_cases hp : pc = 0
        · by_cases hq : x.f3 = 0
          · have HFN := Aside0.mk (form_next2 HFT.out (fun h => h.2 hq))
            have hp2 : (pc != 0) = false := by rw [hp]; rfl
            have hq2 : (x.f3 == 0) = true := by rw [hq]; rfl
            clear hp hq
            refine wp_region_seq (fun w' => Below wr.heap.size wr w') [9] [.take 0, .take 1, .take 2, .take 3, .take 4, .take 5, .take 6, .take 7, .take 8, .fin 9] (by kernel_rfl) (by kernel_rfl) rfl (by kernel_rfl) (panic_via (P := Try.prog) (fn := Try.f61) (fun _ _ _ => rfl)) ?_
            have hs : Below wr.heap.size wr wr.drew := (Below.refl _ _).drew
            repeat (
              (first
                | (refine runSeq_take (v := ?_) (by rfl) (by rfl) (fun w' hS => ?_) hs ?_
                   rotate_left
                   · (have hJ := HJ.out.keep hS; have c0 := blk_cell hJ.iw.b0 0; have c1 := blk_cell hJ.iw.b0 1; have c2 := blk_cell hJ.iw.b0 2; have d := blk_cell hJ.h6 2; go_simp; exact rfl))
                | refine runSeq_skip (by rfl) (by rfl) hs ?_)
              (try simp only [Act.put, List.setIfInBounds_toArray, List.set_cons_zero, List.set_cons_succ]))
            refine runSeq_fin (by rfl) (by rfl) (fun K hK => ?_)
            go_simp
            clear hp2 hq2
            refine (need_ok A l.length c f at_ 4 _).mono ?_
            rintro e w'' ⟨rfl, hb⟩
            refine hK _ _ ?_
            clear hK K
            refine runSeq_nil ?_
            have hj2 := HJ.out.keep (hs.trans (hb.mono hs.size))
            clear HJ hs hb
            have HJ := Aside0.mk hj2
            clear hj2
            go_wp2_with fail
            go_roundw
            case rel => exact ⟨2 + 1, by go_num, by omega, HFN, HJ⟩
            case measure => simp [intOf]
          · have HR := Aside0.mk (HE.out.trans (form_no2 HFT.out hp hq))
            have hp2 : (pc != 0) = false := by rw [hp]; rfl
            have hq2 : (x.f3 == 0) = false := by simp [hq]
            clear hp hq
            refine wp_region_seq (fun w' => Below wr.heap.size wr w') [9] [.take 0, .take 1, .take 2, .take 3, .take 4, .take 5, .take 6, .take 7, .take 8, .fin 9] (by kernel_rfl) (by kernel_rfl) rfl (by kernel_rfl) (panic_via (P := Try.prog) (fn := Try.f61) (fun _ _ _ => rfl)) ?_
            have hs : Below wr.heap.size wr wr.drew := (Below.refl _ _).drew
            repeat (
              (first
                | (refine runSeq_take (v := ?_) (by rfl) (by rfl) (fun w' hS => ?_) hs ?_
                   rotate_left
                   · (have hJ := HJ.out.keep hS; have c0 := blk_cell hJ.iw.b0 0; have c1 := blk_cell hJ.iw.b0 1; have c2 := blk_cell hJ.iw.b0 2; have d := blk_cell hJ.h6 2; go_simp; exact rfl))
                | refine runSeq_skip (by rfl) (by rfl) hs ?_)
              (try simp only [Act.put, List.setIfInBounds_toArray, List.set_cons_zero, List.set_cons_succ]))
            refine runSeq_fin (by rfl) (by rfl) (fun K hK => ?_)
            go_simp
            refine (need_no A l.length c f at_ 4 _).mono ?_
            rintro e w'' ⟨rfl, hb⟩
            have hr := HR.out
            subst hr
            exact ⟨rfl, HJ.out.iw.below.trans ((hs.trans (hb.mono hs.size)).mono HJ.out.iw.below.size), rfl⟩
        · have HFN := Aside0.mk (form_next2 HFT.out (fun h => hp h.1))
          have hp2 : (pc != 0) = true := by simp [hp]
          clear hp
          refine wp_region_seq (fun w' => Below wr.heap.size wr w') [9] [.take 0, .take 1, .take 2, .take 3, .take 4, .take 5, .take 6, .take 7, .take 8, .fin 9] (by kernel_rfl) (by kernel_rfl) rfl (by kernel_rfl) (panic_via (P := Try.prog) (fn := Try.f61) (fun _ _ _ => rfl)) ?_
          have hs : Below wr.heap.size wr wr.drew := (Below.refl _ _).drew
          repeat (
            (first
              | (refine runSeq_take (v := ?_) (by rfl) (by rfl) (fun w' hS => ?_) hs ?_
                 rotate_left
                 · (have hJ := HJ.out.keep hS; have c0 := blk_cell hJ.iw.b0 0; have c1 := blk_cell hJ.iw.b0 1; have c2 := blk_cell hJ.iw.b0 2; have d := blk_cell hJ.h6 2; go_simp; exact rfl))
              | refine runSeq_skip (by rfl) (by rfl) hs ?_)
            (try simp only [Act.put, List.setIfInBounds_toArray, List.set_cons_zero, List.set_cons_succ]))
          refine runSeq_fin (by rfl) (by rfl) (fun K hK => ?_)
          go_simp
          clear hp2
          refine (need_ok A l.length c f at_ 4 _).mono ?_
          rintro e w'' ⟨rfl, hb⟩
          refine hK _ _ ?_
          clear hK K
          refine runSeq_nil ?_
          have hj2 := HJ.out.keep (hs.trans (hb.mono hs.size))
          clear HJ hs hb
          have HJ := Aside0.mk hj2
          clear hj2
          go_wp2_with fail
          go_roundw
          case rel => exact ⟨2 + 1, by go_num, by omega, HFN, HJ⟩
          case measure => simp [intOf]
      · skip
        go_wp2_with fail
        by_cases hp : pk = 0
        · by_cases hq : x.f4 = 0
          · have HFN := Aside0.mk (form_next3 HFT.out (fun h => h.2 hq))
            have hp2 : (pk != 0) = false := by rw [hp]; rfl
            have hq2 : (x.f4 == 0) = true := by rw [hq]; rfl
            clear hp hq
            refine wp_region_seq (fun w' => Below wr.heap.size wr w') [9] [.take 0, .take 1, .take 2, .take 3, .take 4, .take 5, .take 6, .take 7, .take 8, .fin 9] (by kernel_rfl) (by kernel_rfl) rfl (by kernel_rfl) (panic_via (P := Try.prog) (fn := Try.f61) (fun _ _ _ => rfl)) ?_
            have hs : Below wr.heap.size wr wr.drew := (Below.refl _ _).drew
            repeat (
              (first
                | (refine runSeq_take (v := ?_) (by rfl) (by rfl) (fun w' hS => ?_) hs ?_
                   rotate_left
                   · (have hJ := HJ.out.keep hS; have c0 := blk_cell hJ.iw.b0 0; have c1 := blk_cell hJ.iw.b0 1; have c2 := blk_cell hJ.iw.b0 2; have d := blk_cell hJ.h6 3; go_simp; exact rfl))
                | refine runSeq_skip (by rfl) (by rfl) hs ?_)
              (try simp only [Act.put, List.setIfInBounds_toArray, List.set_cons_zero, List.set_cons_succ]))
            refine runSeq_fin (by rfl) (by rfl) (fun K hK => ?_)
            go_simp
            clear hp2 hq2
            refine (need_ok A l.length c f at_ 4 _).mono ?_
            rintro e w'' ⟨rfl, hb⟩
            refine hK _ _ ?_
            clear hK K
            refine runSeq_nil ?_
            have hj2 := HJ.out.keep (hs.trans (hb.mono hs.size))
            clear HJ hs hb
            have HJ := Aside0.mk hj2
            clear hj2
            go_wp2_with fail
            go_roundw
            case rel => exact ⟨3 + 1, by go_num, by omega, HFN, HJ⟩
            case measure => simp [intOf]
          · have HR := Aside0.mk (HE.out.trans (form_no3 HFT.out hp hq))
            have hp2 : (pk != 0) = false := by rw [hp]; rfl
            have hq2 : (x.f4 == 0) = false := by simp [hq]
            clear hp hq
            refine wp_region_seq (fun w' => Below wr.heap.size wr w') [9] [.take 0, .take 1, .take 2, .take 3, .take 4, .take 5, .take 6, .take 7, .take 8, .fin 9] (by kernel_rfl) (by kernel_rfl) rfl (by kernel_rfl) (panic_via (P := Try.prog) (fn := Try.f61) (fun _ _ _ => rfl)) ?_
            have hs : Below wr.heap.size wr wr.drew := (Below.refl _ _).drew
            repeat (
              (first
                | (refine runSeq_take (v := ?_) (by rfl) (by rfl) (fun w' hS => ?_) hs ?_
                   rotate_left
                   · (have hJ := HJ.out.keep hS; have c0 := blk_cell hJ.iw.b0 0; have c1 := blk_cell hJ.iw.b0 1; have c2 := blk_cell hJ.iw.b0 2; have d := blk_cell hJ.h6 3; go_simp; exact rfl))
                | refine runSeq_skip (by rfl) (by rfl) hs ?_)
              (try simp only [Act.put, List.setIfInBounds_toArray, List.set_cons_zero, List.set_cons_succ]))
            refine runSeq_fin (by rfl) (by rfl) (fun K hK => ?_)
            go_simp
            refine (need_no A l.length c f at_ 4 _).mono ?_
            rintro e w'' ⟨rfl, hb⟩
            have hr := HR.out
            subst hr
            exact ⟨rfl, HJ.out.iw.below.trans ((hs.trans (hb.mono hs.size)).mono HJ.out.iw.below.size), rfl⟩
        · have HFN := Aside0.mk (form_next3 HFT.out (fun h => hp h.1))
          have hp2 : (pk != 0) = true := by simp [hp]
          clear hp
          refine wp_region_seq (fun w' => Below wr.heap.size wr w') [9] [.take 0, .take 1, .take 2, .take 3, .take 4, .take 5, .take 6, .take 7, .take 8, .fin 9] (by kernel_rfl) (by kernel_rfl) rfl (by kernel_rfl) (panic_via (P := Try.prog) (fn := Try.f61) (fun _ _ _ => rfl)) ?_
          have hs : Below wr.heap.size wr wr.drew := (Below.refl _ _).drew
          repeat (
            (first
              | (refine runSeq_take (v := ?_) (by rfl) (by rfl) (fun w' hS => ?_) hs ?_
                 rotate_left
                 · (have hJ := HJ.out.keep hS; have c0 := blk_cell hJ.iw.b0 0; have c1 := blk_cell hJ.iw.b0 1; have c2 := blk_cell hJ.iw.b0 2; have d := blk_cell hJ.h6 3; go_simp; exact rfl))
              | refine runSeq_skip (by rfl) (by rfl) hs ?_)
            (try simp only [Act.put, List.setIfInBounds_toArray, List.set_cons_zero, List.set_cons_succ]))
          refine runSeq_fin (by rfl) (by rfl) (fun K hK => ?_)
          go_simp
          clear hp2
          refine (need_ok A l.length c f at_ 4 _).mono ?_
          rintro e w'' ⟨rfl, hb⟩
          refine hK _ _ ?_
          clear hK K
          refine runSeq_nil ?_
          have hj2 := HJ.out.keep (hs.trans (hb.mono hs.size))
          clear HJ hs hb
          have HJ := Aside0.mk hj2
          clear hj2
          go_wp2_with fail
          go_roundw
          case rel => exact ⟨3 + 1, by go_num, by omega, HFN, HJ⟩
          case measure => simp [intOf]
    · obtain rfl : i = 4 := by omega
      clear hlt hi
      rw [show ((4 : Nat) : Int) = 4 from rfl]
      have c0 := blk_cell HJ.out.h7 0
      have c1 := blk_cell HJ.out.h7 1
      have c2 := blk_cell HJ.out.h7 2
      have c3 := blk_cell HJ.out.h7 3
      go_wp2_with fail
      clear c0 c1 c2 c3
      have he := HE.out.trans (form_all HFT.out)
      clear HE HFT
      have HE := Aside0.mk he
      clear he
      go_loopw [56] (fun v56 wr => ∃ i : Nat, v56 = .int .i64 i ∧ i ≤ 4 ∧ Aside0 (passTo l.length lc x pa pb pc pk i) ∧ Aside0 (JW w A l.length c f at_ x g4 b6 b7 pa pb pc pk wr)) (fun v56 _ => 4 - (intOf v56).toNat)
      case atStart => exact ⟨0, rfl, by omega, ⟨by simp [passTo]⟩, HJ⟩
      case round =>
        clear HJ
        obtain ⟨i, rfl, hi, HFT, HJ⟩ := hrel
        by_cases hlt : i < 4
        · have : i = 0 ∨ i = 1 ∨ i = 2 ∨ i = 3 := by omega
          clear hlt hi
          rcases this with rfl | rfl | rfl | rfl
          · skip
            go_wp2_with fail
            refine wp_region_seq (fun w' => Below wr.heap.size wr w') [5] [.take 0, .take 1, .take 2, .take 3, .take 4, .fin 5] (by kernel_rfl) (by kernel_rfl) rfl (by kernel_rfl) (panic_via (P := Try.prog) (fn := Try.f61) (fun _ _ _ => rfl)) ?_
            have hs : Below wr.heap.size wr wr.drew := (Below.refl _ _).drew
            repeat (
              (first
                | (refine runSeq_take (v := ?_) (by rfl) (by rfl) (fun w' hS => ?_) hs ?_
                   rotate_left
                   · (have hJ := HJ.out.keep hS; have c0 := blk_cell hJ.iw.b0 0; have c1 := blk_cell hJ.iw.b0 1; have c2 := blk_cell hJ.iw.b0 2; have d := blk_cell hJ.h6 0; go_simp; exact rfl))
                | refine runSeq_skip (by rfl) (by rfl) hs ?_)
              (try simp only [Act.put, List.setIfInBounds_toArray, List.set_cons_zero, List.set_cons_succ]))
            refine runSeq_fin (by rfl) (by rfl) (fun K hK => ?_)
            go_simp
            refine (HFA.out x.f1 pa _ (Kd.C_below HC.out (HJ.out.iw.below.trans (hs.mono HJ.out.iw.below.size)))).mono ?_
            rintro e w'' ⟨hb, he⟩
            have hj2 := HJ.out.keep (hs.trans (hb.mono hs.size))
            clear HJ hs hb
            have HJ := Aside0.mk hj2
            clear hj2
            cases hE : fieldE l.length lc x.f1 pa with
            | some q =>
              rw [hE] at he
              subst he
              have hr := HE.out.trans (pass_no0 HFT.out hE)
              subst hr
              exact ⟨rfl, HJ.out.iw.below, rfl⟩
            | none =>
            rw [hE] at he
            subst he
            have HFN := Aside0.mk (pass_next0 HFT.out hE)
            clear hE
            refine hK _ _ ?_
            clear hK K
            refine runSeq_nil ?_
            go_wp2_with fail
            go_roundw
            case rel => exact ⟨0 + 1, by go_num, by omega, HFN, HJ⟩
            case measure => simp [intOf]
          · skip
            go_wp2_with fail
            refine wp_region_seq (fun w' => Below wr.heap.size wr w') [5] [.take 0, .take 1, .take 2, .take 3, .take 4, .fin 5] (by kernel_rfl) (by kernel_rfl) rfl (by kernel_rfl) (panic_via (P := Try.prog) (fn := Try.f61) (fun _ _ _ => rfl)) ?_
            have hs : Below wr.heap.size wr wr.drew := (Below.refl _ _).drew
            repeat (
              (first
                | (refine runSeq_take (v := ?_) (by rfl) (by rfl) (fun w' hS => ?_) hs ?_
                   rotate_left
                   · (have hJ := HJ.out.keep hS; have c0 := blk_cell hJ.iw.b0 0; have c1 := blk_cell hJ.iw.b0 1; have c2 := blk_cell hJ.iw.b0 2; have d := blk_cell hJ.h6 1; go_simp; exact rfl))
                | refine runSeq_skip (by rfl) (by rfl) hs ?_)
              (try simp only [Act.put, List.setIfInBounds_toArray, List.set_cons_zero, List.set_cons_succ]))
            refine runSeq_fin (by rfl) (by rfl) (fun K hK => ?_)
            go_simp
            refine (HFA.out x.f2 pb _ (Kd.C_below HC.out (HJ.out.iw.below.trans (hs.mono HJ.out.iw.below.size)))).mono ?_
            rintro e w'' ⟨hb, he⟩
            have hj2 := HJ.out.keep (hs.trans (hb.mono hs.size))
            clear HJ hs hb
            have HJ := Aside0.mk hj2
            clear hj2
            cases hE : fieldE l.length lc x.f2 pb with
            | some q =>
              rw [hE] at he
              subst he
              have hr := HE.out.trans (pass_no1 HFT.out hE)
              subst hr
              exact ⟨rfl, HJ.out.iw.below, rfl⟩
            | none =>
            rw [hE] at he
            subst he
            have HFN := Aside0.mk (pass_next1 HFT.out hE)
            clear hE
            refine hK _ _ ?_
            clear hK K
            refine runSeq_nil ?_
            go_wp2_with fail
            go_roundw
            case rel => exact ⟨1 + 1, by go_num, by omega, HFN, HJ⟩
            case measure => simp [intOf]
          · skip
            go_wp2_with fail
            refine wp_region_seq (fun w' => Below wr.heap.size wr w') [5] [.take 0, .take 1, .take 2, .take 3, .take 4, .fin 5] (by kernel_rfl) (by kernel_rfl) rfl (by kernel_rfl) (panic_via (P := Try.prog) (fn := Try.f61) (fun _ _ _ => rfl)) ?_
            have hs : Below wr.heap.size wr wr.drew := (Below.refl _ _).drew
            repeat (
              (first
                | (refine runSeq_take (v := ?_) (by rfl) (by rfl) (fun w' hS => ?_) hs ?_
                   rotate_left
                   · (have hJ := HJ.out.keep hS; have c0 := blk_cell hJ.iw.b0 0; have c1 := blk_cell hJ.iw.b0 1; have c2 := blk_cell hJ.iw.b0 2; have d := blk_cell hJ.h6 2; go_simp; exact rfl))
                | refine runSeq_skip (by rfl) (by rfl) hs ?_)
              (try simp only [Act.put, List.setIfInBounds_toArray, List.set_cons_zero, List.set_cons_succ]))
            refine runSeq_fin (by rfl) (by rfl) (fun K hK => ?_)
            go_simp
            refine (HFA.out x.f3 pc _ (Kd.C_below HC.out (HJ.out.iw.below.trans (hs.mono HJ.out.iw.below.size)))).mono ?_
            rintro e w'' ⟨hb, he⟩
            have hj2 := HJ.out.keep (hs.trans (hb.mono hs.size))
            clear HJ hs hb
            have HJ := Aside0.mk hj2
            clear hj2
            cases hE : fieldE l.length lc x.f3 pc with
            | some q =>
              rw [hE] at he
              subst he
              have hr := HE.out.trans (pass_no2 HFT.out hE)
              subst hr
              exact ⟨rfl, HJ.out.iw.below, rfl⟩
            | none =>
            rw [hE] at he
            subst he
            have HFN := Aside0.mk (pass_next2 HFT.out hE)
            clear hE
            refine hK _ _ ?_
            clear hK K
            refine runSeq_nil ?_
            go_wp2_with fail
            go_roundw
            case rel => exact ⟨2 + 1, by go_num, by omega, HFN, HJ⟩
            case measure => simp [intOf]
          · skip
            go_wp2_with fail
            refine wp_region_seq (fun w' => Below wr.heap.size wr w') [5] [.take 0, .take 1, .take 2, .take 3, .take 4, .fin 5] (by kernel_rfl) (by kernel_rfl) rfl (by kernel_rfl) (panic_via (P := Try.prog) (fn := Try.f61) (fun _ _ _ => rfl)) ?_
            have hs : Below wr.heap.size wr wr.drew := (Below.refl _ _).drew
            repeat (
              (first
                | (refine runSeq_take (v := ?_) (by rfl) (by rfl) (fun w' hS => ?_) hs ?_
                   rotate_left
                   · (have hJ := HJ.out.keep hS; have c0 := blk_cell hJ.iw.b0 0; have c1 := blk_cell hJ.iw.b0 1; have c2 := blk_cell hJ.iw.b0 2; have d := blk_cell hJ.h6 3; go_simp; exact rfl))
                | refine runSeq_skip (by rfl) (by rfl) hs ?_)
              (try simp only [Act.put, List.setIfInBounds_toArray, List.set_cons_zero, List.set_cons_succ]))
            refine runSeq_fin (by rfl) (by rfl) (fun K hK => ?_)
            go_simp
            refine (HFA.out x.f4 pk _ (Kd.C_below HC.out (HJ.out.iw.below.trans (hs.mono HJ.out.iw.below.size)))).mono ?_
            rintro e w'' ⟨hb, he⟩
            have hj2 := HJ.out.keep (hs.trans (hb.mono hs.size))
            clear HJ hs hb
            have HJ := Aside0.mk hj2
            clear hj2
            cases hE : fieldE l.length lc x.f4 pk with
            | some q =>
              rw [hE] at he
              subst he
              have hr := HE.out.trans (pass_no3 HFT.out hE)
              subst hr
              exact ⟨rfl, HJ.out.iw.below, rfl⟩
            | none =>
            rw [hE] at he
            subst he
            have HFN := Aside0.mk (pass_next3 HFT.out hE)
            clear hE
            refine hK _ _ ?_
            clear hK K
            refine runSeq_nil ?_
            go_wp2_with fail
            go_roundw
            case rel => exact ⟨3 + 1, by go_num, by omega, HFN, HJ⟩
            case measure => simp [intOf]
        · obtain rfl : i = 4 := by omega
          clear hlt hi
          have he := HE.out.trans (pass_all HFT.out)
          clear HE
          have HE := Aside0.mk he
          clear he
          have c2 := blk_cell HJ.out.h4 2
          by_cases hc3 : pc = 3
          · subst hc3
            have hb1 := H3.out rfl
            subst hb1
            have hB := field_oneN (HFT.out.2.1 (by omega))
            have hCc := field_threeN (HFT.out.2.2.1 (by omega))
            have hx3 : (x.f3.toNat : Int) = x.f3 := Int.toNat_of_nonneg hCc.1
            obtain ⟨ad, Ai, ci, rfl, p0, p1, hci, hCi⟩ := at_T68 HC.out x.f3 hCc.1 hCc.2
            have p0' := (HJ.out.iw.below.cell (World.block_lt_of_cell? w _ p0)).trans p0
            have hE2 : r = if (rd_T68 l x.f3).f0 ≤ 8 - x.f2 then none else some 6 := HE.out
            have HP := Aside0.mk (And.intro hE2 p0')
            have hw8 : wrap64 (8 - x.f2) = 8 - x.f2 := by unfold wrap64; omega
            have hlt3 : (x.f3 < (l.length : Int)) = True := eq_true hCc.2
            have h03 : (0 ≤ x.f3) = True := eq_true hCc.1
            have HW := Aside0.mk (And.intro hw8 hCc)
            clear p0 p1 hci hCi p0' hE2 hx3 hB hw8
            go_wp2_with fail
            refine wp_region_seq (fun w' => Below wr.heap.size wr w') [12] [.take 0, .take 1, .take 2, .take 3, .take 4, .take 5, .take 6, .take 7, .take 8, .take 9, .take 10, .take 11, .fin 12] (by kernel_rfl) (by kernel_rfl) rfl (by kernel_rfl) (panic_via (P := Try.prog) (fn := Try.f61) (fun _ _ _ => rfl)) ?_
            have hs : Below wr.heap.size wr wr.drew := (Below.refl _ _).drew
            clear c2
            repeat (
              (first
                | (refine runSeq_take (v := ?_) (by rfl) (by rfl) (fun w' hS => ?_) hs ?_
                   rotate_left
                   · (have hJ := HJ.out.keep hS; have c0 := blk_cell hJ.iw.b0 0; have c1 := blk_cell hJ.iw.b0 1; have c2 := blk_cell hJ.iw.b0 2; have d2 := blk_cell hJ.iw.b1 2; have d3 := blk_cell hJ.iw.b1 3; have q0 := (hS.cell (World.block_lt_of_cell? wr _ HP.out.2)).trans HP.out.2; have hw8 := HW.out.1; go_simp; exact rfl))
                | refine runSeq_skip (by rfl) (by rfl) hs ?_)
              (try simp only [Act.put, List.setIfInBounds_toArray, List.set_cons_zero, List.set_cons_succ]))
            refine runSeq_fin (by rfl) (by rfl) (fun K hK => ?_)
            go_simp
            rw [show IntKind.i64.wrap (8 - x.f2) = 8 - x.f2 from (i64_w _).trans HW.out.1]
            refine (need_any (some ad) l.length c f at_ 6 _ _).mono ?_
            rintro e w'' ⟨hb, he⟩
            have hb2 := HJ.out.iw.below.trans ((hs.trans (hb.mono hs.size)).mono HJ.out.iw.below.size)
            have hr := HP.out.1
            clear hs hb HJ
            have HB2 := Aside0.mk hb2
            clear hb2
            by_cases hle : (rd_T68 l x.f3).f0 ≤ 8 - x.f2
            · rw [if_pos (decide_eq_true hle)] at he
              rw [if_pos hle] at hr
              subst he
              refine hK _ _ ?_
              clear hK K hle
              refine runSeq_nil ?_
              have HR := Aside0.mk hr
              clear hr
              go_wp2_with fail
              go_end0
              have hr := HR.out
              subst hr
              exact ⟨HB2.out, rfl⟩
            · rw [if_neg (fun h => hle (of_decide_eq_true h))] at he
              rw [if_neg hle] at hr
              subst he
              subst hr
              exact ⟨rfl, HB2.out, rfl⟩
          · have hc3' : (pc == 3) = false := by simp [hc3]
            have hr : r = none := by rw [HE.out]; exact if_neg hc3
            have HR := Aside0.mk hr
            clear hr hc3
            go_wp2_with fail
            go_end0
            have hr := HR.out
            subst hr
            exact ⟨HJ.out.iw.below, rfl⟩
end Go.Proofs.Ytcciejcpijlkfaa.H

