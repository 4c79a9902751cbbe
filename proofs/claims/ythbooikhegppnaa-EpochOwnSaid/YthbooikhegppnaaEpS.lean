/- Epochs beside other memory: what each step leaves, and the chapter's example. -/
import Derived.Test.YthbooikhegppnaaEpA
import Derived.Test.YthbooikhegppnaaH9
set_option linter.unusedVariables false
set_option linter.unusedSimpArgs false
namespace Go.Proofs.Ythbooikhegppnaa.H
open Go.RowKit Go.Hay Go.Proofs.YthbooikhegppnaaW.PrintWords Go.Proofs.YthbooikhegppnaaW.PrintLast Go.Proofs.YthbooikhegppnaaW.PrintMore
/-- The Epochs at b, beside the blocks P, all behind w0. -/
structure St (w0 : World) (P : Nat → Prop) (b : Nat) (now : Int) (ws : List (Int × List Rt)) (w : World) : Prop where
  ep : ∃ (ok : Nat → Prop) (B : Nat), Ep ok B b now ws w ∧ ∀ q, ok q → w0.heap.size ≤ q ∧ ¬ P q
  below : Below w0.heap.size w0 w
  lt : ∀ q, P q → q < w.heap.size
theorem Ep.okw {ok : Nat → Prop} {B b : Nat} {now : Int} {ws : List (Int × List Rt)} {w : World} (h : Ep ok B b now ws w) : ∀ q, ok q → q < w.heap.size := by
  obtain ⟨g, cap, xs, h1, _⟩ := h
  exact h1.okw
section
variable {w0 : World} {P : Nat → Prop} {b : Nat} {now now' : Int} {ws ws' : List (Int × List Rt)} {w w1 : World}
theorem below_keep {n : Nat} {ok : Nat → Prop} {w0 w w1 : World} (h : Below n w0 w) (hk : Keep ok w w1) (ho : ∀ q, ok q → n ≤ q) (hn : n ≤ w0.heap.size) : Below n w0 w1 :=
  h.trans ⟨hk.os, hk.tape, hk.output, hk.size, fun q hq => hk.block q (Nat.lt_of_lt_of_le hq (Nat.le_trans hn h.size)) (fun h2 => by have := ho q h2; omega)⟩
theorem St.write {P' : Nat → Prop} (h : St w0 P b now ws w) (hk : Keep P w w1) (hP : ∀ q, P q → w0.heap.size ≤ q) (hP' : ∀ q, P' q → (P q ∨ w.heap.size ≤ q) ∧ q < w1.heap.size) : St w0 P' b now ws w1 := by
  obtain ⟨ok, B, h1, h2⟩ := h.ep
  refine ⟨⟨ok, B, h1.keep (fun q hq => hk.block q (h1.okw q hq) (h2 q hq).2) hk.size, fun q hq => ⟨(h2 q hq).1, fun h3 => ?_⟩⟩, below_keep h.below hk hP (Nat.le_refl _), fun q hq => (hP' q hq).2⟩
  rcases (hP' q h3).1 with h4 | h4
  · exact (h2 q hq).2 h4
  · have := h1.okw q hq; omega
theorem St.keep (h : St w0 P b now ws w) (hb : Below w.heap.size w w1) (hP : ∀ q, P q → w0.heap.size ≤ q) : St w0 P b now ws w1 :=
  h.write (Keep.of_below (hb.mono (Nat.le_refl _)) P) hP (fun q hq => ⟨.inl hq, Nat.lt_of_lt_of_le (h.lt q hq) hb.size⟩)
theorem St.step {ok : Nat → Prop} {B : Nat} (h : St w0 P b now ws w) (h1 : Ep ok B b now ws w) (h2 : ∀ q, ok q → w0.heap.size ≤ q ∧ ¬ P q) (hs : EpStep ok B b now' ws' w w1) : St w0 P b now' ws' w1 ∧ ∀ q, P q → w1.heap[q]? = w.heap[q]? := by
  obtain ⟨hk, ok', h3, h4⟩ := hs
  refine ⟨⟨⟨ok', B, h3, fun q hq => ?_⟩, below_keep h.below hk (fun q hq => (h2 q hq).1) (Nat.le_refl _), fun q hq => Nat.lt_of_lt_of_le (h.lt q hq) hk.size⟩, fun q hq => hk.block q (h.lt q hq) (fun h5 => (h2 q h5).2 hq)⟩
  rcases h4 q hq with h5 | h5
  · exact h2 q h5
  · exact ⟨Nat.le_trans h.below.size h5, fun h6 => by have := h.lt q h6; omega⟩
def retP (now : Int) (ws : List (Int × List Rt)) (k : Nat) (t : Int) : List (Int × List Rt) := ws.set k ((ws.getD k (0, [])).1, (ws.getD k (0, [])).2 ++ [⟨t, now⟩])
def rowP (ws : List (Int × List Rt)) (k : Nat) : List Rt := (ws.getD k (0, [])).2
theorem rowP_get {k : Nat} (hk : k < ws.length) : rowP ws k = ws[k].2 := by
  unfold rowP; rw [List.getD_eq_getElem?_getD, List.getElem?_eq_getElem hk]; rfl
theorem St.retire (h : St w0 P b now ws w) (k : Nat) (t : Int) (hn : ws.length ≤ 1000) (hk : k < ws.length) (hl : (rowP ws k).length ≤ 1000000) :
    Calls Try.prog 10 #[.pointer (some ⟨b, 0, none⟩), .int .i64 k, .int .i64 t] w fun e w' => e = .returned (.int .i64 0) ∧ St w0 P b now (retP now ws k t) w' ∧ ∀ q, P q → w'.heap[q]? = w.heap[q]? := by
  obtain ⟨ok, B, h1, h2⟩ := h.ep
  rw [rowP_get hk] at hl
  refine (Retire_in h1 k t hn hk hl).mono ?_
  rintro e w' ⟨rfl, hs⟩
  have e1 : ws.getD k (0, []) = ws[k] := by rw [List.getD_eq_getElem?_getD, List.getElem?_eq_getElem hk]; rfl
  refine ⟨rfl, ?_⟩
  unfold retP
  rw [e1]
  exact h.step h1 h2 hs
theorem St.retire_out (h : St w0 P b now ws w) (k t : Int) (hn : ws.length ≤ 1000) (hk : k < 0 ∨ (ws.length : Int) ≤ k) :
    Calls Try.prog 10 #[.pointer (some ⟨b, 0, none⟩), .int .i64 k, .int .i64 t] w fun e w' => e = .returned (.int .i64 1) ∧ w = w' := by
  obtain ⟨ok, B, h1, h2⟩ := h.ep
  exact Retire_out h1 k t hn hk
theorem St.announce (h : St w0 P b now ws w) (k : Nat) (hn : ws.length ≤ 1000) (hk : k < ws.length) (hl : (rowP ws k).length ≤ 1000000) (hf : Fine now (rowP ws k)) (h0 : 0 ≤ now) (h1 : now ≤ 100000000) :
    Calls Try.prog 11 #[.pointer (some ⟨b, 0, none⟩), .int .i64 k] w fun e w' => (∃ A c, e = .returned (.tuple #[.slice A (outP now ws k).length c, .int .i64 0]) ∧ (Kd.int .i64).R 3 w' w.heap.size (fun _ => True) (.slice A (outP now ws k).length c) (outP now ws k)) ∧ St w0 P b (nowP now ws k) (annP now ws k) w' ∧ ∀ q, P q → w'.heap[q]? = w.heap[q]? := by
  obtain ⟨ok, B, h2, h3⟩ := h.ep
  rw [rowP_get hk] at hl hf
  refine (Announce_in h2 k hn hk hl hf h0 h1).mono ?_
  rintro e w' ⟨A, c, rfl, hR, hs⟩
  exact ⟨⟨A, c, rfl, hR⟩, h.step h2 h3 hs⟩
theorem St.announce_out (h : St w0 P b now ws w) (k : Int) (hn : ws.length ≤ 1000) (hk : k < 0 ∨ (ws.length : Int) ≤ k) (hP : ∀ q, P q → w0.heap.size ≤ q) :
    Calls Try.prog 11 #[.pointer (some ⟨b, 0, none⟩), .int .i64 k] w fun e w' => e = .returned (.tuple #[.slice none 0 0, .int .i64 1]) ∧ St w0 P b now ws w' ∧ Below w.heap.size w w' := by
  obtain ⟨ok, B, h1, h2⟩ := h.ep
  refine (Announce_out h1 k hn hk).mono ?_
  rintro e w' ⟨rfl, hb⟩
  exact ⟨rfl, h.keep hb hP, hb⟩
theorem St.limbo (h : St w0 P b now ws w) (k : Nat) (hn : ws.length ≤ 1000) (hk : k < ws.length) :
    Calls Try.prog 17 #[.pointer (some ⟨b, 0, none⟩), .int .i64 k] w fun e w' => e = .returned (.int .i64 (rowP ws k).length) ∧ w = w' := by
  obtain ⟨ok, B, h1, h2⟩ := h.ep
  rw [rowP_get hk]
  exact Limbo_in h1 k hn hk
theorem St.limbo_out (h : St w0 P b now ws w) (k : Int) (hn : ws.length ≤ 1000) (hk : k < 0 ∨ (ws.length : Int) ≤ k) :
    Calls Try.prog 17 #[.pointer (some ⟨b, 0, none⟩), .int .i64 k] w fun e w' => e = .returned (.int .i64 0) ∧ w = w' := by
  obtain ⟨ok, B, h1, h2⟩ := h.ep
  exact Limbo_out h1 k hn hk
theorem St.tells (h : St w0 P b now ws w) : Calls Try.prog 16 #[.pointer (some ⟨b, 0, none⟩)] w fun e w' => e = .returned (.int .i64 now) ∧ w = w' := by
  obtain ⟨ok, B, h1, h2⟩ := h.ep
  exact Now_any h1
theorem St.new {w0 w : World} (h : Below w0.heap.size w0 w) (n : Nat) (h0 : 1 ≤ n) (h1 : n ≤ 64) : Calls Try.prog 9 #[.int .i64 n] w fun e w' => e = .returned (.tuple #[.pointer (some ⟨w.heap.size, 0, none⟩), .int .i64 0]) ∧ Below w.heap.size w w' ∧ St w0 (fun q => q < w.heap.size ∧ w0.heap.size ≤ q) w.heap.size 0 (List.replicate n (-1, [])) w' := by
  refine (New_in n w h0 h1).mono ?_
  rintro e w' ⟨rfl, hb, ok, h2, h3⟩
  exact ⟨rfl, hb, ⟨⟨ok, _, h2, fun q hq => ⟨Nat.le_trans h.size (h3 q hq), fun h4 => by have := h3 q hq; omega⟩⟩, h.trans (hb.mono h.size), fun q hq => Nat.lt_of_lt_of_le hq.1 hb.size⟩⟩
theorem St.less {P' : Nat → Prop} (h : St w0 P b now ws w) (hp : ∀ q, P' q → P q) : St w0 P' b now ws w := by
  obtain ⟨ok, B, h1, h2⟩ := h.ep
  exact ⟨⟨ok, B, h1, fun q hq => ⟨(h2 q hq).1, fun h3 => (h2 q hq).2 (hp q h3)⟩⟩, h.below, fun q hq => h.lt q (hp q hq)⟩
end
theorem same_loop (a : List Int) (h : a.length < 9223372036854775807) : ∀ (d i : Nat), a.length - i = d → i ≤ a.length → Ev (fun k => haymowlaw11_same.l0 k a a i) true
  | 0, i, hd, hi => by
    obtain rfl : i = a.length := by omega
    refine Ev.step (f := fun _ => some true) (fun k => ?_) (Ev.now _)
    simp [haymowlaw11_same.l0]
  | d + 1, i, hd, hi => by
    refine Ev.step (fun k => ?_) (same_loop a h d (i + 1) (by omega) (by omega))
    simp only [haymowlaw11_same.l0]
    rw [if_pos (by omega), if_pos (by omega), if_pos (by omega), if_pos trivial, show wrap64 ((i : Int) + 1) = ((i + 1 : Nat) : Int) by unfold wrap64; omega]
theorem same_same (a : List Int) (h : a.length < 9223372036854775807) : ∃ k, haymowlaw11_same.f k a a = some true := by
  refine Ev.rounds (g := fun k => haymowlaw11_same.f k a a) (r := true) ?_
  refine Ev.congr (fun k => ?_) (same_loop a h _ 0 rfl (by omega))
  unfold haymowlaw11_same.f
  rw [if_pos rfl]
  rfl
theorem below_drawn {w w' : World} (h : Drawn0 w w') : Below w.heap.size w w' := by
  obtain ⟨n, rfl⟩ := h
  exact pw_below_drewN (Below.refl _ _) n
def noP (_ : Nat) : Prop := False
theorem ex1 : retP 0 (List.replicate 1 (-1, [])) 0 9 = [(-1, [⟨9, 0⟩])] := rfl
theorem ex2 : nowP 0 [(-1, [⟨9, 0⟩])] 0 = 1 ∧ annP 0 [(-1, [⟨9, 0⟩])] 0 = [(0, [⟨9, 0⟩])] ∧ outP 0 [(-1, [⟨9, 0⟩])] 0 = [] := ⟨rfl, rfl, rfl⟩
theorem ex3 : nowP 1 [(0, [⟨9, 0⟩])] 0 = 2 ∧ annP 1 [(0, [⟨9, 0⟩])] 0 = [(1, [])] ∧ outP 1 [(0, [⟨9, 0⟩])] 0 = [9] := ⟨rfl, rfl, rfl⟩
theorem exF (n : Int) (h : 0 ≤ n) : ∀ a, Fine n (rowP [(a, [⟨9, 0⟩])] 0) := by
  intro a x hx
  obtain rfl : x = ⟨9, 0⟩ := by simpa [rowP] using hx
  exact ⟨Int.le_refl _, h⟩
set_option maxRecDepth 100000 in
set_option maxHeartbeats 4000000 in
theorem awake_any (w : World) : Calls Try.prog 12 #[] w fun e w' => e = .returned (.bool true) ∧ Below w.heap.size w w' := by
  have HC := Aside0.mk (St.new (Below.refl w.heap.size w) 1 (by decide) (by decide))
  obtain ⟨kn, hkn⟩ := same_same [9] (by decide)
  have HKN := Aside0.mk hkn
  clear hkn
  go_enter Try.func12, Try.ntmps12
  go_wp2_with fail
  refine HC.out.mono ?_
  rintro e w1 ⟨rfl, hb, hs⟩
  have hs := hs.less (P' := noP) (fun _ h => h.elim)
  have hr := hs.retire 0 9 (by decide) (by decide) (by decide)
  rw [ex1] at hr
  have HC1 := Aside0.mk hr
  clear hs HC hb hr
  go_wp2_with fail
  refine HC1.out.mono ?_
  rintro e w2 ⟨rfl, hs, _⟩
  have ha := hs.announce 0 (by decide) (by decide) (by decide) (exF 0 (by decide) _) (by decide) (by decide)
  rw [ex2.1, ex2.2.1, ex2.2.2] at ha
  have HC2 := Aside0.mk ha
  clear hs HC1 ha
  go_wp2_with fail
  refine HC2.out.mono ?_
  rintro e w3 ⟨⟨A, c, rfl, hR⟩, hs, _⟩
  have ha := hs.announce 0 (by decide) (by decide) (by decide) (exF 1 (by decide) _) (by decide) (by decide)
  rw [ex3.1, ex3.2.1, ex3.2.2] at ha
  have HC3 := Aside0.mk ha
  clear hs HC2 hR ha
  go_wp2_with fail
  refine HC3.out.mono ?_
  rintro e w4 ⟨⟨A2, c2, rfl, hR⟩, hs, _⟩
  have hq := Kd.R_reads' hR
  have HR := Aside0.mk (And.intro hq.2.1 hq.2.2)
  have HS := Aside0.mk hs
  clear hs HC3 hR hq
  go_wp2_with fail
  refine (haymowlaw11_same.calls kn A2 c2 [9] (some ⟨w4.heap.size, 0, none⟩) 1 [9] true _ (Kd.C_alloc HR.out.2 _) HR.out.1 (reads_nums [9] (alloc_blk _ _) (by simp)) (by simp) HKN.out).mono ?_
  rintro e w5 ⟨rfl, hd⟩
  have hs := (HS.out.keep ((Below.refl _ _).alloc (Nat.le_refl _) (.cells #[.int .i64 9] 3)) (fun _ h => h.elim)).keep (below_drawn hd) (fun _ h => h.elim)
  have HT := Aside0.mk hs.tells
  have HB := Aside0.mk hs.below
  clear hd hs
  go_wp2_with fail
  refine HT.out.mono ?_
  rintro e w6 ⟨rfl, rfl⟩
  go_wp2_with fail
  go_ret
  exact ⟨rfl, HB.out⟩
#print axioms awake_any
end Go.Proofs.Ythbooikhegppnaa.H
