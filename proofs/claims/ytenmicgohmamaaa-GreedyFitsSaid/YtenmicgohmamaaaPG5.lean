/- Plain laws: depths, span and work; what the laws of bounds tell. -/
import Derived.Test.YtenmicgohmamaaaPG4
import Derived.Test.YtenmicgohmamaaaFits
import Derived.Test.YtenmicgohmamaaaH19
import Derived.Test.YtenmicgohmamaaaH20
import Derived.Test.YtenmicgohmamaaaH22
namespace Go.Proofs.Ytenmicgohmamaaa.H
open Go.RowKit Go.Hay Go.Proofs.YtenmicgohmamaaaW.PrintWords Go.Proofs.YtenmicgohmamaaaW.PrintLast Go.Proofs.YtenmicgohmamaaaW.PrintMore
set_option linter.unusedVariables false
set_option linter.unusedSimpArgs false
def rowD (out : List Int) : Int → List Int → Int
  | a, [] => a
  | a, x :: t => rowD out (mx a (rd out x)) t
theorem rowD_le {out : List Int} {l : List Int} : ∀ {a : Int}, a ≤ rowD out a l ∧ ∀ x ∈ l, rd out x ≤ rowD out a l := by
  induction l with
  | nil => intro a; exact ⟨Int.le_refl _, fun x hx => by cases hx⟩
  | cons y t ih =>
    intro a
    have h := ih (a := mx a (rd out y))
    have h1 : a ≤ mx a (rd out y) ∧ rd out y ≤ mx a (rd out y) := by unfold mx; split <;> omega
    refine ⟨by have := h.1; simp only [rowD]; omega, fun x hx => ?_⟩
    rcases List.mem_cons.1 hx with rfl | hx
    · have := h.1; simp only [rowD]; omega
    · exact h.2 x hx
theorem rowD_mem {out : List Int} {l : List Int} : ∀ {a : Int}, rowD out a l = a ∨ ∃ x ∈ l, rowD out a l = rd out x := by
  induction l with
  | nil => intro a; exact .inl rfl
  | cons y t ih =>
    intro a
    simp only [rowD]
    rcases ih (a := mx a (rd out y)) with e | ⟨x, hx, e⟩
    · rw [e]
      unfold mx
      split
      · exact .inr ⟨y, by simp, rfl⟩
      · exact .inl rfl
    · exact .inr ⟨x, List.mem_cons_of_mem _ hx, e⟩
/-- the depths of the first i. -/
structure DepI (g : List (List Int)) (i : Nat) (out : List Int) : Prop where
  len : out.length = i
  one : ∀ n : Nat, n < i → 1 ≤ rd out n
  small : ∀ n : Nat, n < i → rd out n ≤ n + 1
  up : ∀ n : Nat, n < i → ∀ x ∈ g.getD n [], rd out x + 1 ≤ rd out n
  eq : ∀ n : Nat, n < i → rd out n = 1 ∨ ∃ x ∈ g.getD n [], rd out n = rd out x + 1
theorem rd_app {out : List Int} {y : Int} {n : Nat} (h : n < out.length) : rd (out ++ [y]) (n : Int) = rd out (n : Int) := by
  rw [rd_get (by simp; omega), rd_get h, List.getElem_append_left h]
theorem rd_last {out : List Int} {y : Int} : rd (out ++ [y]) (out.length : Int) = y := by
  rw [rd_get (by simp)]; simp
theorem depI_next {g : List (List Int)} (hd : dag g) {i : Nat} (hi : i < g.length) {out : List Int} (h : DepI g i out) : DepI g (i + 1) (out ++ [rowD out 0 g[i] + 1]) ∧ rowD out 0 g[i] ≤ i ∧ 0 ≤ rowD out 0 g[i] := by
  have hg : g.getD i [] = g[i] := by simp [hi]
  have hz : 0 ≤ rowD out 0 g[i] := (rowD_le (out := out) (l := g[i]) (a := 0)).1
  have hle : rowD out 0 g[i] ≤ i := by
    rcases rowD_mem (out := out) (l := g[i]) (a := 0) with e | ⟨x, hx, e⟩
    · omega
    · obtain ⟨m, rfl, hm⟩ := dag_at hd hi (by rw [hg]; exact hx)
      have := h.small m hm
      omega
  have hlast : rd (out ++ [rowD out 0 g[i] + 1]) (i : Int) = rowD out 0 g[i] + 1 := by
    have e := rd_last (out := out) (y := rowD out 0 g[i] + 1)
    rw [h.len] at e
    exact e
  have hlow : ∀ n : Nat, n < i → rd (out ++ [rowD out 0 g[i] + 1]) (n : Int) = rd out (n : Int) := fun n hn => rd_app (by rw [h.len]; exact hn)
  refine ⟨⟨by simp [h.len], fun n hn => ?_, fun n hn => ?_, fun n hn x hx => ?_, fun n hn => ?_⟩, hle, hz⟩
  · by_cases e : n = i
    · subst e; rw [hlast]; omega
    · rw [hlow n (by omega)]; exact h.one n (by omega)
  · by_cases e : n = i
    · subst e; rw [hlast]; omega
    · rw [hlow n (by omega)]; exact h.small n (by omega)
  · by_cases e : n = i
    · subst e
      obtain ⟨m, rfl, hm⟩ := dag_at hd hi hx
      rw [hlast, hlow m hm]
      rw [hg] at hx
      have := (rowD_le (out := out) (l := g[n]) (a := 0)).2 _ hx
      omega
    · obtain ⟨m, rfl, hm⟩ := dag_at hd (show n < g.length by omega) hx
      rw [hlow n (by omega), hlow m (by omega)]
      exact h.up n (by omega) _ hx
  · by_cases e : n = i
    · subst e
      rw [hlast]
      rcases rowD_mem (out := out) (l := g[n]) (a := 0) with e | ⟨x, hx, e⟩
      · left; omega
      · obtain ⟨m, rfl, hm⟩ := dag_at hd hi (by rw [hg]; exact hx)
        exact .inr ⟨_, by rw [hg]; exact hx, by rw [hlow m hm, e]⟩
    · rw [hlow n (by omega)]
      rcases h.eq n (by omega) with q | ⟨x, hx, q⟩
      · exact .inl q
      · obtain ⟨m, rfl, hm⟩ := dag_at hd (show n < g.length by omega) hx
        exact .inr ⟨_, hx, by rw [hlow m (by omega)]; exact q⟩
theorem depths_row (g : List (List Int)) (hl : light g) (hd : dag g) (i : Nat) (hi : i < g.length) (out : List Int) (ho : out.length = i) (r : List Int) (hnext : Ev (fun k => graph_Depths.l0 k (out ++ [rowD out 0 g[i] + 1]) g (g.length : Int) ((i : Int) + 1)) r) (hsm : rowD out 0 g[i] ≤ i ∧ 0 ≤ rowD out 0 g[i]) :
    ∀ (d j : Nat) (a : Int), g[i].length - j = d → j ≤ g[i].length → rowD out a (g[i].drop j) = rowD out 0 g[i] → Ev (fun k => graph_Depths.l1 k out a g (g.length : Int) i g[i] (g[i].length : Int) j) r
  | 0, j, a, h, hj, he => by
    obtain rfl : j = g[i].length := by omega
    rw [List.drop_length] at he
    simp only [rowD] at he
    subst he
    have hL := hl.1
    refine Ev.step (fun k => ?_) hnext
    simp only [graph_Depths.l1]
    rw [if_neg (by omega), if_pos (by omega), wrap_id (x := rowD out 0 g[i] + 1) (by omega) (by omega), wrap_id (x := (i : Int) + 1) (by omega) (by omega)]
  | d + 1, j, a, h, hj, he => by
    have hlt : j < g[i].length := by omega
    have hR := hl.2 _ (List.getElem_mem hi)
    have hx := hd i hi _ (List.getElem_mem hlt)
    rw [drop_cons hlt] at he
    simp only [rowD] at he
    refine Ev.step (fun k => ?_) (depths_row g hl hd i hi out ho r hnext hsm d (j + 1) (mx a (rd out g[i][j])) (by omega) (by omega) he)
    simp only [graph_Depths.l1, rd_get hlt]
    rw [if_pos (by omega), if_pos (by omega), if_pos (by omega), if_pos (by omega), if_pos (by omega), wrap_id (x := (j : Int) + 1) (by omega) (by omega)]
    rfl
theorem depths_loop (g : List (List Int)) (hl : light g) (hd : dag g) : ∀ (d i : Nat) (out : List Int), i + d = g.length → DepI g i out → ∃ r, Ev (fun k => graph_Depths.l0 k out g (g.length : Int) i) r ∧ DepI g g.length r
  | 0, i, out, h, hI => by
    obtain rfl : i = g.length := by omega
    refine ⟨out, Ev.step (f := fun _ => some out) (fun k => ?_) (Ev.now _), hI⟩
    simp only [graph_Depths.l0]
    rw [if_neg (by omega)]
  | d + 1, i, out, h, hI => by
    have hlt : i < g.length := by omega
    obtain ⟨h1, h2, h3⟩ := depI_next hd hlt hI
    obtain ⟨r, hr, hr2⟩ := depths_loop g hl hd d (i + 1) _ (by omega) h1
    refine ⟨r, Ev.step (fun k => ?_) (depths_row g hl hd i hlt out hI.len r (by exact hr) ⟨h2, h3⟩ _ 0 0 rfl (Nat.zero_le _) rfl), hr2⟩
    simp only [graph_Depths.l0, rdL_get hlt]
    rw [if_pos (by omega), if_pos (by omega), if_pos (by omega)]
    rfl
theorem depths_f (g : List (List Int)) (hl : light g) (hr : rightB g = true) : ∃ dl, Ev (fun k => graph_Depths.f k g) dl ∧ DepS g dl := by
  obtain ⟨r, h1, h2⟩ := depths_loop g hl (dag_of hr) g.length 0 [] (by omega) ⟨rfl, fun n hn => by omega, fun n hn => by omega, fun n hn => by omega, fun n hn => by omega⟩
  refine ⟨r, ?_, ⟨h2.len, h2.one, h2.up, h2.eq⟩⟩
  unfold graph_Depths.f
  refine Ev.bind (right_f g hl) ?_
  rw [hr]
  simp only [if_true]
  exact h1
theorem span_loop (l : List Int) (hl : l.length ≤ 1000) : ∀ (d i : Nat) (a : Int), l.length - i = d → i ≤ l.length → Ev (fun k => graph_Span.l0 k a l (l.length : Int) i) (topP a (l.drop i))
  | 0, i, a, hd, hi => by
    obtain rfl : i = l.length := by omega
    rw [List.drop_length]
    refine Ev.step (f := fun _ => some a) (fun k => ?_) (Ev.now _)
    simp only [graph_Span.l0]
    rw [if_neg (by omega)]
  | d + 1, i, a, hd, hi => by
    have hlt : i < l.length := by omega
    rw [drop_cons hlt]
    refine Ev.step (fun k => ?_) (span_loop l hl d (i + 1) (mx a l[i]) (by omega) (by omega))
    simp only [graph_Span.l0, rd_get hlt]
    rw [if_pos (by omega), if_pos (by omega), if_pos (by omega), wrap_id (x := (i : Int) + 1) (by omega) (by omega)]
    rfl
/-- a longest row's length. -/
theorem span_f (g : List (List Int)) (hl : light g) {dl : List Int} (hd : Ev (fun k => graph_Depths.f k g) dl) (hs : DepS g dl) : Ev (fun k => graph_Span.f k g) (topP 0 dl) := by
  unfold graph_Span.f
  refine Ev.bind hd ?_
  have hL := hl.1
  simpa using span_loop dl (by rw [hs.len]; exact hL) _ 0 0 rfl (Nat.zero_le _)
theorem work_f (g : List (List Int)) (hl : light g) (hr : rightB g = true) : Ev (fun k => graph_Work.f k g) (g.length : Int) := by
  unfold graph_Work.f
  refine Ev.bind (right_f g hl) ?_
  rw [hr]
  simpa using Ev.now (g.length : Int)
theorem span_ge {g : List (List Int)} {dl : List Int} (hs : DepS g dl) : 0 ≤ topP 0 dl ∧ ∀ j : Nat, j < g.length → rd dl j ≤ topP 0 dl := by
  have h := topP_le (l := dl) (a := 0)
  refine ⟨h.1, fun j hj => ?_⟩
  have hj' : j < dl.length := by rw [hs.len]; exact hj
  rw [rd_get hj']
  exact h.2 _ (List.getElem_mem hj')
theorem span_le {g : List (List Int)} {dl : List Int} (hs : DepS g dl) {b : Int} (hb : 0 ≤ b) (h : ∀ j : Nat, j < g.length → rd dl j ≤ b) : topP 0 dl ≤ b := by
  rcases topP_mem (l := dl) (a := 0) with e | e
  · omega
  · obtain ⟨j, hj, he⟩ := List.getElem_of_mem e
    have := h j (by rw [← hs.len]; exact hj)
    rw [rd_get hj, he] at this
    exact this
theorem span_time {g : List (List Int)} (hd : dag g) {k : Int} {W dl : List Int} (hf : Fit g k W) (hs : DepS g dl) : topP 0 dl ≤ timeP W := by
  refine span_le hs (time_nonneg W) (fun j hj => ?_)
  have h1 := dep_le hd hf hs j hj
  have h2 := time_le j (by rw [hf.len]; exact hj)
  omega
end Go.Proofs.Ytenmicgohmamaaa.H
