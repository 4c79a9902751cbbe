/- Plain law: whether any plan fits any graph, and its time. -/
import Derived.Test.YtenmicgohmamaaaPG6
import Derived.Test.YtenmicgohmamaaaH16
import Derived.Test.YtenmicgohmamaaaH18
namespace Go.Proofs.Ytenmicgohmamaaa.H
open Go.RowKit Go.Hay Go.Proofs.YtenmicgohmamaaaW.PrintWords Go.Proofs.YtenmicgohmamaaaW.PrintLast Go.Proofs.YtenmicgohmamaaaW.PrintMore
set_option linter.unusedVariables false
set_option linter.unusedSimpArgs false
def refF (l : List (List Int)) (a : Int) (W : List Int) : Nat → Nat → Bool
  | 0, _ => true
  | d + 1, n => if rd W n < 0 then false else if (l.getD n []).any (lateB W n) then false else if (W.count (rd W n) : Int) > a then false else refF l a W d (n + 1)
theorem refF_iff {l : List (List Int)} {a : Int} {W : List Int} : ∀ {d n : Nat}, refF l a W d n = true ↔ ∀ j : Nat, n ≤ j → j < n + d → (0 ≤ rd W j ∧ (∀ x ∈ l.getD j [], rd W x < rd W j) ∧ (W.count (rd W j) : Int) ≤ a)
  | 0, n => by simp [refF]; intro j h1 h2; omega
  | d + 1, n => by
    simp only [refF]
    by_cases h1 : rd W n < 0
    · rw [if_pos h1]
      simp only [Bool.false_eq_true, false_iff]
      intro q
      have := q n (Nat.le_refl _) (by omega)
      omega
    · rw [if_neg h1]
      by_cases h2 : (l.getD n []).any (lateB W n) = true
      · rw [if_pos h2]
        simp only [Bool.false_eq_true, false_iff]
        intro q
        have h3 := (q n (Nat.le_refl _) (by omega)).2.1
        obtain ⟨x, hx, h4⟩ := List.any_eq_true.1 h2
        have := h3 x hx
        simp only [lateB, decide_eq_true_eq] at h4
        omega
      · rw [if_neg h2]
        have h5 : ∀ x ∈ l.getD n [], rd W x < rd W n := fun x hx => by
          have h6 : ¬ lateB W n x = true := fun e => h2 (List.any_eq_true.2 ⟨x, hx, e⟩)
          simp only [lateB, decide_eq_true_eq] at h6
          omega
        by_cases h3 : (W.count (rd W n) : Int) > a
        · rw [if_pos h3]
          simp only [Bool.false_eq_true, false_iff]
          intro q
          have := (q n (Nat.le_refl _) (by omega)).2.2
          omega
        · rw [if_neg h3, refF_iff]
          constructor
          · intro q j hj1 hj2
            by_cases e : j = n
            · subst e; exact ⟨by omega, h5, by omega⟩
            · exact q j (by omega) (by omega)
          · intro q j hj1 hj2
            exact q j (by omega) (by omega)
theorem ref_fit {l : List (List Int)} {a : Int} {W : List Int} (hl : W.length = l.length) (ha : 0 ≤ a) : refF l a W l.length 0 = true ↔ Fit l a W := by
  rw [refF_iff]
  constructor
  · intro h
    refine ⟨hl, fun j hj => (h j (Nat.zero_le _) (by omega)).1, fun j hj => (h j (Nat.zero_le _) (by omega)).2.1, fun s _ => ?_⟩
    by_cases hm : s ∈ W
    · obtain ⟨j, hj, rfl⟩ := List.getElem_of_mem hm
      have := (h j (Nat.zero_le _) (by omega)).2.2
      rw [rd_get hj] at this
      exact this
    · rw [List.count_eq_zero.2 hm]; omega
  · intro h j _ hj
    exact ⟨h.pos j (by omega), h.dep j (by omega), h.few _ (h.pos j (by omega))⟩
theorem fits_l2 (l : List (List Int)) (hl : light l) (a : Int) (W : List Int) (hW : W.length = l.length) (n : Nat) (hn : n < l.length) (r : Bool) (hno : (W.count (rd W n) : Int) > a → r = false) (hyes : ¬ (W.count (rd W n) : Int) > a → Ev (fun k => haymowref15_Fits.l0 k l a W ((n : Int) + 1)) r) :
    ∀ (d i : Nat), i + d = l.length → Ev (fun k => haymowref15_Fits.l2 k l a W n ((W.take i).count (rd W n) : Nat) i) r
  | 0, i, h => by
    obtain rfl : i = l.length := by omega
    have hL := hl.1
    rw [← hW, List.take_length]
    by_cases hc : (W.count (rd W n) : Int) > a
    · rw [hno hc]
      refine Ev.step (f := fun _ => some false) (fun k => ?_) (Ev.now _)
      simp only [haymowref15_Fits.l2]
      rw [if_neg (by omega), if_pos hc]
    · refine Ev.step (fun k => ?_) (hyes hc)
      simp only [haymowref15_Fits.l2]
      rw [if_neg (by omega), if_neg hc, wrap_id (x := (n : Int) + 1) (by omega) (by omega)]
  | d + 1, i, h => by
    have hL := hl.1
    have hi : i < W.length := by omega
    have hle : (W.take i).count (rd W n) ≤ (W.take i).length := List.count_le_length
    rw [List.length_take] at hle
    have ih := fits_l2 l hl a W hW n hn r hno hyes d (i + 1) (by omega)
    rw [count_take hi] at ih
    refine Ev.step (fun k => ?_) ih
    simp only [haymowref15_Fits.l2, rd_get hi]
    rw [if_pos (by omega), if_pos (by omega), if_pos (by omega), if_pos (by omega), if_pos (by omega), wrap_id (x := (i : Int) + 1) (by omega) (by omega)]
    by_cases e : W[i] = rd W n
    · rw [if_pos e, if_pos e, wrap_id (by omega) (by omega)]; rfl
    · rw [if_neg e, if_neg e]; rfl
theorem fits_l1 (l : List (List Int)) (hl : light l) (hd : dag l) (a : Int) (W : List Int) (hW : W.length = l.length) (n : Nat) (hn : n < l.length) (r : Bool) (hlate : l[n].any (lateB W n) = true → r = false) (hnext : l[n].any (lateB W n) = false → Ev (fun k => haymowref15_Fits.l2 k l a W n 0 0) r) :
    ∀ (d j : Nat), l[n].length - j = d → j ≤ l[n].length → (∀ i : Nat, i < j → ∀ h : i < l[n].length, lateB W n l[n][i] = false) → Ev (fun k => haymowref15_Fits.l1 k l a W n j) r
  | 0, j, h, hj, hp => by
    obtain rfl : j = l[n].length := by omega
    have hL := hl.1
    have hany : l[n].any (lateB W n) = false := by
      rw [List.any_eq_false]
      intro x hx
      obtain ⟨i, hi, rfl⟩ := List.getElem_of_mem hx
      simp [hp i hi hi]
    refine Ev.step (fun k => ?_) (hnext hany)
    simp only [haymowref15_Fits.l1, rdL_get hn]
    rw [if_pos (by omega), if_pos (by omega), if_neg (by omega)]
  | d + 1, j, h, hj, hp => by
    have hL := hl.1
    have hlt : j < l[n].length := by omega
    have hR := hl.2 _ (List.getElem_mem hn)
    have hx := hd n hn _ (List.getElem_mem hlt)
    by_cases hge : rd W l[n][j] ≥ rd W n
    · rw [hlate (List.any_eq_true.2 ⟨_, List.getElem_mem hlt, by simpa [lateB] using hge⟩)]
      refine Ev.step (f := fun _ => some false) (fun k => ?_) (Ev.now _)
      simp only [haymowref15_Fits.l1, rdL_get hn, rd_get hlt]
      rw [if_pos (by omega), if_pos (by omega), if_pos (by omega), if_pos (by omega), if_pos (by omega), if_pos (by omega), if_pos (by omega), if_pos hge]
    · refine Ev.step (fun k => ?_) (fits_l1 l hl hd a W hW n hn r hlate hnext d (j + 1) (by omega) (by omega) (fun i hi hi2 => ?_))
      · simp only [haymowref15_Fits.l1, rdL_get hn, rd_get hlt]
        rw [if_pos (by omega), if_pos (by omega), if_pos (by omega), if_pos (by omega), if_pos (by omega), if_pos (by omega), if_pos (by omega), if_neg hge, wrap_id (x := (j : Int) + 1) (by omega) (by omega)]
        rfl
      · by_cases e : i = j
        · subst e; simp [lateB]; omega
        · exact hp i (by omega) hi2
theorem fits_l0 (l : List (List Int)) (hl : light l) (hd : dag l) (a : Int) (W : List Int) (hW : W.length = l.length) : ∀ (d n : Nat), n + d = l.length → Ev (fun k => haymowref15_Fits.l0 k l a W n) (refF l a W d n)
  | 0, n, h => by
    obtain rfl : n = l.length := by omega
    refine Ev.step (f := fun _ => some true) (fun k => ?_) (Ev.now _)
    simp only [haymowref15_Fits.l0]
    rw [if_neg (by omega)]
  | d + 1, n, h => by
    have hn : n < l.length := by omega
    have hg : l.getD n [] = l[n] := by simp [hn]
    have hL := hl.1
    simp only [refF, hg]
    by_cases h1 : rd W n < 0
    · rw [if_pos h1]
      refine Ev.step (f := fun _ => some false) (fun k => ?_) (Ev.now _)
      simp only [haymowref15_Fits.l0]
      rw [if_pos (by omega), if_pos (by omega), if_pos (by omega), if_pos h1]
    · rw [if_neg h1]
      have h0 : ((W.take 0).count (rd W n) : Nat) = 0 := by simp
      refine Ev.step (fun k => ?_) (fits_l1 l hl hd a W hW n hn _ (fun e => by rw [if_pos e]) (fun e => ?_) _ 0 rfl (Nat.zero_le _) (fun i hi => absurd hi (Nat.not_lt_zero _)))
      · simp only [haymowref15_Fits.l0]
        rw [if_pos (by omega), if_pos (by omega), if_pos (by omega), if_neg h1]
        rfl
      · have := fits_l2 l hl a W hW n hn (if l[n].any (lateB W n) = true then false else if (W.count (rd W n) : Int) > a then false else refF l a W d (n + 1)) (fun c => by rw [e, if_pos c]; rfl) (fun c => by rw [e, if_neg c]; simpa using fits_l0 l hl hd a W hW d (n + 1) (by omega)) l.length 0 (by omega)
        rw [h0] at this
        exact this
theorem refFits (l : List (List Int)) (hl : light l) (hd : dag l) (a : Int) (ha : 1 ≤ a) (hm : mayB l a = true) (W : List Int) : Ev (fun k => haymowref15_Fits.f k l a W) (fitsP l a W) := by
  unfold haymowref15_Fits.f
  by_cases hlen : W.length = l.length
  · have e : fitsP l a W = refF l a W l.length 0 := by
      rw [Bool.eq_iff_iff, fitsP_iff, ref_fit hlen (by omega)]
      exact ⟨fun h => h.2, fun h => ⟨hm, h⟩⟩
    rw [e]
    refine Ev.congr (fun k => ?_) (fits_l0 l hl hd a W hlen l.length 0 (by omega))
    rw [if_pos (by omega)]
    rfl
  · have e : fitsP l a W = false := by simp [fitsP, hlen]
    rw [e]
    refine Ev.congr (f := fun _ => some false) (fun k => ?_) (Ev.now _)
    rw [if_neg (by omega)]
theorem may_intro {l : List (List Int)} {k : Int} (h : rightB l = true) (k1 : 1 ≤ k) (k2 : k ≤ 64) : mayB l k = true := by
  simp [mayB, h, k1, k2]
def wantP : Int → List Int → Int
  | w, [] => w
  | w, x :: t => wantP (if x ≥ w then x + 1 else w) t
theorem want_top : ∀ (l : List Int) (a : Int), wantP (a + 1) l = topP a l + 1
  | [], a => rfl
  | x :: t, a => by
    simp only [wantP, topP]
    have : (if x ≥ a + 1 then x + 1 else a + 1) = mx a x + 1 := by unfold mx; split <;> split <;> omega
    rw [this]
    exact want_top t _
theorem fitsLaw_loop (l : List (List Int)) (hf : few l) (a : Int) (W : List Int) (hW : W.length ≤ 200) (hwf : wfs W = true) :
    ∀ (d i : Nat) (w : Int), W.length - i = d → i ≤ W.length → (∀ j : Nat, j < i → rd W j < 4611686018427387904) → wantP w (W.drop i) = timeP W → 0 ≤ w → Ev (fun k => haymowlaw15_GreedyFits.l0 k l a W w i) true
  | 0, i, w, h, hi, hb, hw, h0 => by
    obtain rfl : i = W.length := by omega
    rw [List.drop_length] at hw
    simp only [wantP] at hw
    have hbW : ∀ x ∈ W, x < 4611686018427387904 := fun x hx => by
      obtain ⟨j, hj, rfl⟩ := List.getElem_of_mem hx
      rw [← rd_get hj]; exact hb j hj
    have ht := time_ev W (by omega) (fun x hx => by have := hbW x hx; omega)
    have fin : Ev (fun k => (greedy_Time.f k W).bind fun t => if t = w then (haymowlaw15_awake.f k).bind fun t => some t else some false) true := by
      refine Ev.bind ht ?_
      simp only [if_pos hw.symm]
      exact Ev.bind awake_ev (Ev.now _)
    have no : fitsP l a W = false → Ev (fun k => (greedy_Fits.f l a W).bind fun t => if (t == false) = true then ((greedy_Time.f k W).bind fun t => if t = w then ((haymowlaw15_awake.f k).bind fun t => some t) else some false) else some false) true := fun e => by
      rw [fits_f hf a hwf, e]
      simpa using fin
    by_cases c1 : a ≥ 1
    · by_cases c2 : a ≤ 64
      · refine Ev.step (fun k => ?_) (Ev.bind (f := fun k t196 => (if t196 = true then ((haymowref15_Fits.f k l a W).bind fun t197 => ((greedy_Fits.f l a W).bind fun t198 => (if (t198 == t197) = true then ((greedy_Time.f k W).bind fun t199 => (if t199 = w then ((haymowlaw15_awake.f k).bind fun t200 => (some t200)) else (some false))) else (some false)))) else ((greedy_Fits.f l a W).bind fun t201 => (if (t201 == false) = true then ((greedy_Time.f k W).bind fun t202 => (if t202 = w then ((haymowlaw15_awake.f k).bind fun t203 => (some t203)) else (some false))) else (some false))))) (refR_f l hf.light) ?_)
        · simp only [haymowlaw15_GreedyFits.l0]
          rw [if_neg (by omega), if_pos c1, if_pos c2]
        · cases hr : rightB l with
          | false => simpa using no (by simp [fitsP, mayB, hr])
          | true =>
            have hm : mayB l a = true := may_intro hr c1 c2
            simp only [if_true]
            refine Ev.bind (refFits l hf.light (dag_of hr) a c1 hm W) ?_
            rw [fits_f hf a hwf]
            simpa using fin
      · refine Ev.step (fun k => ?_) (no (by simp [fitsP, mayB]; omega))
        simp only [haymowlaw15_GreedyFits.l0]
        rw [if_neg (by omega), if_pos c1, if_neg c2]
    · refine Ev.step (fun k => ?_) (no (by simp [fitsP, mayB]; omega))
      simp only [haymowlaw15_GreedyFits.l0]
      rw [if_neg (by omega), if_neg c1]
  | d + 1, i, w, h, hi, hb, hw, h0 => by
    have hlt : i < W.length := by omega
    by_cases hbig : rd W (i : Int) ≥ 4611686018427387904
    · refine Ev.step (f := fun _ => some true) (fun n => ?_) (Ev.now _)
      simp only [haymowlaw15_GreedyFits.l0]
      rw [if_pos (by omega), if_pos (by omega), if_pos hbig]
    · rw [drop_cons hlt] at hw
      simp only [wantP] at hw
      have hb2 : ∀ j : Nat, j < i + 1 → rd W j < 4611686018427387904 := fun j hj => by
        by_cases e : j = i
        · subst e; omega
        · exact hb j (by omega)
      by_cases hge : rd W (i : Int) ≥ w
      · have hge' : W[i] ≥ w := by rw [← rd_get hlt]; exact hge
        rw [if_pos hge', ← rd_get hlt] at hw
        refine Ev.step (fun n => ?_) (fitsLaw_loop l hf a W hW hwf d (i + 1) (rd W (i : Int) + 1) (by omega) (by omega) hb2 hw (by omega))
        simp only [haymowlaw15_GreedyFits.l0]
        rw [if_pos (by omega), if_pos (by omega), if_neg hbig, if_pos hge, wrap_id (x := (i : Int) + 1) (by omega) (by omega), wrap_id (x := rd W (i : Int) + 1) (by omega) (by omega)]
        rfl
      · have hge' : ¬ W[i] ≥ w := by rw [← rd_get hlt]; exact hge
        rw [if_neg hge'] at hw
        refine Ev.step (fun n => ?_) (fitsLaw_loop l hf a W hW hwf d (i + 1) w (by omega) (by omega) hb2 hw h0)
        simp only [haymowlaw15_GreedyFits.l0]
        rw [if_pos (by omega), if_pos (by omega), if_neg hbig, if_neg hge, wrap_id (x := (i : Int) + 1) (by omega) (by omega)]
        rfl
theorem greedyFits_pure (l : List (List Int)) (a : Int) (W : List Int) (hW : ∀ x ∈ W, (Lit.int .i64 x).wf = true) : ∃ n, haymowlaw15_GreedyFits.f n l a W = some true := by
  refine Ev.rounds (r := true) ?_
  obtain ⟨b, h1, h2⟩ := light_ev l
  have out : Ev (fun n => haymowlaw15_GreedyFits.j0 n l a W true) true := Ev.step (f := fun _ => some true) (fun n => by simp [haymowlaw15_GreedyFits.j0]) (Ev.now _)
  unfold haymowlaw15_GreedyFits.f
  refine Ev.bind h1 ?_
  cases b with
  | false => simpa using out
  | true =>
    have hf := h2 rfl
    simp only [if_true]
    by_cases h200 : (W.length : Int) > 200
    · simpa [h200] using out
    · simp only [show decide ((W.length : Int) > 200) = false by simp; omega]
      refine Ev.step (fun n => ?_) (fitsLaw_loop l hf a W (by omega) (List.all_eq_true.2 hW) _ 0 0 rfl (Nat.zero_le _) (fun j hj => absurd hj (Nat.not_lt_zero _)) (by rw [List.drop_zero]; exact want_top W (-1)) (Int.le_refl _))
      simp [haymowlaw15_GreedyFits.j0]
end Go.Proofs.Ytenmicgohmamaaa.H
