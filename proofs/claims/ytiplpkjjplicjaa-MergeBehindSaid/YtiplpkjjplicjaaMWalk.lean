/- merge.walk merges a node that may be: what is told, why it fails, and where first. -/
import Derived.Test.YtiplpkjjplicjaaMClone
set_option linter.unusedVariables false
set_option linter.unusedSimpArgs false
namespace Go.Proofs.Ytiplpkjjplicjaa.H
open Go.RowKit Go.Hay Go.Proofs.YtiplpkjjplicjaaW.PrintWords Go.Proofs.YtiplpkjjplicjaaW.PrintLast Go.Proofs.YtiplpkjjplicjaaW.PrintMore
theorem panic_via {P : Program} {fn : Func} {R : Ending → World → Prop} {ops : Array Oper} {Q : Exit → Act → World → Prop} (hQ : ∀ c a w, Q (.panic c) a w = bodyPost P fn R (.panic c) a w) :
    ∀ o ∈ ops.toList, ∀ c a v w, Q (.panic c) (a.put o.dst v) w → Q (.panic c) a w := by
  intro o ho c a v w h
  rw [hQ] at h ⊢
  exact panic_put (P := P) (fn := fn) (R := R) o ho c a v w h
/-- What the two closures keep: the numbers told so far, the first failure; S: the blocks that they write. -/
abbrev Inv := List Int → Option (List Int) → (Nat → Prop) → World → Prop
structure Teller (F1 F2 : Nat) (caps1 caps2 : Array Value) (B : Nat) (I : Inv) : Prop where
  size : ∀ {told : List Int} {S : Nat → Prop} {w : World}, I told none S w → B ≤ w.heap.size ∧ ∀ k, S k → B ≤ k ∧ k < w.heap.size
  keep : ∀ {told : List Int} {q : Option (List Int)} {S : Nat → Prop} {w w' : World}, I told q S w → Below w.heap.size w w' → I told q S w'
  tell : ∀ {told : List Int} {S : Nat → Prop} {w : World} (x : Int), I told none S w → told.length ≤ 1000000 → Calls Try.prog F1 (#[.int .i64 x] ++ caps1) w fun e w' => e = .returned (.tuple #[]) ∧ ∃ S', I (told ++ [x]) none S' w' ∧ Keep S w w' ∧ ∀ k, S' k → S k ∨ w.heap.size ≤ k
  fails : ∀ {told : List Int} {S : Nat → Prop} {w : World} {A : Option Addr} {c : Nat} {path : List Int}, I told none S w → PathIs w A c path → (∀ ad, A = some ad → ¬ S ad.block) → Calls Try.prog F2 (#[.slice A path.length c] ++ caps2) w fun e w' => e = .returned (.tuple #[]) ∧ ∃ S', I told (some path) S' w' ∧ Keep S w w'
theorem PathIs.below {w w' : World} {A : Option Addr} {c : Nat} {path : List Int} (h : PathIs w A c path) (hb : Below w.heap.size w w') : PathIs w' A c path := ⟨Kd.C_below h.1 hb, h.2.1, fun ad e => Nat.lt_of_lt_of_le (h.2.2 ad e) hb.size⟩
theorem PathIs.keep {w w' : World} {A : Option Addr} {c : Nat} {path : List Int} {S : Nat → Prop} (h : PathIs w A c path) (hk : Keep S w w') (hS : ∀ ad, A = some ad → ¬ S ad.block) : PathIs w' A c path := by
  refine ⟨?_, h.2.1, fun ad e => Nat.lt_of_lt_of_le (h.2.2 ad e) hk.size⟩
  obtain ⟨hC, _⟩ := h
  refine ⟨hC.1, hC.2.1, fun hp => ?_⟩
  obtain ⟨ad, rfl, hx⟩ := hC.2.2 hp
  refine ⟨ad, rfl, fun j p hj => ?_⟩
  obtain ⟨cs, h1, h2, h3⟩ := hx j p hj
  exact ⟨cs, h1, h2, fun i u hu => hk.cell (h3 i u hu) (by rw [add_block]; exact hS ad rfl)⟩
/-- An own row of numbers is a path. -/
theorem PathIs.own {w : World} {base e : Nat} {v : Value} {path : List Int} {ok : Nat → Prop} (h : (Kd.int .i64).R e w base ok v path) : ∃ A c, v = .slice A path.length c ∧ PathIs w A c path ∧ (∀ ad, A = some ad → base ≤ ad.block) := by
  obtain ⟨A, c, rfl⟩ := Kd.R_slice h
  have hC := (Kd.R_reads' h).2.2
  have hlen := (Kd.R_reads' h).2.1
  obtain ⟨_, inner, ⟨_, ho⟩, _⟩ := h
  rcases ho with ⟨h1, h2⟩ | ⟨g, cap, cur, h1, h5, h6, _⟩
  · injection h1 with h1 h3 h4
    subst h1
    exact ⟨none, c, rfl, ⟨hC, .inl ⟨rfl, h4, List.eq_nil_of_length_eq_zero h2⟩, fun ad e => by cases e⟩, fun ad e => by cases e⟩
  · injection h1 with h1 h3 h4
    subst h1
    exact ⟨_, c, rfl, ⟨hC, .inr ⟨⟨_, rfl⟩, hlen⟩, fun ad e => by cases e; exact blk_lt h6⟩, fun ad e => by cases e; exact h5⟩
def WalkOk (F1 F2 : Nat) (caps1 caps2 : Array Value) (w0 : World) (I : Inv) (t : T) : Prop :=
  ∀ (a A : Option Addr) (c : Nat) (path told : List Int) (S : Nat → Prop) (w : World) (d : Int), IsT t w0 a → Below w0.heap.size w0 w → PathIs w A c path → (∀ ad, A = some ad → ¬ S ad.block) → I told none S w → rightT t d = true → 0 ≤ d → (path.length : Int) ≤ d →
    told.length + (walkT t path).1.length ≤ 1000000 →
    Calls Try.prog 22 #[.pointer a, .slice A path.length c, .func (.func F1) #[] caps1, .func (.func F2) #[] caps2] w fun e w' => e = .returned (.int .i64 (walkT t path).2.1) ∧
      ∃ S', I (told ++ (walkT t path).1) (walkT t path).2.2 S' w' ∧ Keep S w w' ∧ ((walkT t path).2.2 = none → ∀ k, S' k → S k ∨ w.heap.size ≤ k)
/-- What is known within the loop. -/
structure WW (w0 : World) (I : Inv) (S : Nat → Prop) (A : Option Addr) (c : Nat) (path told t1 : List Int) (w w' : World) : Prop where
  st : ∃ S', I (told ++ t1) none S' w' ∧ Keep S w w' ∧ ∀ k, S' k → S k ∨ w.heap.size ≤ k
  below : Below w0.heap.size w0 w'
  path : PathIs w' A c path
theorem WW.keep {F1 F2 : Nat} {caps1 caps2 : Array Value} {w0 : World} {I : Inv} (TT : Teller F1 F2 caps1 caps2 w0.heap.size I) {S : Nat → Prop} {A : Option Addr} {c : Nat} {path told t1 : List Int} {w w' w'' : World} (h : WW w0 I S A c path told t1 w w') (k : Below w'.heap.size w' w'') : WW w0 I S A c path told t1 w w'' := by
  obtain ⟨⟨S', h1, h2, h3⟩, h4, h5⟩ := h
  exact ⟨⟨S', TT.keep h1 k, h2.then (Keep.of_below k (fun _ => False)) (fun _ _ h => h.elim), h3⟩, h4.trans (k.mono h4.size), h5.below k⟩
theorem WW.next {F1 F2 : Nat} {caps1 caps2 : Array Value} {w0 : World} {I : Inv} (TT : Teller F1 F2 caps1 caps2 w0.heap.size I) {S : Nat → Prop} {A : Option Addr} {c : Nat} {path told t1 : List Int} {w w' : World} (hpl : ∀ ad, A = some ad → ad.block < w.heap.size) (hpS : ∀ ad, A = some ad → ¬ S ad.block) (h : WW w0 I S A c path told t1 w w') :
    ∃ S', I (told ++ t1) none S' w' ∧ (∀ ad, A = some ad → ¬ S' ad.block) ∧ (∀ k, S' k → w0.heap.size ≤ k ∧ k < w'.heap.size) ∧ (∀ {w2 : World}, Keep S' w' w2 → Keep S w w2) ∧
      ∀ {t2 : List Int} {S2 : Nat → Prop} {w2 : World}, I (told ++ t1 ++ t2) none S2 w2 → Keep S' w' w2 → (∀ k, S2 k → S' k ∨ w'.heap.size ≤ k) → WW w0 I S A c path told (t1 ++ t2) w w2 := by
  obtain ⟨⟨S', h1, h2, h3⟩, h4, h5⟩ := h
  have hne : ∀ ad, A = some ad → ¬ S' ad.block := fun ad e hs => (h3 _ hs).elim (hpS ad e) (fun hh => by have := hpl ad e; omega)
  have hk : ∀ {w2 : World}, Keep S' w' w2 → Keep S w w2 := fun k => h2.then k (fun i hi hs => (h3 i hs).elim id (fun hh => absurd hi (by omega)))
  refine ⟨S', h1, hne, (TT.size h1).2, hk, fun {t2 S2 w2} hI k hS => ⟨⟨S2, by rw [← List.append_assoc]; exact hI, hk k, fun x hx => (hS x hx).elim (h3 x) (fun hh => .inr (Nat.le_trans h2.size hh))⟩, h4.trans (k.below (TT.size h1).1 (fun x hx hs => by have := ((TT.size h1).2 x hs).1; omega)), h5.keep k hne⟩⟩
theorem metP_here {ps : List S64} {i : Nat} {m r : Int} {q : S64} (hi : i < ps.length) (hq : ps[i] = q) (h : metP m (ps.drop i) = some r) : (q.f0 = false ∧ metP m (ps.drop (i + 1)) = some r) ∨ (q.f0 = true ∧ q.f1 = m ∧ metP (m + 1) (ps.drop (i + 1)) = some r) := by
  rw [List.drop_eq_getElem_cons hi, hq, metP] at h
  by_cases h1 : q.f0 = true
  · rw [if_pos h1] at h
    by_cases h2 : q.f1 = m
    · rw [if_pos h2] at h; exact .inr ⟨h1, h2, h⟩
    · rw [if_neg h2] at h; cases h
  · rw [if_neg h1] at h; exact .inl ⟨by simpa using h1, h⟩
theorem preT_preT (a b : List Int) (r : List Int × Int × Option (List Int)) : preT a (preT b r) = preT (a ++ b) r := by simp [preT]
theorem rightTs_mem : ∀ {ks : List T} {d : Int}, rightTs ks d = true → ∀ (i : Nat) (h : i < ks.length), rightT ks[i] d = true
  | [], _, _, i, h => absurd h (Nat.not_lt_zero _)
  | k :: r, d, h, i, hi => by
    rw [rightTs, Bool.and_eq_true] at h
    cases i with
    | zero => exact h.1
    | succ i => exact rightTs_mem h.2 i (by simpa using hi)
theorem right_inv {ps : List S64} {ks : List T} {v f d : Int} (h : rightT (.node ps ks v f) d = true) : d ≤ 30 ∧ (f = 0 ∨ v = 0) ∧ metP 0 ps = some (ks.length : Int) ∧ rightTs ks (d + 1) = true := by
  rw [rightT] at h
  split at h
  · cases h
  · rename_i h1
    split at h
    · cases h
    · rename_i m hm
      split at h
      · rename_i h2
        refine ⟨by omega, ?_, by rw [hm, h2], h⟩
        by_cases hf : f = 0
        · exact .inl hf
        · by_cases hv : v = 0
          · exact .inr hv
          · exact absurd (.inr ⟨hf, hv⟩) h1
      · cases h
set_option maxRecDepth 100000 in
set_option maxHeartbeats 8000000 in
theorem walk25_node (g : Nat) (caps1 caps2 : Array Value) (hc1 : caps1 = #[.pointer (some ⟨g, 0, none⟩)]) (hc2 : caps2 = #[]) (w0 : World) (I : Inv) (TT : Teller 25 26 caps1 caps2 w0.heap.size I) (ps : List S64) (ks : List T) (v f : Int) (hk : ∀ k ∈ ks, WalkOk 25 26 caps1 caps2 w0 I k) : WalkOk 25 26 caps1 caps2 w0 I (.node ps ks v f) := by
  subst hc1
  subst hc2
  intro a A c path told S w d h hb0 hp hpS hI hr hd0 hpl htl
  obtain ⟨hd30, hfv, hmet, hrs⟩ := right_inv hr
  have h' := h
  simp only [IsT] at h'
  obtain ⟨b, A1, c1, A2, c2, qs, rfl, g1, g2, g3, g4, g5, g6⟩ := h'
  obtain ⟨W, hW⟩ : ∃ W, W = walkKs ks path 0 := ⟨_, rfl⟩
  have hres : walkT (.node ps ks v f) path = if (walkPs ps W).2.1 = 0 then ((walkPs ps W).1, f, if f = 0 then none else some path) else walkPs ps W := by rw [hW, walkT]
  have hWm : ∀ m (h : m < ks.length), W.getD m ([], 0, none) = walkT ks[m] (path ++ [(m : Int)]) := fun m h => by
    rw [List.getD_eq_getElem?_getD, hW, walkKs_get ks path 0 m h]; simp
  obtain ⟨R, hR⟩ : ∃ R, R = walkT (.node ps ks v f) path := ⟨_, rfl⟩
  rw [← hR] at hres htl ⊢
  have hmax := Kd.C_max g3
  have HW := Aside0.mk (show WW w0 I S A c path told [] w w from ⟨⟨S, by simpa using hI, Keep.refl _ _, fun k h => .inl h⟩, hb0, hp⟩)
  have HR := Aside0.mk hres
  have HWM := Aside0.mk hWm
  have HK := Aside0.mk hk
  have G := Aside0.mk (And.intro g1 (And.intro g3 (And.intro g5 g6)))
  have HM := Aside0.mk hmet
  have HRS := Aside0.mk hrs
  have HD := Aside0.mk (And.intro hd0 (And.intro hd30 hpl))
  have HTL := Aside0.mk htl
  have HPS := Aside0.mk (And.intro hp.2.2 hpS)
  have hR1 : R.1 = (walkPs ps W).1 := by rw [hres]; split <;> rfl
  have HR1 := Aside0.mk hR1
  have HT := Aside0.mk TT
  have gw := (hb0.block _ (blk_lt g1)).trans g1
  have n0 := blk_cell gw 0
  clear h hb0 hp hpS hI hr hd0 hpl htl hd30 hfv hmet hrs g1 g2 g3 g4 g5 g6 gw hR hW hres hWm hk TT hR1
  go_enter Try.func22, Try.ntmps22
  go_wp2_with fail
  go_step3
  go_wp2_with fail
  go_step3
  go_wp2_with fail
  clear n0
  go_loopw [18] (fun v18 wr => ∃ (i : Nat) (m : Int) (t1 : List Int), v18 = .int .i64 i ∧ i ≤ ps.length ∧ Aside0 (0 ≤ m ∧ metP m (ps.drop i) = some (ks.length : Int)) ∧ Aside0 (walkPs ps W = preT t1 (walkPs (ps.drop i) W)) ∧ Aside0 (WW w0 I S A c path told t1 w wr)) (fun v18 _ => ps.length - (intOf v18).toNat)
  case atStart => exact ⟨0, 0, [], rfl, Nat.zero_le _, ⟨Int.le_refl _, by simpa using HM.out⟩, ⟨by simp [preT]⟩, HW⟩
  case round =>
    clear HW HM
    obtain ⟨i, m, t1, rfl, hi, HM, HP, HW⟩ := hrel
    by_cases hlt : i < ps.length
    · obtain ⟨ad, rfl, hx0, hx1⟩ := at_T64 G.out.2.1 i (by omega) (by omega)
      replace hx0 := (HW.out.below.cell (World.block_lt_of_cell? w0 _ hx0)).trans hx0
      replace hx1 := (HW.out.below.cell (World.block_lt_of_cell? w0 _ hx1)).trans hx1
      simp only [Int.toNat_natCast] at hx0 hx1
      have hfi : rd_T64 ps (i : Int) = ps[i] := by simp [rd_T64, hlt]
      rw [hfi] at hx0 hx1
      clear hfi
      generalize hfj : ps[i] = pi at hx0 hx1
      have HHERE := Aside0.mk (metP_here hlt hfj HM.out.2)
      have HDR := Aside0.mk (show walkPs (ps.drop i) W = walkPs (pi :: ps.drop (i + 1)) W by rw [List.drop_eq_getElem_cons hlt, hfj])
      clear hfj
      obtain ⟨p0, p1⟩ := pi
      have HW2 := Aside0.mk (HW.out.keep HT.out ((Below.refl _ _).alloc (Nat.le_refl _) (.cells #[.bool p0, .int .i64 p1] 44)))
      cases p0 with
      | false =>
        obtain ⟨S', hI, hne, hS', hkk, hnx⟩ := HW2.out.next HT.out HPS.out.1 HPS.out.2
        have hbd : (told ++ t1).length ≤ 1000000 := by
          have e := congrArg (fun r => r.1.length) HP.out
          simp only [preT, List.length_append] at e
          have := HTL.out
          rw [HR1.out] at this
          rw [List.length_append]; omega
        have HTE := Aside0.mk (HT.out.tell p1 hI hbd)
        have HNX := Aside0.mk (fun {S2 : Nat → Prop} {w2 : World} => hnx (t2 := [p1]) (S2 := S2) (w2 := w2))
        have hhere : metP m (ps.drop (i + 1)) = some (ks.length : Int) := HHERE.out.elim (fun h => h.2) (fun h => by cases h.1)
        have HM2 := Aside0.mk (And.intro HM.out.1 hhere)
        have HP2 := Aside0.mk (show walkPs ps W = preT (t1 ++ [p1]) (walkPs (ps.drop (i + 1)) W) by
          rw [HP.out, HDR.out, walkPs, if_neg (by simp), preT_preT])
        clear hI hne hS' hkk hnx hbd hhere HHERE HDR
        go_wp2_with fail
        refine (HTE.out).mono ?_
        rintro e w2 ⟨rfl, S2, hI2, hk2, hs2⟩
        have HW3 := Aside0.mk (HNX.out hI2 hk2 hs2)
        clear hI2 hk2 hs2 HNX HTE HW2 HW hx0 hx1
        go_wp2_with fail
        go_roundw
        case rel => exact ⟨i + 1, m, t1 ++ [p1], by go_num, by omega, HM2, HP2, HW3⟩
        case measure => simp [intOf]; omega
      | true =>
        have hh : p1 = m ∧ metP (m + 1) (ps.drop (i + 1)) = some (ks.length : Int) := HHERE.out.elim (fun h => by cases h.1) (fun h => h.2)
        obtain ⟨rfl, hmn⟩ := hh
        have hle := metP_le hmn
        obtain ⟨n, rfl⟩ := Int.eq_ofNat_of_zero_le HM.out.1
        have hnk : n < ks.length := by omega
        have HM2 := Aside0.mk (And.intro (show (0 : Int) ≤ (n : Int) + 1 by omega) hmn)
        obtain ⟨hnq, hIsT⟩ := IsTs.get G.out.2.2.2 n hnk
        obtain ⟨adk, rfl, hxk⟩ := at_P G.out.2.2.1 n hnk hnq
        have hxk2 := (HW2.out.below.cell (World.block_lt_of_cell? w0 _ hxk)).trans hxk
        have gw2 := (HW2.out.below.block _ (blk_lt G.out.1)).trans G.out.1
        have HX := Aside0.mk (And.intro hxk2 (And.intro gw2 hIsT))
        have hnk' : ((n : Int) < (ks.length : Int)) = True := eq_true (by omega)
        clear hle hmn HHERE hxk hxk2 gw2 hIsT HW
        go_upto_region 7 with (fail)
        clear hx0 hx1
        generalize wr.alloc (.cells #[.bool true, .int .i64 (n : Int)] 44) = wq at HX HW2 ⊢
        refine wp_region_seq2 (fun w' => Below wq.heap.size wq w') [14, 15] [.take 0, .take 1, .take 2, .take 3, .take 4, .take 5, .take 6, .take 7, .take 9, .take 12, .take 13, .pair 8 10, .op 11, .fin 14, .fin 15] (by kernel_rfl) (by kernel_rfl) rfl (by kernel_rfl) (panic_via (P := Try.prog) (fn := Try.f22) (R := fun e w' => e = .returned (.int .i64 R.2.1) ∧ ∃ S', I (told ++ R.1) R.2.2 S' w' ∧ Keep S w w' ∧ (R.2.2 = none → ∀ k, S' k → S k ∨ w.heap.size ≤ k)) (fun _ _ _ => rfl)) ?_
        have hs : Below wq.heap.size wq wq.drew := (Below.refl _ _).drew
        repeat (
          (first
            | (refine runSeq2_take (v := ?_) (by rfl) (by rfl) (fun w' hS => ?_) hs ?_
               rotate_left
               · (have hG := (hS.block _ (blk_lt HX.out.2.1)).trans HX.out.2.1; have d1 := blk_cell hG 1; have q0 := (hS.cell (World.block_lt_of_cell? wq _ HX.out.1)).trans HX.out.1; go_simp; exact rfl))
            | refine runSeq2_skip (by rfl) (by rfl) hs ?_)
          (try simp only [Act.put, List.setIfInBounds_toArray, List.set_cons_zero, List.set_cons_succ]))
        have hlen : path.length ≤ 1000 := by have h1 := HD.out.2.2; have h2 := HD.out.2.1; omega
        refine runSeq2_pairM (di := 39) (dj := 41) (fun v u w' => (Kd.int .i64).R 3 w' wq.heap.size (fun _ => True) v path ∧ ∃ bl, u = .slice (some ⟨bl, 0, none⟩) 1 1 ∧ w'.heap[bl]? = some (.cells #[.int .i64 (n : Int)] 3 (0, 0))) (by decide) ?_ ?_ ?_
        · refine wpOp_at (by rfl) (by rfl) (fun K hK => ?_)
          go_simp
          refine (clone_any A c path _ (HW2.out.path.below hs) hlen).mono ?_
          rintro e w1 ⟨v, rfl, hR, hb⟩
          have hs1 := hs.trans (hb.mono hs.size)
          refine hK _ _ ⟨v, rfl, hs1, ?_⟩
          clear hK K
          refine wpOp_at (by rfl) (by rfl) (fun K hK => ?_)
          go_simp
          exact hK _ _ ⟨_, rfl, hs1.alloc hs1.size _, Kd.R_lower (Kd.R_alloc hR _) hs.size, _, rfl, alloc_blk _ _⟩
        · refine wpOp_at (by rfl) (by rfl) (fun K hK => ?_)
          go_simp
          have hs1 := hs.alloc hs.size (.cells #[.int .i64 (n : Int)] 3)
          refine hK _ _ ⟨_, rfl, hs1, ?_⟩
          clear hK K
          refine wpOp_at (by rfl) (by rfl) (fun K hK => ?_)
          go_simp
          refine (clone_any A c path _ (HW2.out.path.below hs1) hlen).mono ?_
          rintro e w1 ⟨v, rfl, hR, hb⟩
          have ha := alloc_blk wq.drew (.cells #[.int .i64 (n : Int)] 3)
          exact hK _ _ ⟨v, rfl, hs1.trans (hb.mono hs1.size), Kd.R_lower hR hs1.size, _, rfl, (hb.block _ (blk_lt ha)).trans ha⟩
        · rintro vv uu w3 hs3 ⟨hR3, bl, rfl, hbl⟩
          (try simp only [Act.put, List.setIfInBounds_toArray, List.set_cons_zero, List.set_cons_succ])
          refine runSeq2_op (by rfl) (by rfl) (fun K hK => ?_)
          refine wp_append_nums .i64 wq.heap.size rfl (.tmp 39) (.tmp 41) 31 3 8 rfl Try.underlying31 info3 (by decide) vv path [(n : Int)] (some ⟨bl, 0, none⟩) 1 1 rfl rfl hR3 (reads_nums [(n : Int)] hbl (by simp)) hs3.size (by omega) ?_
          intro v1 w4 hR4 hb4 hg4 hat4
          have hs4 := hs3.trans hb4
          refine hK _ _ hs4 ?_
          clear hK K hR3 hbl hs3 hb4 hg4 hat4 hs w3
          (try simp only [Act.put, List.setIfInBounds_toArray, List.set_cons_zero, List.set_cons_succ])
          obtain ⟨A', c', rfl, hp', hown⟩ := PathIs.own hR4
          obtain ⟨S', hI, hne, hS', hkk, hnx⟩ := HW2.out.next HT.out HPS.out.1 HPS.out.2
          obtain ⟨K', hK'⟩ : ∃ K', K' = walkT ks[n] (path ++ [(n : Int)]) := ⟨_, rfl⟩
          have hWn : W.getD n ([], 0, none) = K' := (HWM.out n hnk).trans hK'.symm
          have hstep : walkPs (ps.drop i) W = if K'.2.1 = 0 then preT K'.1 (walkPs (ps.drop (i + 1)) W) else K' := by
            rw [HDR.out, walkPs, if_pos rfl, Int.toNat_natCast, hWn]
          have hbd : (told ++ t1).length + K'.1.length ≤ 1000000 := by
            have e := congrArg (fun r => r.1.length) HP.out
            simp only [preT, List.length_append] at e
            have := HTL.out
            rw [HR1.out] at this
            have e2 : K'.1.length ≤ (walkPs (ps.drop i) W).1.length := by
              rw [hstep]; split
              · simp [preT]
              · exact Nat.le_refl _
            rw [List.length_append]; omega
          have hcall := HK.out ks[n] (List.getElem_mem hnk) qs[n] A' c' (path ++ [(n : Int)]) (told ++ t1) S' w4 (d + 1) HX.out.2.2 (HW2.out.below.trans (hs4.mono HW2.out.below.size)) hp' (fun ad e hs => by have h1 := hown ad e; have h2 := (hS' _ hs).2; omega) (HT.out.keep hI hs4) (rightTs_mem HRS.out n hnk) (by have := HD.out.1; omega) (by have := HD.out.2.2; simp; omega) (by rw [← hK']; exact hbd)
          rw [← hK'] at hcall
          have hfit : Fits K' := hK' ▸ walkT_fits _ _
          obtain ⟨L, hL⟩ : ∃ L, L = (path ++ [(n : Int)]).length := ⟨_, rfl⟩
          rw [← hL] at hcall ⊢
          have HCALL := Aside0.mk hcall
          have HFIT := Aside0.mk hfit
          have HSTEP := Aside0.mk hstep
          have HNX := Aside0.mk (fun {S2 : Nat → Prop} {w2 : World} => hnx (t2 := K'.1) (S2 := S2) (w2 := w2))
          have HKK := Aside0.mk (fun {w2 : World} => hkk (w2 := w2))
          have HS4 := Aside0.mk hs4
          clear hp' hown hI hne hS' hkk hnx hWn hstep hbd hcall hfit hK' hs4 hR4 hL hlen HDR
          refine runSeq2_fin (by rfl) (by rfl) (fun K hK => ?_)
          go_simp
          refine HCALL.out.mono ?_
          rintro e w5 ⟨rfl, S2, hI2, hk2, hs2⟩
          have HE := Aside0.mk (And.intro hI2 (And.intro ((Keep.of_below HS4.out S').trans hk2) (fun h k hk => (hs2 h k hk).elim Or.inl (fun hh => Or.inr (Nat.le_trans HS4.out.size hh)))))
          clear hI2 hk2 hs2 HCALL
          refine hK _ _ ?_
          clear hK K
          refine runSeq2_fin (by rfl) (by rfl) (fun K hK => ?_)
          go_simp
          refine hK _ _ ?_
          clear hK K
          refine runSeq2_nil ?_
          by_cases hz : K'.2.1 = 0
          · have hno := HFIT.out.1 hz
            have hE := HE.out
            rw [hno] at hE
            have HW3 := Aside0.mk (HNX.out hE.1 hE.2.1 (hE.2.2 rfl))
            have HP2 := Aside0.mk (show walkPs ps W = preT (t1 ++ K'.1) (walkPs (ps.drop (i + 1)) W) by
              rw [HP.out, HSTEP.out, if_pos hz, preT_preT])
            have hz' : (K'.2.1 != 0) = false := by rw [hz]; rfl
            clear hE hno hz HE HNX HKK HP HSTEP HFIT
            go_wp2_with fail
            go_roundw
            case rel => exact ⟨i + 1, (n : Int) + 1, t1 ++ K'.1, by go_num, by omega, HM2, HP2, HW3⟩
            case measure => simp [intOf]; omega
          · have hRR : R = preT t1 K' := by
              have e : walkPs ps W = preT t1 K' := by rw [HP.out, HSTEP.out, if_neg hz]
              rw [HR.out, e, if_neg (show ¬ (preT t1 K').2.1 = 0 from hz)]
            have hz' : (K'.2.1 != 0) = true := by simp [hz]
            have HRR := Aside0.mk hRR
            have HZ := Aside0.mk hz
            clear hRR hz
            go_wp2_with fail
            dsimp only [Exit.noGoto]
            go_ret
            refine ⟨by rw [HRR.out]; rfl, S2, ?_, HKK.out HE.out.2.1, fun h => absurd (HFIT.out.2 (by rw [HRR.out] at h; exact h)) HZ.out⟩
            rw [HRR.out]
            show I (told ++ (t1 ++ K'.1)) K'.2.2 S2 w5
            rw [← List.append_assoc]
            exact HE.out.1
    · obtain rfl : i = ps.length := by omega
      clear hlt hi
      have hend : walkPs ps W = preT t1 ([], 0, none) := by have := HP.out; rw [List.drop_length] at this; exact this
      have hRR : R = (t1, f, if f = 0 then none else some path) := by
        rw [HR.out, hend, if_pos (show (preT t1 ([], 0, none)).2.1 = 0 from rfl)]; simp [preT]
      have HRR := Aside0.mk hRR
      obtain ⟨S', hI, hne, hS', hkk, hnx⟩ := HW.out.next HT.out HPS.out.1 HPS.out.2
      have gw2 := (HW.out.below.block _ (blk_lt G.out.1)).trans G.out.1
      have n3 := blk_cell gw2 3
      have hstt := HW.out.st
      have HST := Aside0.mk hstt
      by_cases hf : f = 0
      · have hf' : (f != 0) = false := by rw [hf]; rfl
        have HF := Aside0.mk hf
        clear hRR hend hf hI hne hS' hkk hnx gw2 hstt HW HP
        go_wp2_with fail
        dsimp only [Exit.noGoto]
        go_ret
        obtain ⟨S2, h1, h2, h3⟩ := HST.out
        rw [HRR.out]
        refine ⟨rfl, S2, ?_, h2, fun _ => h3⟩
        rw [if_pos HF.out]
        exact h1
      · have hf' : (f != 0) = true := by simp [hf]
        have HF := Aside0.mk hf
        have HFL := Aside0.mk (HT.out.fails hI HW.out.path hne)
        have HKK := Aside0.mk (fun {w2 : World} => hkk (w2 := w2))
        have HG := Aside0.mk gw2
        have HS' := Aside0.mk hS'
        have HB := Aside0.mk HW.out.below
        clear hRR hend hf hI hne hS' hkk hnx gw2 hstt HW HP
        go_wp2_with fail
        refine HFL.out.mono ?_
        rintro e w2 ⟨rfl, S2, hI2, hk2⟩
        have gw3 := hk2.blk HG.out (fun hs => by have h1 := (HS'.out _ hs).1; have h2 := blk_lt G.out.1; omega)
        have n3 := blk_cell gw3 3
        have HE := Aside0.mk (And.intro hI2 (HKK.out hk2))
        clear hI2 hk2 gw3 HG
        go_wp2_with fail
        dsimp only [Exit.noGoto]
        go_ret
        rw [HRR.out]
        refine ⟨rfl, S2, ?_, HE.out.2, fun h => ?_⟩
        · rw [if_neg HF.out]; exact HE.out.1
        · rw [if_neg HF.out] at h; cases h
mutual
theorem walk25_any (g : Nat) (w0 : World) (I : Inv) (TT : Teller 25 26 #[.pointer (some ⟨g, 0, none⟩)] #[] w0.heap.size I) : ∀ t : T, WalkOk 25 26 #[.pointer (some ⟨g, 0, none⟩)] #[] w0 I t
  | .nil => fun a A c path told S w d h hb0 hp hpS hI hr => by rw [rightT] at hr; cases hr
  | .node ps ks v f => walk25_node g _ _ rfl rfl w0 I TT ps ks v f (walks25_any g w0 I TT ks)
theorem walks25_any (g : Nat) (w0 : World) (I : Inv) (TT : Teller 25 26 #[.pointer (some ⟨g, 0, none⟩)] #[] w0.heap.size I) : ∀ l : List T, ∀ k ∈ l, WalkOk 25 26 #[.pointer (some ⟨g, 0, none⟩)] #[] w0 I k
  | [], k, h => by cases h
  | x :: r, k, h => by
    rcases List.mem_cons.1 h with h | h
    · exact h ▸ walk25_any g w0 I TT x
    · exact walks25_any g w0 I TT r k h
end
set_option maxRecDepth 100000 in
set_option maxHeartbeats 8000000 in
theorem walk23_node (g g2 : Nat) (caps1 caps2 : Array Value) (hc1 : caps1 = #[]) (hc2 : caps2 = #[.pointer (some ⟨g, 0, none⟩), .pointer (some ⟨g2, 0, none⟩)]) (w0 : World) (I : Inv) (TT : Teller 23 24 caps1 caps2 w0.heap.size I) (ps : List S64) (ks : List T) (v f : Int) (hk : ∀ k ∈ ks, WalkOk 23 24 caps1 caps2 w0 I k) : WalkOk 23 24 caps1 caps2 w0 I (.node ps ks v f) := by
  subst hc1
  subst hc2
  intro a A c path told S w d h hb0 hp hpS hI hr hd0 hpl htl
  obtain ⟨hd30, hfv, hmet, hrs⟩ := right_inv hr
  have h' := h
  simp only [IsT] at h'
  obtain ⟨b, A1, c1, A2, c2, qs, rfl, g1, g2, g3, g4, g5, g6⟩ := h'
  obtain ⟨W, hW⟩ : ∃ W, W = walkKs ks path 0 := ⟨_, rfl⟩
  have hres : walkT (.node ps ks v f) path = if (walkPs ps W).2.1 = 0 then ((walkPs ps W).1, f, if f = 0 then none else some path) else walkPs ps W := by rw [hW, walkT]
  have hWm : ∀ m (h : m < ks.length), W.getD m ([], 0, none) = walkT ks[m] (path ++ [(m : Int)]) := fun m h => by
    rw [List.getD_eq_getElem?_getD, hW, walkKs_get ks path 0 m h]; simp
  obtain ⟨R, hR⟩ : ∃ R, R = walkT (.node ps ks v f) path := ⟨_, rfl⟩
  rw [← hR] at hres htl ⊢
  have hmax := Kd.C_max g3
  have HW := Aside0.mk (show WW w0 I S A c path told [] w w from ⟨⟨S, by simpa using hI, Keep.refl _ _, fun k h => .inl h⟩, hb0, hp⟩)
  have HR := Aside0.mk hres
  have HWM := Aside0.mk hWm
  have HK := Aside0.mk hk
  have G := Aside0.mk (And.intro g1 (And.intro g3 (And.intro g5 g6)))
  have HM := Aside0.mk hmet
  have HRS := Aside0.mk hrs
  have HD := Aside0.mk (And.intro hd0 (And.intro hd30 hpl))
  have HTL := Aside0.mk htl
  have HPS := Aside0.mk (And.intro hp.2.2 hpS)
  have hR1 : R.1 = (walkPs ps W).1 := by rw [hres]; split <;> rfl
  have HR1 := Aside0.mk hR1
  have HT := Aside0.mk TT
  have gw := (hb0.block _ (blk_lt g1)).trans g1
  have n0 := blk_cell gw 0
  clear h hb0 hp hpS hI hr hd0 hpl htl hd30 hfv hmet hrs g1 g2 g3 g4 g5 g6 gw hR hW hres hWm hk TT hR1
  go_enter Try.func22, Try.ntmps22
  go_wp2_with fail
  go_step3
  go_wp2_with fail
  go_step3
  go_wp2_with fail
  clear n0
  go_loopw [18] (fun v18 wr => ∃ (i : Nat) (m : Int) (t1 : List Int), v18 = .int .i64 i ∧ i ≤ ps.length ∧ Aside0 (0 ≤ m ∧ metP m (ps.drop i) = some (ks.length : Int)) ∧ Aside0 (walkPs ps W = preT t1 (walkPs (ps.drop i) W)) ∧ Aside0 (WW w0 I S A c path told t1 w wr)) (fun v18 _ => ps.length - (intOf v18).toNat)
  case atStart => exact ⟨0, 0, [], rfl, Nat.zero_le _, ⟨Int.le_refl _, by simpa using HM.out⟩, ⟨by simp [preT]⟩, HW⟩
  case round =>
    clear HW HM
    obtain ⟨i, m, t1, rfl, hi, HM, HP, HW⟩ := hrel
    by_cases hlt : i < ps.length
    · obtain ⟨ad, rfl, hx0, hx1⟩ := at_T64 G.out.2.1 i (by omega) (by omega)
      replace hx0 := (HW.out.below.cell (World.block_lt_of_cell? w0 _ hx0)).trans hx0
      replace hx1 := (HW.out.below.cell (World.block_lt_of_cell? w0 _ hx1)).trans hx1
      simp only [Int.toNat_natCast] at hx0 hx1
      have hfi : rd_T64 ps (i : Int) = ps[i] := by simp [rd_T64, hlt]
      rw [hfi] at hx0 hx1
      clear hfi
      generalize hfj : ps[i] = pi at hx0 hx1
      have HHERE := Aside0.mk (metP_here hlt hfj HM.out.2)
      have HDR := Aside0.mk (show walkPs (ps.drop i) W = walkPs (pi :: ps.drop (i + 1)) W by rw [List.drop_eq_getElem_cons hlt, hfj])
      clear hfj
      obtain ⟨p0, p1⟩ := pi
      have HW2 := Aside0.mk (HW.out.keep HT.out ((Below.refl _ _).alloc (Nat.le_refl _) (.cells #[.bool p0, .int .i64 p1] 44)))
      cases p0 with
      | false =>
        obtain ⟨S', hI, hne, hS', hkk, hnx⟩ := HW2.out.next HT.out HPS.out.1 HPS.out.2
        have hbd : (told ++ t1).length ≤ 1000000 := by
          have e := congrArg (fun r => r.1.length) HP.out
          simp only [preT, List.length_append] at e
          have := HTL.out
          rw [HR1.out] at this
          rw [List.length_append]; omega
        have HTE := Aside0.mk (HT.out.tell p1 hI hbd)
        have HNX := Aside0.mk (fun {S2 : Nat → Prop} {w2 : World} => hnx (t2 := [p1]) (S2 := S2) (w2 := w2))
        have hhere : metP m (ps.drop (i + 1)) = some (ks.length : Int) := HHERE.out.elim (fun h => h.2) (fun h => by cases h.1)
        have HM2 := Aside0.mk (And.intro HM.out.1 hhere)
        have HP2 := Aside0.mk (show walkPs ps W = preT (t1 ++ [p1]) (walkPs (ps.drop (i + 1)) W) by
          rw [HP.out, HDR.out, walkPs, if_neg (by simp), preT_preT])
        clear hI hne hS' hkk hnx hbd hhere HHERE HDR
        go_wp2_with fail
        refine (HTE.out).mono ?_
        rintro e w2 ⟨rfl, S2, hI2, hk2, hs2⟩
        have HW3 := Aside0.mk (HNX.out hI2 hk2 hs2)
        clear hI2 hk2 hs2 HNX HTE HW2 HW hx0 hx1
        go_wp2_with fail
        go_roundw
        case rel => exact ⟨i + 1, m, t1 ++ [p1], by go_num, by omega, HM2, HP2, HW3⟩
        case measure => simp [intOf]; omega
      | true =>
        have hh : p1 = m ∧ metP (m + 1) (ps.drop (i + 1)) = some (ks.length : Int) := HHERE.out.elim (fun h => by cases h.1) (fun h => h.2)
        obtain ⟨rfl, hmn⟩ := hh
        have hle := metP_le hmn
        obtain ⟨n, rfl⟩ := Int.eq_ofNat_of_zero_le HM.out.1
        have hnk : n < ks.length := by omega
        have HM2 := Aside0.mk (And.intro (show (0 : Int) ≤ (n : Int) + 1 by omega) hmn)
        obtain ⟨hnq, hIsT⟩ := IsTs.get G.out.2.2.2 n hnk
        obtain ⟨adk, rfl, hxk⟩ := at_P G.out.2.2.1 n hnk hnq
        have hxk2 := (HW2.out.below.cell (World.block_lt_of_cell? w0 _ hxk)).trans hxk
        have gw2 := (HW2.out.below.block _ (blk_lt G.out.1)).trans G.out.1
        have HX := Aside0.mk (And.intro hxk2 (And.intro gw2 hIsT))
        have hnk' : ((n : Int) < (ks.length : Int)) = True := eq_true (by omega)
        clear hle hmn HHERE hxk hxk2 gw2 hIsT HW
        go_upto_region 7 with (fail)
        clear hx0 hx1
        generalize wr.alloc (.cells #[.bool true, .int .i64 (n : Int)] 44) = wq at HX HW2 ⊢
        refine wp_region_seq2 (fun w' => Below wq.heap.size wq w') [14, 15] [.take 0, .take 1, .take 2, .take 3, .take 4, .take 5, .take 6, .take 7, .take 9, .take 12, .take 13, .pair 8 10, .op 11, .fin 14, .fin 15] (by kernel_rfl) (by kernel_rfl) rfl (by kernel_rfl) (panic_via (P := Try.prog) (fn := Try.f22) (R := fun e w' => e = .returned (.int .i64 R.2.1) ∧ ∃ S', I (told ++ R.1) R.2.2 S' w' ∧ Keep S w w' ∧ (R.2.2 = none → ∀ k, S' k → S k ∨ w.heap.size ≤ k)) (fun _ _ _ => rfl)) ?_
        have hs : Below wq.heap.size wq wq.drew := (Below.refl _ _).drew
        repeat (
          (first
            | (refine runSeq2_take (v := ?_) (by rfl) (by rfl) (fun w' hS => ?_) hs ?_
               rotate_left
               · (have hG := (hS.block _ (blk_lt HX.out.2.1)).trans HX.out.2.1; have d1 := blk_cell hG 1; have q0 := (hS.cell (World.block_lt_of_cell? wq _ HX.out.1)).trans HX.out.1; go_simp; exact rfl))
            | refine runSeq2_skip (by rfl) (by rfl) hs ?_)
          (try simp only [Act.put, List.setIfInBounds_toArray, List.set_cons_zero, List.set_cons_succ]))
        have hlen : path.length ≤ 1000 := by have h1 := HD.out.2.2; have h2 := HD.out.2.1; omega
        refine runSeq2_pairM (di := 39) (dj := 41) (fun v u w' => (Kd.int .i64).R 3 w' wq.heap.size (fun _ => True) v path ∧ ∃ bl, u = .slice (some ⟨bl, 0, none⟩) 1 1 ∧ w'.heap[bl]? = some (.cells #[.int .i64 (n : Int)] 3 (0, 0))) (by decide) ?_ ?_ ?_
        · refine wpOp_at (by rfl) (by rfl) (fun K hK => ?_)
          go_simp
          refine (clone_any A c path _ (HW2.out.path.below hs) hlen).mono ?_
          rintro e w1 ⟨v, rfl, hR, hb⟩
          have hs1 := hs.trans (hb.mono hs.size)
          refine hK _ _ ⟨v, rfl, hs1, ?_⟩
          clear hK K
          refine wpOp_at (by rfl) (by rfl) (fun K hK => ?_)
          go_simp
          exact hK _ _ ⟨_, rfl, hs1.alloc hs1.size _, Kd.R_lower (Kd.R_alloc hR _) hs.size, _, rfl, alloc_blk _ _⟩
        · refine wpOp_at (by rfl) (by rfl) (fun K hK => ?_)
          go_simp
          have hs1 := hs.alloc hs.size (.cells #[.int .i64 (n : Int)] 3)
          refine hK _ _ ⟨_, rfl, hs1, ?_⟩
          clear hK K
          refine wpOp_at (by rfl) (by rfl) (fun K hK => ?_)
          go_simp
          refine (clone_any A c path _ (HW2.out.path.below hs1) hlen).mono ?_
          rintro e w1 ⟨v, rfl, hR, hb⟩
          have ha := alloc_blk wq.drew (.cells #[.int .i64 (n : Int)] 3)
          exact hK _ _ ⟨v, rfl, hs1.trans (hb.mono hs1.size), Kd.R_lower hR hs1.size, _, rfl, (hb.block _ (blk_lt ha)).trans ha⟩
        · rintro vv uu w3 hs3 ⟨hR3, bl, rfl, hbl⟩
          (try simp only [Act.put, List.setIfInBounds_toArray, List.set_cons_zero, List.set_cons_succ])
          refine runSeq2_op (by rfl) (by rfl) (fun K hK => ?_)
          refine wp_append_nums .i64 wq.heap.size rfl (.tmp 39) (.tmp 41) 31 3 8 rfl Try.underlying31 info3 (by decide) vv path [(n : Int)] (some ⟨bl, 0, none⟩) 1 1 rfl rfl hR3 (reads_nums [(n : Int)] hbl (by simp)) hs3.size (by omega) ?_
          intro v1 w4 hR4 hb4 hg4 hat4
          have hs4 := hs3.trans hb4
          refine hK _ _ hs4 ?_
          clear hK K hR3 hbl hs3 hb4 hg4 hat4 hs w3
          (try simp only [Act.put, List.setIfInBounds_toArray, List.set_cons_zero, List.set_cons_succ])
          obtain ⟨A', c', rfl, hp', hown⟩ := PathIs.own hR4
          obtain ⟨S', hI, hne, hS', hkk, hnx⟩ := HW2.out.next HT.out HPS.out.1 HPS.out.2
          obtain ⟨K', hK'⟩ : ∃ K', K' = walkT ks[n] (path ++ [(n : Int)]) := ⟨_, rfl⟩
          have hWn : W.getD n ([], 0, none) = K' := (HWM.out n hnk).trans hK'.symm
          have hstep : walkPs (ps.drop i) W = if K'.2.1 = 0 then preT K'.1 (walkPs (ps.drop (i + 1)) W) else K' := by
            rw [HDR.out, walkPs, if_pos rfl, Int.toNat_natCast, hWn]
          have hbd : (told ++ t1).length + K'.1.length ≤ 1000000 := by
            have e := congrArg (fun r => r.1.length) HP.out
            simp only [preT, List.length_append] at e
            have := HTL.out
            rw [HR1.out] at this
            have e2 : K'.1.length ≤ (walkPs (ps.drop i) W).1.length := by
              rw [hstep]; split
              · simp [preT]
              · exact Nat.le_refl _
            rw [List.length_append]; omega
          have hcall := HK.out ks[n] (List.getElem_mem hnk) qs[n] A' c' (path ++ [(n : Int)]) (told ++ t1) S' w4 (d + 1) HX.out.2.2 (HW2.out.below.trans (hs4.mono HW2.out.below.size)) hp' (fun ad e hs => by have h1 := hown ad e; have h2 := (hS' _ hs).2; omega) (HT.out.keep hI hs4) (rightTs_mem HRS.out n hnk) (by have := HD.out.1; omega) (by have := HD.out.2.2; simp; omega) (by rw [← hK']; exact hbd)
          rw [← hK'] at hcall
          have hfit : Fits K' := hK' ▸ walkT_fits _ _
          obtain ⟨L, hL⟩ : ∃ L, L = (path ++ [(n : Int)]).length := ⟨_, rfl⟩
          rw [← hL] at hcall ⊢
          have HCALL := Aside0.mk hcall
          have HFIT := Aside0.mk hfit
          have HSTEP := Aside0.mk hstep
          have HNX := Aside0.mk (fun {S2 : Nat → Prop} {w2 : World} => hnx (t2 := K'.1) (S2 := S2) (w2 := w2))
          have HKK := Aside0.mk (fun {w2 : World} => hkk (w2 := w2))
          have HS4 := Aside0.mk hs4
          clear hp' hown hI hne hS' hkk hnx hWn hstep hbd hcall hfit hK' hs4 hR4 hL hlen HDR
          refine runSeq2_fin (by rfl) (by rfl) (fun K hK => ?_)
          go_simp
          refine HCALL.out.mono ?_
          rintro e w5 ⟨rfl, S2, hI2, hk2, hs2⟩
          have HE := Aside0.mk (And.intro hI2 (And.intro ((Keep.of_below HS4.out S').trans hk2) (fun h k hk => (hs2 h k hk).elim Or.inl (fun hh => Or.inr (Nat.le_trans HS4.out.size hh)))))
          clear hI2 hk2 hs2 HCALL
          refine hK _ _ ?_
          clear hK K
          refine runSeq2_fin (by rfl) (by rfl) (fun K hK => ?_)
          go_simp
          refine hK _ _ ?_
          clear hK K
          refine runSeq2_nil ?_
          by_cases hz : K'.2.1 = 0
          · have hno := HFIT.out.1 hz
            have hE := HE.out
            rw [hno] at hE
            have HW3 := Aside0.mk (HNX.out hE.1 hE.2.1 (hE.2.2 rfl))
            have HP2 := Aside0.mk (show walkPs ps W = preT (t1 ++ K'.1) (walkPs (ps.drop (i + 1)) W) by
              rw [HP.out, HSTEP.out, if_pos hz, preT_preT])
            have hz' : (K'.2.1 != 0) = false := by rw [hz]; rfl
            clear hE hno hz HE HNX HKK HP HSTEP HFIT
            go_wp2_with fail
            go_roundw
            case rel => exact ⟨i + 1, (n : Int) + 1, t1 ++ K'.1, by go_num, by omega, HM2, HP2, HW3⟩
            case measure => simp [intOf]; omega
          · have hRR : R = preT t1 K' := by
              have e : walkPs ps W = preT t1 K' := by rw [HP.out, HSTEP.out, if_neg hz]
              rw [HR.out, e, if_neg (show ¬ (preT t1 K').2.1 = 0 from hz)]
            have hz' : (K'.2.1 != 0) = true := by simp [hz]
            have HRR := Aside0.mk hRR
            have HZ := Aside0.mk hz
            clear hRR hz
            go_wp2_with fail
            dsimp only [Exit.noGoto]
            go_ret
            refine ⟨by rw [HRR.out]; rfl, S2, ?_, HKK.out HE.out.2.1, fun h => absurd (HFIT.out.2 (by rw [HRR.out] at h; exact h)) HZ.out⟩
            rw [HRR.out]
            show I (told ++ (t1 ++ K'.1)) K'.2.2 S2 w5
            rw [← List.append_assoc]
            exact HE.out.1
    · obtain rfl : i = ps.length := by omega
      clear hlt hi
      have hend : walkPs ps W = preT t1 ([], 0, none) := by have := HP.out; rw [List.drop_length] at this; exact this
      have hRR : R = (t1, f, if f = 0 then none else some path) := by
        rw [HR.out, hend, if_pos (show (preT t1 ([], 0, none)).2.1 = 0 from rfl)]; simp [preT]
      have HRR := Aside0.mk hRR
      obtain ⟨S', hI, hne, hS', hkk, hnx⟩ := HW.out.next HT.out HPS.out.1 HPS.out.2
      have gw2 := (HW.out.below.block _ (blk_lt G.out.1)).trans G.out.1
      have n3 := blk_cell gw2 3
      have hstt := HW.out.st
      have HST := Aside0.mk hstt
      by_cases hf : f = 0
      · have hf' : (f != 0) = false := by rw [hf]; rfl
        have HF := Aside0.mk hf
        clear hRR hend hf hI hne hS' hkk hnx gw2 hstt HW HP
        go_wp2_with fail
        dsimp only [Exit.noGoto]
        go_ret
        obtain ⟨S2, h1, h2, h3⟩ := HST.out
        rw [HRR.out]
        refine ⟨rfl, S2, ?_, h2, fun _ => h3⟩
        rw [if_pos HF.out]
        exact h1
      · have hf' : (f != 0) = true := by simp [hf]
        have HF := Aside0.mk hf
        have HFL := Aside0.mk (HT.out.fails hI HW.out.path hne)
        have HKK := Aside0.mk (fun {w2 : World} => hkk (w2 := w2))
        have HG := Aside0.mk gw2
        have HS' := Aside0.mk hS'
        have HB := Aside0.mk HW.out.below
        clear hRR hend hf hI hne hS' hkk hnx gw2 hstt HW HP
        go_wp2_with fail
        refine HFL.out.mono ?_
        rintro e w2 ⟨rfl, S2, hI2, hk2⟩
        have gw3 := hk2.blk HG.out (fun hs => by have h1 := (HS'.out _ hs).1; have h2 := blk_lt G.out.1; omega)
        have n3 := blk_cell gw3 3
        have HE := Aside0.mk (And.intro hI2 (HKK.out hk2))
        clear hI2 hk2 gw3 HG
        go_wp2_with fail
        dsimp only [Exit.noGoto]
        go_ret
        rw [HRR.out]
        refine ⟨rfl, S2, ?_, HE.out.2, fun h => ?_⟩
        · rw [if_neg HF.out]; exact HE.out.1
        · rw [if_neg HF.out] at h; cases h
mutual
theorem walk23_any (g g2 : Nat) (w0 : World) (I : Inv) (TT : Teller 23 24 #[] #[.pointer (some ⟨g, 0, none⟩), .pointer (some ⟨g2, 0, none⟩)] w0.heap.size I) : ∀ t : T, WalkOk 23 24 #[] #[.pointer (some ⟨g, 0, none⟩), .pointer (some ⟨g2, 0, none⟩)] w0 I t
  | .nil => fun a A c path told S w d h hb0 hp hpS hI hr => by rw [rightT] at hr; cases hr
  | .node ps ks v f => walk23_node g g2 _ _ rfl rfl w0 I TT ps ks v f (walks23_any g g2 w0 I TT ks)
theorem walks23_any (g g2 : Nat) (w0 : World) (I : Inv) (TT : Teller 23 24 #[] #[.pointer (some ⟨g, 0, none⟩), .pointer (some ⟨g2, 0, none⟩)] w0.heap.size I) : ∀ l : List T, ∀ k ∈ l, WalkOk 23 24 #[] #[.pointer (some ⟨g, 0, none⟩), .pointer (some ⟨g2, 0, none⟩)] w0 I k
  | [], k, h => by cases h
  | x :: r, k, h => by
    rcases List.mem_cons.1 h with h | h
    · exact h ▸ walk23_any g g2 w0 I TT x
    · exact walks23_any g g2 w0 I TT r k h
end
#print axioms walk25_any
#print axioms walk23_any
end Go.Proofs.Ytiplpkjjplicjaa.H
