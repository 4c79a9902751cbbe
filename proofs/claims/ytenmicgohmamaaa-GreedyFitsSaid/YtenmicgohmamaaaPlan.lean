/- greedy.Plan answers the greedy plan. -/
import Derived.Test.YtenmicgohmamaaaH0
import Derived.Test.YtenmicgohmamaaaH4
import Derived.Test.YtenmicgohmamaaaPRight
import Derived.Test.YtenmicgohmamaaaBaseW
import Derived.WalkMore
import Derived.ScopeJumps
set_option linter.unusedVariables false
set_option linter.unusedSimpArgs false
namespace Go.Proofs.Ytenmicgohmamaaa.H
open Go.RowKit Go.Hay Go.Proofs.YtenmicgohmamaaaW.PrintWords Go.Proofs.YtenmicgohmamaaaW.PrintLast Go.Proofs.YtenmicgohmamaaaW.PrintMore

def waitB (when : List Int) (now p : Int) : Bool := rd when p == -1 || rd when p == now
theorem cell_drew {w : World} {n : Nat} {a : Addr} {v : Value} (h : w.cell? a = some v) : (w.drewN n).cell? a = some v := h
set_option maxRecDepth 100000 in
theorem waits_any (when : List Int) (now p : Int) (b6 b9 : Nat) (A : Option Addr) (c : Nat) (w : World) (h6 : w.heap[b6]? = some (.cells #[.slice A when.length c] 24 (0, 0))) (hC : (Kd.int .i64).C w A when.length when)
    (h9 : w.heap[b9]? = some (.cells #[.int .i64 now] 3 (0, 0))) (hp0 : 0 ≤ p) (hp1 : p < when.length) :
    Calls Try.prog 22 #[.int .i64 p, .pointer (some ⟨b6, 0, none⟩), .pointer (some ⟨b9, 0, none⟩)] w fun e w' => e = .returned (.bool (waitB when now p)) ∧ Drawn0 w w' := by
  obtain ⟨ad, rfl, hx⟩ := Kd.at_int hC p hp0 hp1
  have c6 := blk_cell h6 0
  have c9 := blk_cell h9 0
  have f6 := blk_frozen h6 0
  have f9 := blk_frozen h9 0
  have g0 : (0 ≤ p) = True := eq_true hp0
  have g1 : (p < (when.length : Int)) = True := eq_true hp1
  clear hC h6 h9 hp0 hp1
  have fin : ∀ b : Bool, (b = waitB when now p) → ∀ w' : World, w'.heap = w.heap → True := fun _ _ _ _ => trivial
  by_cases hn : rd when p = -1
  · have hb : waitB when now p = true := by simp [waitB, hn]
    rw [hb]
    rw [hn] at hx
    clear hb hn fin
    go_enter Try.func22, Try.ntmps22
    go_wp2_with fail
    refine wp_region_seq (fun w' => Drawn0 w w') [] [.take 0, .take 1, .take 2, .take 3, .take 4, .take 5, .take 6, .take 7, .take 8, .take 9, .take 10, .take 11, .take 12, .take 13] (by kernel_rfl) (by kernel_rfl) rfl (by kernel_rfl) (panic_thn rfl) ?_
    have hs : Drawn0 w w.drew := (Drawn0.refl w).step 1
    repeat (
      (first
        | (refine runSeq_take (v := ?_) (by rfl) (by rfl) (fun w' hS => ?_) hs ?_
           rotate_left
           · (obtain ⟨n, rfl⟩ := hS; go_simp; exact rfl))
        | refine runSeq_skip (by rfl) (by rfl) hs ?_)
      (try simp only [Act.put, List.setIfInBounds_toArray, List.set_cons_zero, List.set_cons_succ]))
    refine runSeq_nil ?_
    have HS := Aside0.mk hs
    clear hs
    go_wp2_with fail
    go_ret
    exact ⟨rfl, HS.out⟩
  · have hb : waitB when now p = (rd when p == now) := by simp [waitB, hn]
    rw [hb]
    have hn' : (rd when p == -1) = false := by simpa using hn
    clear hb hn fin
    go_enter Try.func22, Try.ntmps22
    go_wp2_with fail
    refine wp_region_seq (fun w' => Drawn0 w w') [] [.take 0, .take 1, .take 2, .take 3, .take 4, .take 5, .take 6, .take 7, .take 8, .take 9, .take 10, .take 11, .take 12, .take 13] (by kernel_rfl) (by kernel_rfl) rfl (by kernel_rfl) (panic_thn rfl) ?_
    have hs : Drawn0 w w.drew := (Drawn0.refl w).step 1
    repeat (
      (first
        | (refine runSeq_take (v := ?_) (by rfl) (by rfl) (fun w' hS => ?_) hs ?_
           rotate_left
           · (obtain ⟨n, rfl⟩ := hS; go_simp; exact rfl))
        | refine runSeq_skip (by rfl) (by rfl) hs ?_)
      (try simp only [Act.put, List.setIfInBounds_toArray, List.set_cons_zero, List.set_cons_succ]))
    refine runSeq_nil ?_
    have HS := Aside0.mk hs
    clear hs
    go_wp2_with fail
    go_ret
    exact ⟨rfl, HS.out⟩
theorem drawn_trans {w w1 w2 : World} (h : Drawn0 w w1) (h2 : Drawn0 w1 w2) : Drawn0 w w2 := by
  obtain ⟨n, rfl⟩ := h2
  exact h.step n
def idxOf (p : Int → Bool) (l : List Int) : Int := match l.findIdx? p with | some i => i | none => -1
theorem idx_any (p : Int → Bool) (l : List Int) : decide (0 ≤ idxOf p l) = l.any p := by
  unfold idxOf
  cases h : l.findIdx? p with
  | none =>
    rw [List.findIdx?_eq_none_iff] at h
    have : l.any p = false := by rw [List.any_eq_false]; intro x hx; simp [h x hx]
    rw [this]; rfl
  | some i =>
    rw [List.findIdx?_eq_some_iff_getElem] at h
    obtain ⟨h1, h2, _⟩ := h
    have : l.any p = true := List.any_eq_true.2 ⟨_, List.getElem_mem h1, h2⟩
    rw [this]
    simp
set_option maxRecDepth 100000 in
set_option maxHeartbeats 4000000 in
theorem index22_any (q1 q2 : Option Addr) (p : Int → Bool) (l : List Int) (A : Option Addr) (c : Nat) (w : World) (hC : (Kd.int .i64).C w A l.length l) (hlen : l.length ≤ 1000)
    (hp : ∀ x ∈ l, ∀ w', Drawn0 w w' → Calls Try.prog 22 #[.int .i64 x, .pointer q1, .pointer q2] w' fun e w'' => e = .returned (.bool (p x)) ∧ Drawn0 w' w'') :
    Calls Try.prog 27 #[.slice A l.length c, .func (.func 22) #[] #[.pointer q1, .pointer q2]] w fun e w' => e = .returned (.int .i64 (idxOf p l)) ∧ Drawn0 w w' := by
  have HC := Aside0.mk hC
  have HP := Aside0.mk hp
  have HW := Aside0.mk (Drawn0.refl w)
  clear hC hp
  go_enter Try.func27, Try.ntmps27
  go_wp2_with fail
  go_loopw [8] (fun v8 wr => ∃ (i : Nat), v8 = .int .i64 i ∧ i ≤ l.length ∧ Aside0 (∀ j, j < i → ∀ h : j < l.length, p l[j] = false) ∧ Aside0 (Drawn0 w wr)) (fun v8 _ => l.length - (intOf v8).toNat)
  case atStart => exact ⟨0, rfl, Nat.zero_le _, ⟨fun j h => absurd h (Nat.not_lt_zero _)⟩, HW⟩
  case round =>
    obtain ⟨i, rfl, hi, HN, HD⟩ := hrel
    by_cases hlt : i < l.length
    · obtain ⟨ad, rfl, hx⟩ := Kd.at_int HC.out (i : Int) (by omega) (by omega)
      have hx2 : wr.cell? (ad.add i) = some (.int .i64 l[i]) := by
        obtain ⟨n, rfl⟩ := HD.out
        have : rd l (i : Int) = l[i] := by simp [rd, hlt]
        rw [this] at hx
        exact hx
      clear hx
      go_wp2_with fail
      refine (HP.out l[i] (List.getElem_mem hlt) wr HD.out).mono ?_
      rintro e w2 ⟨rfl, hd⟩
      have HD2 := Aside0.mk (drawn_trans HD.out hd)
      clear hd hx2 HD
      cases hb : p l[i] with
      | true =>
        have hf : idxOf p l = i := by
          have : l.findIdx? p = some i := by
            rw [List.findIdx?_eq_some_iff_getElem]
            exact ⟨hlt, hb, fun j hj => by simp [HN.out j hj (by omega)]⟩
          simp [idxOf, this]
        have HF := Aside0.mk hf
        clear hf HN
        go_wp2_with fail
        go_ret
        exact ⟨by rw [HF.out]; rfl, HD2.out⟩
      | false =>
        have HN2 : Aside0 (∀ j, j < i + 1 → ∀ h : j < l.length, p l[j] = false) := ⟨fun j hj h => by
          by_cases e : j = i
          · subst e; exact hb
          · exact HN.out j (by omega) h⟩
        clear HN hb
        go_wp2_with fail
        go_roundw
        case rel => exact ⟨i + 1, by go_num, by omega, HN2, HD2⟩
        case measure => simp [intOf]; omega
    · obtain rfl : i = l.length := by omega
      have hf : idxOf p l = -1 := by
        have : l.findIdx? p = none := by
          rw [List.findIdx?_eq_none_iff]
          intro x hx
          obtain ⟨j, hj, rfl⟩ := List.getElem_of_mem hx
          simp [HN.out j hj hj]
        simp [idxOf, this]
      have HF := Aside0.mk hf
      clear hf HN
      go_wp2_with fail
      go_ret
      exact ⟨by rw [HF.out]; rfl, HD.out⟩
set_option maxRecDepth 100000 in
theorem contains22_any (q1 q2 : Option Addr) (p : Int → Bool) (l : List Int) (A : Option Addr) (c : Nat) (w : World) (hC : (Kd.int .i64).C w A l.length l) (hlen : l.length ≤ 1000)
    (hp : ∀ x ∈ l, ∀ w', Drawn0 w w' → Calls Try.prog 22 #[.int .i64 x, .pointer q1, .pointer q2] w' fun e w'' => e = .returned (.bool (p x)) ∧ Drawn0 w' w'') :
    Calls Try.prog 23 #[.slice A l.length c, .func (.func 22) #[] #[.pointer q1, .pointer q2]] w fun e w' => e = .returned (.bool (l.any p)) ∧ Drawn0 w w' := by
  have HC := Aside0.mk hC
  have HP := Aside0.mk hp
  have hge : (decide (0 ≤ idxOf p l)) = l.any p := idx_any p l
  clear hC hp
  go_enter Try.func23, Try.ntmps23
  go_wp2_with fail
  refine (index22_any q1 q2 p l A c w HC.out hlen HP.out).mono ?_
  rintro e w2 ⟨rfl, hd⟩
  have HD := Aside0.mk hd
  clear hd
  go_wp2_with fail
  go_ret
  exact ⟨rfl, HD.out⟩
set_option maxRecDepth 100000 in
set_option maxHeartbeats 4000000 in
theorem index25_any (q1 q2 : Option Addr) (p : Int → Bool) (l : List Int) (A : Option Addr) (c : Nat) (w : World) (hC : (Kd.int .i64).C w A l.length l) (hlen : l.length ≤ 1000)
    (hp : ∀ x ∈ l, ∀ w', Drawn0 w w' → Calls Try.prog 25 #[.int .i64 x, .pointer q1, .pointer q2] w' fun e w'' => e = .returned (.bool (p x)) ∧ Drawn0 w' w'') :
    Calls Try.prog 27 #[.slice A l.length c, .func (.func 25) #[] #[.pointer q1, .pointer q2]] w fun e w' => e = .returned (.int .i64 (idxOf p l)) ∧ Drawn0 w w' := by
  have HC := Aside0.mk hC
  have HP := Aside0.mk hp
  have HW := Aside0.mk (Drawn0.refl w)
  clear hC hp
  go_enter Try.func27, Try.ntmps27
  go_wp2_with fail
  go_loopw [8] (fun v8 wr => ∃ (i : Nat), v8 = .int .i64 i ∧ i ≤ l.length ∧ Aside0 (∀ j, j < i → ∀ h : j < l.length, p l[j] = false) ∧ Aside0 (Drawn0 w wr)) (fun v8 _ => l.length - (intOf v8).toNat)
  case atStart => exact ⟨0, rfl, Nat.zero_le _, ⟨fun j h => absurd h (Nat.not_lt_zero _)⟩, HW⟩
  case round =>
    obtain ⟨i, rfl, hi, HN, HD⟩ := hrel
    by_cases hlt : i < l.length
    · obtain ⟨ad, rfl, hx⟩ := Kd.at_int HC.out (i : Int) (by omega) (by omega)
      have hx2 : wr.cell? (ad.add i) = some (.int .i64 l[i]) := by
        obtain ⟨n, rfl⟩ := HD.out
        have : rd l (i : Int) = l[i] := by simp [rd, hlt]
        rw [this] at hx
        exact hx
      clear hx
      go_wp2_with fail
      refine (HP.out l[i] (List.getElem_mem hlt) wr HD.out).mono ?_
      rintro e w2 ⟨rfl, hd⟩
      have HD2 := Aside0.mk (drawn_trans HD.out hd)
      clear hd hx2 HD
      cases hb : p l[i] with
      | true =>
        have hf : idxOf p l = i := by
          have : l.findIdx? p = some i := by
            rw [List.findIdx?_eq_some_iff_getElem]
            exact ⟨hlt, hb, fun j hj => by simp [HN.out j hj (by omega)]⟩
          simp [idxOf, this]
        have HF := Aside0.mk hf
        clear hf HN
        go_wp2_with fail
        go_ret
        exact ⟨by rw [HF.out]; rfl, HD2.out⟩
      | false =>
        have HN2 : Aside0 (∀ j, j < i + 1 → ∀ h : j < l.length, p l[j] = false) := ⟨fun j hj h => by
          by_cases e : j = i
          · subst e; exact hb
          · exact HN.out j (by omega) h⟩
        clear HN hb
        go_wp2_with fail
        go_roundw
        case rel => exact ⟨i + 1, by go_num, by omega, HN2, HD2⟩
        case measure => simp [intOf]; omega
    · obtain rfl : i = l.length := by omega
      have hf : idxOf p l = -1 := by
        have : l.findIdx? p = none := by
          rw [List.findIdx?_eq_none_iff]
          intro x hx
          obtain ⟨j, hj, rfl⟩ := List.getElem_of_mem hx
          simp [HN.out j hj hj]
        simp [idxOf, this]
      have HF := Aside0.mk hf
      clear hf HN
      go_wp2_with fail
      go_ret
      exact ⟨by rw [HF.out]; rfl, HD.out⟩
set_option maxRecDepth 100000 in
theorem contains25_any (q1 q2 : Option Addr) (p : Int → Bool) (l : List Int) (A : Option Addr) (c : Nat) (w : World) (hC : (Kd.int .i64).C w A l.length l) (hlen : l.length ≤ 1000)
    (hp : ∀ x ∈ l, ∀ w', Drawn0 w w' → Calls Try.prog 25 #[.int .i64 x, .pointer q1, .pointer q2] w' fun e w'' => e = .returned (.bool (p x)) ∧ Drawn0 w' w'') :
    Calls Try.prog 23 #[.slice A l.length c, .func (.func 25) #[] #[.pointer q1, .pointer q2]] w fun e w' => e = .returned (.bool (l.any p)) ∧ Drawn0 w w' := by
  have HC := Aside0.mk hC
  have HP := Aside0.mk hp
  have hge : (decide (0 ≤ idxOf p l)) = l.any p := idx_any p l
  clear hC hp
  go_enter Try.func23, Try.ntmps23
  go_wp2_with fail
  refine (index25_any q1 q2 p l A c w HC.out hlen HP.out).mono ?_
  rintro e w2 ⟨rfl, hd⟩
  have HD := Aside0.mk hd
  clear hd
  go_wp2_with fail
  go_ret
  exact ⟨rfl, HD.out⟩
/-! ### the plan in plain words -/
def skipB (g : List (List Int)) (now : Int) (when : List Int) (n : Nat) : Bool := rd when n != -1 || (g.getD n []).any (waitB when now)
def rowP (g : List (List Int)) (k now : Int) : Nat → Nat → List Int → Int → List Int × Int
  | 0, _, when, busy => (when, busy)
  | d + 1, n, when, busy => if busy = k then (when, busy) else if skipB g now when n then rowP g k now d (n + 1) when busy else rowP g k now d (n + 1) (when.set n now) (busy + 1)
def rndP (g : List (List Int)) (k : Int) (t : Nat) (when : List Int) : List Int × Int := rowP g k t g.length 0 when 0
def stP (g : List (List Int)) (k : Int) : Nat → List Int
  | 0 => List.replicate g.length (-1)
  | t + 1 => (rndP g k t (stP g k t)).1
def planP (g : List (List Int)) (k : Int) : List Int := stP g k g.length
def undone (when : List Int) : Nat := when.count (-1)
def greedy_Plan.f (l : List (List Int)) (a : Int) : Option (List Int × Int) := if lightB l then (if mayB l a then some (planP l a, 0) else some ([], 1)) else none

/-- What a round leaves. -/
structure RowS (when when' : List Int) (now busy busy' : Int) : Prop where
  len : when'.length = when.length
  cnt : (undone when' : Int) + busy' = undone when + busy
  le : busy ≤ busy'
  ent : ∀ j : Nat, j < when.length → rd when' j = rd when j ∨ (rd when j = -1 ∧ rd when' j = now)
theorem RowS.refl (when : List Int) (now busy : Int) : RowS when when now busy busy := ⟨rfl, rfl, Int.le_refl _, fun _ _ => .inl rfl⟩
theorem rd_set {l : List Int} {n j : Nat} {x : Int} (hj : j < l.length) : rd (l.set n x) (j : Int) = if n = j then x else rd l (j : Int) := by
  rw [rd_get (by simpa using hj), rd_get hj, List.getElem_set]
theorem rowS_set {when : List Int} {n : Nat} {now busy : Int} (hn : n < when.length) (h : rd when n = -1) (hnow : 0 ≤ now) : RowS when (when.set n now) now busy (busy + 1) := by
  refine ⟨by simp, ?_, by omega, fun j hj => ?_⟩
  · have h' : when[n] = -1 := by rw [← rd_get hn]; exact h
    have hc := List.count_set (a := now) (b := (-1 : Int)) (l := when) (i := n) hn
    have hpos : 0 < when.count (-1) := List.count_pos_iff.2 (h' ▸ List.getElem_mem hn)
    have e1 : (when[n] == -1) = true := by simp [h']
    have e2 : (now == -1) = false := by simp; omega
    rw [e1, e2] at hc
    simp only [if_true, Bool.false_eq_true, if_false] at hc
    unfold undone
    omega
  · rw [rd_set hj]
    by_cases e : n = j
    · subst e; rw [if_pos rfl]; exact .inr ⟨h, rfl⟩
    · rw [if_neg e]; exact .inl rfl
theorem RowS.trans {a b c : List Int} {now x y z : Int} (h : RowS a b now x y) (h2 : RowS b c now y z) : RowS a c now x z := by
  refine ⟨h2.len.trans h.len, by have := h.cnt; have := h2.cnt; omega, Int.le_trans h.le h2.le, fun j hj => ?_⟩
  rcases h2.ent j (by rw [h.len]; exact hj) with e | ⟨e1, e2⟩
  · rw [e]; exact h.ent j hj
  · rcases h.ent j hj with e | ⟨e3, e4⟩
    · exact .inr ⟨by rw [← e]; exact e1, e2⟩
    · exact .inr ⟨e3, e2⟩
theorem skip_no {g : List (List Int)} {now : Int} {when : List Int} {n : Nat} (h : skipB g now when n = false) : rd when n = -1 ∧ (g.getD n []).any (waitB when now) = false := by
  simp only [skipB, Bool.or_eq_false_iff] at h
  exact ⟨by simpa using h.1, h.2⟩
theorem rowP_S (g : List (List Int)) (k now : Int) (hnow : 0 ≤ now) : ∀ (d n : Nat) (when : List Int) (busy : Int), n + d ≤ when.length → RowS when (rowP g k now d n when busy).1 now busy (rowP g k now d n when busy).2
  | 0, n, when, busy, h => RowS.refl _ _ _
  | d + 1, n, when, busy, h => by
    simp only [rowP]
    by_cases hb : busy = k
    · rw [if_pos hb]; exact RowS.refl _ _ _
    · rw [if_neg hb]
      cases hs : skipB g now when n with
      | true => simp only [if_true]; exact rowP_S g k now hnow d (n + 1) when busy (by omega)
      | false =>
        simp only [Bool.false_eq_true, if_false]
        exact (rowS_set (by omega) (skip_no hs).1 hnow).trans (rowP_S g k now hnow d (n + 1) (when.set n now) (busy + 1) (by simp; omega))
/-- No step is done later than now, or at it. -/
def before (when : List Int) (t : Int) : Prop := ∀ j : Nat, j < when.length → rd when j < t ∧ -1 ≤ rd when j
theorem row_progress {g : List (List Int)} {k now : Int} (hd : dag g) (hk : 1 ≤ k) (when : List Int) (hl : when.length = g.length) (hb : before when now) (hnow : 0 ≤ now) :
    ∀ (d n : Nat), n + d = when.length → (∀ j : Nat, j < n → rd when j ≠ -1) → 0 < undone when → 1 ≤ (rowP g k now d n when 0).2
  | 0, n, h, hp, hu => by
    exfalso
    have : (-1 : Int) ∈ when := List.count_pos_iff.1 hu
    obtain ⟨j, hj, e⟩ := List.getElem_of_mem this
    exact hp j (by omega) (by rw [rd_get hj]; exact e)
  | d + 1, n, h, hp, hu => by
    simp only [rowP]
    rw [if_neg (by omega)]
    cases hs : skipB g now when n with
    | true =>
      simp only [if_true]
      refine row_progress hd hk when hl hb hnow d (n + 1) (by omega) (fun j hj => ?_) hu
      by_cases e : j = n
      · subst e
        intro hm
        have hg : j < g.length := by omega
        simp only [skipB, hm, bne_self_eq_false, Bool.false_or, List.any_eq_true] at hs
        obtain ⟨x, hx, hw⟩ := hs
        rw [show g.getD j [] = g[j] by simp [hg]] at hx
        have hx2 := hd j hg x hx
        obtain ⟨m, rfl⟩ := Int.eq_ofNat_of_zero_le hx2.1
        have h1 := hp m (by omega)
        have h2 := hb m (by omega)
        simp only [waitB, Bool.or_eq_true, beq_iff_eq] at hw
        rcases hw with hw | hw
        · exact h1 hw
        · omega
      · exact hp j (by omega)
    | false =>
      simp only [Bool.false_eq_true, if_false]
      have := (rowP_S g k now hnow d (n + 1) (when.set n now) (0 + 1) (by simp; omega)).le
      omega
structure StS (g : List (List Int)) (t : Nat) (when : List Int) : Prop where
  len : when.length = g.length
  ent : before when t
theorem StS.start (g : List (List Int)) : StS g 0 (List.replicate g.length (-1)) := ⟨by simp, fun j hj => by rw [rd_get hj]; simp⟩
theorem StS.next {g : List (List Int)} {t : Nat} {when : List Int} (h : StS g t when) (k : Int) : StS g (t + 1) (rndP g k t when).1 := by
  have hs := rowP_S g k t (by omega) g.length 0 when 0 (by rw [h.len]; omega)
  refine ⟨hs.len.trans h.len, fun j hj => ?_⟩
  have hj' : j < when.length := by rw [← hs.len]; exact hj
  have hb := h.ent j hj'
  have e0 : (rndP g k t when).1 = (rowP g k t g.length 0 when 0).1 := rfl
  rw [e0]
  rcases hs.ent j hj' with e | ⟨_, e⟩
  · rw [e]; omega
  · rw [e]; omega
theorem stP_S (g : List (List Int)) (k : Int) : ∀ t, StS g t (stP g k t)
  | 0 => StS.start g
  | t + 1 => (stP_S g k t).next k
theorem rnd_cnt {g : List (List Int)} {k : Int} (hd : dag g) (hk : 1 ≤ k) (t : Nat) (h : 0 < undone (stP g k t)) : 1 ≤ (rndP g k t (stP g k t)).2 ∧ (undone (stP g k (t + 1)) : Int) + (rndP g k t (stP g k t)).2 = undone (stP g k t) := by
  have hs := stP_S g k t
  refine ⟨row_progress hd hk _ hs.len hs.ent (by omega) _ 0 (by rw [hs.len]; omega) (fun j hj => absurd hj (Nat.not_lt_zero _)) h, ?_⟩
  have := (rowP_S g k t (by omega) g.length 0 (stP g k t) 0 (by rw [hs.len]; omega)).cnt
  rw [Int.add_zero] at this
  exact this
theorem row_done {g : List (List Int)} {k now : Int} (when : List Int) (hu : undone when = 0) (hl : when.length = g.length) : ∀ (d n : Nat) (busy : Int), n + d = when.length → rowP g k now d n when busy = (when, busy)
  | 0, n, busy, h => rfl
  | d + 1, n, busy, h => by
    simp only [rowP]
    have hs : skipB g now when n = true := by
      have : rd when n ≠ -1 := by
        intro e
        rw [rd_get (by omega)] at e
        have : 0 < undone when := List.count_pos_iff.2 (e ▸ List.getElem_mem _)
        omega
      simp [skipB, this]
    rw [hs]
    split
    · rfl
    · simpa using row_done when hu hl d (n + 1) busy (by omega)
theorem st_done {g : List (List Int)} {k : Int} {t : Nat} (hu : undone (stP g k t) = 0) : ∀ d, stP g k (t + d) = stP g k t
  | 0 => rfl
  | d + 1 => by
    have ih := st_done hu d
    show (rndP g k (t + d) (stP g k (t + d))).1 = _
    rw [ih]
    unfold rndP
    rw [row_done _ hu (stP_S g k t).len _ 0 0 (by rw [(stP_S g k t).len]; omega)]
theorem st_left {g : List (List Int)} {k : Int} (hd : dag g) (hk : 1 ≤ k) : ∀ t, undone (stP g k t) ≤ g.length - t
  | 0 => by
    have : undone (stP g k 0) ≤ (stP g k 0).length := List.count_le_length
    simpa [stP] using this
  | t + 1 => by
    have ih := st_left hd hk t
    by_cases h : 0 < undone (stP g k t)
    · have := rnd_cnt hd hk t h
      omega
    · have h0 : undone (stP g k t) = 0 := by omega
      have := st_done h0 1
      rw [this]
      omega
theorem plan_of {g : List (List Int)} {k : Int} (hd : dag g) (hk : 1 ≤ k) {t : Nat} (ht : t ≤ g.length) (hu : undone (stP g k t) = 0) : planP g k = stP g k t := by
  unfold planP
  have := st_done hu (g.length - t)
  rwa [show t + (g.length - t) = g.length by omega] at this
theorem may_parts {l : List (List Int)} {a : Int} (h : mayB l a = true) : rightB l = true ∧ 1 ≤ a := by
  simp only [mayB, Bool.and_eq_true, decide_eq_true_eq] at h
  exact ⟨h.2, h.1.1⟩
def pPost (l : List (List Int)) (a : Int) (w : World) (e : Ending) (w' : World) : Prop :=
  ∃ v, e = .returned (.tuple #[v, .int .i64 (if mayB l a then 0 else 1)]) ∧ Kd.R (Kd.int .i64) 3 w' w.heap.size (fun _ => True) v (if mayB l a then planP l a else []) ∧ Below w.heap.size w w'
/-- What lies in memory: the argument's box, the plan's box, the plan's row. -/
structure PW (w : World) (A0 : Option Addr) (c0 len b6 gA cap : Nat) (when : List Int) (wr : World) : Prop where
  own : (Kd.int .i64).R 3 wr w.heap.size (fun k => k = gA) (.slice (some ⟨gA, 0, none⟩) len cap) when
  box : wr.heap[b6]? = some (.cells #[.slice (some ⟨gA, 0, none⟩) len cap] 24 (0, 0))
  arg : wr.heap[w.heap.size]? = some (.cells #[.slice A0 len c0] 29 (0, 0))
  below : Below w.heap.size w wr
  ne : gA ≠ b6 ∧ gA ≠ w.heap.size ∧ w.heap.size ≤ gA
theorem PW.set {w : World} {A0 : Option Addr} {c0 len b6 gA cap : Nat} {when : List Int} {wr : World} (h : PW w A0 c0 len b6 gA cap when wr) (i : Int) (x : Int) :
    PW w A0 c0 len b6 gA cap (when.set i.toNat x) (wr.setCell ⟨gA, i.toNat, none⟩ (.int .i64 x)) :=
  ⟨(Kd.R_putg h.own i x).1, blk_far h.box (Ne.symm h.ne.1) _, blk_far h.arg (Ne.symm h.ne.2.1) _, Below.setCell (p := ⟨gA, i.toNat, none⟩) h.below h.ne.2.2 _, h.ne⟩
theorem PW.keep {w : World} {A0 : Option Addr} {c0 len b6 gA cap : Nat} {when : List Int} {wr w1 : World} (h : PW w A0 c0 len b6 gA cap when wr) (hb : Below wr.heap.size wr w1) : PW w A0 c0 len b6 gA cap when w1 :=
  ⟨Kd.R_below h.own hb, (hb.block _ (blk_lt h.box)).trans h.box, (hb.block _ (blk_lt h.arg)).trans h.arg, h.below.trans (hb.mono h.below.size), h.ne⟩
theorem PW.len {w : World} {A0 : Option Addr} {c0 len b6 gA cap : Nat} {when : List Int} {wr : World} (h : PW w A0 c0 len b6 gA cap when wr) : len = when.length := (Kd.R_reads' h.own).1
theorem PW.cell {w : World} {A0 : Option Addr} {c0 len b6 gA cap : Nat} {when : List Int} {wr : World} (h : PW w A0 c0 len b6 gA cap when wr) (i : Nat) (hi : i < len) : wr.cell? ⟨gA, i, none⟩ = some (.int .i64 (rd when i)) ∧ wr.frozen? ⟨gA, i, none⟩ = false := by
  have := Kd.R_celln 0 h.own (i : Int) (by omega) (by omega)
  rw [Int.toNat_natCast] at this
  exact this
theorem own_form {α : Type} {d : Kd α} {e : Nat} {w : World} {base : Nat} {ok : Nat → Prop} {v : Value} {xs : List α} (h : d.R e w base ok v xs) {b : Nat} (hb : v.ownBlock = some b) : ∃ cap, v = .slice (some ⟨b, 0, none⟩) xs.length cap := by
  obtain ⟨A, c, rfl⟩ := Kd.R_slice h
  cases A with
  | none => simp [Value.ownBlock] at hb
  | some ad =>
    obtain ⟨g, rfl⟩ := Kd.R_head h
    simp [Value.ownBlock] at hb
    subst hb
    exact ⟨c, rfl⟩
theorem fill_set {n i : Nat} (h : i < n) : (List.replicate i (-1 : Int) ++ List.replicate (n - i) 0).set i (-1) = List.replicate (i + 1) (-1) ++ List.replicate (n - (i + 1)) 0 := by
  obtain ⟨m, hm⟩ : ∃ m, n - i = m + 1 := ⟨n - i - 1, by omega⟩
  have hm2 : n - (i + 1) = m := by omega
  rw [hm, hm2, List.replicate_succ, List.set_append_right _ _ (by simp)]
  simp [List.replicate_succ', List.append_assoc]
set_option maxRecDepth 100000 in
set_option maxHeartbeats 4000000 in
theorem plan_walk (A0 : Option Addr) (c0 : Nat) (l : List (List Int)) (a : Int) (w : World) (hr0 : Kd.C (Kd.slice 3 (Kd.int .i64)) w A0 l.length l) (hc0 : l.length ≤ c0) (hl : light l) :
    Calls Try.prog 11 #[.agg #[.slice A0 l.length c0], .int .i64 a] w (pPost l a w) := by
  have hu29 := Try.underlying29
  obtain ⟨kk, hmay⟩ := Ev.rounds (may_f l a hl)
  have HR := Aside0.mk hr0
  have HC := Aside0.mk hc0
  have HL := Aside0.mk hl
  clear hr0 hc0 hl
  have hbx := alloc_blk w (.cells #[.slice A0 l.length c0] 29)
  have hbl := (Below.refl w.heap.size w).alloc (Nat.le_refl _) (.cells #[.slice A0 l.length c0] 29)
  have B := Aside0.mk (And.intro hbx hbl)
  have HM := Aside0.mk hmay
  clear hbx hbl hmay
  go_enter Try.func11, Try.ntmps11
  go_wp2_with fail
  generalize w.alloc (.cells #[.slice A0 l.length c0] 29) = w1 at B ⊢
  refine (greedy_may.calls kk A0 c0 l a _ w1 (Kd.C_below HR.out B.out.2) HC.out HM.out).mono ?_
  rintro e w2 ⟨rfl, hb⟩
  have hbx2 := (hb.block _ (blk_lt B.out.1)).trans B.out.1
  have hbl2 := B.out.2.trans (hb.mono B.out.2.size)
  have D := Aside0.mk (And.intro hbx2 hbl2)
  clear B hb hbx2 hbl2
  cases hm : mayB l a with
  | false =>
    have HM := Aside0.mk hm
    clear hm
    go_wp2_with fail
    go_ret2
    refine ⟨_, by rw [HM.out]; rfl, ?_, D.out.2⟩
    rw [HM.out]
    exact Kd.R_nil _ _ _ _ _
  | true =>
    have HM := Aside0.mk hm
    have cB := blk_cell D.out.1 0
    have fB := blk_frozen D.out.1 0
    clear hm
    have hn1 := HL.out.1
    have HD := Aside0.mk (may_parts HM.out)
    go_wp2_with (first | ((with_reducible refine gate_dst (N := 21) rfl ?_); refine Kd.R_make (Kd.int .i64) _ 3 rfl (N := 21) rfl 24 _ _ rfl (l.length : Int) rfl rfl Try.underlying24 (.int .i64 0) 8 info3 rfl (by decide) (by omega) 0 (ok := fun _ => True) (okp := fun _ => True) rfl (fun _ hk => hk) trivial (Int.natCast_nonneg _) (by simp; omega) (Below.refl _ _) (Nat.le_refl _) ?_; intro v3 w3 ho hb hg_ hnew; obtain ⟨gA, hgA, hgn⟩ := hnew; obtain ⟨cap, hv⟩ := own_form ho hgA; rw [List.length_replicate, Int.toNat_natCast] at hv; subst hv; have V := Aside0.mk (And.intro ho (And.intro hb hgn)); clear ho hb hg_ hgA hgn))
    have hP : PW w A0 c0 l.length w3.heap.size gA cap (List.replicate l.length 0) (w3.alloc (.cells #[.slice (some ⟨gA, 0, none⟩) l.length cap] 24)) := by
      have h1 := V.out.1
      rw [Int.toNat_natCast] at h1
      have hgl := Kd.R_lt h1 gA (by simp [Value.ownBlock])
      have hsz := D.out.2.size
      have hlt := blk_lt D.out.1
      have h2 := Kd.R_mono (ok' := fun k => k = gA) (Kd.R_tight rfl (Kd.R_lower h1 hsz)) (fun k hk => by simpa [Value.ownBlock] using hk)
      refine ⟨Kd.R_alloc h2 _, alloc_blk _ _, ?_, ?_, ?_⟩
      · have h3 := (V.out.2.1.block _ hlt).trans D.out.1
        exact (Below.heap_alloc _ _ _ (blk_lt h3)).trans h3
      · exact (D.out.2.trans (V.out.2.1.mono hsz)).alloc (by have := V.out.2.1.size; omega) _
      · have := V.out.2.2; omega
    have h0 : 0 ≤ l.length := Nat.zero_le _
    clear V cB fB
    generalize w3.alloc (.cells #[.slice (some ⟨gA, 0, none⟩) l.length cap] 24) = w4 at hP ⊢
    generalize w3.heap.size = b6 at hP ⊢
    have P := Aside0.mk hP
    clear hP h0 D
    go_loopw [24] (fun v24 wr => ∃ (i : Nat), v24 = .int .i64 i ∧ i ≤ l.length ∧ Aside0 (PW w A0 c0 l.length b6 gA cap (List.replicate i (-1) ++ List.replicate (l.length - i) 0) wr)) (fun v24 _ => l.length - (intOf v24).toNat)
    case atStart => exact ⟨0, rfl, Nat.zero_le _, ⟨by simpa using P.out⟩⟩
    case round =>
      obtain ⟨i, rfl, hi, P1⟩ := hrel
      by_cases hlt : i < l.length
      · have c6 := blk_cell P1.out.box 0
        have f6 := blk_frozen P1.out.box 0
        obtain ⟨cx, fx⟩ := P1.out.cell i hlt
        have hs := P1.out.set (i : Int) (-1)
        rw [Int.toNat_natCast, fill_set hlt] at hs
        have P2 := Aside0.mk hs
        clear hs P
        go_wp2_with fail
        go_roundw
        case rel => exact ⟨i + 1, by go_num, by omega, P2⟩
        case measure => simp [intOf]; omega
      · obtain rfl : i = l.length := by omega
        have c6 := blk_cell P1.out.box 0
        have f6 := blk_frozen P1.out.box 0
        have hP : PW w A0 c0 l.length b6 gA cap (stP l a 0) wr := by simpa [stP] using P1.out
        have Q := Aside0.mk hP
        clear hP P P1
        go_wp2_with fail
        have hP2 := Q.out.keep ((Below.refl wr.heap.size wr).alloc (Nat.le_refl _) (.cells #[.int .i64 0] 3))
        have h9 := alloc_blk wr (.cells #[.int .i64 0] 3)
        have hne : wr.heap.size ≠ gA := by have := Kd.R_lt Q.out.own gA (by simp [Value.ownBlock]); omega
        have hu0 : undone (stP l a 0) = l.length := by simp [stP, undone, List.count_replicate]
        rw [show (l.length : Int) = (undone (stP l a 0) : Int) by rw [hu0]]
        clear c6 f6
        generalize wr.alloc (.cells #[.int .i64 0] 3) = w5 at hP2 h9 ⊢
        generalize wr.heap.size = b90 at h9 hne ⊢
        have R0 := Aside0.mk (And.intro hP2 (And.intro h9 hne))
        clear hP2 h9 hne hu0 Q
        go_loopw [8, 9] (fun v8 v9 wr => ∃ (t b9 : Nat), v8 = .int .i64 (undone (stP l a t) : Int) ∧ v9 = .pointer (some ⟨b9, 0, none⟩) ∧ t ≤ l.length ∧ Aside0 (PW w A0 c0 l.length b6 gA cap (stP l a t) wr ∧ wr.heap[b9]? = some (.cells #[.int .i64 (t : Int)] 3 (0, 0)) ∧ b9 ≠ gA)) (fun v8 _ _ => (intOf v8).toNat)
        case atStart => exact ⟨0, b90, rfl, rfl, Nat.zero_le _, R0⟩
        case round =>
          clear R0
          obtain ⟨t, b9, rfl, rfl, ht, R1⟩ := hrel
          by_cases hu : 0 < undone (stP l a t)
          · have htl : t < l.length := by
              have h1 := st_left (dag_of HD.out.1) HD.out.2 t
              omega
            have cB := blk_cell R1.out.1.arg 0
            have fB := blk_frozen R1.out.1.arg 0
            have hmf : ∀ (fn : Fn) (first cap : Array Value) (w : World), (Instr.makeFunc fn first cap).run Try.prog w = .ok (.func fn first cap) w := fun _ _ _ _ => rfl
            go_wp2_with fail
            go_step3
            go_wp2_with fail
            go_step3
            go_wp2_with fail
            have hrow0 : rowP l a t l.length 0 (stP l a t) 0 = rndP l a t (stP l a t) := rfl
            have R2 := Aside0.mk (And.intro R1.out.1 (And.intro R1.out.2.1 hrow0))
            have hne9 := R1.out.2.2
            clear hrow0 cB fB R1
            go_loopw [11, 41] (fun v11 v41 wi => ∃ (n : Nat) (when : List Int) (busy : Int), v11 = .int .i64 busy ∧ v41 = .int .i64 n ∧ n ≤ l.length ∧ 0 ≤ busy ∧ busy ≤ n ∧ Aside0 (PW w A0 c0 l.length b6 gA cap when wi ∧ wi.heap[b9]? = some (.cells #[.int .i64 (t : Int)] 3 (0, 0)) ∧ rowP l a t (l.length - n) n when busy = rndP l a t (stP l a t))) (fun _ v41 _ => l.length - (intOf v41).toNat)
            case atStart => exact ⟨0, stP l a t, 0, rfl, rfl, Nat.zero_le _, Int.le_refl _, Int.le_refl _, R2⟩
            case round =>
              clear R2
              obtain ⟨n, when, busy, rfl, rfl, hn, hb0, hbn, R3⟩ := hrel
              by_cases hlt : n < l.length
              · obtain ⟨ad, Ar, cr, rfl, hrow, hcr, hCr⟩ := at_L1 HR.out (n : Int) (by omega) (by omega)
                have hrow2 := (R3.out.1.below.cell (World.block_lt_of_cell? w _ hrow)).trans hrow
                rw [Int.toNat_natCast] at hrow2
                rw [rdL_get hlt] at hrow2 hcr hCr
                have HCr := Aside0.mk (And.intro hCr hcr)
                clear hrow hcr hCr
                obtain ⟨d, hd⟩ : ∃ d, l.length - n = d + 1 := ⟨l.length - n - 1, by omega⟩
                have hd2 : l.length - (n + 1) = d := by omega
                have hstep := R3.out.2.2
                rw [hd] at hstep
                simp only [rowP] at hstep
                have hg : l.getD n [] = l[n] := by simp [hlt]
                by_cases hbk : busy = a
                · rw [if_pos hbk] at hstep
                  have S := Aside0.mk hstep
                  have hbe : (busy == a) = true := by simp [hbk]
                  clear hstep hbk hd hd2 hg
                  have c9 := blk_cell R3.out.2.1 0
                  have f9 := blk_frozen R3.out.2.1 0
                  go_wp2_with fail
                  rw [Exit.noGoto_normal]
                  go_wp2_with fail
                  have e : rndP l a t (stP l a t) = (when, busy) := S.out.symm
                  have hct := rnd_cnt (dag_of HD.out.1) HD.out.2 t hu
                  have hst : stP l a (t + 1) = when := by show (rndP l a t (stP l a t)).1 = _; rw [e]
                  have hle : undone (stP l a t) ≤ l.length := by have := st_left (dag_of HD.out.1) HD.out.2 t; omega
                  rw [e] at hct
                  have hwr : wrap64 ((undone (stP l a t) : Int) - busy) = (undone (stP l a (t + 1)) : Int) := by rw [wrap_id (by omega) (by omega)]; omega
                  rw [hwr]
                  go_roundw
                  case rel =>
                    refine ⟨t + 1, wr.heap.size, rfl, rfl, by omega, ⟨?_, ?_, ?_⟩⟩
                    · rw [hst]; exact R3.out.1.keep ((Below.refl _ _).alloc (Nat.le_refl _) _)
                    · rw [alloc_blk, Int.natCast_add]; rfl
                    · have := Kd.R_lt R3.out.1.own gA (by simp [Value.ownBlock]); omega
                  case measure => simp [intOf]; omega
                · rw [if_neg hbk] at hstep
                  have hbe : (busy == a) = false := by simp [hbk]
                  have hlen := R3.out.1.len
                  obtain ⟨cx, fx⟩ := R3.out.1.cell n hlt
                  have c6 := blk_cell R3.out.1.box 0
                  have f6 := blk_frozen R3.out.1.box 0
                  by_cases hw : rd when (n : Int) = -1
                  · have hwb : (rd when (n : Int) != -1) = false := by simp [hw]
                    rw [hw] at cx
                    have HCR := Aside0.mk (Kd.C_below HCr.out.1 R3.out.1.below)
                    have HS := Aside0.mk (And.intro hstep (And.intro hwb (And.intro hd (And.intro hd2 (And.intro hg (And.intro hlen (And.intro hbk hw)))))))
                    clear hstep hwb hd hd2 hg hlen hbk hw
                    go_wp2_with fail
                    refine (contains22_any _ _ (waitB when t) l[n] Ar cr wr HCR.out (HL.out.2 _ (List.getElem_mem hlt)) (fun x hx w' hdr => ?_)).mono ?_
                    · have hx2 := dag_of HD.out.1 n hlt x hx
                      have hk := R3.out.1.keep hdr.below
                      have h9' := (hdr.below.block _ (blk_lt R3.out.2.1)).trans R3.out.2.1
                      have hle := HS.out.2.2.2.2.2.1
                      have hb6 := hk.box
                      have hC := (Kd.R_reads' hk.own).2.2
                      rw [hle] at hb6
                      exact waits_any when t x b6 b9 _ cap w' hb6 hC h9' hx2.1 (by omega)
                    rintro e w6 ⟨rfl, hdr⟩
                    have hP6 := R3.out.1.keep hdr.below
                    have h96 := (hdr.below.block _ (blk_lt R3.out.2.1)).trans R3.out.2.1
                    cases hany : l[n].any (waitB when t) with
                    | true =>
                      have hsk : skipB l t when n = true := by simp only [skipB, HS.out.2.2.2.2.1, hany, Bool.or_true]
                      have hst := HS.out.1
                      rw [if_pos hsk, ← HS.out.2.2.2.1] at hst
                      have R4 := Aside0.mk (And.intro hP6 (And.intro h96 hst))
                      have HW := Aside0.mk HS.out.2.1
                      clear hP6 h96 hany hsk hst hdr R3 c6 f6 cx fx
                      go_wp2_with fail
                      go_roundw
                      case rel => exact ⟨n + 1, when, busy, rfl, by go_num, by omega, hb0, by omega, R4⟩
                      case measure => simp [intOf]; omega
                    | false =>
                      have hsk : skipB l t when n = false := by simp only [skipB, HS.out.2.1, HS.out.2.2.2.2.1, hany, Bool.or_false]
                      have hst := HS.out.1
                      rw [if_neg (by rw [hsk]; simp), ← HS.out.2.2.2.1] at hst
                      have hset := hP6.set (n : Int) (t : Int)
                      rw [Int.toNat_natCast] at hset
                      have h9s := blk_far (p := ⟨gA, n, none⟩) h96 hne9 (.int .i64 (t : Int))
                      have R4 := Aside0.mk (And.intro hset (And.intro h9s hst))
                      have HN := Aside0.mk hP6
                      obtain ⟨cx6, fx6⟩ := hP6.cell n hlt
                      have c96 := blk_cell h96 0
                      have f96 := blk_frozen h96 0
                      have c66 := blk_cell hP6.box 0
                      have f66 := blk_frozen hP6.box 0
                      have hbw : wrap64 (busy + 1) = busy + 1 := wrap_id (by omega) (by omega)
                      clear hP6 h96 hany hsk hst hdr R3 c6 f6 cx fx hset h9s
                      go_wp2_with fail
                      go_roundw
                      case rel => exact ⟨n + 1, when.set n t, busy + 1, by go_num, by go_num, by omega, by omega, by omega, R4⟩
                      case measure => simp [intOf]; omega
                  · have hwb : (rd when (n : Int) != -1) = true := by simp [hw]
                    have hsk : skipB l t when n = true := by simp [skipB, hw]
                    rw [if_pos hsk] at hstep
                    rw [← hd2] at hstep
                    have R4 := Aside0.mk (And.intro R3.out.1 (And.intro R3.out.2.1 hstep))
                    clear hstep hsk hd hd2 hg hlen hbk hw R3
                    go_wp2_with fail
                    go_roundw
                    case rel => exact ⟨n + 1, when, busy, rfl, by go_num, by omega, hb0, by omega, R4⟩
                    case measure => simp [intOf]; omega
              · obtain rfl : n = l.length := by omega
                have hstep := R3.out.2.2
                rw [Nat.sub_self] at hstep
                simp only [rowP] at hstep
                have S := Aside0.mk hstep
                have c9 := blk_cell R3.out.2.1 0
                have f9 := blk_frozen R3.out.2.1 0
                clear hstep
                go_wp2_with fail
                rw [Exit.noGoto_normal]
                go_wp2_with fail
                have e : rndP l a t (stP l a t) = (when, busy) := S.out.symm
                have hct := rnd_cnt (dag_of HD.out.1) HD.out.2 t hu
                have hst : stP l a (t + 1) = when := by show (rndP l a t (stP l a t)).1 = _; rw [e]
                have hle : undone (stP l a t) ≤ l.length := by have := st_left (dag_of HD.out.1) HD.out.2 t; omega
                rw [e] at hct
                have hwr : wrap64 ((undone (stP l a t) : Int) - busy) = (undone (stP l a (t + 1)) : Int) := by rw [wrap_id (by omega) (by omega)]; omega
                rw [hwr]
                go_roundw
                case rel =>
                  refine ⟨t + 1, wr.heap.size, rfl, rfl, by omega, ⟨?_, ?_, ?_⟩⟩
                  · rw [hst]; exact R3.out.1.keep ((Below.refl _ _).alloc (Nat.le_refl _) _)
                  · rw [alloc_blk, Int.natCast_add]; rfl
                  · have := Kd.R_lt R3.out.1.own gA (by simp [Value.ownBlock]); omega
                case measure => simp [intOf]; omega
          · have hu0 : undone (stP l a t) = 0 := by omega
            have c6 := blk_cell R1.out.1.box 0
            have f6 := blk_frozen R1.out.1.box 0
            rw [hu0]
            have U := Aside0.mk hu0
            clear hu hu0
            go_wp2_with fail
            go_ret2
            refine ⟨_, by rw [HM.out]; rfl, ?_, R1.out.1.below⟩
            rw [HM.out, if_pos rfl, plan_of (dag_of HD.out.1) HD.out.2 ht U.out]
            exact Kd.R_mono R1.out.1.own (fun _ _ => trivial)
theorem greedy_Plan.calls (A0_0 : Option Addr) (c0_0 : Nat) (l0_0 : List (List Int)) (a1 : Int) (r1 : List Int) (r2 : Int) (w : World) (hr0_0 : Kd.C (Kd.slice 3 (Kd.int .i64)) w A0_0 l0_0.length l0_0) (hc0_0 : l0_0.length ≤ c0_0) (h : greedy_Plan.f l0_0 a1 = some (r1, r2)) :
    Calls Try.prog 11 #[.agg #[.slice A0_0 l0_0.length c0_0], .int .i64 a1] w fun e w' => ∃ v0_ : Value, e = .returned (.tuple #[v0_, .int .i64 r2]) ∧ Kd.R (Kd.int .i64) 3 w' w.heap.size (fun _ => True) v0_ r1 ∧ Below w.heap.size w w' := by
  unfold greedy_Plan.f at h
  by_cases hl : lightB l0_0 = true
  · rw [if_pos hl] at h
    refine (plan_walk A0_0 c0_0 l0_0 a1 w hr0_0 hc0_0 (lightB_iff.1 hl)).mono ?_
    rintro e w' ⟨v, rfl, hR, hb⟩
    by_cases hm : mayB l0_0 a1 = true
    · rw [if_pos hm] at h hR ⊢
      have h1 := Option.some.inj h
      injection h1 with h2 h3
      subst h2 h3
      exact ⟨v, rfl, hR, hb⟩
    · rw [if_neg hm] at h hR ⊢
      have h1 := Option.some.inj h
      injection h1 with h2 h3
      subst h2 h3
      exact ⟨v, rfl, hR, hb⟩
  · rw [if_neg hl] at h; cases h
#print axioms greedy_Plan.calls
end Go.Proofs.Ytenmicgohmamaaa.H
