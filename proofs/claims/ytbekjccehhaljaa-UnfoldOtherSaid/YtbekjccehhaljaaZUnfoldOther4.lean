/- What the proof of UnfoldOther stands on, part 4: this session's own texts and the words that the kit's print lays, those that are used. -/
import Derived.Test.YtbekjccehhaljaaZUnfoldOther3
import Derived.Shelf.SlSortCmp.NoneTotal
import Derived.Shelf.SlGeneric
import Derived.Ground.SlsfProg
import Derived.Test.YtbekjccehhaljaaProg
set_option linter.unusedVariables false
set_option linter.unusedSimpArgs false
namespace Go.Proofs.Ytbekjccehhaljaa.H
open Go.RowKit Go.Hay Go.Proofs.YtbekjccehhaljaaW.PrintWords Go.Proofs.YtbekjccehhaljaaW.PrintLast Go.Proofs.YtbekjccehhaljaaW.PrintMore
def ord1 (a b : Int) : Int := if a < b then -1 else if a > b then 1 else 0
def ordP : List Int → List Int → Int
  | [], [] => 0
  | [], _ :: _ => -1
  | _ :: _, [] => 1
  | a :: x, b :: y => if ord1 a b ≠ 0 then ord1 a b else ordP x y
set_option maxRecDepth 100000 in
set_option maxHeartbeats 4000000 in
theorem cmpInt_any (a b : Int) (w : World) : Calls Try.prog 70 #[.int .i64 a, .int .i64 b] w fun e w' => e = .returned (.int .i64 (ord1 a b)) ∧ w = w' := by
  by_cases h1 : a < b
  · have h2 : (a < b) = True := eq_true h1
    have e : ord1 a b = -1 := by unfold ord1; rw [if_pos h1]
    rw [e]
    clear h1 e
    go_enter Try.func70, Try.ntmps70
    go_wp2
    go_ret
    exact ⟨rfl, rfl⟩
  · have h2 : (a < b) = False := eq_false h1
    by_cases h3 : a > b
    · have h4 : (b < a) = True := eq_true h3
      have e : ord1 a b = 1 := by unfold ord1; rw [if_neg h1, if_pos h3]
      rw [e]
      clear h1 h3 e
      go_enter Try.func70, Try.ntmps70
      go_wp2
      go_ret
      exact ⟨rfl, rfl⟩
    · have h4 : (b < a) = False := eq_false h3
      have e : ord1 a b = 0 := by unfold ord1; rw [if_neg h1, if_neg h3]
      rw [e]
      clear h1 h3 e
      go_enter Try.func70, Try.ntmps70
      go_wp2
      go_ret
      exact ⟨rfl, rfl⟩
theorem ordP_drop {x y : List Int} {i : Nat} (hx : i < x.length) (hy : i < y.length) : ordP (x.drop i) (y.drop i) = if ord1 x[i] y[i] ≠ 0 then ord1 x[i] y[i] else ordP (x.drop (i + 1)) (y.drop (i + 1)) := by
  rw [List.drop_eq_getElem_cons hx, List.drop_eq_getElem_cons hy, ordP]
theorem numU_at {w : World} {A : Option Addr} {n : Nat} {xs : List Int} (h : (Kd.int .i64).C w A n xs) (i : Nat) (hi : i < n) (hi2 : i < xs.length) : ∃ ad, A = some ad ∧ w.cell? (ad.add i) = some (.int .i64 xs[i]) := by
  obtain ⟨ad, cs, e, _, hK, hc⟩ := Kd.C_get h 0 (i : Int) (by omega) (by omega)
  have hK : cs = [.int .i64 (xs.getD (i : Int).toNat 0)] := hK
  have := hc 0 _ (by rw [hK]; rfl)
  refine ⟨ad, e, ?_⟩
  have e2 : xs.getD (i : Int).toNat 0 = xs[i] := by simp [hi2]
  rw [e2] at this
  simpa [Kd.int, Kd.scalar] using this
set_option maxRecDepth 100000 in
set_option maxHeartbeats 8000000 in
theorem slCompare_any (A0 : Option Addr) (c0 : Nat) (x : List Int) (A1 : Option Addr) (c1 : Nat) (y : List Int) (w : World) (h0 : (Kd.int .i64).C w A0 x.length x) (h1 : (Kd.int .i64).C w A1 y.length y) (hx : x.length ≤ 1000000) (hy : y.length ≤ 1000000) :
    Calls Try.prog 45 #[.slice A0 x.length c0, .slice A1 y.length c1] w fun e w' => e = .returned (.int .i64 (ordP x y)) ∧ w = w' := by
  have H := Aside0.mk (And.intro h0 h1)
  have HO := Aside0.mk (show ordP x y = ordP (x.drop 0) (y.drop 0) by simp)
  obtain ⟨r, hr⟩ : ∃ r, r = ordP x y := ⟨_, rfl⟩
  rw [← hr]
  have HR := Aside0.mk hr
  clear h0 h1 hr
  go_enter Try.func45, Try.ntmps45
  go_upto_region 1 with (fail)
  go_wp2_with fail
  go_loop [11] (fun v11 => ∃ (i : Nat), v11 = .int .i64 i ∧ i ≤ x.length ∧ i ≤ y.length ∧ Aside0 (ordP x y = ordP (x.drop i) (y.drop i))) (fun v11 => x.length - (intOf v11).toNat)
  case atStart => exact ⟨0, rfl, Nat.zero_le _, Nat.zero_le _, HO⟩
  case round =>
    clear HO
    obtain ⟨i, rfl, hi, hiy, HO⟩ := hrel
    by_cases hlt : i < x.length
    · obtain ⟨ad0, e0, q0⟩ := numU_at H.out.1 i hlt hlt
      subst e0
      by_cases hly : i < y.length
      · obtain ⟨ad1, e1, q1⟩ := numU_at H.out.2 i hly hly
        subst e1
        have HD := Aside0.mk (ordP_drop hlt hly)
        go_wp2_with fail
        refine (cmpInt_any _ _ _).mono ?_
        rintro e w' ⟨rfl, rfl⟩
        by_cases hz : ord1 x[i] y[i] = 0
        · rw [hz]
          have HO2 := Aside0.mk (show ordP x y = ordP (x.drop (i + 1)) (y.drop (i + 1)) by rw [HO.out, HD.out, if_neg (by intro h; exact h hz)])
          clear hz
          go_wp2_with fail
          go_round
          case rel => exact ⟨i + 1, by go_num, by omega, by omega, HO2⟩
          case measure => simp [intOf]; omega
        · have HO2 := Aside0.mk (show ordP x y = ord1 x[i] y[i] by rw [HO.out, HD.out, if_pos hz])
          have hz2 : (ord1 x[i] y[i] = 0) = False := eq_false hz
          have hz3 : (ord1 x[i] y[i] == 0) = false := by simpa using hz
          clear hz
          generalize ord1 x[i] y[i] = o at hz2 hz3 HO2 ⊢
          go_wp2_with fail
          go_ret
          exact ⟨by rw [HR.out, HO2.out]; rfl, rfl⟩
      · have hyl : ((y.length : Int) ≤ (i : Int)) = True := eq_true (by omega)
        have e9 : ordP x y = 1 := by
          rw [HO.out, List.drop_eq_getElem_cons hlt, show y.drop i = [] from List.drop_eq_nil_of_le (by omega)]
          rfl
        have HE := Aside0.mk e9
        clear e9
        go_wp2_with fail
        go_ret
        exact ⟨by rw [HR.out, HE.out]; rfl, rfl⟩
    · have ei : i = x.length := by omega
      by_cases hly : x.length < y.length
      · have e9 : ordP x y = -1 := by
          rw [HO.out, ei, List.drop_length, List.drop_eq_getElem_cons hly]
          rfl
        have HE := Aside0.mk e9
        have hyl : ((x.length : Int) < (y.length : Int)) = True := eq_true (by omega)
        clear e9 
        go_wp2_with fail
        go_ret
        exact ⟨by rw [HR.out, HE.out]; rfl, rfl⟩
      · have e9 : ordP x y = 0 := by
          rw [HO.out, ei, List.drop_length, show y.drop x.length = [] from List.drop_eq_nil_of_le (by omega)]
          rfl
        have HE := Aside0.mk e9
        have hyl : ((x.length : Int) < (y.length : Int)) = False := eq_false (by omega)
        clear e9
        go_wp2_with fail
        go_ret
        exact ⟨by rw [HR.out, HE.out]; rfl, rfl⟩
set_option maxRecDepth 100000 in
theorem pathCompare_any (A0 : Option Addr) (c0 : Nat) (x : List Int) (A1 : Option Addr) (c1 : Nat) (y : List Int) (w : World) (h0 : (Kd.int .i64).C w A0 x.length x) (h1 : (Kd.int .i64).C w A1 y.length y) (hx : x.length ≤ 1000000) (hy : y.length ≤ 1000000) :
    Calls Try.prog 29 #[.slice A0 x.length c0, .slice A1 y.length c1] w fun e w' => e = .returned (.int .i64 (ordP x y)) ∧ w = w' := by
  have H := Aside0.mk (slCompare_any A0 c0 x A1 c1 y w h0 h1 hx hy)
  clear h0 h1
  go_enter Try.func29, Try.ntmps29
  go_wp2_with fail
  refine H.out.mono ?_
  rintro e w' ⟨rfl, rfl⟩
  go_wp2_with fail
  go_ret
  exact ⟨rfl, rfl⟩
end Go.Proofs.Ytbekjccehhaljaa.H

namespace Go.Proofs
open Go.Shelf
def Try.sortE_ren : Go.Shelf.Ren := ⟨fun | 6 => 27 | 15 => 44 | 14 => 43 | 28 => 68 | 29 => 69 | 20 => 60 | 21 => 61 | 22 => 62 | 23 => 63 | 24 => 64 | 25 => 65 | 26 => 66 | 27 => 67 | 46 => 90 | 47 => 91 | 48 => 92 | 49 => 93 | 50 => 94 | 57 => 113 | n => n, fun | 22 => 29 | 24 => 54 | 25 => 99 | 3 => 3 | 39 => 132 | 0 => 0 | 53 => 166 | 55 => 168 | 4 => 4 | 46 => 159 | 45 => 158 | 50 => 163 | 5 => 5 | 9 => 9 | 66 => 183 | 70 => 187 | 76 => 197 | 77 => 72 | n => n, fun | n => n⟩
theorem Try.sortE : Go.Proofs.SlLaysF0.n6 Try.prog Try.sortE_ren := {
  mixed := by kernel_rfl
  f6 := ⟨Try.f27.name, by decide, Try.func27.trans (congrArg some (by kernel_rfl))⟩
  f14 := ⟨Try.f43.name, by decide, Try.func43.trans (congrArg some (by kernel_rfl))⟩
  f15 := Try.func44.trans (congrArg some (by kernel_rfl))
  f20 := ⟨Try.f60.name, by decide, Try.func60.trans (congrArg some (by kernel_rfl))⟩
  f21 := ⟨Try.f61.name, by decide, Try.func61.trans (congrArg some (by kernel_rfl))⟩
  f22 := ⟨Try.f62.name, by decide, Try.func62.trans (congrArg some (by kernel_rfl))⟩
  f23 := ⟨Try.f63.name, by decide, Try.func63.trans (congrArg some (by kernel_rfl))⟩
  f24 := ⟨Try.f64.name, by decide, Try.func64.trans (congrArg some (by kernel_rfl))⟩
  f25 := ⟨Try.f65.name, by decide, Try.func65.trans (congrArg some (by kernel_rfl))⟩
  f26 := ⟨Try.f66.name, by decide, Try.func66.trans (congrArg some (by kernel_rfl))⟩
  f27 := ⟨Try.f67.name, by decide, Try.func67.trans (congrArg some (by kernel_rfl))⟩
  f28 := Try.func68.trans (congrArg some (by kernel_rfl))
  f29 := Try.func69.trans (congrArg some (by kernel_rfl))
  f46 := ⟨Try.f90.name, by decide, Try.func90.trans (congrArg some (by kernel_rfl))⟩
  f47 := Try.func91.trans (congrArg some (by kernel_rfl))
  f48 := Try.func92.trans (congrArg some (by kernel_rfl))
  f49 := ⟨Try.f93.name, by decide, Try.func93.trans (congrArg some (by kernel_rfl))⟩
  f50 := ⟨Try.f94.name, by decide, Try.func94.trans (congrArg some (by kernel_rfl))⟩
  f57 := ⟨Try.f113.name, by decide, Try.func113.trans (congrArg some (by kernel_rfl))⟩
  t0 := Try.underlying0
  a0 := Try.isAgg0
  z0 := Try.sizeOf0
  v0 := Try.zeroValue0
  t3 := Try.underlying3
  a3 := Try.isAgg3
  z3 := Try.sizeOf3
  v3 := Try.zeroValue3
  t4 := Try.underlying4
  a4 := Try.isAgg4
  z4 := Try.sizeOf4
  v4 := Try.zeroValue4
  t5 := Try.underlying5
  a5 := Try.isAgg5
  z5 := Try.sizeOf5
  v5 := Try.zeroValue5
  t9 := Try.underlying9
  a9 := Try.isAgg9
  z9 := Try.sizeOf9
  v9 := Try.zeroValue9
  t22 := Try.underlying29
  a22 := Try.isAgg29
  z22 := Try.sizeOf29
  v22 := Try.zeroValue29
  t25 := Try.underlying99
  a25 := Try.isAgg99
  z25 := Try.sizeOf99
  v25 := Try.zeroValue99
  t39 := Try.underlying132
  a39 := Try.isAgg132
  z39 := Try.sizeOf132
  v39 := Try.zeroValue132
  t45 := Try.underlying158
  a45 := Try.isAgg158
  z45 := Try.sizeOf158
  v45 := Try.zeroValue158
  t46 := Try.underlying159
  a46 := Try.isAgg159
  z46 := Try.sizeOf159
  v46 := Try.zeroValue159
  t50 := Try.underlying163
  a50 := Try.isAgg163
  z50 := Try.sizeOf163
  v50 := Try.zeroValue163
  t53 := Try.underlying166
  a53 := Try.isAgg166
  z53 := Try.sizeOf166
  v53 := Try.zeroValue166
  t55 := Try.underlying168
  a55 := Try.isAgg168
  z55 := Try.sizeOf168
  v55 := Try.zeroValue168
  t66 := Try.underlying183
  a66 := Try.isAgg183
  z66 := Try.sizeOf183
  v66 := Try.zeroValue183
  t70 := Try.underlying187
  a70 := Try.isAgg187
  z70 := Try.sizeOf187
  v70 := Try.zeroValue187
  t76 := Try.underlying197
  a76 := Try.isAgg197
  z76 := Try.sizeOf197
  v76 := Try.zeroValue197
  t77 := Try.underlying72
  a77 := Try.isAgg72
  z77 := Try.sizeOf72
  v77 := Try.zeroValue72 }
end Go.Proofs

set_option linter.unusedVariables false
set_option linter.unusedSimpArgs false
namespace Go.Proofs.Ytbekjccehhaljaa.H
open Go.RowKit Go.Hay Go.Proofs.YtbekjccehhaljaaW.PrintWords Go.Proofs.YtbekjccehhaljaaW.PrintLast Go.Proofs.YtbekjccehhaljaaW.PrintMore
/-! ### the order -/
theorem ord1_lt (a b : Int) : ord1 a b < 0 ↔ a < b := by
  unfold ord1
  by_cases h : a < b
  · rw [if_pos h]; omega
  · rw [if_neg h]; by_cases h2 : a > b
    · rw [if_pos h2]; omega
    · rw [if_neg h2]; omega
theorem ord1_zero (a b : Int) : ord1 a b = 0 ↔ a = b := by
  unfold ord1
  by_cases h : a < b
  · rw [if_pos h]; omega
  · rw [if_neg h]; by_cases h2 : a > b
    · rw [if_pos h2]; omega
    · rw [if_neg h2]; omega
/-- ahead of. -/
def ltP (x y : List Int) : Bool := decide (ordP x y < 0)
theorem ltP_cons (a b : Int) (x y : List Int) : ltP (a :: x) (b :: y) = (decide (a < b) || (decide (a = b) && ltP x y)) := by
  unfold ltP
  rw [ordP]
  by_cases h : ord1 a b = 0
  · rw [if_neg (by intro h2; exact h2 h)]
    have e := (ord1_zero a b).1 h
    simp [e]
  · rw [if_pos h]
    have e : ¬ a = b := fun e => h ((ord1_zero a b).2 e)
    simp [e, ord1_lt]
theorem ltP_irrefl : ∀ x, ltP x x = false
  | [] => rfl
  | a :: x => by rw [ltP_cons, ltP_irrefl x]; simp
theorem ltP_trans : ∀ x y z, ltP x y = true → ltP y z = true → ltP x z = true
  | [], y, [], h1, h2 => by cases y with
    | nil => exact h2
    | cons b y => cases h2
  | [], y, c :: z, _, _ => rfl
  | a :: x, [], z, h1, _ => by cases h1
  | a :: x, b :: y, [], _, h2 => by cases h2
  | a :: x, b :: y, c :: z, h1, h2 => by
    rw [ltP_cons] at h1 h2 ⊢
    simp only [Bool.or_eq_true, Bool.and_eq_true, decide_eq_true_eq] at h1 h2 ⊢
    rcases h1 with h1 | ⟨h1, h3⟩ <;> rcases h2 with h2 | ⟨h2, h4⟩
    · exact .inl (by omega)
    · exact .inl (by omega)
    · exact .inl (by omega)
    · exact .inr ⟨by omega, ltP_trans x y z h3 h4⟩
theorem ltP_total : ∀ x y, ltP x y = false → ltP y x = false → x = y
  | [], [], _, _ => rfl
  | [], b :: y, h1, _ => by cases h1
  | a :: x, [], _, h2 => by cases h2
  | a :: x, b :: y, h1, h2 => by
    rw [ltP_cons] at h1 h2
    simp only [Bool.or_eq_false_iff, Bool.and_eq_false_iff, decide_eq_false_iff_not] at h1 h2
    have e : a = b := by omega
    subst e
    rw [ltP_total x y (h1.2.resolve_left (fun h => h rfl)) (h2.2.resolve_left (fun h => h rfl))]
theorem ltP_swo : Go.Sort.SWO ltP := by
  refine ⟨ltP_irrefl, ltP_trans, fun x y z h1 h2 => ?_⟩
  cases h3 : ltP x z with
  | false => rfl
  | true =>
    exfalso
    cases h4 : ltP y x with
    | true => have := ltP_trans y x z h4 h3; rw [this] at h2; cases h2
    | false =>
      have e := ltP_total x y h1 h4
      subst e; rw [h3] at h2; cases h2
/-! ### an entry with its path -/
def EnOk (w : World) (x : Ent × List Int) : Prop := PathAt w x.1.A x.2 ∧ x.1.n = x.2.length ∧ x.1.n ≤ x.1.c ∧ x.2.length ≤ 1000
abbrev En (w : World) := { x : Ent × List Int // EnOk w x }
instance (w : World) : Inhabited (En w) := ⟨⟨(⟨none, 0, 0, 0⟩, []), PathAt.nil w, rfl, Nat.le_refl _, Nat.zero_le _⟩⟩
def encE {w : World} (x : En w) : List Value := [.slice x.1.1.A x.1.1.n x.1.1.c, .int .i64 x.1.1.s]
def cmpE {w : World} (x y : En w) : Int := ordP x.1.2 y.1.2
theorem cmpE_swo (w : World) : Go.Sort.SWO (Go.Proofs.ltOf (cmpE (w := w))) := ⟨fun x => ltP_irrefl _, fun x y z => ltP_trans _ _ _, fun x y z => ltP_swo.ntrans _ _ _⟩
theorem sortK_old {α : Type} [Inhabited α] (enc : α → List Value) (k : Nat) (w : World) (g off m : Nat) (dk : Array α) (os : Array Obj) (hg : g < w.heap.size) : Keep (fun q => q = g) w (Go.Proofs.sortWorldK enc k w g off m dk os) := by
  have hsz : (Go.Sort.putRowK enc k (Go.Sort.ahead w m) g off dk).heap.size = w.heap.size := by
    unfold Go.Sort.putRowK Go.Sort.putRow Go.Sort.mapBlock Go.Sort.ahead
    simp
  have hblk : ∀ q, q < w.heap.size → ¬ q = g → (Go.Proofs.sortWorldK enc k w g off m dk os).heap[q]? = w.heap[q]? := by
    intro q hq hn
    unfold Go.Proofs.sortWorldK
    rw [Go.Sort.heap_grow_old _ _ (by omega)]
    unfold Go.Sort.putRowK Go.Sort.putRow Go.Sort.mapBlock Go.Sort.ahead
    simp only [Array.getElem?_modify]
    rw [if_neg (fun e => hn e.symm)]
  have hs : w.heap.size ≤ (Go.Proofs.sortWorldK enc k w g off m dk os).heap.size := by
    unfold Go.Proofs.sortWorldK Go.Sort.grow
    simp only [Array.size_append]
    omega
  constructor <;> first | exact hblk | exact hs | rfl
set_option maxRecDepth 100000 in
set_option maxHeartbeats 4000000 in
theorem closeE (x0 x1 y0 y1 : Value) (A0 : Option Addr) (c0 : Nat) (x : List Int) (A1 : Option Addr) (c1 : Nat) (y : List Int) (s t : Int) (w : World) (h0 : (Kd.int .i64).C w A0 x.length x) (h1 : (Kd.int .i64).C w A1 y.length y) (hx : x.length ≤ 1000000) (hy : y.length ≤ 1000000) :
    Calls Try.prog 28 #[.agg #[.slice A0 x.length c0, .int .i64 s], .agg #[.slice A1 y.length c1, .int .i64 t]] w fun e w' => e = .returned (.int .i64 (ordP x y)) ∧ ∃ q os', w' = Go.Sort.grow (w.drewN q) os' := by
  obtain ⟨W, hW⟩ : ∃ W, W = (w.alloc (.cells #[.slice A0 x.length c0, .int .i64 s] 54)).alloc (.cells #[.slice A1 y.length c1, .int .i64 t] 54) := ⟨_, rfl⟩
  have hb : Below w.heap.size w W := by rw [hW]; have b1 := (Below.refl w.heap.size w).alloc (Nat.le_refl _) (.cells #[.slice A0 x.length c0, .int .i64 s] 54); exact b1.alloc b1.size _
  have H := Aside0.mk (pathCompare_any A0 c0 x A1 c1 y W (Kd.C_below h0 hb) (Kd.C_below h1 hb) hx hy)
  have hg : W = Go.Sort.grow (w.drewN 0) #[.cells #[.slice A0 x.length c0, .int .i64 s] 54, .cells #[.slice A1 y.length c1, .int .i64 t] 54] := by
    rw [hW, Go.Sort.alloc_eq_grow, Go.Sort.alloc_eq_grow, Go.Sort.grow_grow]; rfl
  have HW := Aside0.mk hW
  have HG := Aside0.mk hg
  clear hW hb h0 h1 hg
  go_enter Try.func28, Try.ntmps28
  go_upto_region 1 with (fail)
  rw [← HW.out]
  have e1 : (w.alloc (.cells #[.slice A0 x.length c0, .int .i64 s] 54)).heap.size = w.heap.size + 1 := Array.size_push _
  have q0 : W.cell? ⟨w.heap.size, 0, none⟩ = some (.slice A0 x.length c0) := by rw [HW.out]; exact blk_cell (blk_alloc (alloc_blk w _) _) 0
  have q1 : W.cell? ⟨w.heap.size + 1, 0, none⟩ = some (.slice A1 y.length c1) := by
    rw [HW.out]
    have h9 := alloc_blk (w.alloc (.cells #[.slice A0 x.length c0, .int .i64 s] 54)) (.cells #[.slice A1 y.length c1, .int .i64 t] 54)
    rw [e1] at h9
    exact blk_cell h9 0
  clear e1
  go_wp2_with fail
  refine H.out.mono ?_
  rintro e w' ⟨rfl, rfl⟩
  go_wp2_with fail
  go_ret
  exact ⟨rfl, 0, _, HG.out⟩
theorem PathAt.CE {w W : World} {g : Nat} {x : Ent × List Int} (h : EnOk w x) (hg : ∃ cs t, w.heap[g]? = some (.cells cs t (0, 0)) ∧ t ≠ 3) (hk : Keep (fun q => q = g) w W) : (Kd.int .i64).C W x.1.A x.2.length x.2 := by
  obtain ⟨cs, t, h1, h2⟩ := hg
  exact (h.1.keep hk (fun q cs' hq e => by subst e; rw [h1] at hq; cases hq; exact h2 rfl)).C h.2.2.2
theorem cmpLaysE (w : World) (g size : Nat) (hg : ∃ cs t, w.heap[g]? = some (.cells cs t (0, 0)) ∧ t ≠ 3) : Go.Proofs.CmpLays Try.prog 28 #[] (encE (w := w)) 2 cmpE g 0 size w := by
  intro m os dk hdk x y
  have hlt : g < w.heap.size := by obtain ⟨cs, t, h1, _⟩ := hg; exact blk_lt h1
  have hk := sortK_old (encE (w := w)) 2 w g 0 m dk os hlt
  have h0 := PathAt.CE x.2 hg hk
  have h1 := PathAt.CE y.2 hg hk
  have hx := x.2.2
  have hy := y.2.2
  have := closeE undef undef undef undef x.1.1.A x.1.1.c x.1.2 y.1.1.A y.1.1.c y.1.2 x.1.1.s y.1.1.s (Go.Proofs.sortWorldK (encE (w := w)) 2 w g 0 m dk os) h0 h1 (by omega) (by omega)
  rw [← hx.1, ← hy.1] at this
  exact this
/-- the entries beside their paths. -/
def logArr {w : World} {ents : List Ent} {log : List (List Int × Int)} (hok : EntsOk w ents log) : Array (En w) :=
  Array.ofFn (n := ents.length) fun i => ⟨(ents[i.1], (log[i.1]'(by have := hok.1; omega)).1), by
    obtain ⟨a, b, c, d, e⟩ := hok.2 i.1 i.2 (by have := hok.1; omega)
    exact ⟨e, b, c, d⟩⟩
theorem logArr_size {w : World} {ents : List Ent} {log : List (List Int × Int)} (hok : EntsOk w ents log) : (logArr hok).size = ents.length := by unfold logArr; simp
theorem logArr_get {w : World} {ents : List Ent} {log : List (List Int × Int)} (hok : EntsOk w ents log) (i : Nat) (hi : i < ents.length) : ((logArr hok)[i]!).1.1 = ents[i] ∧ ((logArr hok)[i]!).1.2 = (log[i]'(by have := hok.1; omega)).1 := by
  have h : i < (logArr hok).size := by rw [logArr_size]; exact hi
  rw [getElem!_pos (logArr hok) i h]
  simp only [logArr, Array.getElem_ofFn, and_self]
theorem logArr_map {w : World} {ents : List Ent} {log : List (List Int × Int)} (hok : EntsOk w ents log) : (logArr hok).toList.map (fun x => (x.1.2, x.1.1.s)) = log := by
  apply List.ext_getElem
  · rw [List.length_map, Array.length_toList, logArr_size]; exact hok.1
  · intro i h1 h2
    have hi : i < ents.length := by have := hok.1; omega
    obtain ⟨a, _, _, _, _⟩ := hok.2 i hi h2
    have hs : i < (logArr hok).size := by rw [logArr_size]; exact hi
    have h9 := logArr_get hok i hi
    rw [getElem!_pos (logArr hok) i hs] at h9
    rw [List.getElem_map, Array.getElem_toList, h9.1, h9.2, a]
theorem logArr_holds {w : World} {B g n cap : Nat} {ok : Nat → Prop} {ents : List Ent} {log : List (List Int × Int)} (hlog : kEnt.R 54 w B ok (.slice (some ⟨g, 0, none⟩) n cap) ents) (hok : EntsOk w ents log) : Go.Sort.HoldsK encE 2 w g 0 (logArr hok) := by
  intro j hj
  have hsz : (Go.Sort.flatK encE 2 (logArr hok)).size = ents.length * 2 := by unfold Go.Sort.flatK; simp [logArr_size]
  rw [hsz] at hj
  rw [Go.Sort.get_flatK encE 2 _ j (by rw [logArr_size]; exact hj)]
  have hi : j / 2 < ents.length := by omega
  obtain ⟨q0, q1, f0, f1⟩ := ent_at hlog hi
  have h9 := logArr_get hok (j / 2) hi
  have hm : j % 2 = 0 ∨ j % 2 = 1 := by omega
  unfold encE
  rw [h9.1]
  rcases hm with hm | hm
  · have e : 0 + j = j / 2 * 2 := by omega
    rw [hm, e]
    exact ⟨q0, f0⟩
  · have e : 0 + j = j / 2 * 2 + 1 := by omega
    rw [hm, e]
    exact ⟨q1, f1⟩
/-- what sorting the log leaves. -/
def SortP (w : World) (g : Nat) (log : List (List Int × Int)) (e : Ending) (w' : World) : Prop :=
  e = .returned (.tuple #[]) ∧ Keep (fun q => q = g) w w' ∧ ∃ xs : List (Ent × List Int), (∀ x ∈ xs, EnOk w x) ∧ (xs.map (fun x => (x.2, x.1.s))).Perm log ∧ xs.Pairwise (fun a b => ltP b.2 a.2 = false) ∧
    ∀ i (h : i < xs.length), w'.cell? ⟨g, i * 2, none⟩ = some (.slice xs[i].1.A xs[i].1.n xs[i].1.c) ∧ w'.cell? ⟨g, i * 2 + 1, none⟩ = some (.int .i64 xs[i].1.s)
theorem sortLog_any {w : World} {B g n cap : Nat} {ok : Nat → Prop} {ents : List Ent} {log : List (List Int × Int)} (hlog : kEnt.R 54 w B ok (.slice (some ⟨g, 0, none⟩) n cap) ents) (hok : EntsOk w ents log) (hp : 0 < ents.length) (hl : ents.length ≤ 1000000) :
    Calls Try.prog 27 #[.slice (some ⟨g, 0, none⟩) n cap, .func (.func 28) #[] #[]] w (SortP w g log) := by
  have hn := (Kd.R_reads' hlog).1
  obtain ⟨g', cp, hv, _, _, C, hC⟩ := Kd.R_form hlog hp
  injection hv with hA _ _
  cases hA
  have hg : ∃ cs t, w.heap[g]? = some (.cells cs t (0, 0)) ∧ t ≠ 3 := ⟨_, _, hC, by decide⟩
  have hH := logArr_holds hlog hok
  have hsz := logArr_size hok
  have hcon := Go.Proofs.AnyQ.slices_SortFunc Go.Proofs.Try.sortE 2 (fun w => by kernel_rfl) (fun w => by kernel_rfl) encE (fun _ => rfl) (fun x v hv => by simp [encE] at hv; rcases hv with rfl | rfl <;> rfl) cmpE (cmpE_swo w) 28 #[] g 0 cap (logArr hok) w (fun args w => Try.call28 args w) (cmpLaysE w g _ hg) hH (blk_lt hC) (by rw [hsz]; omega)
  rw [hsz, ← hn] at hcon
  change Calls Try.prog 27 _ _ _ at hcon
  refine hcon.mono ?_
  rintro e w' ⟨rfl, d', m, os, hperm, hsort, rfl⟩
  have hk := sortK_old (encE (w := w)) 2 w g 0 m d' os (blk_lt hC)
  have hds : d'.size = ents.length := hperm.1.trans (by rw [hsz])
  have hH' : Go.Sort.HoldsK encE 2 (Go.Proofs.sortWorldK encE 2 w g 0 m d' os) g 0 d' := by
    unfold Go.Proofs.sortWorldK
    refine Go.Sort.holdsK_grow encE 2 _ os g 0 d' ?_ (Go.Sort.holdsK_putRowK encE 2 _ g 0 _ d' (Go.Sort.holdsK_ahead encE 2 w m g 0 _ hH) (by rw [hds, hsz]))
    have : (Go.Sort.putRowK encE 2 (Go.Sort.ahead w m) g 0 d').heap.size = w.heap.size := by
      unfold Go.Sort.putRowK Go.Sort.putRow Go.Sort.mapBlock Go.Sort.ahead
      simp
    rw [this]; exact blk_lt hC
  refine ⟨rfl, hk, d'.toList.map (·.1), fun x hx => ?_, ?_, ?_, fun i h => ?_⟩
  · obtain ⟨y, _, rfl⟩ := List.mem_map.1 hx
    exact y.2
  · have h9 := hperm.2.2
    have e1 : (d'.extract 0 n).toList = d'.toList := by rw [Array.extract_eq_self_of_le (by omega)]
    have e2 : ((logArr hok).extract 0 n).toList = (logArr hok).toList := by rw [Array.extract_eq_self_of_le (by rw [hsz]; omega)]
    rw [e1, e2] at h9
    have e3 : ∀ L : List (En w), (L.map (·.1)).map (fun x => (x.2, x.1.s)) = L.map (fun x => (x.1.2, x.1.1.s)) := fun L => by
      induction L with
      | nil => rfl
      | cons a L ih => simp only [List.map_cons, ih]
    rw [e3]
    have h8 := h9.map (fun x : En w => (x.1.2, x.1.1.s))
    rw [logArr_map] at h8
    exact h8
  · rw [List.pairwise_map, List.pairwise_iff_getElem]
    intro i j hi hj hij
    have hj' : j < d'.size := by simpa using hj
    have hi' : i < d'.size := by simpa using hi
    have h9 := hsort i j (Nat.zero_le _) hij (by omega)
    rw [getElem!_pos d' i hi', getElem!_pos d' j hj'] at h9
    rw [Array.getElem_toList, Array.getElem_toList]
    exact h9
  · have hi' : i < d'.size := by simpa using h
    have c0 := (hH'.cell hi' (show 0 < 2 by decide)).1
    have c1 := (hH'.cell hi' (show 1 < 2 by decide)).1
    rw [getElem!_pos d' i hi'] at c0 c1
    rw [List.getElem_map, Array.getElem_toList]
    rw [Nat.zero_add] at c0 c1
    exact ⟨c0, c1⟩
end Go.Proofs.Ytbekjccehhaljaa.H

set_option linter.unusedVariables false
set_option linter.unusedSimpArgs false
namespace Go.Proofs.Ytbekjccehhaljaa.H
open Go.RowKit Go.Hay Go.Proofs.YtbekjccehhaljaaW.PrintWords Go.Proofs.YtbekjccehhaljaaW.PrintLast Go.Proofs.YtbekjccehhaljaaW.PrintMore
theorem idx4 {a b c d e : Value} {i : Int} (w : World) (h : (i = 0 ∧ e = a) ∨ (i = 1 ∧ e = b) ∨ (i = 2 ∧ e = c) ∨ (i = 3 ∧ e = d)) : (Instr.index 181 (.agg #[a, b, c, d]) (.int .i64 i)).run Try.prog w = .ok e w := by
  have hu181 := Try.underlying181
  rcases h with ⟨rfl, rfl⟩ | ⟨rfl, rfl⟩ | ⟨rfl, rfl⟩ | ⟨rfl, rfl⟩ <;> simp [Instr.index, run_underlying hu181, asIntOf, go_sem]
theorem blk_other {w : World} {g b : Nat} {o : Obj} (h : w.heap[g]? = some o) (hne : g ≠ b) (i : Nat) (v : Value) : (w.setCell ⟨b, i, none⟩ v).heap[g]? = some o := (Below.heap_setCell w _ v g hne).trans h
structure IW (w : World) (A : Option Addr) (n c : Nat) (f at_ : Int) (x : S61) (w' : World) : Prop where
  below : Below w.heap.size w w'
  b0 : w'.heap[w.heap.size]? = some (.cells #[.slice A n c, .int .i64 f, .int .i64 at_] 149 (0, 0))
  b1 : w'.heap[w.heap.size + 1]? = some (.cells #[.int .i64 x.f0, .int .i64 x.f1, .int .i64 x.f2, .int .i64 x.f3, .int .i64 x.f4] 61 (0, 0))
theorem IW.size {w : World} {A : Option Addr} {n c : Nat} {f at_ : Int} {x : S61} {w' : World} (h : IW w A n c f at_ x w') : w.heap.size + 2 ≤ w'.heap.size := by
  have := blk_lt h.b1; omega
theorem IW.keep {w : World} {A : Option Addr} {n c : Nat} {f at_ : Int} {x : S61} {w' w'' : World} (h : IW w A n c f at_ x w') (k : Keep (fun b => w.heap.size + 2 ≤ b) w' w'') : IW w A n c f at_ x w'' :=
  ⟨h.below.trans (k.below h.below.size (fun b hb hs => by omega)), k.blk h.b0 (by omega), k.blk h.b1 (by omega)⟩
theorem IW.start (w : World) (A : Option Addr) (n c : Nat) (f at_ : Int) (x : S61) : IW w A n c f at_ x ((w.alloc (.cells #[.slice A n c, .int .i64 f, .int .i64 at_] 149)).alloc (.cells #[.int .i64 x.f0, .int .i64 x.f1, .int .i64 x.f2, .int .i64 x.f3, .int .i64 x.f4] 61)) := by
  have hb0 := ((Below.refl w.heap.size w).alloc (Nat.le_refl _) (.cells #[.slice A n c, .int .i64 f, .int .i64 at_] 149))
  refine ⟨hb0.alloc hb0.size _, blk_alloc (alloc_blk w _) _, ?_⟩
  have := alloc_blk (w.alloc (.cells #[.slice A n c, .int .i64 f, .int .i64 at_] 149)) (.cells #[.int .i64 x.f0, .int .i64 x.f1, .int .i64 x.f2, .int .i64 x.f3, .int .i64 x.f4] 61)
  have e : (w.alloc (.cells #[.slice A n c, .int .i64 f, .int .i64 at_] 149)).heap.size = w.heap.size + 1 := Array.size_push _
  rwa [e] at this
structure JW (w : World) (A : Option Addr) (n c : Nat) (f at_ : Int) (x : S61) (g4 b6 b7 : Nat) (pa pb pc pk : Int) (w' : World) : Prop where
  iw : IW w A n c f at_ x w'
  h4 : w'.heap[g4]? = some (.cells #[.int .i64 pa, .int .i64 pb, .int .i64 pc, .int .i64 pk] 178 (0, 0))
  h6 : w'.heap[b6]? = some (.cells #[.int .i64 x.f1, .int .i64 x.f2, .int .i64 x.f3, .int .i64 x.f4] 103 (0, 0))
  h7 : w'.heap[b7]? = some (.cells #[.int .i64 pa, .int .i64 pb, .int .i64 pc, .int .i64 pk] 181 (0, 0))
theorem JW.keep {w : World} {A : Option Addr} {n c : Nat} {f at_ : Int} {x : S61} {g4 b6 b7 : Nat} {pa pb pc pk : Int} {w' w'' : World} (h : JW w A n c f at_ x g4 b6 b7 pa pb pc pk w') (k : Below w'.heap.size w' w'') : JW w A n c f at_ x g4 b6 b7 pa pb pc pk w'' :=
  ⟨h.iw.keep (Keep.of_belowB (k.mono h.iw.size)), (k.block _ (blk_lt h.h4)).trans h.h4, (k.block _ (blk_lt h.h6)).trans h.h6, (k.block _ (blk_lt h.h7)).trans h.h7⟩
def formTo (x : S61) (pa pb pc pk : Int) (i : Nat) : Prop := (0 < i → ¬ (pa = 0 ∧ x.f1 ≠ 0)) ∧ (1 < i → ¬ (pb = 0 ∧ x.f2 ≠ 0)) ∧ (2 < i → ¬ (pc = 0 ∧ x.f3 ≠ 0)) ∧ (3 < i → ¬ (pk = 0 ∧ x.f4 ≠ 0))
section
variable {x : S61} {pa pb pc pk : Int} {E : Option Int}
theorem form_no0 (h : formTo x pa pb pc pk 0) (hp : pa = 0) (hq : ¬ x.f1 = 0) : (if pa = 0 ∧ x.f1 ≠ 0 then some 4 else if pb = 0 ∧ x.f2 ≠ 0 then some 4 else if pc = 0 ∧ x.f3 ≠ 0 then some 4 else if pk = 0 ∧ x.f4 ≠ 0 then some 4 else E) = some 4 := if_pos ⟨hp, hq⟩
theorem form_no1 (h : formTo x pa pb pc pk 1) (hp : pb = 0) (hq : ¬ x.f2 = 0) : (if pa = 0 ∧ x.f1 ≠ 0 then some 4 else if pb = 0 ∧ x.f2 ≠ 0 then some 4 else if pc = 0 ∧ x.f3 ≠ 0 then some 4 else if pk = 0 ∧ x.f4 ≠ 0 then some 4 else E) = some 4 := by
  rw [if_neg (h.1 (by omega)), if_pos ⟨hp, hq⟩]
theorem form_no2 (h : formTo x pa pb pc pk 2) (hp : pc = 0) (hq : ¬ x.f3 = 0) : (if pa = 0 ∧ x.f1 ≠ 0 then some 4 else if pb = 0 ∧ x.f2 ≠ 0 then some 4 else if pc = 0 ∧ x.f3 ≠ 0 then some 4 else if pk = 0 ∧ x.f4 ≠ 0 then some 4 else E) = some 4 := by
  rw [if_neg (h.1 (by omega)), if_neg (h.2.1 (by omega)), if_pos ⟨hp, hq⟩]
theorem form_no3 (h : formTo x pa pb pc pk 3) (hp : pk = 0) (hq : ¬ x.f4 = 0) : (if pa = 0 ∧ x.f1 ≠ 0 then some 4 else if pb = 0 ∧ x.f2 ≠ 0 then some 4 else if pc = 0 ∧ x.f3 ≠ 0 then some 4 else if pk = 0 ∧ x.f4 ≠ 0 then some 4 else E) = some 4 := by
  rw [if_neg (h.1 (by omega)), if_neg (h.2.1 (by omega)), if_neg (h.2.2.1 (by omega)), if_pos ⟨hp, hq⟩]
theorem form_all (h : formTo x pa pb pc pk 4) : (if pa = 0 ∧ x.f1 ≠ 0 then some 4 else if pb = 0 ∧ x.f2 ≠ 0 then some 4 else if pc = 0 ∧ x.f3 ≠ 0 then some 4 else if pk = 0 ∧ x.f4 ≠ 0 then some 4 else E) = E := by
  rw [if_neg (h.1 (by omega)), if_neg (h.2.1 (by omega)), if_neg (h.2.2.1 (by omega)), if_neg (h.2.2.2 (by omega))]
theorem form_next0 (h : formTo x pa pb pc pk 0) (hq : ¬ (pa = 0 ∧ x.f1 ≠ 0)) : formTo x pa pb pc pk (0 + 1) := ⟨fun _ => hq, fun h => by omega, fun h => by omega, fun h => by omega⟩
theorem form_next1 (h : formTo x pa pb pc pk 1) (hq : ¬ (pb = 0 ∧ x.f2 ≠ 0)) : formTo x pa pb pc pk (1 + 1) := ⟨fun _ => h.1 (by omega), fun _ => hq, fun h => by omega, fun h => by omega⟩
theorem form_next2 (h : formTo x pa pb pc pk 2) (hq : ¬ (pc = 0 ∧ x.f3 ≠ 0)) : formTo x pa pb pc pk (2 + 1) := ⟨fun _ => h.1 (by omega), fun _ => h.2.1 (by omega), fun _ => hq, fun h => by omega⟩
theorem form_next3 (h : formTo x pa pb pc pk 3) (hq : ¬ (pk = 0 ∧ x.f4 ≠ 0)) : formTo x pa pb pc pk (3 + 1) := ⟨fun _ => h.1 (by omega), fun _ => h.2.1 (by omega), fun _ => h.2.2.1 (by omega), fun _ => hq⟩
end
def passTo (np lc : Nat) (x : S61) (pa pb pc pk : Int) (i : Nat) : Prop := (0 < i → fieldE np lc x.f1 pa = none) ∧ (1 < i → fieldE np lc x.f2 pb = none) ∧ (2 < i → fieldE np lc x.f3 pc = none) ∧ (3 < i → fieldE np lc x.f4 pk = none)
section
variable {np lc : Nat} {x : S61} {pa pb pc pk : Int} {E : Option Int}
theorem pass_all (h : passTo np lc x pa pb pc pk 4) : (fieldE np lc x.f1 pa).or ((fieldE np lc x.f2 pb).or ((fieldE np lc x.f3 pc).or ((fieldE np lc x.f4 pk).or E))) = E := by
  rw [h.1 (by omega), h.2.1 (by omega), h.2.2.1 (by omega), h.2.2.2 (by omega)]; rfl
theorem pass_no0 (h : passTo np lc x pa pb pc pk 0) {e : Int} (he : fieldE np lc x.f1 pa = some e) : (fieldE np lc x.f1 pa).or ((fieldE np lc x.f2 pb).or ((fieldE np lc x.f3 pc).or ((fieldE np lc x.f4 pk).or E))) = some e := by
  rw [he]; rfl
theorem pass_no1 (h : passTo np lc x pa pb pc pk 1) {e : Int} (he : fieldE np lc x.f2 pb = some e) : (fieldE np lc x.f1 pa).or ((fieldE np lc x.f2 pb).or ((fieldE np lc x.f3 pc).or ((fieldE np lc x.f4 pk).or E))) = some e := by
  rw [h.1 (by omega), he]; rfl
theorem pass_no2 (h : passTo np lc x pa pb pc pk 2) {e : Int} (he : fieldE np lc x.f3 pc = some e) : (fieldE np lc x.f1 pa).or ((fieldE np lc x.f2 pb).or ((fieldE np lc x.f3 pc).or ((fieldE np lc x.f4 pk).or E))) = some e := by
  rw [h.1 (by omega), h.2.1 (by omega), he]; rfl
theorem pass_no3 (h : passTo np lc x pa pb pc pk 3) {e : Int} (he : fieldE np lc x.f4 pk = some e) : (fieldE np lc x.f1 pa).or ((fieldE np lc x.f2 pb).or ((fieldE np lc x.f3 pc).or ((fieldE np lc x.f4 pk).or E))) = some e := by
  rw [h.1 (by omega), h.2.1 (by omega), h.2.2.1 (by omega), he]; rfl
theorem pass_next0 (h : passTo np lc x pa pb pc pk 0) (he : fieldE np lc x.f1 pa = none) : passTo np lc x pa pb pc pk (0 + 1) := ⟨fun _ => he, fun h => by omega, fun h => by omega, fun h => by omega⟩
theorem pass_next1 (h : passTo np lc x pa pb pc pk 1) (he : fieldE np lc x.f2 pb = none) : passTo np lc x pa pb pc pk (1 + 1) := ⟨fun _ => h.1 (by omega), fun _ => he, fun h => by omega, fun h => by omega⟩
theorem pass_next2 (h : passTo np lc x pa pb pc pk 2) (he : fieldE np lc x.f3 pc = none) : passTo np lc x pa pb pc pk (2 + 1) := ⟨fun _ => h.1 (by omega), fun _ => h.2.1 (by omega), fun _ => he, fun h => by omega⟩
theorem pass_next3 (h : passTo np lc x pa pb pc pk 3) (he : fieldE np lc x.f4 pk = none) : passTo np lc x pa pb pc pk (3 + 1) := ⟨fun _ => h.1 (by omega), fun _ => h.2.1 (by omega), fun _ => h.2.2.1 (by omega), fun _ => he⟩
theorem field_threeN {n : Int} (h : fieldE np lc n 3 = none) : 0 ≤ n ∧ n < np := by
  by_cases hI : inB 0 np n = true
  · simpa [inB] using hI
  · simp [fieldE, hI] at h
theorem field_oneN {n : Int} (h : fieldE np lc n 1 = none) : 0 ≤ n ∧ n < 8 := by
  by_cases hI : inB 0 8 n = true
  · simpa [inB] using hI
  · simp [fieldE, hI] at h
end
set_option maxRecDepth 100000 in
set_option maxHeartbeats 4000000 in
theorem instr_any (A : Option Addr) (c : Nat) (l : List S64) (f : Nat) (at_ : Int) (x : S61) (w : World) (hC : k64.C w A l.length l) (hf : f < l.length) :
    Calls Try.prog 56 #[.agg #[.slice A l.length c, .int .i64 f, .int .i64 at_], .agg #[.int .i64 x.f0, .int .i64 x.f1, .int .i64 x.f2, .int .i64 x.f3, .int .i64 x.f4]] w (stopPost f at_ (instrE l[f].f1.length l x) w) := by
  have hu149 := Try.underlying149
  have hu61 := Try.underlying61
  have hu178 := Try.underlying178
  have hu103 := Try.underlying103
  have hu181 := Try.underlying181
  have hse := shape_eq x.f0
  have h3 := shape_three x.f0
  obtain ⟨⟨pa, pb, pc, pk, is⟩, hsh⟩ : ∃ s, s = shapeP x.f0 := ⟨_, rfl⟩
  have hE := instrE_eq (lc := l[f].f1.length) (l := l) (x := x) hsh.symm
  rw [← hsh] at hse h3
  have hfa : ∀ (n p : Int) (w' : World), k64.C w' A l.length l → Calls Try.prog 77 #[.agg #[.slice A l.length c, .int .i64 f, .int .i64 at_], .int .i64 n, .int .i64 p] w' (stopPost f at_ (fieldE l.length l[f].f1.length n p) w') :=
    fun n p w' h => field_any A c l f at_ n p w' h hf
  obtain ⟨r, hr⟩ : ∃ r, r = instrE l[f].f1.length l x := ⟨_, rfl⟩
  rw [← hr] at hE ⊢
  clear hr
  generalize l[f].f1.length = lc at hE hfa
  have HE := Aside0.mk hE
  have HS := Aside0.mk hse
  have H3 := Aside0.mk h3
  have HC := Aside0.mk hC
  have HFA := Aside0.mk hfa
  have hi0 := fun w' => idx4 (a := .int .i64 pa) (b := .int .i64 pb) (c := .int .i64 pc) (d := .int .i64 pk) (i := 0) w' (.inl ⟨rfl, rfl⟩)
  have hi1 := fun w' => idx4 (a := .int .i64 pa) (b := .int .i64 pb) (c := .int .i64 pc) (d := .int .i64 pk) (i := 1) w' (.inr (.inl ⟨rfl, rfl⟩))
  have hi2 := fun w' => idx4 (a := .int .i64 pa) (b := .int .i64 pb) (c := .int .i64 pc) (d := .int .i64 pk) (i := 2) w' (.inr (.inr (.inl ⟨rfl, rfl⟩)))
  have hi3 := fun w' => idx4 (a := .int .i64 pa) (b := .int .i64 pb) (c := .int .i64 pc) (d := .int .i64 pk) (i := 3) w' (.inr (.inr (.inr ⟨rfl, rfl⟩)))
  have HX := Aside0.mk (IW.start w A l.length c f at_ x)
  clear hse h3 hsh hE hC hf hfa
  go_enter Try.func56, Try.ntmps56
  go_wp2_with fail
  refine (valid_shapeOf.calls 3 x.f0 pa pb pc pk is _ HS.out).mono ?_
  rintro e w1 ⟨rfl, hb1⟩
  have hx1 := HX.out.keep (Keep.of_belowB (hb1.mono HX.out.size))
  clear HX hb1
  have HX := Aside0.mk hx1
  have hx2 := hx1.keep ((Keep.refl (fun b => w.heap.size + 2 ≤ b) w1).alloc (.cells #[.int .i64 pa, .int .i64 pb, .int .i64 pc, .int .i64 pk] 178))
  have hg := alloc_blk w1 (.cells #[.int .i64 pa, .int .i64 pb, .int .i64 pc, .int .i64 pk] 178)
  have hg4 := HX.out.size
  have c0 := blk_cell hx2.b0 0
  have c1 := blk_cell hx2.b0 1
  have c2 := blk_cell hx2.b0 2
  clear hx1 HX
  have HX := Aside0.mk (And.intro hx2 (And.intro hg hg4))
  clear hx2 hg hg4
  go_wp2_with fail
  clear c0 c1 c2
  obtain ⟨hx2, hg, hg4⟩ := HX.out
  clear HX
  generalize w1.heap.size = g4 at hg hg4 ⊢
  generalize w1.alloc (.cells #[.int .i64 pa, .int .i64 pb, .int .i64 pc, .int .i64 pk] 178) = w2 at hx2 hg ⊢
  clear w1
  have HX := Aside0.mk (And.intro hx2 (And.intro hg hg4))
  clear hx2 hg hg4
  refine (need_any A l.length c f at_ 4 is w2).mono ?_
  rintro e w3 ⟨hb3, he⟩
  cases is with
  | false => 
    have hr : r = some 4 := HE.out
    subst hr
    subst he
    exact ⟨rfl, HX.out.1.below.trans (hb3.mono HX.out.1.below.size), rfl⟩
  | true =>
  subst he
  have hx3 := HX.out.1.keep (Keep.of_belowB (hb3.mono HX.out.1.size))
  have hg3 := (hb3.block _ (blk_lt HX.out.2.1)).trans HX.out.2.1
  have hg4 := HX.out.2.2
  clear HX hb3
  have HX := Aside0.mk (And.intro hx3 (And.intro hg3 hg4))
  clear hx3 hg3 hg4 w2
  have he := HE.out
  rw [if_neg (by simp)] at he
  clear HE
  have HE := Aside0.mk he
  clear he
  go_wp2_with fail
  refine wp_region_seq2 (fun w' => Below w3.heap.size w3 w') [] [.take 0, .take 1, .take 2, .take 3, .take 4, .take 5, .take 6, .take 7, .take 8, .take 9, .take 10, .take 11, .take 12, .take 13, .take 14, .take 15, .take 16, .take 17, .pair 18 19, .op 20, .op 21] (by kernel_rfl) (by kernel_rfl) rfl (by kernel_rfl) (panic_via (P := Try.prog) (fn := Try.f56) (fun _ _ _ => rfl)) ?_
  have hs : Below w3.heap.size w3 w3.drew := (Below.refl _ _).drew
  repeat (
    (first
      | (refine runSeq2_take (v := ?_) (by rfl) (by rfl) (fun w' hS => ?_) hs ?_
         rotate_left
         · (have hX := HX.out.1.keep (Keep.of_belowB (hS.mono HX.out.1.size)); have c1 := blk_cell hX.b1 1; have c2 := blk_cell hX.b1 2; have c3 := blk_cell hX.b1 3; have c4 := blk_cell hX.b1 4; have hG := (hS.block _ (blk_lt HX.out.2.1)).trans HX.out.2.1; have g0 := blk_cell hG 0; have g1 := blk_cell hG 1; have g2 := blk_cell hG 2; have g3 := blk_cell hG 3; go_simp; exact rfl))
      | refine runSeq2_skip (by rfl) (by rfl) hs ?_)
    (try simp only [Act.put, List.setIfInBounds_toArray, List.set_cons_zero, List.set_cons_succ]))
  refine runSeq2_two (di := 6) (dj := 7) (Zi := .cells #[.int .i64 0, .int .i64 0, .int .i64 0, .int .i64 0] 103 (0, 0)) (Zj := .cells #[.int .i64 0, .int .i64 0, .int .i64 0, .int .i64 0] 181 (0, 0)) (by rfl) (by rfl) rfl rfl (by intro a w K h; go_simp; exact h) (by intro a w K h; go_simp; exact h) (by decide) (fun w' h o => h.alloc h.size o) hs ?_
  intro b6 b7 w4 hs4 h67 h6 h7 hz6 hz7
  replace h6 : w3.heap.size ≤ b6 := h6
  replace h7 : w3.heap.size ≤ b7 := h7
  (try simp only [Act.put, List.setIfInBounds_toArray, List.set_cons_zero, List.set_cons_succ])
  have hs6 := ((((hs4.setCell (p := ⟨b6, 0, none⟩) h6 (.int .i64 x.f1)).setCell (p := ⟨b6, 1, none⟩) h6 (.int .i64 x.f2)).setCell (p := ⟨b6, 2, none⟩) h6 (.int .i64 x.f3)).setCell (p := ⟨b6, 3, none⟩) h6 (.int .i64 x.f4))
  have e6 := blk_set (blk_set (blk_set (blk_set hz6 0 (.int .i64 x.f1)) 1 (.int .i64 x.f2)) 2 (.int .i64 x.f3)) 3 (.int .i64 x.f4)
  have e7 := blk_other (blk_other (blk_other (blk_other hz7 (Ne.symm h67) 0 (.int .i64 x.f1)) (Ne.symm h67) 1 (.int .i64 x.f2)) (Ne.symm h67) 2 (.int .i64 x.f3)) (Ne.symm h67) 3 (.int .i64 x.f4)
  have G := Aside0.mk (And.intro hs6 (And.intro e6 e7))
  have c0 := blk_cell hz6 0
  have c1 := blk_cell hz6 1
  have c2 := blk_cell hz6 2
  have c3 := blk_cell hz6 3
  have f0 := blk_frozen hz6 0
  have f1 := blk_frozen hz6 1
  have f2 := blk_frozen hz6 2
  have f3 := blk_frozen hz6 3
  clear hs6 e6 e7 hz7 hs4 hs
  refine runSeq2_op (by rfl) (by rfl) (fun K hK => ?_)
  go_simp
  refine hK _ _ G.out.1 ?_
  clear hK K c0 c1 c2 c3 f0 f1 f2 f3 hz6
  obtain ⟨hs5, e6, e7⟩ := G.out
  clear G
  generalize (((w4.setCell ⟨b6, 0, none⟩ (.int .i64 x.f1)).setCell ⟨b6, 1, none⟩ (.int .i64 x.f2)).setCell ⟨b6, 2, none⟩ (.int .i64 x.f3)).setCell ⟨b6, 3, none⟩ (.int .i64 x.f4) = w5 at hs5 e6 e7 ⊢
  clear w4
  have hs7 := ((((hs5.setCell (p := ⟨b7, 0, none⟩) h7 (.int .i64 pa)).setCell (p := ⟨b7, 1, none⟩) h7 (.int .i64 pb)).setCell (p := ⟨b7, 2, none⟩) h7 (.int .i64 pc)).setCell (p := ⟨b7, 3, none⟩) h7 (.int .i64 pk))
  have e7' := blk_set (blk_set (blk_set (blk_set e7 0 (.int .i64 pa)) 1 (.int .i64 pb)) 2 (.int .i64 pc)) 3 (.int .i64 pk)
  have e6' := blk_other (blk_other (blk_other (blk_other e6 h67 0 (.int .i64 pa)) h67 1 (.int .i64 pb)) h67 2 (.int .i64 pc)) h67 3 (.int .i64 pk)
  have G := Aside0.mk (And.intro hs7 (And.intro e6' e7'))
  have c0 := blk_cell e7 0
  have c1 := blk_cell e7 1
  have c2 := blk_cell e7 2
  have c3 := blk_cell e7 3
  have f0 := blk_frozen e7 0
  have f1 := blk_frozen e7 1
  have f2 := blk_frozen e7 2
  have f3 := blk_frozen e7 3
  clear hs7 e7' e6' e6 hs5
  refine runSeq2_op (by rfl) (by rfl) (fun K hK => ?_)
  go_simp
  refine hK _ _ G.out.1 ?_
  clear hK K c0 c1 c2 c3 f0 f1 f2 f3 e7
  obtain ⟨hs6, e6, e7⟩ := G.out
  clear G
  generalize (((w5.setCell ⟨b7, 0, none⟩ (.int .i64 pa)).setCell ⟨b7, 1, none⟩ (.int .i64 pb)).setCell ⟨b7, 2, none⟩ (.int .i64 pc)).setCell ⟨b7, 3, none⟩ (.int .i64 pk) = w6 at hs6 e6 e7 ⊢
  clear w5
  refine runSeq2_nil ?_
  have hx6 := HX.out.1.keep (Keep.of_belowB (hs6.mono HX.out.1.size))
  have hg6 := (hs6.block _ (blk_lt HX.out.2.1)).trans HX.out.2.1
  have HJ := Aside0.mk (JW.mk hx6 hg6 e6 e7)
  have c0 := blk_cell e7 0
  have c1 := blk_cell e7 1
  have c2 := blk_cell e7 2
  have c3 := blk_cell e7 3
  clear hx6 hg6 HX hs6 e6 e7 h67 h6 h7 w3
  go_wp2_with fail
  clear c0 c1 c2 c3
  go_loopw [40] (fun v40 wr => ∃ i : Nat, v40 = .int .i64 i ∧ i ≤ 4 ∧ Aside0 (formTo x pa pb pc pk i) ∧ Aside0 (JW w A l.length c f at_ x g4 b6 b7 pa pb pc pk wr)) (fun v40 _ => 4 - (intOf v40).toNat)
  case atStart => exact ⟨0, rfl, by omega, ⟨by simp [formTo]⟩, HJ⟩
  case round =>
    clear HJ w6
    obtain ⟨i, rfl, hi, HFT, HJ⟩ := hrel
    by_cases hlt : i < 4
    · have : i = 0 ∨ i = 1 ∨ i = 2 ∨ i = 3 := by omega
      clear hlt hi
      rcases this with rfl | rfl | rfl | rfl
      · skip
        go_wp2_with fail
        by_cases hp : pa = 0
        · by_cases hq : x.f1 = 0
          · have HFN := Aside0.mk (form_next0 HFT.out (fun h => h.2 hq))
            have hp2 : (pa != 0) = false := by rw [hp]; rfl
            have hq2 : (x.f1 == 0) = true := by rw [hq]; rfl
            clear hp hq
            refine wp_region_seq (fun w' => Below wr.heap.size wr w') [9] [.take 0, .take 1, .take 2, .take 3, .take 4, .take 5, .take 6, .take 7, .take 8, .fin 9] (by kernel_rfl) (by kernel_rfl) rfl (by kernel_rfl) (panic_via (P := Try.prog) (fn := Try.f56) (fun _ _ _ => rfl)) ?_
            have hs : Below wr.heap.size wr wr.drew := (Below.refl _ _).drew
            repeat (
              (first
                | (refine runSeq_take (v := ?_) (by rfl) (by rfl) (fun w' hS => ?_) hs ?_
                   rotate_left
                   · (have hJ := HJ.out.keep hS; have c0 := blk_cell hJ.iw.b0 0; have c1 := blk_cell hJ.iw.b0 1; have c2 := blk_cell hJ.iw.b0 2; have d := blk_cell hJ.h6 0; go_simp; exact rfl))
                | refine runSeq_skip (by rfl) (by rfl) hs ?_)
              (try simp only [Act.put, List.setIfInBounds_toArray, List.set_cons_zero, List.set_cons_succ]))
            refine runSeq_fin (by rfl) (by rfl) (fun K hK => ?_)
            go_simp
            clear hp2 hq2
            refine (need_ok A l.length c f at_ 4 _).mono ?_
            rintro e w'' ⟨rfl, hb⟩
            refine hK _ _ ?_
            clear hK K
            refine runSeq_nil ?_
            have hj2 := HJ.out.keep (hs.trans (hb.mono hs.size))
            clear HJ hs hb
            have HJ := Aside0.mk hj2
            clear hj2
            go_wp2_with fail
            go_roundw
            case rel => exact ⟨0 + 1, by go_num, by omega, HFN, HJ⟩
            case measure => simp [intOf]
          · have HR := Aside0.mk (HE.out.trans (form_no0 HFT.out hp hq))
            have hp2 : (pa != 0) = false := by rw [hp]; rfl
            have hq2 : (x.f1 == 0) = false := by simp [hq]
            clear hp hq
            refine wp_region_seq (fun w' => Below wr.heap.size wr w') [9] [.take 0, .take 1, .take 2, .take 3, .take 4, .take 5, .take 6, .take 7, .take 8, .fin 9] (by kernel_rfl) (by kernel_rfl) rfl (by kernel_rfl) (panic_via (P := Try.prog) (fn := Try.f56) (fun _ _ _ => rfl)) ?_
            have hs : Below wr.heap.size wr wr.drew := (Below.refl _ _).drew
            repeat (
              (first
                | (refine runSeq_take (v := ?_) (by rfl) (by rfl) (fun w' hS => ?_) hs ?_
                   rotate_left
                   · (have hJ := HJ.out.keep hS; have c0 := blk_cell hJ.iw.b0 0; have c1 := blk_cell hJ.iw.b0 1; have c2 := blk_cell hJ.iw.b0 2; have d := blk_cell hJ.h6 0; go_simp; exact rfl))
                | refine runSeq_skip (by rfl) (by rfl) hs ?_)
              (try simp only [Act.put, List.setIfInBounds_toArray, List.set_cons_zero, List.set_cons_succ]))
            refine runSeq_fin (by rfl) (by rfl) (fun K hK => ?_)
            go_simp
            refine (need_no A l.length c f at_ 4 _).mono ?_
            rintro e w'' ⟨rfl, hb⟩
            have hr := HR.out
            subst hr
            exact ⟨rfl, HJ.out.iw.below.trans ((hs.trans (hb.mono hs.size)).mono HJ.out.iw.below.size), rfl⟩
        · have HFN := Aside0.mk (form_next0 HFT.out (fun h => hp h.1))
          have hp2 : (pa != 0) = true := by simp [hp]
          clear hp
          refine wp_region_seq (fun w' => Below wr.heap.size wr w') [9] [.take 0, .take 1, .take 2, .take 3, .take 4, .take 5, .take 6, .take 7, .take 8, .fin 9] (by kernel_rfl) (by kernel_rfl) rfl (by kernel_rfl) (panic_via (P := Try.prog) (fn := Try.f56) (fun _ _ _ => rfl)) ?_
          have hs : Below wr.heap.size wr wr.drew := (Below.refl _ _).drew
          repeat (
            (first
              | (refine runSeq_take (v := ?_) (by rfl) (by rfl) (fun w' hS => ?_) hs ?_
                 rotate_left
                 · (have hJ := HJ.out.keep hS; have c0 := blk_cell hJ.iw.b0 0; have c1 := blk_cell hJ.iw.b0 1; have c2 := blk_cell hJ.iw.b0 2; have d := blk_cell hJ.h6 0; go_simp; exact rfl))
              | refine runSeq_skip (by rfl) (by rfl) hs ?_)
            (try simp only [Act.put, List.setIfInBounds_toArray, List.set_cons_zero, List.set_cons_succ]))
          refine runSeq_fin (by rfl) (by rfl) (fun K hK => ?_)
          go_simp
          clear hp2
          refine (need_ok A l.length c f at_ 4 _).mono ?_
          rintro e w'' ⟨rfl, hb⟩
          refine hK _ _ ?_
          clear hK K
          refine runSeq_nil ?_
          have hj2 := HJ.out.keep (hs.trans (hb.mono hs.size))
          clear HJ hs hb
          have HJ := Aside0.mk hj2
          clear hj2
          go_wp2_with fail
          go_roundw
          case rel => exact ⟨0 + 1, by go_num, by omega, HFN, HJ⟩
          case measure => simp [intOf]
      · skip
        go_wp2_with fail
        by_cases hp : pb = 0
        · by_cases hq : x.f2 = 0
          · have HFN := Aside0.mk (form_next1 HFT.out (fun h => h.2 hq))
            have hp2 : (pb != 0) = false := by rw [hp]; rfl
            have hq2 : (x.f2 == 0) = true := by rw [hq]; rfl
            clear hp hq
            refine wp_region_seq (fun w' => Below wr.heap.size wr w') [9] [.take 0, .take 1, .take 2, .take 3, .take 4, .take 5, .take 6, .take 7, .take 8, .fin 9] (by kernel_rfl) (by kernel_rfl) rfl (by kernel_rfl) (panic_via (P := Try.prog) (fn := Try.f56) (fun _ _ _ => rfl)) ?_
            have hs : Below wr.heap.size wr wr.drew := (Below.refl _ _).drew
            repeat (
              (first
                | (refine runSeq_take (v := ?_) (by rfl) (by rfl) (fun w' hS => ?_) hs ?_
                   rotate_left
                   · (have hJ := HJ.out.keep hS; have c0 := blk_cell hJ.iw.b0 0; have c1 := blk_cell hJ.iw.b0 1; have c2 := blk_cell hJ.iw.b0 2; have d := blk_cell hJ.h6 1; go_simp; exact rfl))
                | refine runSeq_skip (by rfl) (by rfl) hs ?_)
              (try simp only [Act.put, List.setIfInBounds_toArray, List.set_cons_zero, List.set_cons_succ]))
            refine runSeq_fin (by rfl) (by rfl) (fun K hK => ?_)
            go_simp
            clear hp2 hq2
            refine (need_ok A l.length c f at_ 4 _).mono ?_
            rintro e w'' ⟨rfl, hb⟩
            refine hK _ _ ?_
            clear hK K
            refine runSeq_nil ?_
            have hj2 := HJ.out.keep (hs.trans (hb.mono hs.size))
            clear HJ hs hb
            have HJ := Aside0.mk hj2
            clear hj2
            go_wp2_with fail
            go_roundw
            case rel => exact ⟨1 + 1, by go_num, by omega, HFN, HJ⟩
            case measure => simp [intOf]
          · have HR := Aside0.mk (HE.out.trans (form_no1 HFT.out hp hq))
            have hp2 : (pb != 0) = false := by rw [hp]; rfl
            have hq2 : (x.f2 == 0) = false := by simp [hq]
            clear hp hq
            refine wp_region_seq (fun w' => Below wr.heap.size wr w') [9] [.take 0, .take 1, .take 2, .take 3, .take 4, .take 5, .take 6, .take 7, .take 8, .fin 9] (by kernel_rfl) (by kernel_rfl) rfl (by kernel_rfl) (panic_via (P := Try.prog) (fn := Try.f56) (fun _ _ _ => rfl)) ?_
            have hs : Below wr.heap.size wr wr.drew := (Below.refl _ _).drew
            repeat (
              (first
                | (refine runSeq_take (v := ?_) (by rfl) (by rfl) (fun w' hS => ?_) hs ?_
                   rotate_left
                   · (have hJ := HJ.out.keep hS; have c0 := blk_cell hJ.iw.b0 0; have c1 := blk_cell hJ.iw.b0 1; have c2 := blk_cell hJ.iw.b0 2; have d := blk_cell hJ.h6 1; go_simp; exact rfl))
                | refine runSeq_skip (by rfl) (by rfl) hs ?_)
              (try simp only [Act.put, List.setIfInBounds_toArray, List.set_cons_zero, List.set_cons_succ]))
            refine runSeq_fin (by rfl) (by rfl) (fun K hK => ?_)
            go_simp
            refine (need_no A l.length c f at_ 4 _).mono ?_
            rintro e w'' ⟨rfl, hb⟩
            have hr := HR.out
            subst hr
            exact ⟨rfl, HJ.out.iw.below.trans ((hs.trans (hb.mono hs.size)).mono HJ.out.iw.below.size), rfl⟩
        · have HFN := Aside0.mk (form_next1 HFT.out (fun h => hp h.1))
          have hp2 : (pb != 0) = true := by simp [hp]
          clear hp
          refine wp_region_seq (fun w' => Below wr.heap.size wr w') [9] [.take 0, .take 1, .take 2, .take 3, .take 4, .take 5, .take 6, .take 7, .take 8, .fin 9] (by kernel_rfl) (by kernel_rfl) rfl (by kernel_rfl) (panic_via (P := Try.prog) (fn := Try.f56) (fun _ _ _ => rfl)) ?_
          have hs : Below wr.heap.size wr wr.drew := (Below.refl _ _).drew
          repeat (
            (first
              | (refine runSeq_take (v := ?_) (by rfl) (by rfl) (fun w' hS => ?_) hs ?_
                 rotate_left
                 · (have hJ := HJ.out.keep hS; have c0 := blk_cell hJ.iw.b0 0; have c1 := blk_cell hJ.iw.b0 1; have c2 := blk_cell hJ.iw.b0 2; have d := blk_cell hJ.h6 1; go_simp; exact rfl))
              | refine runSeq_skip (by rfl) (by rfl) hs ?_)
            (try simp only [Act.put, List.setIfInBounds_toArray, List.set_cons_zero, List.set_cons_succ]))
          refine runSeq_fin (by rfl) (by rfl) (fun K hK => ?_)
          go_simp
          clear hp2
          refine (need_ok A l.length c f at_ 4 _).mono ?_
          rintro e w'' ⟨rfl, hb⟩
          refine hK _ _ ?_
          clear hK K
          refine runSeq_nil ?_
          have hj2 := HJ.out.keep (hs.trans (hb.mono hs.size))
          clear HJ hs hb
          have HJ := Aside0.mk hj2
          clear hj2
          go_wp2_with fail
          go_roundw
          case rel => exact ⟨1 + 1, by go_num, by omega, HFN, HJ⟩
          case measure => simp [intOf]
      · skip
        go_wp2_with fail
        by_cases hp : pc = 0
        · by_cases hq : x.f3 = 0
          · have HFN := Aside0.mk (form_next2 HFT.out (fun h => h.2 hq))
            have hp2 : (pc != 0) = false := by rw [hp]; rfl
            have hq2 : (x.f3 == 0) = true := by rw [hq]; rfl
            clear hp hq
            refine wp_region_seq (fun w' => Below wr.heap.size wr w') [9] [.take 0, .take 1, .take 2, .take 3, .take 4, .take 5, .take 6, .take 7, .take 8, .fin 9] (by kernel_rfl) (by kernel_rfl) rfl (by kernel_rfl) (panic_via (P := Try.prog) (fn := Try.f56) (fun _ _ _ => rfl)) ?_
            have hs : Below wr.heap.size wr wr.drew := (Below.refl _ _).drew
            repeat (
              (first
                | (refine runSeq_take (v := ?_) (by rfl) (by rfl) (fun w' hS => ?_) hs ?_
                   rotate_left
                   · (have hJ := HJ.out.keep hS; have c0 := blk_cell hJ.iw.b0 0; have c1 := blk_cell hJ.iw.b0 1; have c2 := blk_cell hJ.iw.b0 2; have d := blk_cell hJ.h6 2; go_simp; exact rfl))
                | refine runSeq_skip (by rfl) (by rfl) hs ?_)
              (try simp only [Act.put, List.setIfInBounds_toArray, List.set_cons_zero, List.set_cons_succ]))
            refine runSeq_fin (by rfl) (by rfl) (fun K hK => ?_)
            go_simp
            clear hp2 hq2
            refine (need_ok A l.length c f at_ 4 _).mono ?_
            rintro e w'' ⟨rfl, hb⟩
            refine hK _ _ ?_
            clear hK K
            refine runSeq_nil ?_
            have hj2 := HJ.out.keep (hs.trans (hb.mono hs.size))
            clear HJ hs hb
            have HJ := Aside0.mk hj2
            clear hj2
            go_wp2_with fail
            go_roundw
            case rel => exact ⟨2 + 1, by go_num, by omega, HFN, HJ⟩
            case measure => simp [intOf]
          · have HR := Aside0.mk (HE.out.trans (form_no2 HFT.out hp hq))
            have hp2 : (pc != 0) = false := by rw [hp]; rfl
            have hq2 : (x.f3 == 0) = false := by simp [hq]
            clear hp hq
            refine wp_region_seq (fun w' => Below wr.heap.size wr w') [9] [.take 0, .take 1, .take 2, .take 3, .take 4, .take 5, .take 6, .take 7, .take 8, .fin 9] (by kernel_rfl) (by kernel_rfl) rfl (by kernel_rfl) (panic_via (P := Try.prog) (fn := Try.f56) (fun _ _ _ => rfl)) ?_
            have hs : Below wr.heap.size wr wr.drew := (Below.refl _ _).drew
            repeat (
              (first
                | (refine runSeq_take (v := ?_) (by rfl) (by rfl) (fun w' hS => ?_) hs ?_
                   rotate_left
                   · (have hJ := HJ.out.keep hS; have c0 := blk_cell hJ.iw.b0 0; have c1 := blk_cell hJ.iw.b0 1; have c2 := blk_cell hJ.iw.b0 2; have d := blk_cell hJ.h6 2; go_simp; exact rfl))
                | refine runSeq_skip (by rfl) (by rfl) hs ?_)
              (try simp only [Act.put, List.setIfInBounds_toArray, List.set_cons_zero, List.set_cons_succ]))
            refine runSeq_fin (by rfl) (by rfl) (fun K hK => ?_)
            go_simp
            refine (need_no A l.length c f at_ 4 _).mono ?_
            rintro e w'' ⟨rfl, hb⟩
            have hr := HR.out
            subst hr
            exact ⟨rfl, HJ.out.iw.below.trans ((hs.trans (hb.mono hs.size)).mono HJ.out.iw.below.size), rfl⟩
        · have HFN := Aside0.mk (form_next2 HFT.out (fun h => hp h.1))
          have hp2 : (pc != 0) = true := by simp [hp]
          clear hp
          refine wp_region_seq (fun w' => Below wr.heap.size wr w') [9] [.take 0, .take 1, .take 2, .take 3, .take 4, .take 5, .take 6, .take 7, .take 8, .fin 9] (by kernel_rfl) (by kernel_rfl) rfl (by kernel_rfl) (panic_via (P := Try.prog) (fn := Try.f56) (fun _ _ _ => rfl)) ?_
          have hs : Below wr.heap.size wr wr.drew := (Below.refl _ _).drew
          repeat (
            (first
              | (refine runSeq_take (v := ?_) (by rfl) (by rfl) (fun w' hS => ?_) hs ?_
                 rotate_left
                 · (have hJ := HJ.out.keep hS; have c0 := blk_cell hJ.iw.b0 0; have c1 := blk_cell hJ.iw.b0 1; have c2 := blk_cell hJ.iw.b0 2; have d := blk_cell hJ.h6 2; go_simp; exact rfl))
              | refine runSeq_skip (by rfl) (by rfl) hs ?_)
            (try simp only [Act.put, List.setIfInBounds_toArray, List.set_cons_zero, List.set_cons_succ]))
          refine runSeq_fin (by rfl) (by rfl) (fun K hK => ?_)
          go_simp
          clear hp2
          refine (need_ok A l.length c f at_ 4 _).mono ?_
          rintro e w'' ⟨rfl, hb⟩
          refine hK _ _ ?_
          clear hK K
          refine runSeq_nil ?_
          have hj2 := HJ.out.keep (hs.trans (hb.mono hs.size))
          clear HJ hs hb
          have HJ := Aside0.mk hj2
          clear hj2
          go_wp2_with fail
          go_roundw
          case rel => exact ⟨2 + 1, by go_num, by omega, HFN, HJ⟩
          case measure => simp [intOf]
      · skip
        go_wp2_with fail
        by_cases hp : pk = 0
        · by_cases hq : x.f4 = 0
          · have HFN := Aside0.mk (form_next3 HFT.out (fun h => h.2 hq))
            have hp2 : (pk != 0) = false := by rw [hp]; rfl
            have hq2 : (x.f4 == 0) = true := by rw [hq]; rfl
            clear hp hq
            refine wp_region_seq (fun w' => Below wr.heap.size wr w') [9] [.take 0, .take 1, .take 2, .take 3, .take 4, .take 5, .take 6, .take 7, .take 8, .fin 9] (by kernel_rfl) (by kernel_rfl) rfl (by kernel_rfl) (panic_via (P := Try.prog) (fn := Try.f56) (fun _ _ _ => rfl)) ?_
            have hs : Below wr.heap.size wr wr.drew := (Below.refl _ _).drew
            repeat (
              (first
                | (refine runSeq_take (v := ?_) (by rfl) (by rfl) (fun w' hS => ?_) hs ?_
                   rotate_left
                   · (have hJ := HJ.out.keep hS; have c0 := blk_cell hJ.iw.b0 0; have c1 := blk_cell hJ.iw.b0 1; have c2 := blk_cell hJ.iw.b0 2; have d := blk_cell hJ.h6 3; go_simp; exact rfl))
                | refine runSeq_skip (by rfl) (by rfl) hs ?_)
              (try simp only [Act.put, List.setIfInBounds_toArray, List.set_cons_zero, List.set_cons_succ]))
            refine runSeq_fin (by rfl) (by rfl) (fun K hK => ?_)
            go_simp
            clear hp2 hq2
            refine (need_ok A l.length c f at_ 4 _).mono ?_
            rintro e w'' ⟨rfl, hb⟩
            refine hK _ _ ?_
            clear hK K
            refine runSeq_nil ?_
            have hj2 := HJ.out.keep (hs.trans (hb.mono hs.size))
            clear HJ hs hb
            have HJ := Aside0.mk hj2
            clear hj2
            go_wp2_with fail
            go_roundw
            case rel => exact ⟨3 + 1, by go_num, by omega, HFN, HJ⟩
            case measure => simp [intOf]
          · have HR := Aside0.mk (HE.out.trans (form_no3 HFT.out hp hq))
            have hp2 : (pk != 0) = false := by rw [hp]; rfl
            have hq2 : (x.f4 == 0) = false := by simp [hq]
            clear hp hq
            refine wp_region_seq (fun w' => Below wr.heap.size wr w') [9] [.take 0, .take 1, .take 2, .take 3, .take 4, .take 5, .take 6, .take 7, .take 8, .fin 9] (by kernel_rfl) (by kernel_rfl) rfl (by kernel_rfl) (panic_via (P := Try.prog) (fn := Try.f56) (fun _ _ _ => rfl)) ?_
            have hs : Below wr.heap.size wr wr.drew := (Below.refl _ _).drew
            repeat (
              (first
                | (refine runSeq_take (v := ?_) (by rfl) (by rfl) (fun w' hS => ?_) hs ?_
                   rotate_left
                   · (have hJ := HJ.out.keep hS; have c0 := blk_cell hJ.iw.b0 0; have c1 := blk_cell hJ.iw.b0 1; have c2 := blk_cell hJ.iw.b0 2; have d := blk_cell hJ.h6 3; go_simp; exact rfl))
                | refine runSeq_skip (by rfl) (by rfl) hs ?_)
              (try simp only [Act.put, List.setIfInBounds_toArray, List.set_cons_zero, List.set_cons_succ]))
            refine runSeq_fin (by rfl) (by rfl) (fun K hK => ?_)
            go_simp
            refine (need_no A l.length c f at_ 4 _).mono ?_
            rintro e w'' ⟨rfl, hb⟩
            have hr := HR.out
            subst hr
            exact ⟨rfl, HJ.out.iw.below.trans ((hs.trans (hb.mono hs.size)).mono HJ.out.iw.below.size), rfl⟩
        · have HFN := Aside0.mk (form_next3 HFT.out (fun h => hp h.1))
          have hp2 : (pk != 0) = true := by simp [hp]
          clear hp
          refine wp_region_seq (fun w' => Below wr.heap.size wr w') [9] [.take 0, .take 1, .take 2, .take 3, .take 4, .take 5, .take 6, .take 7, .take 8, .fin 9] (by kernel_rfl) (by kernel_rfl) rfl (by kernel_rfl) (panic_via (P := Try.prog) (fn := Try.f56) (fun _ _ _ => rfl)) ?_
          have hs : Below wr.heap.size wr wr.drew := (Below.refl _ _).drew
          repeat (
            (first
              | (refine runSeq_take (v := ?_) (by rfl) (by rfl) (fun w' hS => ?_) hs ?_
                 rotate_left
                 · (have hJ := HJ.out.keep hS; have c0 := blk_cell hJ.iw.b0 0; have c1 := blk_cell hJ.iw.b0 1; have c2 := blk_cell hJ.iw.b0 2; have d := blk_cell hJ.h6 3; go_simp; exact rfl))
              | refine runSeq_skip (by rfl) (by rfl) hs ?_)
            (try simp only [Act.put, List.setIfInBounds_toArray, List.set_cons_zero, List.set_cons_succ]))
          refine runSeq_fin (by rfl) (by rfl) (fun K hK => ?_)
          go_simp
          clear hp2
          refine (need_ok A l.length c f at_ 4 _).mono ?_
          rintro e w'' ⟨rfl, hb⟩
          refine hK _ _ ?_
          clear hK K
          refine runSeq_nil ?_
          have hj2 := HJ.out.keep (hs.trans (hb.mono hs.size))
          clear HJ hs hb
          have HJ := Aside0.mk hj2
          clear hj2
          go_wp2_with fail
          go_roundw
          case rel => exact ⟨3 + 1, by go_num, by omega, HFN, HJ⟩
          case measure => simp [intOf]
    · obtain rfl : i = 4 := by omega
      clear hlt hi
      rw [show ((4 : Nat) : Int) = 4 from rfl]
      have c0 := blk_cell HJ.out.h7 0
      have c1 := blk_cell HJ.out.h7 1
      have c2 := blk_cell HJ.out.h7 2
      have c3 := blk_cell HJ.out.h7 3
      go_wp2_with fail
      clear c0 c1 c2 c3
      have he := HE.out.trans (form_all HFT.out)
      clear HE HFT
      have HE := Aside0.mk he
      clear he
      go_loopw [56] (fun v56 wr => ∃ i : Nat, v56 = .int .i64 i ∧ i ≤ 4 ∧ Aside0 (passTo l.length lc x pa pb pc pk i) ∧ Aside0 (JW w A l.length c f at_ x g4 b6 b7 pa pb pc pk wr)) (fun v56 _ => 4 - (intOf v56).toNat)
      case atStart => exact ⟨0, rfl, by omega, ⟨by simp [passTo]⟩, HJ⟩
      case round =>
        clear HJ
        obtain ⟨i, rfl, hi, HFT, HJ⟩ := hrel
        by_cases hlt : i < 4
        · have : i = 0 ∨ i = 1 ∨ i = 2 ∨ i = 3 := by omega
          clear hlt hi
          rcases this with rfl | rfl | rfl | rfl
          · skip
            go_wp2_with fail
            refine wp_region_seq (fun w' => Below wr.heap.size wr w') [5] [.take 0, .take 1, .take 2, .take 3, .take 4, .fin 5] (by kernel_rfl) (by kernel_rfl) rfl (by kernel_rfl) (panic_via (P := Try.prog) (fn := Try.f56) (fun _ _ _ => rfl)) ?_
            have hs : Below wr.heap.size wr wr.drew := (Below.refl _ _).drew
            repeat (
              (first
                | (refine runSeq_take (v := ?_) (by rfl) (by rfl) (fun w' hS => ?_) hs ?_
                   rotate_left
                   · (have hJ := HJ.out.keep hS; have c0 := blk_cell hJ.iw.b0 0; have c1 := blk_cell hJ.iw.b0 1; have c2 := blk_cell hJ.iw.b0 2; have d := blk_cell hJ.h6 0; go_simp; exact rfl))
                | refine runSeq_skip (by rfl) (by rfl) hs ?_)
              (try simp only [Act.put, List.setIfInBounds_toArray, List.set_cons_zero, List.set_cons_succ]))
            refine runSeq_fin (by rfl) (by rfl) (fun K hK => ?_)
            go_simp
            refine (HFA.out x.f1 pa _ (Kd.C_below HC.out (HJ.out.iw.below.trans (hs.mono HJ.out.iw.below.size)))).mono ?_
            rintro e w'' ⟨hb, he⟩
            have hj2 := HJ.out.keep (hs.trans (hb.mono hs.size))
            clear HJ hs hb
            have HJ := Aside0.mk hj2
            clear hj2
            cases hE : fieldE l.length lc x.f1 pa with
            | some q =>
              rw [hE] at he
              subst he
              have hr := HE.out.trans (pass_no0 HFT.out hE)
              subst hr
              exact ⟨rfl, HJ.out.iw.below, rfl⟩
            | none =>
            rw [hE] at he
            subst he
            have HFN := Aside0.mk (pass_next0 HFT.out hE)
            clear hE
            refine hK _ _ ?_
            clear hK K
            refine runSeq_nil ?_
            go_wp2_with fail
            go_roundw
            case rel => exact ⟨0 + 1, by go_num, by omega, HFN, HJ⟩
            case measure => simp [intOf]
          · skip
            go_wp2_with fail
            refine wp_region_seq (fun w' => Below wr.heap.size wr w') [5] [.take 0, .take 1, .take 2, .take 3, .take 4, .fin 5] (by kernel_rfl) (by kernel_rfl) rfl (by kernel_rfl) (panic_via (P := Try.prog) (fn := Try.f56) (fun _ _ _ => rfl)) ?_
            have hs : Below wr.heap.size wr wr.drew := (Below.refl _ _).drew
            repeat (
              (first
                | (refine runSeq_take (v := ?_) (by rfl) (by rfl) (fun w' hS => ?_) hs ?_
                   rotate_left
                   · (have hJ := HJ.out.keep hS; have c0 := blk_cell hJ.iw.b0 0; have c1 := blk_cell hJ.iw.b0 1; have c2 := blk_cell hJ.iw.b0 2; have d := blk_cell hJ.h6 1; go_simp; exact rfl))
                | refine runSeq_skip (by rfl) (by rfl) hs ?_)
              (try simp only [Act.put, List.setIfInBounds_toArray, List.set_cons_zero, List.set_cons_succ]))
            refine runSeq_fin (by rfl) (by rfl) (fun K hK => ?_)
            go_simp
            refine (HFA.out x.f2 pb _ (Kd.C_below HC.out (HJ.out.iw.below.trans (hs.mono HJ.out.iw.below.size)))).mono ?_
            rintro e w'' ⟨hb, he⟩
            have hj2 := HJ.out.keep (hs.trans (hb.mono hs.size))
            clear HJ hs hb
            have HJ := Aside0.mk hj2
            clear hj2
            cases hE : fieldE l.length lc x.f2 pb with
            | some q =>
              rw [hE] at he
              subst he
              have hr := HE.out.trans (pass_no1 HFT.out hE)
              subst hr
              exact ⟨rfl, HJ.out.iw.below, rfl⟩
            | none =>
            rw [hE] at he
            subst he
            have HFN := Aside0.mk (pass_next1 HFT.out hE)
            clear hE
            refine hK _ _ ?_
            clear hK K
            refine runSeq_nil ?_
            go_wp2_with fail
            go_roundw
            case rel => exact ⟨1 + 1, by go_num, by omega, HFN, HJ⟩
            case measure => simp [intOf]
          · skip
            go_wp2_with fail
            refine wp_region_seq (fun w' => Below wr.heap.size wr w') [5] [.take 0, .take 1, .take 2, .take 3, .take 4, .fin 5] (by kernel_rfl) (by kernel_rfl) rfl (by kernel_rfl) (panic_via (P := Try.prog) (fn := Try.f56) (fun _ _ _ => rfl)) ?_
            have hs : Below wr.heap.size wr wr.drew := (Below.refl _ _).drew
            repeat (
              (first
                | (refine runSeq_take (v := ?_) (by rfl) (by rfl) (fun w' hS => ?_) hs ?_
                   rotate_left
                   · (have hJ := HJ.out.keep hS; have c0 := blk_cell hJ.iw.b0 0; have c1 := blk_cell hJ.iw.b0 1; have c2 := blk_cell hJ.iw.b0 2; have d := blk_cell hJ.h6 2; go_simp; exact rfl))
                | refine runSeq_skip (by rfl) (by rfl) hs ?_)
              (try simp only [Act.put, List.setIfInBounds_toArray, List.set_cons_zero, List.set_cons_succ]))
            refine runSeq_fin (by rfl) (by rfl) (fun K hK => ?_)
            go_simp
            refine (HFA.out x.f3 pc _ (Kd.C_below HC.out (HJ.out.iw.below.trans (hs.mono HJ.out.iw.below.size)))).mono ?_
            rintro e w'' ⟨hb, he⟩
            have hj2 := HJ.out.keep (hs.trans (hb.mono hs.size))
            clear HJ hs hb
            have HJ := Aside0.mk hj2
            clear hj2
            cases hE : fieldE l.length lc x.f3 pc with
            | some q =>
              rw [hE] at he
              subst he
              have hr := HE.out.trans (pass_no2 HFT.out hE)
              subst hr
              exact ⟨rfl, HJ.out.iw.below, rfl⟩
            | none =>
            rw [hE] at he
            subst he
            have HFN := Aside0.mk (pass_next2 HFT.out hE)
            clear hE
            refine hK _ _ ?_
            clear hK K
            refine runSeq_nil ?_
            go_wp2_with fail
            go_roundw
            case rel => exact ⟨2 + 1, by go_num, by omega, HFN, HJ⟩
            case measure => simp [intOf]
          · skip
            go_wp2_with fail
            refine wp_region_seq (fun w' => Below wr.heap.size wr w') [5] [.take 0, .take 1, .take 2, .take 3, .take 4, .fin 5] (by kernel_rfl) (by kernel_rfl) rfl (by kernel_rfl) (panic_via (P := Try.prog) (fn := Try.f56) (fun _ _ _ => rfl)) ?_
            have hs : Below wr.heap.size wr wr.drew := (Below.refl _ _).drew
            repeat (
              (first
                | (refine runSeq_take (v := ?_) (by rfl) (by rfl) (fun w' hS => ?_) hs ?_
                   rotate_left
                   · (have hJ := HJ.out.keep hS; have c0 := blk_cell hJ.iw.b0 0; have c1 := blk_cell hJ.iw.b0 1; have c2 := blk_cell hJ.iw.b0 2; have d := blk_cell hJ.h6 3; go_simp; exact rfl))
                | refine runSeq_skip (by rfl) (by rfl) hs ?_)
              (try simp only [Act.put, List.setIfInBounds_toArray, List.set_cons_zero, List.set_cons_succ]))
            refine runSeq_fin (by rfl) (by rfl) (fun K hK => ?_)
            go_simp
            refine (HFA.out x.f4 pk _ (Kd.C_below HC.out (HJ.out.iw.below.trans (hs.mono HJ.out.iw.below.size)))).mono ?_
            rintro e w'' ⟨hb, he⟩
            have hj2 := HJ.out.keep (hs.trans (hb.mono hs.size))
            clear HJ hs hb
            have HJ := Aside0.mk hj2
            clear hj2
            cases hE : fieldE l.length lc x.f4 pk with
            | some q =>
              rw [hE] at he
              subst he
              have hr := HE.out.trans (pass_no3 HFT.out hE)
              subst hr
              exact ⟨rfl, HJ.out.iw.below, rfl⟩
            | none =>
            rw [hE] at he
            subst he
            have HFN := Aside0.mk (pass_next3 HFT.out hE)
            clear hE
            refine hK _ _ ?_
            clear hK K
            refine runSeq_nil ?_
            go_wp2_with fail
            go_roundw
            case rel => exact ⟨3 + 1, by go_num, by omega, HFN, HJ⟩
            case measure => simp [intOf]
        · obtain rfl : i = 4 := by omega
          clear hlt hi
          have he := HE.out.trans (pass_all HFT.out)
          clear HE
          have HE := Aside0.mk he
          clear he
          have c2 := blk_cell HJ.out.h4 2
          by_cases hc3 : pc = 3
          · subst hc3
            have hb1 := H3.out rfl
            subst hb1
            have hB := field_oneN (HFT.out.2.1 (by omega))
            have hCc := field_threeN (HFT.out.2.2.1 (by omega))
            have hx3 : (x.f3.toNat : Int) = x.f3 := Int.toNat_of_nonneg hCc.1
            obtain ⟨ad, Ai, ci, rfl, p0, p1, hci, hCi⟩ := at_T64 HC.out x.f3 hCc.1 hCc.2
            have p0' := (HJ.out.iw.below.cell (World.block_lt_of_cell? w _ p0)).trans p0
            have hE2 : r = if (rd_T64 l x.f3).f0 ≤ 8 - x.f2 then none else some 6 := HE.out
            have HP := Aside0.mk (And.intro hE2 p0')
            have hw8 : wrap64 (8 - x.f2) = 8 - x.f2 := by unfold wrap64; omega
            have hlt3 : (x.f3 < (l.length : Int)) = True := eq_true hCc.2
            have h03 : (0 ≤ x.f3) = True := eq_true hCc.1
            have HW := Aside0.mk (And.intro hw8 hCc)
            clear p0 p1 hci hCi p0' hE2 hx3 hB hw8
            go_wp2_with fail
            refine wp_region_seq (fun w' => Below wr.heap.size wr w') [12] [.take 0, .take 1, .take 2, .take 3, .take 4, .take 5, .take 6, .take 7, .take 8, .take 9, .take 10, .take 11, .fin 12] (by kernel_rfl) (by kernel_rfl) rfl (by kernel_rfl) (panic_via (P := Try.prog) (fn := Try.f56) (fun _ _ _ => rfl)) ?_
            have hs : Below wr.heap.size wr wr.drew := (Below.refl _ _).drew
            clear c2
            repeat (
              (first
                | (refine runSeq_take (v := ?_) (by rfl) (by rfl) (fun w' hS => ?_) hs ?_
                   rotate_left
                   · (have hJ := HJ.out.keep hS; have c0 := blk_cell hJ.iw.b0 0; have c1 := blk_cell hJ.iw.b0 1; have c2 := blk_cell hJ.iw.b0 2; have d2 := blk_cell hJ.iw.b1 2; have d3 := blk_cell hJ.iw.b1 3; have q0 := (hS.cell (World.block_lt_of_cell? wr _ HP.out.2)).trans HP.out.2; have hw8 := HW.out.1; go_simp; exact rfl))
                | refine runSeq_skip (by rfl) (by rfl) hs ?_)
              (try simp only [Act.put, List.setIfInBounds_toArray, List.set_cons_zero, List.set_cons_succ]))
            refine runSeq_fin (by rfl) (by rfl) (fun K hK => ?_)
            go_simp
            rw [show IntKind.i64.wrap (8 - x.f2) = 8 - x.f2 from (i64_w _).trans HW.out.1]
            refine (need_any (some ad) l.length c f at_ 6 _ _).mono ?_
            rintro e w'' ⟨hb, he⟩
            have hb2 := HJ.out.iw.below.trans ((hs.trans (hb.mono hs.size)).mono HJ.out.iw.below.size)
            have hr := HP.out.1
            clear hs hb HJ
            have HB2 := Aside0.mk hb2
            clear hb2
            by_cases hle : (rd_T64 l x.f3).f0 ≤ 8 - x.f2
            · rw [if_pos (decide_eq_true hle)] at he
              rw [if_pos hle] at hr
              subst he
              refine hK _ _ ?_
              clear hK K hle
              refine runSeq_nil ?_
              have HR := Aside0.mk hr
              clear hr
              go_wp2_with fail
              go_end0
              have hr := HR.out
              subst hr
              exact ⟨HB2.out, rfl⟩
            · rw [if_neg (fun h => hle (of_decide_eq_true h))] at he
              rw [if_neg hle] at hr
              subst he
              subst hr
              exact ⟨rfl, HB2.out, rfl⟩
          · have hc3' : (pc == 3) = false := by simp [hc3]
            have hr : r = none := by rw [HE.out]; exact if_neg hc3
            have HR := Aside0.mk hr
            clear hr hc3
            go_wp2_with fail
            go_end0
            have hr := HR.out
            subst hr
            exact ⟨HJ.out.iw.below, rfl⟩
end Go.Proofs.Ytbekjccehhaljaa.H

set_option linter.unusedVariables false
set_option linter.unusedSimpArgs false
namespace Go.Proofs.Ytbekjccehhaljaa.H
open Go.RowKit Go.Hay Go.Proofs.YtbekjccehhaljaaW.PrintWords Go.Proofs.YtbekjccehhaljaaW.PrintLast Go.Proofs.YtbekjccehhaljaaW.PrintMore
theorem blk_farC {w : World} {g : Nat} {o : Obj} {p : Addr} (h : w.heap[g]? = some o) (hne : g ≠ p.block) (v : Value) : (w.setCell p v).heap[g]? = some o := (Below.heap_setCell w p v g hne).trans h
theorem assert_wrong (v : Value) (w : World) : (Instr.typeAssert (.iface 146 v) 20 146 true).run Try.prog w = .ok (.tuple #[v, .bool true]) w := by kernel_rfl
set_option maxRecDepth 100000 in
set_option maxHeartbeats 4000000 in
theorem ccatch_panicking (B : Nat) (f at_ e : Int) (w : World) (v1 v2 v3 : Value) (h1 : w.heap[B]? = some (.cells #[v1] 3 (0, 0))) (h2 : w.heap[B + 1]? = some (.cells #[v2] 3 (0, 0))) (h3 : w.heap[B + 1 + 1]? = some (.cells #[v3] 34 (0, 0))) :
    CallsD Try.prog 54 #[.pointer (some ⟨B, 0, none⟩), .pointer (some ⟨B + 1, 0, none⟩), .pointer (some ⟨B + 1 + 1, 0, none⟩)] (.panicking [{ v := wrongV f at_ e, recovered := false }]) w fun x u' w' =>
      x = .returned (.tuple #[]) ∧ u' = .panicking [{ v := wrongV f at_ e, recovered := true }] ∧ Below B w w' ∧ w'.heap[B]? = some (.cells #[.int .i64 f] 3 (0, 0)) ∧ w'.heap[B + 1]? = some (.cells #[.int .i64 at_] 3 (0, 0)) ∧ w'.heap[B + 1 + 1]? = some (.cells #[.int .i64 e] 34 (0, 0)) := by
  have hu146 := Try.underlying146
  have ha := assert_wrong (.agg #[.int .i64 f, .int .i64 at_, .int .i64 e])
  have H1 := Aside0.mk h1
  have H2 := Aside0.mk h2
  have H3 := Aside0.mk h3
  clear h1 h2 h3
  refine callsD_of_wpS Try.func54 rfl fun c₀ cs hu => ?_
  apply wpS_seq
  apply wpS_region
  simp [wpOpsS, go_sem, recoverD, hu, Try.ntmps54, Exit.thenS]
  refine wpS_body ?_
  simp only [Array.replicate_succ, Array.replicate_zero, List.push_toArray, List.append_toArray, List.nil_append, List.cons_append, List.setIfInBounds_toArray, List.set_cons_zero, List.set_cons_succ, wrongV]
  go_wp2_with fail
  have hg := alloc_blk w (.cells #[.int .i64 f, .int .i64 at_, .int .i64 e] 146)
  have g1 := blk_alloc H1.out (.cells #[.int .i64 f, .int .i64 at_, .int .i64 e] 146)
  have g2 := blk_alloc H2.out (.cells #[.int .i64 f, .int .i64 at_, .int .i64 e] 146)
  have g3 := blk_alloc H3.out (.cells #[.int .i64 f, .int .i64 at_, .int .i64 e] 146)
  have hz := blk_lt H3.out
  have hb : Below B w (w.alloc (.cells #[.int .i64 f, .int .i64 at_, .int .i64 e] 146)) := (Below.refl _ _).alloc (by omega) _
  clear H1 H2 H3
  have GS := Aside0.mk (And.intro hg (And.intro g1 (And.intro g2 (And.intro g3 (And.intro hz hb)))))
  clear hg g1 g2 g3 hz hb
  refine wp_region_seq (fun w' => w'.heap[w.heap.size]? = some (.cells #[.int .i64 f, .int .i64 at_, .int .i64 e] 146 (0, 0))) [] [.take 0, .take 1, .take 2, .take 3, .take 4, .take 5, .op 6, .op 7, .op 8] (by kernel_rfl) (by kernel_rfl) rfl (by kernel_rfl) (panic_via (P := Try.prog) (fn := Try.f54) (fun _ _ _ => rfl)) ?_
  have hs : (w.alloc (.cells #[.int .i64 f, .int .i64 at_, .int .i64 e] 146)).drew.heap[w.heap.size]? = some (.cells #[.int .i64 f, .int .i64 at_, .int .i64 e] 146 (0, 0)) := GS.out.1
  repeat (
    (first
      | (refine runSeq_take (v := ?_) (by rfl) (by rfl) (fun w' hS => ?_) hs ?_
         rotate_left
         · (have d0 := blk_cell hS 0; have d1 := blk_cell hS 1; have d2 := blk_cell hS 2; go_simp; exact rfl))
      | refine runSeq_skip (by rfl) (by rfl) hs ?_)
    (try simp only [Act.put, List.setIfInBounds_toArray, List.set_cons_zero, List.set_cons_succ]))
  obtain ⟨hg, g1, g2, g3, hz, hb⟩ := GS.out
  clear GS hs
  have hg : (w.alloc (.cells #[.int .i64 f, .int .i64 at_, .int .i64 e] 146)).drew.heap[w.heap.size]? = _ := hg
  have g1 : (w.alloc (.cells #[.int .i64 f, .int .i64 at_, .int .i64 e] 146)).drew.heap[B]? = _ := g1
  have g2 : (w.alloc (.cells #[.int .i64 f, .int .i64 at_, .int .i64 e] 146)).drew.heap[B + 1]? = _ := g2
  have g3 : (w.alloc (.cells #[.int .i64 f, .int .i64 at_, .int .i64 e] 146)).drew.heap[B + 1 + 1]? = _ := g3
  have hb := hb.drew
  generalize (w.alloc (.cells #[.int .i64 f, .int .i64 at_, .int .i64 e] 146)).drew = wa at hg g1 g2 g3 hb ⊢
  have c := blk_cell g1 0
  have fz := blk_frozen g1 0
  refine runSeq_op (by rfl) (by rfl) (fun K hK => ?_)
  go_simp
  have hg := blk_farC (p := ⟨B, 0, none⟩) hg (show w.heap.size ≠ B by omega) (.int .i64 f)
  refine hK _ _ hg ?_
  clear hK K c fz
  have n1 := g1
  have q1 := g1
  have q2 := g2
  have q3 := g3
  clear g1 g2 g3
  have g1 : (wa.setCell ⟨B, 0, none⟩ (.int .i64 f)).heap[B]? = some (.cells #[.int .i64 f] 3 (0, 0)) := by first | exact blk_farC (p := ⟨B, 0, none⟩) q1 (show B ≠ B by omega) (.int .i64 f) | exact blk_set q1 0 _
  have g2 : (wa.setCell ⟨B, 0, none⟩ (.int .i64 f)).heap[B + 1]? = some (.cells #[v2] 3 (0, 0)) := by first | exact blk_farC (p := ⟨B, 0, none⟩) q2 (show B + 1 ≠ B by omega) (.int .i64 f) | exact blk_set q2 0 _
  have g3 : (wa.setCell ⟨B, 0, none⟩ (.int .i64 f)).heap[B + 1 + 1]? = some (.cells #[v3] 34 (0, 0)) := by first | exact blk_farC (p := ⟨B, 0, none⟩) q3 (show B + 1 + 1 ≠ B by omega) (.int .i64 f) | exact blk_set q3 0 _
  have hb := Below.setCell (p := ⟨B, 0, none⟩) hb (show B ≤ B by omega) (.int .i64 f)
  clear q1 q2 q3 n1
  generalize wa.setCell ⟨B, 0, none⟩ (.int .i64 f) = wa at hg g1 g2 g3 hb ⊢
  have c := blk_cell g2 0
  have fz := blk_frozen g2 0
  refine runSeq_op (by rfl) (by rfl) (fun K hK => ?_)
  go_simp
  have hg := blk_farC (p := ⟨B + 1, 0, none⟩) hg (show w.heap.size ≠ B + 1 by omega) (.int .i64 at_)
  refine hK _ _ hg ?_
  clear hK K c fz
  have n1 := g2
  have q1 := g1
  have q2 := g2
  have q3 := g3
  clear g1 g2 g3
  have g1 : (wa.setCell ⟨B + 1, 0, none⟩ (.int .i64 at_)).heap[B]? = some (.cells #[.int .i64 f] 3 (0, 0)) := by first | exact blk_farC (p := ⟨B + 1, 0, none⟩) q1 (show B ≠ B + 1 by omega) (.int .i64 at_) | exact blk_set q1 0 _
  have g2 : (wa.setCell ⟨B + 1, 0, none⟩ (.int .i64 at_)).heap[B + 1]? = some (.cells #[.int .i64 at_] 3 (0, 0)) := by first | exact blk_farC (p := ⟨B + 1, 0, none⟩) q2 (show B + 1 ≠ B + 1 by omega) (.int .i64 at_) | exact blk_set q2 0 _
  have g3 : (wa.setCell ⟨B + 1, 0, none⟩ (.int .i64 at_)).heap[B + 1 + 1]? = some (.cells #[v3] 34 (0, 0)) := by first | exact blk_farC (p := ⟨B + 1, 0, none⟩) q3 (show B + 1 + 1 ≠ B + 1 by omega) (.int .i64 at_) | exact blk_set q3 0 _
  have hb := Below.setCell (p := ⟨B + 1, 0, none⟩) hb (show B ≤ B + 1 by omega) (.int .i64 at_)
  clear q1 q2 q3 n1
  generalize wa.setCell ⟨B + 1, 0, none⟩ (.int .i64 at_) = wa at hg g1 g2 g3 hb ⊢
  have c := blk_cell g3 0
  have fz := blk_frozen g3 0
  refine runSeq_op (by rfl) (by rfl) (fun K hK => ?_)
  go_simp
  have hg := blk_farC (p := ⟨B + 1 + 1, 0, none⟩) hg (show w.heap.size ≠ B + 1 + 1 by omega) (.int .i64 e)
  refine hK _ _ hg ?_
  clear hK K c fz
  have n1 := g3
  have q1 := g1
  have q2 := g2
  have q3 := g3
  clear g1 g2 g3
  have g1 : (wa.setCell ⟨B + 1 + 1, 0, none⟩ (.int .i64 e)).heap[B]? = some (.cells #[.int .i64 f] 3 (0, 0)) := by first | exact blk_farC (p := ⟨B + 1 + 1, 0, none⟩) q1 (show B ≠ B + 1 + 1 by omega) (.int .i64 e) | exact blk_set q1 0 _
  have g2 : (wa.setCell ⟨B + 1 + 1, 0, none⟩ (.int .i64 e)).heap[B + 1]? = some (.cells #[.int .i64 at_] 3 (0, 0)) := by first | exact blk_farC (p := ⟨B + 1 + 1, 0, none⟩) q2 (show B + 1 ≠ B + 1 + 1 by omega) (.int .i64 e) | exact blk_set q2 0 _
  have g3 : (wa.setCell ⟨B + 1 + 1, 0, none⟩ (.int .i64 e)).heap[B + 1 + 1]? = some (.cells #[.int .i64 e] 34 (0, 0)) := by first | exact blk_farC (p := ⟨B + 1 + 1, 0, none⟩) q3 (show B + 1 + 1 ≠ B + 1 + 1 by omega) (.int .i64 e) | exact blk_set q3 0 _
  have hb := Below.setCell (p := ⟨B + 1 + 1, 0, none⟩) hb (show B ≤ B + 1 + 1 by omega) (.int .i64 e)
  clear q1 q2 q3 n1
  generalize wa.setCell ⟨B + 1 + 1, 0, none⟩ (.int .i64 e) = wa at hg g1 g2 g3 hb ⊢
  refine runSeq_nil ?_
  have GS := Aside0.mk (And.intro g1 (And.intro g2 (And.intro g3 hb)))
  clear hg g1 g2 g3 hb
  go_wp2_with fail
  go_end0
  exact ⟨rfl, trivial, GS.out.2.2.2, GS.out.1, GS.out.2.1, GS.out.2.2.1⟩
theorem ccatch_idle (p q r : Addr) (w : World) :
    CallsD Try.prog 54 #[.pointer (some p), .pointer (some q), .pointer (some r)] .returning w fun x u' w' =>
      x = .returned (.tuple #[]) ∧ u' = .returning ∧ w = w' := by
  refine callsD_of_wpS Try.func54 rfl fun c₀ cs hu => ?_
  apply wpS_seq
  apply wpS_region
  simp [wpOpsS, go_sem, recoverD, hu, Try.ntmps54, Exit.thenS]
  refine wpS_body_same hu ?_
  simp only [Array.replicate_succ, Array.replicate_zero, List.push_toArray, List.append_toArray, List.nil_append, List.cons_append, List.setIfInBounds_toArray, List.set_cons_zero, List.set_cons_succ]
  go_wp2
  go_end0
  exact ⟨rfl, trivial, rfl⟩

structure CkW (w w' : World) : Prop where
  below : Below w.heap.size w w'
  c0 : w'.heap[w.heap.size]? = some (.cells #[.int .i64 0] 3 (0, 0))
  c1 : w'.heap[w.heap.size + 1]? = some (.cells #[.int .i64 0] 3 (0, 0))
  c2 : w'.heap[w.heap.size + 1 + 1]? = some (.cells #[.int .i64 0] 34 (0, 0))
theorem CkW.size {w w' : World} (h : CkW w w') : w.heap.size + 3 ≤ w'.heap.size := by
  have := blk_lt h.c2; omega
theorem CkW.keep {w w' w'' : World} (h : CkW w w') (k : Below (w.heap.size + 3) w' w'') : CkW w w'' :=
  ⟨h.below.trans (k.mono (by omega)), (k.block _ (by omega)).trans h.c0, (k.block _ (by omega)).trans h.c1, (k.block _ (by omega)).trans h.c2⟩
theorem CkW.start (w : World) : CkW w (((w.alloc (.cells #[.int .i64 0] 3)).alloc (.cells #[.int .i64 0] 3)).alloc (.cells #[.int .i64 0] 34)) := by
  have e1 : (w.alloc (.cells #[.int .i64 0] 3)).heap.size = w.heap.size + 1 := Array.size_push _
  have e2 : ((w.alloc (.cells #[.int .i64 0] 3)).alloc (.cells #[.int .i64 0] 3)).heap.size = w.heap.size + 1 + 1 := by
    rw [← e1]; exact Array.size_push _
  have b1 := (Below.refl w.heap.size w).alloc (Nat.le_refl _) (.cells #[.int .i64 0] 3)
  have b2 := b1.alloc b1.size (.cells #[.int .i64 0] 3)
  refine ⟨b2.alloc b2.size _, blk_alloc (blk_alloc (alloc_blk w _) _) _, ?_, ?_⟩
  · have := alloc_blk (w.alloc (.cells #[.int .i64 0] 3)) (.cells #[.int .i64 0] 3)
    rw [e1] at this
    exact blk_alloc this _
  · have := alloc_blk ((w.alloc (.cells #[.int .i64 0] 3)).alloc (.cells #[.int .i64 0] 3)) (.cells #[.int .i64 0] 34)
    rw [e2] at this
    exact this
def ckPost (w : World) (l : List S64) (e : Ending) (w' : World) : Prop :=
  e = .returned (.tuple #[.int .i64 (checkP l).1, .int .i64 (checkP l).2.1, .int .i64 (checkP l).2.2]) ∧ Below w.heap.size w w'
theorem check_panics (l : List S64) (f at_ e : Int) (w w' : World) (tmps : Array Value) (hno : checkP l = (f, at_, e)) (H : CkW w w')
    (t2 : tmps.getD 2 undef = .pointer (some ⟨w.heap.size, 0, none⟩)) (t3 : tmps.getD 3 undef = .pointer (some ⟨w.heap.size + 1, 0, none⟩)) (t4 : tmps.getD 4 undef = .pointer (some ⟨w.heap.size + 1 + 1, 0, none⟩)) :
    bodyPostD Try.prog Try.f41 (ckPost w l) (.panic [{ v := wrongV f at_ e, recovered := false }])
      { tmps := tmps, defers := [{ target := Target.fn (Fn.func 54) #[.pointer (some ⟨w.heap.size, 0, none⟩), .pointer (some ⟨w.heap.size + 1, 0, none⟩), .pointer (some ⟨w.heap.size + 1 + 1, 0, none⟩)], args := #[] }] } w' := by
  refine leaves_cons (f := 54) (args := #[.pointer (some ⟨w.heap.size, 0, none⟩), .pointer (some ⟨w.heap.size + 1, 0, none⟩), .pointer (some ⟨w.heap.size + 1 + 1, 0, none⟩)]) (by simp) (by simp [go_sem]) ?_
  refine (ccatch_panicking w.heap.size f at_ e w' _ _ _ H.c0 H.c1 H.c2).mono ?_
  rintro x u' w2 ⟨rfl, rfl, hb2, c0, c1, c2⟩
  have q0 := blk_cell c0 0
  have q1 := blk_cell c1 0
  have q2 := blk_cell c2 0
  simp only [Array.getD_eq_getD_getElem?] at t2 t3 t4
  refine ⟨.tuple #[.int .i64 f, .int .i64 at_, .int .i64 e], by simp [results, Try.results41, go_sem, t2, t3, t4, q0, q1, q2], ?_⟩
  exact ⟨by rw [hno], H.below.trans hb2⟩
theorem check_stop {l : List S64} {i : Nat} {g : S64} {e : Int × Int} (hb : 1 ≤ l.length ∧ l.length ≤ 16) (hF : funcsE l 0 l = funcsE l i (l.drop i)) (hg : ∃ h : i < l.length, l[i] = g) (he : funcE l g = some e) : checkP l = ((i : Int), e.1, e.2) := by
  obtain ⟨hi, hg⟩ := hg
  unfold checkP
  rw [if_pos hb, hF, List.drop_eq_getElem_cons hi, hg]
  simp only [funcsE, he]
  rfl
theorem check_step {l : List S64} {i : Nat} {g : S64} (hF : funcsE l 0 l = funcsE l i (l.drop i)) (hg : ∃ h : i < l.length, l[i] = g) (he : funcE l g = none) : funcsE l 0 l = funcsE l (i + 1) (l.drop (i + 1)) := by
  obtain ⟨hi, hg⟩ := hg
  rw [hF, List.drop_eq_getElem_cons hi, hg]
  simp only [funcsE, he]
structure FW (w : World) (A : Option Addr) (n c : Nat) (i at_ : Int) (g6 : S64) (A1 : Option Addr) (c1 g : Nat) (w' : World) : Prop where
  ck : CkW w w'
  h6 : w'.heap[g]? = some (.cells #[.int .i64 g6.f0, .slice A1 g6.f1.length c1] 64 (0, 0))
  h7 : w'.heap[g + 1]? = some (.cells #[.slice A n c, .int .i64 i, .int .i64 at_] 149 (0, 0))
  lg : w.heap.size + 3 ≤ g
theorem FW.keep {w : World} {A : Option Addr} {n c : Nat} {i at_ : Int} {g6 : S64} {A1 : Option Addr} {c1 g : Nat} {w' w'' : World} (h : FW w A n c i at_ g6 A1 c1 g w') (k : Below w'.heap.size w' w'') : FW w A n c i at_ g6 A1 c1 g w'' :=
  ⟨h.ck.keep (k.mono h.ck.size), (k.block _ (blk_lt h.h6)).trans h.h6, (k.block _ (blk_lt h.h7)).trans h.h7, h.lg⟩
theorem FW.put {w : World} {A : Option Addr} {n c : Nat} {i at_ : Int} {g6 : S64} {A1 : Option Addr} {c1 g : Nat} {w' : World} (h : FW w A n c i at_ g6 A1 c1 g w') (k : Int) : FW w A n c i k g6 A1 c1 g (w'.setCell ⟨g + 1, 2, none⟩ (.int .i64 k)) :=
  ⟨h.ck.keep (Below.setCell (p := ⟨g + 1, 2, none⟩) (Below.refl _ _) (show w.heap.size + 3 ≤ g + 1 by have := h.lg; omega) _), blk_farC (p := ⟨g + 1, 2, none⟩) h.h6 (show g ≠ g + 1 by omega) _, blk_set h.h7 2 _, h.lg⟩
theorem FW.start {w : World} {A : Option Addr} {n c : Nat} {i : Int} {g6 : S64} {A1 : Option Addr} {c1 : Nat} {w' : World} (h : CkW w w') : FW w A n c i 0 g6 A1 c1 w'.heap.size ((w'.alloc (.cells #[.int .i64 g6.f0, .slice A1 g6.f1.length c1] 64)).alloc (.cells #[.slice A n c, .int .i64 i, .int .i64 0] 149)) := by
  have e1 : (w'.alloc (.cells #[.int .i64 g6.f0, .slice A1 g6.f1.length c1] 64)).heap.size = w'.heap.size + 1 := Array.size_push _
  have b1 := (Below.refl w'.heap.size w').alloc (Nat.le_refl _) (.cells #[.int .i64 g6.f0, .slice A1 g6.f1.length c1] 64)
  have b2 := b1.alloc b1.size (.cells #[.slice A n c, .int .i64 i, .int .i64 0] 149)
  refine ⟨h.keep (b2.mono h.size), blk_alloc (alloc_blk w' _) _, ?_, h.size⟩
  have := alloc_blk (w'.alloc (.cells #[.int .i64 g6.f0, .slice A1 g6.f1.length c1] 64)) (.cells #[.slice A n c, .int .i64 i, .int .i64 0] 149)
  rw [e1] at this
  exact this
set_option maxRecDepth 100000 in
set_option maxHeartbeats 8000000 in
theorem check_walk (A : Option Addr) (c : Nat) (l : List S64) (w : World) (hC : k64.C w A l.length l) (hc : l.length ≤ c) : Calls Try.prog 41 #[.slice A l.length c] w (ckPost w l) := by
  have hmf : ∀ (fn : Fn) (first cap : Array Value) (w : World), (Instr.makeFunc fn first cap).run Try.prog w = .ok (.func fn first cap) w := fun _ _ _ _ => rfl
  have HC := Aside0.mk hC
  have HS := Aside0.mk (CkW.start w)
  clear hC hc
  by_cases hl1 : 1 ≤ l.length
  · have hl1' : (1 ≤ (l.length : Int)) = True := eq_true (by omega)
    have HL1 := Aside0.mk hl1
    clear hl1
    go_enter_defers Try.func41, Try.ntmps41
    go_wp2_with fail
    refine (need_any none 0 0 0 0 3 _ _).mono ?_
    rintro e w2 ⟨hb, he⟩
    have hs2 := HS.out.keep (hb.mono HS.out.size)
    clear HS hb
    have HS := Aside0.mk hs2
    clear hs2
    by_cases hl2 : l.length ≤ 16
    · rw [if_pos (decide_eq_true (by omega))] at he
      subst he
      have HLL := Aside0.mk (And.intro HL1.out hl2)
      clear HL1 hl2 hl1'
      go_wp2_with fail
      go_loopw [24] (fun v24 wr => ∃ i : Nat, v24 = .int .i64 i ∧ i ≤ l.length ∧ Aside0 (funcsE l 0 l = funcsE l i (l.drop i)) ∧ Aside0 (CkW w wr)) (fun v24 _ => l.length - (intOf v24).toNat)
      case atStart => exact ⟨0, rfl, Nat.zero_le _, ⟨rfl⟩, HS⟩
      case round =>
        clear HS w2
        obtain ⟨i, rfl, hi, HF, HS⟩ := hrel
        by_cases hlt : i < l.length
        · have p1 : (0 : Int) ≤ (i : Int) := by omega
          have q1 : (i : Int) < (l.length : Nat) := by omega
          obtain ⟨ad, A1, c1, rfl, hx0, hx1, hl1, hi1⟩ := at_T64 HC.out i p1 q1
          replace hx0 := (HS.out.below.cell (World.block_lt_of_cell? w _ hx0)).trans hx0
          replace hx1 := (HS.out.below.cell (World.block_lt_of_cell? w _ hx1)).trans hx1
          simp only [Int.toNat_natCast] at hx0 hx1
          have hfi : rd_T64 l (i : Int) = l[i] := by simp [rd_T64, hlt]
          rw [hfi] at hx0 hx1 hl1 hi1
          clear hfi
          generalize hfj : l[i] = fi at hx0 hx1 hl1 hi1
          have HFI := Aside0.mk (show ∃ h : i < l.length, l[i] = fi from ⟨hlt, hfj⟩)
          have HR1 := Aside0.mk hi1
          have HIA := Aside0.mk (fun (at_ : Int) (x : S61) (w' : World) (h : k64.C w' (some ad) l.length l) => instr_any (some ad) c l i at_ x w' h hlt)
          rw [hfj] at HIA
          clear hi1 hl1 hfj
          have hu64 := Try.underlying64
          go_upto_region 7 with (fail)
          have hfw := FW.start (A := some ad) (n := l.length) (c := c) (i := (i : Int)) (g6 := fi) (A1 := A1) (c1 := c1) HS.out
          clear HS hx0 hx1 hu64
          generalize hgg : wr.heap.size = g at hfw ⊢
          clear hgg
          generalize (wr.alloc (.cells #[.int .i64 fi.f0, .slice A1 fi.f1.length c1] 64)).alloc (.cells #[.slice (some ad) l.length c, .int .i64 (i : Int), .int .i64 0] 149) = w3 at hfw ⊢
          have HW := Aside0.mk hfw
          have b60 := blk_cell hfw.h6 0
          have b70 := blk_cell hfw.h7 0
          have b71 := blk_cell hfw.h7 1
          have b72 := blk_cell hfw.h7 2
          have HLT := Aside0.mk hlt
          clear hfw wr p1 q1 hi hlt
          by_cases ha0 : 0 ≤ fi.f0
          · have ha0' : (0 ≤ fi.f0) = True := eq_true ha0
            have HA0 := Aside0.mk ha0
            clear ha0
            go_wp2_with fail
            clear b60 b70 b71 b72 ha0'
            refine (need_any (some ad) l.length c i 0 6 _ _).mono ?_
            rintro e w4 ⟨hb, he⟩
            have hfw := HW.out.keep hb
            clear HW hb
            by_cases ha1 : fi.f0 ≤ 4
            · rw [if_pos (decide_eq_true ha1)] at he
              subst he
              have HW := Aside0.mk hfw
              have HA := Aside0.mk (And.intro HA0.out ha1)
              have b61 := blk_cell hfw.h6 1
              have b70 := blk_cell hfw.h7 0
              have b71 := blk_cell hfw.h7 1
              have b72 := blk_cell hfw.h7 2
              clear hfw ha1 HA0 w3
              by_cases hb0 : 1 ≤ fi.f1.length
              · have hb0' : (1 ≤ (fi.f1.length : Int)) = True := eq_true (by omega)
                have HB0 := Aside0.mk hb0
                clear hb0
                go_wp2_with fail
                clear b61 b70 b71 b72 hb0'
                refine (need_any (some ad) l.length c i 0 3 _ _).mono ?_
                rintro e w5 ⟨hb, he⟩
                have hfw := HW.out.keep hb
                clear HW hb
                by_cases hb1 : fi.f1.length ≤ 64
                · rw [if_pos (decide_eq_true (by omega))] at he
                  subst he
                  have HW := Aside0.mk hfw
                  have HB := Aside0.mk (And.intro HB0.out hb1)
                  have b61 := blk_cell hfw.h6 1
                  clear hfw hb1 HB0 w4
                  go_wp2_with fail
                  clear b61
                  go_loopw [57] (fun v57 wr => ∃ (k : Nat) (at_ : Int), v57 = .int .i64 k ∧ k ≤ fi.f1.length ∧ Aside0 (instrsE fi.f1.length l 0 fi.f1 = instrsE fi.f1.length l k (fi.f1.drop k)) ∧ Aside0 (k = 0 ∨ at_ = (k : Int) - 1) ∧ Aside0 (FW w (some ad) l.length c i at_ fi A1 c1 g wr)) (fun v57 _ => fi.f1.length - (intOf v57).toNat)
                  case atStart => exact ⟨0, 0, rfl, Nat.zero_le _, ⟨rfl⟩, ⟨.inl rfl⟩, HW⟩
                  case round =>
                    clear HW w5
                    obtain ⟨k, at_, rfl, hk, HI, HAT, HW⟩ := hrel
                    by_cases hlk : k < fi.f1.length
                    · have p1 : (0 : Int) ≤ (k : Int) := by omega
                      have q1 : (k : Int) < (fi.f1.length : Nat) := by omega
                      obtain ⟨ad2, rfl, hx0, hx1, hx2, hx3, hx4⟩ := at_T61 HR1.out k p1 q1
                      replace hx0 := (HW.out.ck.below.cell (World.block_lt_of_cell? w _ hx0)).trans hx0
                      replace hx1 := (HW.out.ck.below.cell (World.block_lt_of_cell? w _ hx1)).trans hx1
                      replace hx2 := (HW.out.ck.below.cell (World.block_lt_of_cell? w _ hx2)).trans hx2
                      replace hx3 := (HW.out.ck.below.cell (World.block_lt_of_cell? w _ hx3)).trans hx3
                      replace hx4 := (HW.out.ck.below.cell (World.block_lt_of_cell? w _ hx4)).trans hx4
                      simp only [Int.toNat_natCast] at hx0 hx1 hx2 hx3 hx4
                      have hgi : rd_T61 fi.f1 (k : Int) = fi.f1[k] := by simp [rd_T61, hlk]
                      rw [hgi] at hx0 hx1 hx2 hx3 hx4
                      clear hgi
                      generalize hgj : fi.f1[k] = gi at hx0 hx1 hx2 hx3 hx4
                      have HGI := Aside0.mk (show ∃ h : k < fi.f1.length, fi.f1[k] = gi from ⟨hlk, hgj⟩)
                      clear hgj
                      have hu61 := Try.underlying61
                      go_upto_region 12 with (fail)
                      have hfw := HW.out.keep ((Below.refl _ _).alloc (Nat.le_refl _) (.cells #[.int .i64 gi.f0, .int .i64 gi.f1, .int .i64 gi.f2, .int .i64 gi.f3, .int .i64 gi.f4] 61))
                      have hbg := alloc_blk wr (.cells #[.int .i64 gi.f0, .int .i64 gi.f1, .int .i64 gi.f2, .int .i64 gi.f3, .int .i64 gi.f4] 61)
                      have hne : wr.heap.size ≠ g + 1 := by have := blk_lt HW.out.h7; omega
                      clear hx0 hx1 hx2 hx3 hx4 hu61 p1 q1 HW HAT
                      generalize wr.heap.size = b9 at hbg hne ⊢
                      generalize wr.alloc (.cells #[.int .i64 gi.f0, .int .i64 gi.f1, .int .i64 gi.f2, .int .i64 gi.f3, .int .i64 gi.f4] 61) = w6 at hfw hbg ⊢
                      clear wr
                      have hfp := hfw.put (k : Int)
                      have hbp := blk_farC (p := ⟨g + 1, 2, none⟩) hbg hne (.int .i64 (k : Int))
                      have HW := Aside0.mk (And.intro hfp hbp)
                      have c7 := blk_cell hfw.h7 2
                      have f7 := blk_frozen hfw.h7 2
                      have hu149 := Try.underlying149
                      clear hfp hbp hfw hbg hne
                      go_upto_region 13 with (fail)
                      clear c7 f7 hu149
                      obtain ⟨hfw, hbg⟩ := HW.out
                      clear HW
                      generalize w6.setCell ⟨g + 1, 2, none⟩ (.int .i64 (k : Int)) = w7 at hfw hbg ⊢
                      clear w6
                      have b70 := blk_cell hfw.h7 0
                      have b71 := blk_cell hfw.h7 1
                      have b72 := blk_cell hfw.h7 2
                      have x0 := blk_cell hbg 0
                      have x1 := blk_cell hbg 1
                      have x2 := blk_cell hbg 2
                      have x3 := blk_cell hbg 3
                      have x4 := blk_cell hbg 4
                      have HW := Aside0.mk hfw
                      have hu149 := Try.underlying149
                      have hu61 := Try.underlying61
                      clear hfw hbg
                      go_wp2_with fail
                      clear b70 b71 b72 x0 x1 x2 x3 x4 hu149 hu61
                      refine (HIA.out k gi w7 (Kd.C_below HC.out HW.out.ck.below)).mono ?_
                      rintro e w8 ⟨hb, he⟩
                      have hfw := HW.out.keep hb
                      clear HW hb
                      cases hE : instrE fi.f1.length l gi with
                      | some q =>
                        rw [hE] at he
                        subst he
                        exact check_panics l i k q w w8 _ (check_stop HLL.out HF.out HFI.out (e := ((k : Int), q)) (by
                          obtain ⟨h1, h2⟩ := HGI.out
                          unfold funcE; rw [if_pos HA.out, if_pos HB.out, HI.out, List.drop_eq_getElem_cons h1, h2]
                          simp only [instrsE, hE]; rfl)) hfw.ck rfl rfl rfl
                      | none =>
                      rw [hE] at he
                      subst he
                      have hin : instrsE fi.f1.length l 0 fi.f1 = instrsE fi.f1.length l (k + 1) (fi.f1.drop (k + 1)) := by
                        obtain ⟨h1, h2⟩ := HGI.out
                        rw [HI.out, List.drop_eq_getElem_cons h1, h2]
                        simp only [instrsE, hE]
                      have HIN := Aside0.mk hin
                      have HW := Aside0.mk hfw
                      have hB64 := HB.out.2
                      clear hin hfw hE
                      go_wp2_with fail
                      go_roundw
                      case rel => exact ⟨k + 1, k, by go_num, by omega, HIN, ⟨.inr (by omega)⟩, HW⟩
                      case measure => simp [intOf]; omega
                    · obtain rfl : k = fi.f1.length := by omega
                      have hB1 := HB.out.1
                      have hB64 := HB.out.2
                      have hin : instrsE fi.f1.length l 0 fi.f1 = none := by
                        have := HI.out
                        rw [List.drop_length] at this
                        exact this
                      have hat : at_ = (fi.f1.length : Int) - 1 := HAT.out.resolve_left (by omega)
                      subst hat
                      obtain ⟨ad2, rfl, hx0, hx1, hx2, hx3, hx4⟩ := at_T61 HR1.out ((fi.f1.length : Int) - 1) (by omega) (by omega)
                      replace hx0 := (HW.out.ck.below.cell (World.block_lt_of_cell? w _ hx0)).trans hx0
                      rw [show ((fi.f1.length : Int) - 1).toNat = fi.f1.length - 1 by omega] at hx0
                      have hFE : funcE l fi = lastE fi := by
                        unfold funcE; rw [if_pos HA.out, if_pos HB.out, hin]; rfl
                      have hLE : lastE fi = if (rd_T61 fi.f1 ((fi.f1.length : Int) - 1)).f0 = 9 ∨ (rd_T61 fi.f1 ((fi.f1.length : Int) - 1)).f0 = 16 ∨ (rd_T61 fi.f1 ((fi.f1.length : Int) - 1)).f0 = 17 then none else some ((fi.f1.length : Int) - 1, 11) := rfl
                      rw [hLE] at hFE
                      generalize (rd_T61 fi.f1 ((fi.f1.length : Int) - 1)).f0 = o at hx0 hFE
                      have hwl : IntKind.i64.wrap ((fi.f1.length : Int) - 1) = (fi.f1.length : Int) - 1 := (i64_w _).trans (by unfold wrap64; omega)
                      have hlo : (0 ≤ (fi.f1.length : Int) - 1) = True := eq_true (by omega)
                      have hhi : ((fi.f1.length : Int) - 1 < (fi.f1.length : Int)) = True := eq_true (by omega)
                      have hB1i : (1 ≤ (fi.f1.length : Int)) = True := eq_true (by omega)
                      have HFE := Aside0.mk hFE
                      have HW' := Aside0.mk HW.out.ck
                      have b61 := blk_cell HW.out.h6 1
                      clear hx1 hx2 hx3 hx4 hFE hLE hin HAT HI hB1 hB64 hk hlk
                      go_upto_region 16 with (fail)
                      clear hx0 b61 hwl hlo hhi hB1i
                      have b70 := blk_cell HW.out.h7 0
                      have b71 := blk_cell HW.out.h7 1
                      have b72 := blk_cell HW.out.h7 2
                      have hu149 := Try.underlying149
                      by_cases ho9 : o = 9
                      · have HN := Aside0.mk (HFE.out.trans (if_pos (.inl ho9)))
                        have e9 : (o == 9) = true := by rw [ho9]; rfl
                        clear ho9
                        go_wp2_with fail
                        clear b70 b71 b72 hu149
                        refine (need_ok (some ad) l.length c i ((fi.f1.length : Int) - 1) 11 _).mono ?_
                        rintro e w9 ⟨rfl, hb⟩
                        have hck := (HW.out.keep hb).ck
                        have hst := check_step HF.out HFI.out HN.out
                        have hl16 := HLL.out.2
                        have hil := HLT.out
                        have HFN := Aside0.mk hst
                        have HCN := Aside0.mk hck
                        clear hst hck hb HF HW
                        go_wp2_with fail
                        go_roundw
                        case rel => exact ⟨i + 1, by go_num, by omega, HFN, HCN⟩
                        case measure => simp [intOf]; omega
                      · have e9 : (o == 9) = false := by simp [ho9]
                        by_cases ho16 : o = 16
                        · have HN := Aside0.mk (HFE.out.trans (if_pos (.inr (.inl ho16))))
                          have e16 : (o == 16) = true := by rw [ho16]; rfl
                          clear ho16 ho9
                          go_wp2_with fail
                          clear b70 b71 b72 hu149
                          refine (need_ok (some ad) l.length c i ((fi.f1.length : Int) - 1) 11 _).mono ?_
                          rintro e w9 ⟨rfl, hb⟩
                          have hck := (HW.out.keep hb).ck
                          have hst := check_step HF.out HFI.out HN.out
                          have hl16 := HLL.out.2
                          have hil := HLT.out
                          have HFN := Aside0.mk hst
                          have HCN := Aside0.mk hck
                          clear hst hck hb HF HW
                          go_wp2_with fail
                          go_roundw
                          case rel => exact ⟨i + 1, by go_num, by omega, HFN, HCN⟩
                          case measure => simp [intOf]; omega
                        · have e16 : (o == 16) = false := by simp [ho16]
                          by_cases ho17 : o = 17
                          · have HN := Aside0.mk (HFE.out.trans (if_pos (.inr (.inr ho17))))
                            have e17 : (o == 17) = true := by rw [ho17]; rfl
                            clear ho17 ho16 ho9
                            go_wp2_with fail
                            clear b70 b71 b72 hu149
                            refine (need_ok (some ad) l.length c i ((fi.f1.length : Int) - 1) 11 _).mono ?_
                            rintro e w9 ⟨rfl, hb⟩
                            have hck := (HW.out.keep hb).ck
                            have hst := check_step HF.out HFI.out HN.out
                            have hl16 := HLL.out.2
                            have hil := HLT.out
                            have HFN := Aside0.mk hst
                            have HCN := Aside0.mk hck
                            clear hst hck hb HF HW
                            go_wp2_with fail
                            go_roundw
                            case rel => exact ⟨i + 1, by go_num, by omega, HFN, HCN⟩
                            case measure => simp [intOf]; omega
                          · have e17 : (o == 17) = false := by simp [ho17]
                            have HN := Aside0.mk (HFE.out.trans (if_neg (by omega)))
                            clear ho17 ho16 ho9
                            go_wp2_with fail
                            refine (need_no (some ad) l.length c i ((fi.f1.length : Int) - 1) 11 _).mono ?_
                            rintro e w9 ⟨rfl, hb⟩
                            exact check_panics l i ((fi.f1.length : Int) - 1) 11 w w9 _ (check_stop HLL.out HF.out HFI.out HN.out) (HW.out.keep hb).ck rfl rfl rfl
                · rw [if_neg (fun h => hb1 (by have := of_decide_eq_true h; omega))] at he
                  subst he
                  exact check_panics l i 0 3 w w5 _ (check_stop HLL.out HF.out HFI.out (e := (0, 3)) (by unfold funcE; rw [if_pos HA.out, if_neg (by omega)])) hfw.ck rfl rfl rfl
              · have hb0' : (1 ≤ (fi.f1.length : Int)) = False := eq_false (by omega)
                have HB0 := Aside0.mk hb0
                clear hb0
                go_wp2_with fail
                refine (need_no (some ad) l.length c i 0 3 _).mono ?_
                rintro e w5 ⟨rfl, hb⟩
                exact check_panics l i 0 3 w w5 _ (check_stop HLL.out HF.out HFI.out (e := (0, 3)) (by unfold funcE; rw [if_pos HA.out, if_neg (by have := HB0.out; omega)])) (HW.out.keep hb).ck rfl rfl rfl
            · rw [if_neg (fun h => ha1 (of_decide_eq_true h))] at he
              subst he
              exact check_panics l i 0 6 w w4 _ (check_stop HLL.out HF.out HFI.out (e := (0, 6)) (by unfold funcE; rw [if_neg (by omega)])) hfw.ck rfl rfl rfl
          · have ha0' : (0 ≤ fi.f0) = False := eq_false ha0
            have HA0 := Aside0.mk ha0
            clear ha0
            go_wp2_with fail
            refine (need_no (some ad) l.length c i 0 6 _).mono ?_
            rintro e w4 ⟨rfl, hb⟩
            exact check_panics l i 0 6 w w4 _ (check_stop HLL.out HF.out HFI.out (e := (0, 6)) (by unfold funcE; rw [if_neg (by have := HA0.out; omega)])) (HW.out.keep hb).ck rfl rfl rfl
        · obtain rfl : i = l.length := by omega
          clear hlt hi
          have hck : checkP l = (0, 0, 0) := by
            have := HF.out
            rw [List.drop_length] at this
            unfold checkP; rw [if_pos HLL.out, this]; rfl
          have c0 := blk_cell HS.out.c0 0
          have c1 := blk_cell HS.out.c1 0
          have c2 := blk_cell HS.out.c2 0
          have f0 := blk_frozen HS.out.c0 0
          have f1 := blk_frozen HS.out.c1 0
          have f2 := blk_frozen HS.out.c2 0
          have HCK := Aside0.mk hck
          clear hck
          go_wp2_with fail
          have d0 := blk_farC (p := ⟨w.heap.size + 1 + 1, 0, none⟩) (blk_farC (p := ⟨w.heap.size + 1, 0, none⟩) (blk_set HS.out.c0 0 (.int .i64 0)) (by simp) (.int .i64 0)) (by simp; omega) (.int .i64 0)
          have d1 := blk_farC (p := ⟨w.heap.size + 1 + 1, 0, none⟩) (blk_set (blk_farC (p := ⟨w.heap.size, 0, none⟩) HS.out.c1 (by simp) (.int .i64 0)) 0 (.int .i64 0)) (by simp) (.int .i64 0)
          have d2 := blk_set (blk_farC (p := ⟨w.heap.size + 1, 0, none⟩) (blk_farC (p := ⟨w.heap.size, 0, none⟩) HS.out.c2 (by simp; omega) (.int .i64 0)) (by simp) (.int .i64 0)) 0 (.int .i64 0)
          have dB := Below.setCell (p := ⟨w.heap.size + 1 + 1, 0, none⟩) (Below.setCell (p := ⟨w.heap.size + 1, 0, none⟩) (Below.setCell (p := ⟨w.heap.size, 0, none⟩) HS.out.below (Nat.le_refl _) (.int .i64 0)) (show w.heap.size ≤ w.heap.size + 1 by omega) (.int .i64 0)) (show w.heap.size ≤ w.heap.size + 1 + 1 by omega) (.int .i64 0)
          have r0 := blk_cell d0 0
          have r1 := blk_cell d1 0
          have r2 := blk_cell d2 0
          refine leaves_cons (f := 54) (args := #[.pointer (some ⟨w.heap.size, 0, none⟩), .pointer (some ⟨w.heap.size + 1, 0, none⟩), .pointer (some ⟨w.heap.size + 1 + 1, 0, none⟩)]) (by simp) (by simp [go_sem]) ?_
          refine (ccatch_idle _ _ _ _).mono ?_
          rintro e u' w2 ⟨rfl, rfl, rfl⟩
          refine ⟨.tuple #[.int .i64 0, .int .i64 0, .int .i64 0], ?_, ?_⟩
          · simp [results, Try.results41, go_sem, r0, r1, r2]
          · exact ⟨by rw [HCK.out], dB⟩
    · rw [if_neg (fun h => hl2 (by have := of_decide_eq_true h; omega))] at he
      subst he
      exact check_panics l 0 0 3 w w2 _ (by unfold checkP; rw [if_neg (by omega)]) HS.out rfl rfl rfl
  · have hl1' : (1 ≤ (l.length : Int)) = False := eq_false (by omega)
    have HL1 := Aside0.mk hl1
    clear hl1
    go_enter_defers Try.func41, Try.ntmps41
    go_wp2_with fail
    refine (need_no none 0 0 0 0 3 _).mono ?_
    rintro e w2 ⟨rfl, hb⟩
    have hs2 := HS.out.keep (hb.mono HS.out.size)
    exact check_panics l 0 0 3 w w2 _ (by unfold checkP; rw [if_neg (by have := HL1.out; omega)]) hs2 rfl rfl rfl
theorem valid_Check.calls (A0 : Option Addr) (c0 : Nat) (l0 : List S64) (r1 r2 r3 : Int) (w : World) (hr0 : k64.C w A0 l0.length l0) (hc0 : l0.length ≤ c0) (h : valid_Check.f l0 = some (r1, r2, r3)) :
    Calls Try.prog 41 #[.slice A0 l0.length c0] w fun e w' => e = .returned (.tuple #[.int .i64 r1, .int .i64 r2, .int .i64 r3]) ∧ Below w.heap.size w w' := by
  have hq : checkP l0 = (r1, r2, r3) := Option.some.inj h
  refine (check_walk A0 c0 l0 w hr0 hc0).mono ?_
  rintro e w' ⟨he, hb⟩
  rw [hq] at he
  exact ⟨he, hb⟩
end Go.Proofs.Ytbekjccehhaljaa.H

-- made by this session's gen.py over the kit's print.py; not trusted: Lean checks it
namespace Go.Proofs.Ytbekjccehhaljaa.H
open Go.RowKit Go.Proofs.YtbekjccehhaljaaW.PrintWords Go.Proofs.YtbekjccehhaljaaW.PrintLast Go.Proofs.YtbekjccehhaljaaW.PrintMore
attribute [local go_sem] max2_int min2_int max_two min_two max_three min_three max_four min_four   -- for this text's walks alone
set_option linter.unusedVariables false
set_option linter.unusedSimpArgs false

/-! ### eval_Right: function 24 -/
def eval_Right.f (l0 : List (S64)) (l1 : List Int) (a2_0 : Int) (a2_1 : Int) : Option (Bool) := (valid_Check.f l0).bind fun bt114 => (if bt114.2.2 = 0 then (if a2_0 < 1 then (some false) else (if a2_0 > 10000 then (some false) else (if a2_1 < 0 then (some false) else (if a2_1 > 30 then (some false) else (if 0 < (l0.length : Int) then (some ((l1.length : Int) == ((rd_T64 l0 0).f0))) else (none)))))) else (some false))
set_option maxHeartbeats 8000000 in
set_option maxRecDepth 100000 in
theorem eval_Right.calls (A0 : Option Addr) (c0 : Nat) (l0 : List (S64)) (A1 : Option Addr) (c1 : Nat) (l1 : List Int) (a2_0 : Int) (a2_1 : Int) (r : Bool) (w : World) (hr0 : Kd.C k64 w A0 l0.length l0) (hc0 : l0.length ≤ c0) (hr1 : Kd.C (Kd.int .i64) w A1 l1.length l1) (hc1 : l1.length ≤ c1) (h : eval_Right.f l0 l1 a2_0 a2_1 = some r) :
    Calls Try.prog 24 #[.slice A0 l0.length c0, .slice A1 l1.length c1, .agg #[.int .i64 a2_0, .int .i64 a2_1]] w fun e w' => e = .returned (.bool r) ∧ Below w.heap.size w w' := by
  have hu40 := Try.underlying40
  have HR0 := Aside0.mk hr0
  have HC0 := Aside0.mk hc0
  clear hr0 hc0
  have HR1 := Aside0.mk hr1
  have HC1 := Aside0.mk hc1
  clear hr1 hc1
  have HB := Aside0.mk (Below.refl w.heap.size w)
  have H : ((valid_Check.f l0).bind fun bt114 => (if bt114.2.2 = 0 then (if a2_0 < 1 then (some false) else (if a2_0 > 10000 then (some false) else (if a2_1 < 0 then (some false) else (if a2_1 > 30 then (some false) else (if 0 < (l0.length : Int) then (some ((l1.length : Int) == ((rd_T64 l0 0).f0))) else (none)))))) else (some false))) = some r := h
  clear h
  replace H := Option.bind_eq_some_iff.mp H
  obtain ⟨⟨t114, t115, t116⟩, A40, H⟩ := H
  replace H : (if t116 = 0 then (if a2_0 < 1 then (some false) else (if a2_0 > 10000 then (some false) else (if a2_1 < 0 then (some false) else (if a2_1 > 30 then (some false) else (if 0 < (l0.length : Int) then (some ((l1.length : Int) == ((rd_T64 l0 0).f0))) else (none)))))) else (some false)) = some r := H
  have A4 := Aside0.mk A40
  clear A40
  by_cases c5 : t116 = 0
  · rw [if_pos c5] at H
    have c5b0 : (t116 == 0) = true := beq_iff_eq.mpr c5
    have c5b1 : (t116 != 0) = false := bne_eq_false_iff_eq.mpr c5
    clear c5
    by_cases c6 : a2_0 < 1
    · rw [if_pos c6] at H
      have c6b0 : decide (a2_0 < 1) = true := decide_eq_true c6
      clear c6
      obtain rfl := Option.some.inj H
      go_enter Try.func24, Try.ntmps24
      go_wp2_with (first | ((with_reducible refine gate_dst (N := 5) rfl ?_); refine box_event ?hg (N := 5) ?hd (cs := #[.int .i64 a2_0, .int .i64 a2_1]) (t := 40) ?hr ?_; (case hd => rfl); (case hg => rfl); (case hr => first | (go_simp; done) | (go_simp; rfl)); intro gb113 hg w7 hbox hb; have n0_ := Aside0.mk (below_step (by repeat (first | (with_reducible first | exact HB.out | apply below_alloc | apply pw_below_drewN | apply below_drew1) | exact HB.out)) hb); have n1_ := Aside0.mk (hbox); have n2_ := Aside0.mk ((by rw [hg]; exact (below_size (by repeat (first | (with_reducible first | exact HB.out | apply below_alloc | apply pw_below_drewN | apply below_drew1) | exact HB.out))) : w.heap.size ≤ gb113)); have n3_ := Aside0.mk ((by rw [hg]; exact (below_size (by repeat (first | (with_reducible first | exact HB.out | apply below_alloc | apply pw_below_drewN | apply below_drew1) | exact HB.out))) : w.heap.size ≤ gb113)); clear HB; have HB := n0_; have BK113 := n1_; have GW113 := n2_; have GE113 := n3_; clear n0_ n1_ n2_ n3_; clear hb hbox hg) | ((with_reducible refine gate_callee (f := 41) rfl ?_); refine goesL_ (some 12) rfl rfl Try.func41 (by kernel_rfl) rfl #[.slice A0 l0.length c0] rfl (by (try simp only [List.map_toArray, List.map_cons, List.map_nil]); first | done | rfl | (simp only [List.length_drop, List.length_take]; rfl)) ?_; (with_reducible refine (valid_Check.calls _ _ l0 t114 t115 t116 _ ?side1 ?side2 A4.out).mono ?_); (case side1 => repeat (first | exact (Kd.C_below HR0.out HB.out) | (with_reducible refine Kd.C_alloc ?_ _) | (with_reducible refine Kd.C_drewN ?_ _) | (with_reducible refine Kd.C_drew ?_))); (case side2 => exact HC0.out); rintro e w8 ⟨rfl, hb⟩; refine ⟨_, rfl, ?_⟩; have n0_ := Aside0.mk (blk_below (g := gb113) (o := .cells #[.int .i64 a2_0, .int .i64 a2_1] 40 (0, 0)) (by (with_reducible repeat (first | refine blk_drewN ?_ _ | refine blk_drew ?_ | refine blk_alloc ?_ _)); exact BK113.out) hb); have n1_ := Aside0.mk (below_step (by repeat (first | (with_reducible first | exact HB.out | apply below_alloc | apply pw_below_drewN | apply below_drew1 | refine below_set ?_ GE113.out) | exact HB.out)) hb); clear BK113; clear HB; have BK113 := n0_; have HB := n1_; clear n0_ n1_; (try clear hb); (try clear hb2); (try clear hk); (try clear hi); have hcz9_0 : w8.cell? ⟨gb113, 0, none⟩ = some (.int .i64 a2_0) := (blk_cell BK113.out 0).trans rfl; have hcz9_1 : w8.cell? ⟨gb113, 1, none⟩ = some (.int .i64 a2_1) := (blk_cell BK113.out 1).trans rfl; have hfz9_0 := blk_frozen BK113.out 0; have hfz9_1 := blk_frozen BK113.out 1))
      go_ret
      exact ⟨by first | rfl | (simp [errW_none, errW_some] <;> rfl) | (simp [*, errW_none, errW_some] <;> rfl), by repeat (first | (with_reducible first | exact HB.out | apply below_alloc | apply pw_below_drewN | apply below_drew1 | refine below_set ?_ GE113.out) | exact HB.out)⟩
    · rw [if_neg c6] at H
      have c6b0 : decide (a2_0 < 1) = false := decide_eq_false c6
      clear c6
      by_cases c10 : a2_0 > 10000
      · rw [if_pos c10] at H
        have c10b0 : decide (10000 < a2_0) = true := decide_eq_true c10
        clear c10
        obtain rfl := Option.some.inj H
        go_enter Try.func24, Try.ntmps24
        go_wp2_with (first | ((with_reducible refine gate_dst (N := 5) rfl ?_); refine box_event ?hg (N := 5) ?hd (cs := #[.int .i64 a2_0, .int .i64 a2_1]) (t := 40) ?hr ?_; (case hd => rfl); (case hg => rfl); (case hr => first | (go_simp; done) | (go_simp; rfl)); intro gb113 hg w11 hbox hb; have n0_ := Aside0.mk (below_step (by repeat (first | (with_reducible first | exact HB.out | apply below_alloc | apply pw_below_drewN | apply below_drew1) | exact HB.out)) hb); have n1_ := Aside0.mk (hbox); have n2_ := Aside0.mk ((by rw [hg]; exact (below_size (by repeat (first | (with_reducible first | exact HB.out | apply below_alloc | apply pw_below_drewN | apply below_drew1) | exact HB.out))) : w.heap.size ≤ gb113)); have n3_ := Aside0.mk ((by rw [hg]; exact (below_size (by repeat (first | (with_reducible first | exact HB.out | apply below_alloc | apply pw_below_drewN | apply below_drew1) | exact HB.out))) : w.heap.size ≤ gb113)); clear HB; have HB := n0_; have BK113 := n1_; have GW113 := n2_; have GE113 := n3_; clear n0_ n1_ n2_ n3_; clear hb hbox hg) | ((with_reducible refine gate_callee (f := 41) rfl ?_); refine goesL_ (some 12) rfl rfl Try.func41 (by kernel_rfl) rfl #[.slice A0 l0.length c0] rfl (by (try simp only [List.map_toArray, List.map_cons, List.map_nil]); first | done | rfl | (simp only [List.length_drop, List.length_take]; rfl)) ?_; (with_reducible refine (valid_Check.calls _ _ l0 t114 t115 t116 _ ?side1 ?side2 A4.out).mono ?_); (case side1 => repeat (first | exact (Kd.C_below HR0.out HB.out) | (with_reducible refine Kd.C_alloc ?_ _) | (with_reducible refine Kd.C_drewN ?_ _) | (with_reducible refine Kd.C_drew ?_))); (case side2 => exact HC0.out); rintro e w12 ⟨rfl, hb⟩; refine ⟨_, rfl, ?_⟩; have n0_ := Aside0.mk (blk_below (g := gb113) (o := .cells #[.int .i64 a2_0, .int .i64 a2_1] 40 (0, 0)) (by (with_reducible repeat (first | refine blk_drewN ?_ _ | refine blk_drew ?_ | refine blk_alloc ?_ _)); exact BK113.out) hb); have n1_ := Aside0.mk (below_step (by repeat (first | (with_reducible first | exact HB.out | apply below_alloc | apply pw_below_drewN | apply below_drew1 | refine below_set ?_ GE113.out) | exact HB.out)) hb); clear BK113; clear HB; have BK113 := n0_; have HB := n1_; clear n0_ n1_; (try clear hb); (try clear hb2); (try clear hk); (try clear hi); have hcz13_0 : w12.cell? ⟨gb113, 0, none⟩ = some (.int .i64 a2_0) := (blk_cell BK113.out 0).trans rfl; have hcz13_1 : w12.cell? ⟨gb113, 1, none⟩ = some (.int .i64 a2_1) := (blk_cell BK113.out 1).trans rfl; have hfz13_0 := blk_frozen BK113.out 0; have hfz13_1 := blk_frozen BK113.out 1))
        go_ret
        exact ⟨by first | rfl | (simp [errW_none, errW_some] <;> rfl) | (simp [*, errW_none, errW_some] <;> rfl), by repeat (first | (with_reducible first | exact HB.out | apply below_alloc | apply pw_below_drewN | apply below_drew1 | refine below_set ?_ GE113.out) | exact HB.out)⟩
      · rw [if_neg c10] at H
        have c10b0 : decide (10000 < a2_0) = false := decide_eq_false c10
        clear c10
        by_cases c14 : a2_1 < 0
        · rw [if_pos c14] at H
          have c14b0 : decide (a2_1 < 0) = true := decide_eq_true c14
          clear c14
          obtain rfl := Option.some.inj H
          go_enter Try.func24, Try.ntmps24
          go_wp2_with (first | ((with_reducible refine gate_dst (N := 5) rfl ?_); refine box_event ?hg (N := 5) ?hd (cs := #[.int .i64 a2_0, .int .i64 a2_1]) (t := 40) ?hr ?_; (case hd => rfl); (case hg => rfl); (case hr => first | (go_simp; done) | (go_simp; rfl)); intro gb113 hg w15 hbox hb; have n0_ := Aside0.mk (below_step (by repeat (first | (with_reducible first | exact HB.out | apply below_alloc | apply pw_below_drewN | apply below_drew1) | exact HB.out)) hb); have n1_ := Aside0.mk (hbox); have n2_ := Aside0.mk ((by rw [hg]; exact (below_size (by repeat (first | (with_reducible first | exact HB.out | apply below_alloc | apply pw_below_drewN | apply below_drew1) | exact HB.out))) : w.heap.size ≤ gb113)); have n3_ := Aside0.mk ((by rw [hg]; exact (below_size (by repeat (first | (with_reducible first | exact HB.out | apply below_alloc | apply pw_below_drewN | apply below_drew1) | exact HB.out))) : w.heap.size ≤ gb113)); clear HB; have HB := n0_; have BK113 := n1_; have GW113 := n2_; have GE113 := n3_; clear n0_ n1_ n2_ n3_; clear hb hbox hg) | ((with_reducible refine gate_callee (f := 41) rfl ?_); refine goesL_ (some 12) rfl rfl Try.func41 (by kernel_rfl) rfl #[.slice A0 l0.length c0] rfl (by (try simp only [List.map_toArray, List.map_cons, List.map_nil]); first | done | rfl | (simp only [List.length_drop, List.length_take]; rfl)) ?_; (with_reducible refine (valid_Check.calls _ _ l0 t114 t115 t116 _ ?side1 ?side2 A4.out).mono ?_); (case side1 => repeat (first | exact (Kd.C_below HR0.out HB.out) | (with_reducible refine Kd.C_alloc ?_ _) | (with_reducible refine Kd.C_drewN ?_ _) | (with_reducible refine Kd.C_drew ?_))); (case side2 => exact HC0.out); rintro e w16 ⟨rfl, hb⟩; refine ⟨_, rfl, ?_⟩; have n0_ := Aside0.mk (blk_below (g := gb113) (o := .cells #[.int .i64 a2_0, .int .i64 a2_1] 40 (0, 0)) (by (with_reducible repeat (first | refine blk_drewN ?_ _ | refine blk_drew ?_ | refine blk_alloc ?_ _)); exact BK113.out) hb); have n1_ := Aside0.mk (below_step (by repeat (first | (with_reducible first | exact HB.out | apply below_alloc | apply pw_below_drewN | apply below_drew1 | refine below_set ?_ GE113.out) | exact HB.out)) hb); clear BK113; clear HB; have BK113 := n0_; have HB := n1_; clear n0_ n1_; (try clear hb); (try clear hb2); (try clear hk); (try clear hi); have hcz17_0 : w16.cell? ⟨gb113, 0, none⟩ = some (.int .i64 a2_0) := (blk_cell BK113.out 0).trans rfl; have hcz17_1 : w16.cell? ⟨gb113, 1, none⟩ = some (.int .i64 a2_1) := (blk_cell BK113.out 1).trans rfl; have hfz17_0 := blk_frozen BK113.out 0; have hfz17_1 := blk_frozen BK113.out 1))
          go_ret
          exact ⟨by first | rfl | (simp [errW_none, errW_some] <;> rfl) | (simp [*, errW_none, errW_some] <;> rfl), by repeat (first | (with_reducible first | exact HB.out | apply below_alloc | apply pw_below_drewN | apply below_drew1 | refine below_set ?_ GE113.out) | exact HB.out)⟩
        · rw [if_neg c14] at H
          have c14b0 : decide (a2_1 < 0) = false := decide_eq_false c14
          clear c14
          by_cases c18 : a2_1 > 30
          · rw [if_pos c18] at H
            have c18b0 : decide (30 < a2_1) = true := decide_eq_true c18
            clear c18
            obtain rfl := Option.some.inj H
            go_enter Try.func24, Try.ntmps24
            go_wp2_with (first | ((with_reducible refine gate_dst (N := 5) rfl ?_); refine box_event ?hg (N := 5) ?hd (cs := #[.int .i64 a2_0, .int .i64 a2_1]) (t := 40) ?hr ?_; (case hd => rfl); (case hg => rfl); (case hr => first | (go_simp; done) | (go_simp; rfl)); intro gb113 hg w19 hbox hb; have n0_ := Aside0.mk (below_step (by repeat (first | (with_reducible first | exact HB.out | apply below_alloc | apply pw_below_drewN | apply below_drew1) | exact HB.out)) hb); have n1_ := Aside0.mk (hbox); have n2_ := Aside0.mk ((by rw [hg]; exact (below_size (by repeat (first | (with_reducible first | exact HB.out | apply below_alloc | apply pw_below_drewN | apply below_drew1) | exact HB.out))) : w.heap.size ≤ gb113)); have n3_ := Aside0.mk ((by rw [hg]; exact (below_size (by repeat (first | (with_reducible first | exact HB.out | apply below_alloc | apply pw_below_drewN | apply below_drew1) | exact HB.out))) : w.heap.size ≤ gb113)); clear HB; have HB := n0_; have BK113 := n1_; have GW113 := n2_; have GE113 := n3_; clear n0_ n1_ n2_ n3_; clear hb hbox hg) | ((with_reducible refine gate_callee (f := 41) rfl ?_); refine goesL_ (some 12) rfl rfl Try.func41 (by kernel_rfl) rfl #[.slice A0 l0.length c0] rfl (by (try simp only [List.map_toArray, List.map_cons, List.map_nil]); first | done | rfl | (simp only [List.length_drop, List.length_take]; rfl)) ?_; (with_reducible refine (valid_Check.calls _ _ l0 t114 t115 t116 _ ?side1 ?side2 A4.out).mono ?_); (case side1 => repeat (first | exact (Kd.C_below HR0.out HB.out) | (with_reducible refine Kd.C_alloc ?_ _) | (with_reducible refine Kd.C_drewN ?_ _) | (with_reducible refine Kd.C_drew ?_))); (case side2 => exact HC0.out); rintro e w20 ⟨rfl, hb⟩; refine ⟨_, rfl, ?_⟩; have n0_ := Aside0.mk (blk_below (g := gb113) (o := .cells #[.int .i64 a2_0, .int .i64 a2_1] 40 (0, 0)) (by (with_reducible repeat (first | refine blk_drewN ?_ _ | refine blk_drew ?_ | refine blk_alloc ?_ _)); exact BK113.out) hb); have n1_ := Aside0.mk (below_step (by repeat (first | (with_reducible first | exact HB.out | apply below_alloc | apply pw_below_drewN | apply below_drew1 | refine below_set ?_ GE113.out) | exact HB.out)) hb); clear BK113; clear HB; have BK113 := n0_; have HB := n1_; clear n0_ n1_; (try clear hb); (try clear hb2); (try clear hk); (try clear hi); have hcz21_0 : w20.cell? ⟨gb113, 0, none⟩ = some (.int .i64 a2_0) := (blk_cell BK113.out 0).trans rfl; have hcz21_1 : w20.cell? ⟨gb113, 1, none⟩ = some (.int .i64 a2_1) := (blk_cell BK113.out 1).trans rfl; have hfz21_0 := blk_frozen BK113.out 0; have hfz21_1 := blk_frozen BK113.out 1))
            go_ret
            exact ⟨by first | rfl | (simp [errW_none, errW_some] <;> rfl) | (simp [*, errW_none, errW_some] <;> rfl), by repeat (first | (with_reducible first | exact HB.out | apply below_alloc | apply pw_below_drewN | apply below_drew1 | refine below_set ?_ GE113.out) | exact HB.out)⟩
          · rw [if_neg c18] at H
            have c18b0 : decide (30 < a2_1) = false := decide_eq_false c18
            clear c18
            by_cases c22 : 0 < (l0.length : Int)
            · rw [if_pos c22] at H
              have c22b0 : decide (0 < (l0.length : Int)) = true := decide_eq_true c22
              have c22b1 : decide (0 < l0.length) = true := decide_eq_true (by omega)
              clear c22
              obtain rfl := Option.some.inj H
              go_enter Try.func24, Try.ntmps24
              go_wp2_with (first | ((with_reducible refine gate_dst (N := 5) rfl ?_); refine box_event ?hg (N := 5) ?hd (cs := #[.int .i64 a2_0, .int .i64 a2_1]) (t := 40) ?hr ?_; (case hd => rfl); (case hg => rfl); (case hr => first | (go_simp; done) | (go_simp; rfl)); intro gb113 hg w23 hbox hb; have n0_ := Aside0.mk (below_step (by repeat (first | (with_reducible first | exact HB.out | apply below_alloc | apply pw_below_drewN | apply below_drew1) | exact HB.out)) hb); have n1_ := Aside0.mk (hbox); have n2_ := Aside0.mk ((by rw [hg]; exact (below_size (by repeat (first | (with_reducible first | exact HB.out | apply below_alloc | apply pw_below_drewN | apply below_drew1) | exact HB.out))) : w.heap.size ≤ gb113)); have n3_ := Aside0.mk ((by rw [hg]; exact (below_size (by repeat (first | (with_reducible first | exact HB.out | apply below_alloc | apply pw_below_drewN | apply below_drew1) | exact HB.out))) : w.heap.size ≤ gb113)); clear HB; have HB := n0_; have BK113 := n1_; have GW113 := n2_; have GE113 := n3_; clear n0_ n1_ n2_ n3_; clear hb hbox hg) | ((with_reducible refine gate_callee (f := 41) rfl ?_); refine goesL_ (some 12) rfl rfl Try.func41 (by kernel_rfl) rfl #[.slice A0 l0.length c0] rfl (by (try simp only [List.map_toArray, List.map_cons, List.map_nil]); first | done | rfl | (simp only [List.length_drop, List.length_take]; rfl)) ?_; (with_reducible refine (valid_Check.calls _ _ l0 t114 t115 t116 _ ?side1 ?side2 A4.out).mono ?_); (case side1 => repeat (first | exact (Kd.C_below HR0.out HB.out) | (with_reducible refine Kd.C_alloc ?_ _) | (with_reducible refine Kd.C_drewN ?_ _) | (with_reducible refine Kd.C_drew ?_))); (case side2 => exact HC0.out); rintro e w24 ⟨rfl, hb⟩; refine ⟨_, rfl, ?_⟩; have n0_ := Aside0.mk (blk_below (g := gb113) (o := .cells #[.int .i64 a2_0, .int .i64 a2_1] 40 (0, 0)) (by (with_reducible repeat (first | refine blk_drewN ?_ _ | refine blk_drew ?_ | refine blk_alloc ?_ _)); exact BK113.out) hb); have n1_ := Aside0.mk (below_step (by repeat (first | (with_reducible first | exact HB.out | apply below_alloc | apply pw_below_drewN | apply below_drew1 | refine below_set ?_ GE113.out) | exact HB.out)) hb); clear BK113; clear HB; have BK113 := n0_; have HB := n1_; clear n0_ n1_; (try clear hb); (try clear hb2); (try clear hk); (try clear hi); have hcz25_0 : w24.cell? ⟨gb113, 0, none⟩ = some (.int .i64 a2_0) := (blk_cell BK113.out 0).trans rfl; have hcz25_1 : w24.cell? ⟨gb113, 1, none⟩ = some (.int .i64 a2_1) := (blk_cell BK113.out 1).trans rfl; have hfz25_0 := blk_frozen BK113.out 0; have hfz25_1 := blk_frozen BK113.out 1; have p117 : 0 ≤ (0 : Int) := (by omega); have q117 : 0 < (l0.length : Int) := of_decide_eq_true (by first | (with_reducible assumption) | assumption); obtain ⟨ad117, A117_1, c117_1, e117, hx117_0, hx117_1, hl117_1, hi117_1⟩ := at_T64 HR0.out 0 p117 q117; cases e117; have qi117 : (0 < l0.length) = True := eq_true (by omega); (try rw [show ((0 : Int)).toNat = 0 from rfl] at hx117_0); (try rw [show 0 * 2 = 0 from rfl] at hx117_0); (try rw [Addr.add_zero'] at hx117_0); (try rw [show ((0 : Int)).toNat = 0 from rfl] at hx117_1); (try rw [show 0 * 2 = 0 from rfl] at hx117_1); (try rw [Addr.add_zero'] at hx117_1); replace hx117_0 := (HB.out.cell (World.block_lt_of_cell? w _ hx117_0)).trans hx117_0; replace hx117_1 := (HB.out.cell (World.block_lt_of_cell? w _ hx117_1)).trans hx117_1; have HR117_1 := Aside0.mk hi117_1; have HC117_1 := Aside0.mk hl117_1; clear hi117_1 hl117_1; replace p117 := eq_true p117; replace q117 := eq_true q117))
              go_ret
              exact ⟨by first | rfl | (simp [errW_none, errW_some] <;> rfl) | (simp [*, errW_none, errW_some] <;> rfl), by repeat (first | (with_reducible first | exact HB.out | apply below_alloc | apply pw_below_drewN | apply below_drew1 | refine below_set ?_ GE113.out) | exact HB.out)⟩
            · rw [if_neg c22] at H
              exact absurd H (by simp)
  · rw [if_neg c5] at H
    have c5b0 : (t116 == 0) = false := beq_eq_false_iff_ne.mpr c5
    have c5b1 : (t116 != 0) = true := bne_iff_ne.mpr c5
    obtain rfl := Option.some.inj H
    go_enter Try.func24, Try.ntmps24
    go_wp2_with (first | ((with_reducible refine gate_dst (N := 5) rfl ?_); refine box_event ?hg (N := 5) ?hd (cs := #[.int .i64 a2_0, .int .i64 a2_1]) (t := 40) ?hr ?_; (case hd => rfl); (case hg => rfl); (case hr => first | (go_simp; done) | (go_simp; rfl)); intro gb113 hg w26 hbox hb; have n0_ := Aside0.mk (below_step (by repeat (first | (with_reducible first | exact HB.out | apply below_alloc | apply pw_below_drewN | apply below_drew1) | exact HB.out)) hb); have n1_ := Aside0.mk (hbox); have n2_ := Aside0.mk ((by rw [hg]; exact (below_size (by repeat (first | (with_reducible first | exact HB.out | apply below_alloc | apply pw_below_drewN | apply below_drew1) | exact HB.out))) : w.heap.size ≤ gb113)); have n3_ := Aside0.mk ((by rw [hg]; exact (below_size (by repeat (first | (with_reducible first | exact HB.out | apply below_alloc | apply pw_below_drewN | apply below_drew1) | exact HB.out))) : w.heap.size ≤ gb113)); clear HB; have HB := n0_; have BK113 := n1_; have GW113 := n2_; have GE113 := n3_; clear n0_ n1_ n2_ n3_; clear hb hbox hg) | ((with_reducible refine gate_callee (f := 41) rfl ?_); refine goesL_ (some 12) rfl rfl Try.func41 (by kernel_rfl) rfl #[.slice A0 l0.length c0] rfl (by (try simp only [List.map_toArray, List.map_cons, List.map_nil]); first | done | rfl | (simp only [List.length_drop, List.length_take]; rfl)) ?_; (with_reducible refine (valid_Check.calls _ _ l0 t114 t115 t116 _ ?side1 ?side2 A4.out).mono ?_); (case side1 => repeat (first | exact (Kd.C_below HR0.out HB.out) | (with_reducible refine Kd.C_alloc ?_ _) | (with_reducible refine Kd.C_drewN ?_ _) | (with_reducible refine Kd.C_drew ?_))); (case side2 => exact HC0.out); rintro e w27 ⟨rfl, hb⟩; refine ⟨_, rfl, ?_⟩; have n0_ := Aside0.mk (blk_below (g := gb113) (o := .cells #[.int .i64 a2_0, .int .i64 a2_1] 40 (0, 0)) (by (with_reducible repeat (first | refine blk_drewN ?_ _ | refine blk_drew ?_ | refine blk_alloc ?_ _)); exact BK113.out) hb); have n1_ := Aside0.mk (below_step (by repeat (first | (with_reducible first | exact HB.out | apply below_alloc | apply pw_below_drewN | apply below_drew1 | refine below_set ?_ GE113.out) | exact HB.out)) hb); clear BK113; clear HB; have BK113 := n0_; have HB := n1_; clear n0_ n1_; (try clear hb); (try clear hb2); (try clear hk); (try clear hi)))
    go_ret
    exact ⟨by first | rfl | (simp [errW_none, errW_some] <;> rfl) | (simp [*, errW_none, errW_some] <;> rfl), by repeat (first | (with_reducible first | exact HB.out | apply below_alloc | apply pw_below_drewN | apply below_drew1 | refine below_set ?_ GE113.out) | exact HB.out)⟩

end Go.Proofs.Ytbekjccehhaljaa.H

set_option linter.unusedVariables false
set_option linter.unusedSimpArgs false
namespace Go.Proofs.Ytbekjccehhaljaa.H
open Go.RowKit Go.Hay Go.Proofs.YtbekjccehhaljaaW.PrintWords Go.Proofs.YtbekjccehhaljaaW.PrintLast Go.Proofs.YtbekjccehhaljaaW.PrintMore
/-- may a program run? -/
def evRight (l : List S64) (n : Nat) (b d : Int) : Bool :=
  if (checkP l).2.2 = 0 then (if b < 1 then false else if b > 10000 then false else if d < 0 then false else if d > 30 then false else ((n : Int) == (rd_T64 l 0).f0)) else false
theorem evRight_f (l : List S64) (args : List Int) (b d : Int) : eval_Right.f l args b d = some (evRight l args.length b d) := by
  unfold eval_Right.f evRight valid_Check.f
  simp only [Option.bind_some]
  by_cases h : (checkP l).2.2 = 0
  · have hl := (check_ok h).len
    rw [if_pos h, if_pos h]
    repeat' split
    all_goals first | rfl | (exfalso; omega)
  · rw [if_neg h, if_neg h]
theorem evRight_ok {l : List S64} {n : Nat} {b d : Int} (h : evRight l n b d = true) : POk l ∧ (1 ≤ b ∧ b ≤ 10000) ∧ (0 ≤ d ∧ d ≤ 30) ∧ (n : Int) = (rd_T64 l 0).f0 ∧ n ≤ 4 := by
  unfold evRight at h
  split at h
  · rename_i hc
    have hp := check_ok hc
    repeat' split at h
    all_goals try (exact absurd h (by decide))
    have hn : (n : Int) = (rd_T64 l 0).f0 := by simpa using h
    have hl := hp.len
    have h0 := (hp.fn 0 (by omega)).1
    have e : rd_T64 l 0 = l[0] := by simp [rd_T64, show 0 < l.length by omega]
    rw [e] at hn
    exact ⟨hp, by omega, by omega, by rw [e]; exact hn, by omega⟩
  · exact absurd h (by decide)
end Go.Proofs.Ytbekjccehhaljaa.H

set_option linter.unusedVariables false
set_option linter.unusedSimpArgs false
namespace Go.Proofs.Ytbekjccehhaljaa.H
open Go.RowKit Go.Hay Go.Proofs.YtbekjccehhaljaaW.PrintWords Go.Proofs.YtbekjccehhaljaaW.PrintLast Go.Proofs.YtbekjccehhaljaaW.PrintMore
theorem assertU_ll (v : Value) (w : World) : (Instr.typeAssert (.iface 94 v) 20 94 true).run Try.prog w = .ok (.tuple #[v, .bool true]) w := by kernel_rfl
theorem max_mostU (most : Int) (ats : Array TypeId) (ty : TypeId) : Builtin.max_ ats ty #[.int .i64 most, .int .i64 0] = pure (.int .i64 (most.toNat : Int)) := by
  rw [max_two, max2_int]
  have e : (if most < 0 then (0 : Int) else most) = (most.toNat : Int) := by split <;> omega
  rw [e]
  rfl
/-- a log in memory, read. -/
def LogAt (w : World) (Al : Option Addr) (L : List (List Int × Int)) : Prop :=
  ∀ i (h : i < L.length), ∃ g A c, Al = some ⟨g, 0, none⟩ ∧ w.cell? ⟨g, i * 2, none⟩ = some (.slice A L[i].1.length c) ∧ w.cell? ⟨g, i * 2 + 1, none⟩ = some (.int .i64 L[i].2) ∧ L[i].1.length ≤ c ∧ L[i].1.length ≤ 1000 ∧ (Kd.int .i64).C w A L[i].1.length L[i].1
theorem LogAt.below {w w1 : World} {Al : Option Addr} {L : List (List Int × Int)} (h : LogAt w Al L) (hb : Below w.heap.size w w1) : LogAt w1 Al L := by
  intro i hi
  obtain ⟨g, A, c, h1, h2, h3, h4, h5, h6⟩ := h i hi
  exact ⟨g, A, c, h1, (hb.cell (World.block_lt_of_cell? w _ h2)).trans h2, (hb.cell (World.block_lt_of_cell? w _ h3)).trans h3, h4, h5, Kd.C_below h6 hb⟩
/-- what Unfold answers. -/
inductive UnfR where
  | ok (t : Tr) (G : Gu)
  | err (e : Int)
def ansU : Option (Tr × Gu) → UnfR
  | some (t, G) => .ok t G
  | none => .err 3
def unfoldR (l : List S64) (args : List Int) (b d : Int) (most : Nat) : UnfR :=
  if evRight l args.length b d = true then ansU (unfoldP l args b d most) else .err 1
def treeV (a : Option Addr) (Al : Option Addr) (n c : Nat) (G : Gu) : Value := .agg #[.pointer a, .slice Al n c, .int .i64 G.frames, .int .i64 G.cells, .int .i64 G.chunks, .int .i64 G.steps]
def UnfPost (w : World) (r : UnfR) (e : Ending) (w' : World) : Prop :=
  Below w.heap.size w w' ∧ match r with
    | .ok t G => ∃ a Al L c, e = .returned (.tuple #[treeV a Al L.length c G, .int .i64 0]) ∧ IsT t w' a ∧ L.Perm G.log ∧ L.Pairwise (fun x y => ltP y.1 x.1 = false) ∧ LogAt w' Al L ∧ L.length ≤ c
    | .err e9 => e = .returned (.tuple #[treeV none none 0 0 ⟨0, [], 0, 0, 0, 0⟩, .int .i64 e9])
structure UfW (w : World) (b d : Int) (W : World) : Prop where
  below : Below w.heap.size w W
  c0 : W.heap[w.heap.size]? = some (.cells #[.int .i64 b, .int .i64 d] 40 (0, 0))
  c1 : W.heap[w.heap.size + 1]? = some (.cells #[.pointer none, .slice none 0 0, .int .i64 0, .int .i64 0, .int .i64 0, .int .i64 0] 33 (0, 0))
  c2 : W.heap[w.heap.size + 1 + 1]? = some (.cells #[.int .i64 0] 34 (0, 0))
theorem UfW.size {w W : World} {b d : Int} (h : UfW w b d W) : w.heap.size + 3 ≤ W.heap.size := by
  have := blk_lt h.c2; omega
theorem UfW.keep {w w' w'' : World} {b d : Int} (h : UfW w b d w') (k : Below (w.heap.size + 3) w' w'') : UfW w b d w'' :=
  ⟨h.below.trans (k.mono (by omega)), (k.block _ (by omega)).trans h.c0, (k.block _ (by omega)).trans h.c1, (k.block _ (by omega)).trans h.c2⟩
theorem UfW.start (w : World) (b d : Int) : UfW w b d (((w.alloc (.cells #[.int .i64 b, .int .i64 d] 40)).alloc (.cells #[.pointer none, .slice none 0 0, .int .i64 0, .int .i64 0, .int .i64 0, .int .i64 0] 33)).alloc (.cells #[.int .i64 0] 34)) := by
  have e1 : (w.alloc (.cells #[.int .i64 b, .int .i64 d] 40)).heap.size = w.heap.size + 1 := Array.size_push _
  have e2 : ((w.alloc (.cells #[.int .i64 b, .int .i64 d] 40)).alloc (.cells #[.pointer none, .slice none 0 0, .int .i64 0, .int .i64 0, .int .i64 0, .int .i64 0] 33)).heap.size = w.heap.size + 1 + 1 := by
    rw [← e1]; exact Array.size_push _
  have b1 := (Below.refl w.heap.size w).alloc (Nat.le_refl _) (.cells #[.int .i64 b, .int .i64 d] 40)
  have b2 := b1.alloc b1.size (.cells #[.pointer none, .slice none 0 0, .int .i64 0, .int .i64 0, .int .i64 0, .int .i64 0] 33)
  refine ⟨b2.alloc b2.size _, blk_alloc (blk_alloc (alloc_blk w _) _) _, ?_, ?_⟩
  · have := alloc_blk (w.alloc (.cells #[.int .i64 b, .int .i64 d] 40)) (.cells #[.pointer none, .slice none 0 0, .int .i64 0, .int .i64 0, .int .i64 0, .int .i64 0] 33)
    rw [e1] at this
    exact blk_alloc this _
  · have := alloc_blk ((w.alloc (.cells #[.int .i64 b, .int .i64 d] 40)).alloc (.cells #[.pointer none, .slice none 0 0, .int .i64 0, .int .i64 0, .int .i64 0, .int .i64 0] 33)) (.cells #[.int .i64 0] 34)
    rw [e2] at this
    exact this
theorem unf_results {tmps : Array Value} {w : World} {h : Nat} {x0 x1 x2 x3 x4 x5 : Value} {e : Int} (t8 : tmps.getD 8 undef = .pointer (some ⟨h + 1, 0, none⟩)) (t9 : tmps.getD 9 undef = .pointer (some ⟨h + 1 + 1, 0, none⟩)) (c1 : w.heap[h + 1]? = some (.cells #[x0, x1, x2, x3, x4, x5] 33 (0, 0))) (c2 : w.heap[h + 1 + 1]? = some (.cells #[.int .i64 e] 34 (0, 0))) :
    (results Try.f10 tmps).run Try.prog w = .ok (.tuple #[.agg #[x0, x1, x2, x3, x4, x5], .int .i64 e]) w := by
  have q0 := blk_cell c1 0
  have q1 := blk_cell c1 1
  have q2 := blk_cell c1 2
  have q3 := blk_cell c1 3
  have q4 := blk_cell c1 4
  have q5 := blk_cell c1 5
  have p0 := blk_cell c2 0
  simp only [Array.getD_eq_getD_getElem?] at t8 t9
  simp [results, Try.results10, go_sem, t8, t9, q0, q1, q2, q3, q4, q5, p0]
/-- six cells and one are written. -/
theorem six_set {w : World} {ob eb : Nat} {o0 o1 o2 o3 o4 o5 ev : Value} (ho : w.heap[ob]? = some (.cells #[o0, o1, o2, o3, o4, o5] 33 (0, 0))) (he : w.heap[eb]? = some (.cells #[ev] 34 (0, 0))) (v0 v1 v2 v3 v4 v5 v6 : Value) {W : World} (hW : W = ((((((w.setCell ⟨ob, 0, none⟩ v0).setCell ⟨ob, 1, none⟩ v1).setCell ⟨ob, 2, none⟩ v2).setCell ⟨ob, 3, none⟩ v3).setCell ⟨ob, 4, none⟩ v4).setCell ⟨ob, 5, none⟩ v5).setCell ⟨eb, 0, none⟩ v6) :
    W.heap[ob]? = some (.cells #[v0, v1, v2, v3, v4, v5] 33 (0, 0)) ∧ W.heap[eb]? = some (.cells #[v6] 34 (0, 0)) ∧ Keep (fun q => q = ob ∨ q = eb) w W := by
  have n3 : eb ≠ ob := fun e => by rw [e, ho] at he; cases he
  subst hW
  have d1 := blk_set (blk_set (blk_set (blk_set (blk_set (blk_set ho 0 v0) 1 v1) 2 v2) 3 v3) 4 v4) 5 v5
  have e1 := blk_farC (p := ⟨ob, 5, none⟩) (blk_farC (p := ⟨ob, 4, none⟩) (blk_farC (p := ⟨ob, 3, none⟩) (blk_farC (p := ⟨ob, 2, none⟩) (blk_farC (p := ⟨ob, 1, none⟩) (blk_farC (p := ⟨ob, 0, none⟩) he n3 v0) n3 v1) n3 v2) n3 v3) n3 v4) n3 v5
  refine ⟨blk_farC (p := ⟨eb, 0, none⟩) d1 (Ne.symm n3) v6, blk_set e1 0 v6, ?_⟩
  exact (((((((Keep.refl (fun q => q = ob ∨ q = eb) w).set (p := ⟨ob, 0, none⟩) (.inr (.inl rfl)) v0).set (p := ⟨ob, 1, none⟩) (.inr (.inl rfl)) v1).set (p := ⟨ob, 2, none⟩) (.inr (.inl rfl)) v2).set (p := ⟨ob, 3, none⟩) (.inr (.inl rfl)) v3).set (p := ⟨ob, 4, none⟩) (.inr (.inl rfl)) v4).set (p := ⟨ob, 5, none⟩) (.inr (.inl rfl)) v5).set (p := ⟨eb, 0, none⟩) (.inr (.inr rfl)) v6
section
variable {ob eb : Nat} {w : World} {o0 o1 o2 o3 o4 o5 ev : Value}
set_option maxRecDepth 100000 in
set_option maxHeartbeats 4000000 in
theorem uwcatch_long (r : List PanicEntry) (ho : w.heap[ob]? = some (.cells #[o0, o1, o2, o3, o4, o5] 33 (0, 0))) (he : w.heap[eb]? = some (.cells #[ev] 34 (0, 0))) :
    CallsD Try.prog 25 #[.pointer (some ⟨ob, 0, none⟩), .pointer (some ⟨eb, 0, none⟩)] (.panicking ({ v := ulongV, recovered := false } :: r)) w fun x u' w' =>
      x = .returned (.tuple #[]) ∧ u' = .panicking ({ v := ulongV, recovered := true } :: r) ∧ Keep (fun q => q = ob ∨ q = eb) w w' ∧ w'.heap[ob]? = some (.cells #[.pointer none, .slice none 0 0, .int .i64 0, .int .i64 0, .int .i64 0, .int .i64 0] 33 (0, 0)) ∧ w'.heap[eb]? = some (.cells #[.int .i64 3] 34 (0, 0)) := by
  have hul := Try.underlying94
  have ha2 := assertU_ll (.agg #[])
  have n3 : eb ≠ ob := fun e => by rw [e, ho] at he; cases he
  obtain ⟨W1, hW1⟩ : ∃ W1, W1 = w.alloc (.cells #[] 94) := ⟨_, rfl⟩
  have hb1 : Below w.heap.size w W1 := by rw [hW1]; exact (Below.refl w.heap.size w).alloc (Nat.le_refl _) _
  have ho1 := (hb1.block _ (blk_lt ho)).trans ho
  have he1 := (hb1.block _ (blk_lt he)).trans he
  have H1 := Aside0.mk (And.intro hb1 (And.intro ho1 he1))
  have HW1 := Aside0.mk hW1
  clear hb1 ho1 he1 hW1 ho he
  refine callsD_of_wpS Try.func25 rfl fun c₀ cs hu => ?_
  apply wpS_seq
  apply wpS_region
  simp [wpOpsS, go_sem, recoverD, hu, Try.ntmps25, Exit.thenS]
  refine wpS_body ?_
  simp only [Array.replicate_succ, Array.replicate_zero, List.push_toArray, List.append_toArray, List.nil_append, List.cons_append, List.setIfInBounds_toArray, List.set_cons_zero, List.set_cons_succ, ulongV]
  go_upto_region 5 with (fail)
  rw [← HW1.out]
  have s0 := blk_cell H1.out.2.1 0
  have s1 := blk_cell H1.out.2.1 1
  have s2 := blk_cell H1.out.2.1 2
  have s3 := blk_cell H1.out.2.1 3
  have s4 := blk_cell H1.out.2.1 4
  have s5 := blk_cell H1.out.2.1 5
  have z0 := blk_frozen H1.out.2.1 0
  have z1 := blk_frozen H1.out.2.1 1
  have z2 := blk_frozen H1.out.2.1 2
  have z3 := blk_frozen H1.out.2.1 3
  have z4 := blk_frozen H1.out.2.1 4
  have z5 := blk_frozen H1.out.2.1 5
  have e0 := blk_cell H1.out.2.2 0
  have f0 := blk_frozen H1.out.2.2 0
  go_wp2_with fail
  go_end0
  obtain ⟨d1, d2, d3⟩ := six_set H1.out.2.1 H1.out.2.2 (.pointer none) (.slice none 0 0) (.int .i64 0) (.int .i64 0) (.int .i64 0) (.int .i64 0) (.int .i64 3) rfl
  exact ⟨rfl, trivial, (Keep.of_below H1.out.1 _).trans d3, d1, d2⟩
theorem uwcatch_idle (q r : Addr) (w : World) :
    CallsD Try.prog 25 #[.pointer (some q), .pointer (some r)] .returning w fun x u' w' =>
      x = .returned (.tuple #[]) ∧ u' = .returning ∧ w = w' := by
  refine callsD_of_wpS Try.func25 rfl fun c₀ cs hu => ?_
  apply wpS_seq
  apply wpS_region
  simp [wpOpsS, go_sem, recoverD, hu, Try.ntmps25, Exit.thenS]
  refine wpS_body_same hu ?_
  simp only [Array.replicate_succ, Array.replicate_zero, List.push_toArray, List.append_toArray, List.nil_append, List.cons_append, List.setIfInBounds_toArray, List.set_cons_zero, List.set_cons_succ]
  go_wp2
  go_end0
  exact ⟨rfl, trivial, rfl⟩
end
theorem drop_all : ∀ rr : List PanicEntry, (∀ x ∈ rr, x.goexit = false) → rr.dropWhile (fun x => !x.goexit) = []
  | [], _ => rfl
  | x :: rr, h => by rw [List.dropWhile_cons, if_pos (by rw [h x List.mem_cons_self]; rfl)]; exact drop_all rr (fun y hy => h y (List.mem_cons_of_mem _ hy))
theorem beginU_inv {l : List S64} (hl : POk l) {b d : Int} (hb : 0 ≤ b) {k M f : Nat} {G G' : Gu} {path args : List Int} {hands : List Tr} {t : Tr} (hf : f < l.length) (hp : (path.length : Int) ≤ d) (ha : args.length ≤ 8) (hh : hands.length = 4) (hg : GUI M b G) (hleft : G.log.length + 1 + G.left ≤ M) (h : beginU l b d k G (f : Int) path args hands = some (t, G')) : GUI M b G' := by
  have hrd : rd_T64 l (f : Int) = l[f] := by simp [rd_T64, hf]
  unfold beginU at h
  rw [hrd] at h
  cases hq : runU l b d k G path l[f].f1 (newTu args hands) with
  | none => rw [hq] at h; cases h
  | some r =>
    obtain ⟨v, f', T, G1⟩ := r
    rw [hq] at h
    obtain ⟨g1, g2, g3, g4⟩ := runU_ok hl hb k M G path f hf _ hg hleft (new_inv hl hb f hf hp args ha hands hh) v f' T G1 hq
    cases h
    exact note_inv hb g1 g2 g4
theorem endU_log {path : List Int} {r : RU} {t : Tr} {G : Gu} (h : endU path r = some (t, G)) : 0 < G.log.length := by
  cases r with
  | none => cases h
  | some x =>
    obtain ⟨v, f, T, G1⟩ := x
    cases h
    show 0 < (G1.log ++ [(path, (T.steps : Int))]).length
    rw [List.length_append]; simp
section
variable {A Aa : Option Addr} {c ca : Nat} {l : List S64} {args : List Int} {b d most : Int} {w : World}
set_option maxRecDepth 100000 in
set_option maxHeartbeats 16000000 in
theorem Unfold_any (hC : k64.C w A l.length l) (hc : l.length ≤ c) (hCa : (Kd.int .i64).C w Aa args.length args) (hca : args.length ≤ ca) (hmost : most ≤ 900000) :
    Calls Try.prog 10 #[.slice A l.length c, .slice Aa args.length ca, .agg #[.int .i64 b, .int .i64 d], .int .i64 most] w (UnfPost w (unfoldR l args b d most.toNat)) := by
  obtain ⟨r, hr⟩ : ∃ r, r = unfoldR l args b d most.toNat := ⟨_, rfl⟩
  rw [← hr]
  obtain ⟨W3, hW3⟩ : ∃ W3, W3 = ((w.alloc (.cells #[.int .i64 b, .int .i64 d] 40)).alloc (.cells #[.pointer none, .slice none 0 0, .int .i64 0, .int .i64 0, .int .i64 0, .int .i64 0] 33)).alloc (.cells #[.int .i64 0] 34) := ⟨_, rfl⟩
  have hE3 : UfW w b d W3 := by rw [hW3]; exact UfW.start w b d
  have H0 := Aside0.mk (And.intro hC (And.intro hc (And.intro hCa (And.intro hca (And.intro hmost hr)))))
  have HW3 := Aside0.mk hW3
  have H3 := Aside0.mk hE3
  have y0 := blk_cell hE3.c0 0
  have y1 := blk_cell hE3.c0 1
  clear hW3 hC hc hCa hca hmost hr hE3
  go_enter_defers Try.func10, Try.ntmps10
  go_upto_region 1 with (fail)
  rw [← HW3.out]
  go_wp2_with fail
  refine (eval_Right.calls A c l Aa ca args b d _ W3 (Kd.C_below H0.out.1 H3.out.below) H0.out.2.1 (Kd.C_below H0.out.2.2.1 H3.out.below) H0.out.2.2.2.1 (evRight_f l args b d)).mono ?_
  rintro e w4 ⟨rfl, hb4⟩
  have hE4 := H3.out.keep (hb4.mono H3.out.size)
  have H4 := Aside0.mk hE4
  clear y0 y1 hE4 hb4
  cases hRt : evRight l args.length b d with
  | false =>
    have hr := H0.out.2.2.2.2.2
    unfold unfoldR at hr
    rw [if_neg (by rw [hRt]; decide)] at hr
    have HR := Aside0.mk hr
    have s0 := blk_cell H4.out.c1 0
    have s1 := blk_cell H4.out.c1 1
    have s2 := blk_cell H4.out.c1 2
    have s3 := blk_cell H4.out.c1 3
    have s4 := blk_cell H4.out.c1 4
    have s5 := blk_cell H4.out.c1 5
    have z0 := blk_frozen H4.out.c1 0
    have z1 := blk_frozen H4.out.c1 1
    have z2 := blk_frozen H4.out.c1 2
    have z3 := blk_frozen H4.out.c1 3
    have z4 := blk_frozen H4.out.c1 4
    have z5 := blk_frozen H4.out.c1 5
    have e0 := blk_cell H4.out.c2 0
    have f0 := blk_frozen H4.out.c2 0
    clear hr hRt
    go_wp2_with fail
    obtain ⟨d1, d2, d3⟩ := six_set H4.out.c1 H4.out.c2 (.pointer none) (.slice none 0 0) (.int .i64 0) (.int .i64 0) (.int .i64 0) (.int .i64 0) (.int .i64 1) rfl
    refine ⟨_, unf_results rfl rfl d1 d2, ?_⟩
    rw [HR.out]
    exact ⟨H4.out.below.trans (d3.below (B := w.heap.size) H4.out.below.size (fun q hq hp => by omega)), rfl⟩
  | true =>
    obtain ⟨hl, hb, hd, hn, hn4⟩ := evRight_ok hRt
    have hr := H0.out.2.2.2.2.2
    unfold unfoldR at hr
    rw [if_pos hRt] at hr
    have HR := Aside0.mk (And.intro hr (And.intro hl (And.intro hb (And.intro hd (And.intro hn hn4)))))
    clear hr hRt hl hb hd hn hn4
    have y0 := blk_cell H4.out.c0 0
    have y1 := blk_cell H4.out.c0 1
    have hmax := max_mostU most
    obtain ⟨n, hn⟩ : ∃ n, n = most.toNat := ⟨_, rfl⟩
    have HN := Aside0.mk hn
    rw [← hn] at hmax
    clear hn
    obtain ⟨wb, hwb⟩ : ∃ wb, wb = w4.heap.size := ⟨_, rfl⟩
    obtain ⟨W5, hW5⟩ : ∃ W5, W5 = w4.alloc (.cells #[.slice A l.length c, .int .i64 b, .int .i64 d, .int .i64 n, .pointer none, .slice none 0 0, .int .i64 0, .int .i64 0, .int .i64 0, .int .i64 0] 92) := ⟨_, rfl⟩
    have hn5 : W5.heap[wb]? = some (.cells #[.slice A l.length c, .int .i64 b, .int .i64 d, .int .i64 n, .pointer none, .slice none 0 0, .int .i64 0, .int .i64 0, .int .i64 0, .int .i64 0] 92 (0, 0)) := by rw [hW5, hwb]; exact alloc_blk w4 _
    have hb5 : Below w4.heap.size w4 W5 := by rw [hW5]; exact (Below.refl w4.heap.size w4).alloc (Nat.le_refl _) _
    have HWB := Aside0.mk (And.intro hwb hW5)
    have H5 := Aside0.mk (And.intro hn5 hb5)
    clear hn5 hb5 hwb hW5
    go_upto_region 5 with (fail)
    rw [← HWB.out.1, ← HWB.out.2]
    have hUS : US ⟨w4, wb, wb, A, c, b, d⟩ l (fun _ => False) ⟨n, [], 0, 0, 0, 0⟩ [] (.slice none 0 0) W5 := ⟨⟨H5.out.1, Kd.R_nil _ _ _ _ _, ⟨rfl, fun j h1 => absurd h1 (Nat.not_lt_zero _)⟩, Nat.le_refl _⟩, H5.out.2, Kd.C_below H0.out.1 H4.out.below, by show w4.heap.size ≤ wb; rw [HWB.out.1]; exact Nat.le_refl _, fun q hq => hq.elim, fun q _ h => h, fun q hq => hq.elim⟩
    have hbb : Below w.heap.size w W5 := H4.out.below.trans (H5.out.2.mono H4.out.below.size)
    have hbeg := begin_allU (c := ⟨w4, wb, wb, A, c, b, d⟩) HR.out.2.1 (by have := HR.out.2.2.2.1; show d ≤ 900; omega) (by have := HR.out.2.2.1; show 0 ≤ b ∧ b ≤ 100000; omega) (n + 1) (n + 1) (fun _ => False) ⟨n, [], 0, 0, 0, 0⟩ [] (.slice none 0 0) W5 0 none 0 [] Aa ca args noHandsU [none, none, none, none] hUS ⟨by show 0 + n ≤ n + 1; omega, rfl, Nat.le_refl _, by show ((0 : Nat) : Int) ≤ b * ((0 : Nat) : Int); simp, by show ((0 : Nat) : Int) ≤ b * ((0 : Nat) : Int); simp, fun e he => by cases he⟩ (by show 0 + 1 + n ≤ n + 1; omega) (by have := H0.out.2.2.2.2.1; have := HN.out; omega) (by have := HR.out.2.1.len; omega) (PathAt.nil _) (Nat.le_refl _) (fun _ => rfl) (by have := HR.out.2.2.2.1.1; show ((0 : Nat) : Int) ≤ d; omega) (by have := HR.out.2.2.2.2.2; omega) (Kd.C_below H0.out.2.2.1 hbb) H0.out.2.2.2.1 rfl rfl (fun j h1 h2 => by
      have h1 : j < 4 := h1
      have : j = 0 ∨ j = 1 ∨ j = 2 ∨ j = 3 := by omega
      rcases this with rfl | rfl | rfl | rfl <;> exact ND.nil _ _) (Nat.lt_succ_self n)
    have HBG := Aside0.mk hbeg
    clear hbeg hUS hmax y0 y1
    go_wp2_with fail
    refine HBG.out.mono ?_
    clear HBG
    intro e w6 hpost
    obtain ⟨q, hq⟩ : ∃ q, q = beginU l b d (n + 1) ⟨n, [], 0, 0, 0, 0⟩ ((0 : Nat) : Int) [] args noHandsU := ⟨_, rfl⟩
    replace hpost : BegPU ⟨w4, wb, wb, A, c, b, d⟩ l (PU wb (.slice none 0 0)) (fun _ => False) q W5 e w6 := by rw [hq]; exact hpost
    have hr2 : r = ansU q := by
      rw [HR.out.1]
      unfold unfoldP
      have hq' : beginU l b d (most.toNat + 1) ⟨most.toNat, [], 0, 0, 0, 0⟩ 0 [] args noHandsU = q := by rw [← HN.out, hq]; rfl
      rw [hq']
    have hlg : ∀ t G, q = some (t, G) → 0 < G.log.length := fun t G e => by rw [hq] at e; exact endU_log e
    have hgl : ∀ t G, q = some (t, G) → G.log.length ≤ 1000000 := fun t G e => by
      rw [hq] at e
      have h9 := beginU_inv HR.out.2.1 (by have := HR.out.2.2.1; omega) (M := n + 1) (f := 0) (by have := HR.out.2.1.len; omega) (by have := HR.out.2.2.2.1.1; show ((0 : Nat) : Int) ≤ d; omega) (by have := HR.out.2.2.2.2.2; omega) rfl ⟨by show 0 + n ≤ n + 1; omega, rfl, Nat.le_refl _, by show ((0 : Nat) : Int) ≤ b * ((0 : Nat) : Int); simp, by show ((0 : Nat) : Int) ≤ b * ((0 : Nat) : Int); simp, fun e he => by cases he⟩ (by show 0 + 1 + n ≤ n + 1; omega) e
      have h8 := h9.log
      have h7 := H0.out.2.2.2.2.1
      have h6 := HN.out
      omega
    have hpg : ∀ x, PU wb (.slice none 0 0) x → x = wb := fun x hx => hx.elim id (fun h => by cases h)
    clear hq
    cases q with
    | none =>
      obtain ⟨⟨rr, he, hrr⟩, hk6⟩ := hpost
      subst he
      have hb6 : Below w4.heap.size w4 w6 := H5.out.2.trans ((hk6.mono (T := fun x => x = wb) (fun x _ hx => hpg x hx)).below H5.out.2.size (fun x hx e => by rw [HWB.out.1] at e; omega))
      have hE9 := H4.out.keep (hb6.mono H4.out.size)
      show Leaves _ _ _ _ _ _ _
      refine leaves_cons (f := 25) (args := #[.pointer (some ⟨w.heap.size + 1, 0, none⟩), .pointer (some ⟨w.heap.size + 1 + 1, 0, none⟩)]) (by simp) (by simp [go_sem]) ?_
      refine (uwcatch_long rr hE9.c1 hE9.c2).mono ?_
      rintro e u' w9 ⟨rfl, rfl, hk9, d2, e2⟩
      have hset : settle (.panicking ({ v := ulongV, recovered := true } :: rr)) = .returning := by
        unfold settle
        simp only [drop_all rr hrr]
      show Leaves _ _ _ _ _ (settle _) _
      rw [hset]
      refine ⟨_, unf_results rfl rfl d2 e2, ?_⟩
      rw [hr2]
      exact ⟨(H4.out.below.trans (hb6.mono H4.out.below.size)).trans (hk9.below (B := w.heap.size) (by have h1 := hE9.below.size; exact h1) (fun q hq hs => by rcases hs with h3 | h3 <;> omega)), rfl⟩
    | some tg =>
      obtain ⟨t, G⟩ := tg
      obtain ⟨a, D', ents, vl, he, hk6, hU6, hN6, hq6, _, hd2⟩ := hpost
      subst he
      have hlp := hlg t G rfl
      have hk6' : Keep (fun x => x = wb) W5 w6 := hk6.mono (fun x _ hx => hpg x hx)
      have hb6 : Below w4.heap.size w4 w6 := H5.out.2.trans (hk6'.below H5.out.2.size (fun x hx e => by rw [HWB.out.1] at e; omega))
      have hE9 := H4.out.keep (hb6.mono H4.out.size)
      obtain ⟨Al, cl, hvl⟩ := Kd.R_slice hU6.eg.log
      subst hvl
      have hlen := hU6.eg.ok.1
      have q4 := blk_cell hU6.eg.node 4
      have z4 := blk_frozen hU6.eg.node 4
      replace q4 : w6.cell? ⟨wb, 4, none⟩ = some (.pointer none) := q4
      replace z4 : w6.frozen? ⟨wb, 4, none⟩ = false := z4
      have H6 := Aside0.mk (And.intro hU6 (And.intro hN6 (And.intro hb6 (And.intro hE9 (And.intro hlp (And.intro hlen (And.intro hr2 hd2)))))))
      have HGL := Aside0.mk (hgl t G rfl)
      clear hU6 hN6 hb6 hE9 hlp hlen hr2 hd2 hk6 hk6' hq6 hlg hpg hgl
      go_upto_region 6 with (fail)
      obtain ⟨W7, hW7⟩ : ∃ W7, W7 = w6.setCell ⟨wb, 4, none⟩ (.pointer a) := ⟨_, rfl⟩
      rw [← hW7]
      have hk7 : Keep (fun x => x = wb) w6 W7 := by rw [hW7]; exact (Keep.refl (fun x => x = wb) w6).set (p := ⟨wb, 4, none⟩) (.inr rfl) _
      have hn7 := blk_set H6.out.1.eg.node 4 (.pointer a)
      replace hn7 : W7.heap[wb]? = some (.cells #[.slice A l.length c, .int .i64 b, .int .i64 d, .int .i64 G.left, .pointer a, .slice Al ents.length cl, .int .i64 G.frames, .int .i64 G.cells, .int .i64 G.chunks, .int .i64 G.steps] 92 (0, 0)) := by rw [hW7]; exact hn7
      have hne := H6.out.1.eg.ne
      have hlog7 : kEnt.R 54 W7 wb (fun _ => True) (.slice Al ents.length cl) ents := R_flat kEnt_flat H6.out.1.eg.log (fun _ _ => trivial) (fun q hq => hk7.block q (R_own H6.out.1.eg.log q hq).2.2 (hne q hq))
      have hok7 : EntsOk W7 ents G.log := H6.out.1.eg.ok.keep hk7 (fun q cs hq e => H6.out.1.eg.notPath q cs hq (.inl e))
      obtain ⟨g, c9, hv, hlt⟩ := Kd.R_form hlog7 (by have := H6.out.2.2.2.2.1; have := H6.out.2.2.2.2.2.1; omega)
      injection hv with hA _ hcl
      subst hA
      subst hcl
      have hel : ents.length ≤ 1000000 := by have h1 := H6.out.2.2.2.2.2.1; have h2 := HGL.out; omega
      have hpos : 0 < ents.length := by have := H6.out.2.2.2.2.1; have := H6.out.2.2.2.2.2.1; omega
      have hsort := sortLog_any hlog7 hok7 hpos hel
      have hgB := (R_own hlog7 g rfl).2
      obtain ⟨csg, hgt⟩ := Kd.R_typed hlog7 g rfl
      have HS := Aside0.mk hsort
      have H7 := Aside0.mk (And.intro hk7 (And.intro hn7 (And.intro hgB (And.intro hgt hne))))
      have q5 := blk_cell hn7 5
      clear hsort hk7 hn7 hgB hgt hlog7 hok7 hlt hel hpos hne hW7 q4 z4
      go_wp2_with fail
      refine HS.out.mono ?_
      rintro e w8 ⟨rfl, hk8, xs, hx1, hx2, hx3, hx4⟩
      clear HS q5
      have hwg : wb ≠ g := fun e => H7.out.2.2.2.2 g rfl e.symm
      have hn8 := hk8.blk H7.out.2.1 hwg
      have hlo : w.heap.size + 3 ≤ wb := by rw [HWB.out.1]; exact H4.out.size
      have hgB := H7.out.2.2.1
      have hb68 : Below (w.heap.size + 3) w6 w8 := (H7.out.1.below (B := w.heap.size + 3) (by have := H6.out.2.2.2.1.size; exact this) (fun q hq e => by omega)).trans (hk8.below (B := w.heap.size + 3) (by have h1 := H6.out.2.2.2.1.size; have h2 := H7.out.1.size; omega) (fun q hq e => by omega))
      have hE8 := H6.out.2.2.2.1.keep hb68
      have H8 := Aside0.mk (And.intro hk8 (And.intro hx1 (And.intro hx2 (And.intro hx3 (And.intro hx4 (And.intro hwg (And.intro hlo (And.intro hgB hE8))))))))
      have r4 := blk_cell hn8 4
      have r5 := blk_cell hn8 5
      have r6 := blk_cell hn8 6
      have r7 := blk_cell hn8 7
      have r8 := blk_cell hn8 8
      have r9 := blk_cell hn8 9
      have s0 := blk_cell hE8.c1 0
      have s1 := blk_cell hE8.c1 1
      have s2 := blk_cell hE8.c1 2
      have s3 := blk_cell hE8.c1 3
      have s4 := blk_cell hE8.c1 4
      have s5 := blk_cell hE8.c1 5
      have z0 := blk_frozen hE8.c1 0
      have z1 := blk_frozen hE8.c1 1
      have z2 := blk_frozen hE8.c1 2
      have z3 := blk_frozen hE8.c1 3
      have z4 := blk_frozen hE8.c1 4
      have z5 := blk_frozen hE8.c1 5
      have e0 := blk_cell hE8.c2 0
      have f0 := blk_frozen hE8.c2 0
      clear hk8 hx1 hx2 hx3 hx4 hwg hlo hgB hE8 hb68 hn8
      go_wp2_with fail
      obtain ⟨d1, d2, d3⟩ := six_set H8.out.2.2.2.2.2.2.2.2.c1 H8.out.2.2.2.2.2.2.2.2.c2 (.pointer a) (.slice (some ⟨g, 0, none⟩) ents.length cl) (.int .i64 (G.frames : Int)) (.int .i64 (G.cells : Int)) (.int .i64 (G.chunks : Int)) (.int .i64 (G.steps : Int)) (.int .i64 0) rfl
      refine leaves_cons (f := 25) (args := #[.pointer (some ⟨w.heap.size + 1, 0, none⟩), .pointer (some ⟨w.heap.size + 1 + 1, 0, none⟩)]) (by simp) (by simp [go_sem]) ?_
      refine (uwcatch_idle _ _ _).mono ?_
      rintro e u' w9 ⟨rfl, rfl, rfl⟩
      refine ⟨_, unf_results rfl rfl d1 d2, ?_⟩
      rw [H6.out.2.2.2.2.2.2.1]
      obtain ⟨hk8, hx1, hx2, hx3, hx4, hwg, hlo, hgB, hE8⟩ := H8.out
      obtain ⟨hU6, hN6, hb6, hE9, hlp, hlen, hr2, hd2⟩ := H6.out
      have hob : ∀ q, q = w.heap.size + 1 ∨ q = w.heap.size + 1 + 1 → q < wb ∧ q < g := fun q hq => by rcases hq with h | h <;> omega
      have hll : (xs.map (fun x => (x.2, x.1.s))).length = ents.length := by rw [hx2.length_eq]; exact hlen.symm
      refine ⟨hE8.below.trans (d3.below (B := w.heap.size) hE8.below.size (fun q hq hs => by rcases hs with h3 | h3 <;> omega)), a, some ⟨g, 0, none⟩, xs.map (fun x => (x.2, x.1.s)), cl, by rw [hll]; rfl, ?_, hx2, ?_, ?_, ?_⟩
      · have hDw : ∀ q, D' q → W5.heap.size ≤ q := fun q hq => (hd2 q hq).elim (fun h => h.elim) id
        have h5 := H5.out.2.size
        have h4 := H4.out.size
        exact (((hN6.keep (fun _ h => h) H7.out.1 (fun q hq e => hU6.dp q (.inl e) hq)).keep (fun _ h => h) hk8 (fun q hq e => hU6.dp q (.inr (by rw [e]; rfl)) hq)).keep (fun _ h => h) d3 (fun q hq e => by have := hDw q hq; rcases e with e | e <;> omega)).is
      · rw [List.pairwise_map]; exact hx3
      · intro i hi
        have hi' : i < xs.length := by rwa [List.length_map] at hi
        obtain ⟨c0, c1⟩ := hx4 i hi'
        obtain ⟨e1, e2, e3, e4⟩ := hx1 xs[i] (List.getElem_mem hi')
        have hgs : ∀ k, (w8.cell? ⟨g, k, none⟩).isSome → _ = w8.cell? ⟨g, k, none⟩ := fun k _ => World.cell?_of_block (a := ⟨g, k, none⟩) (d3.block g (by have h1 := World.block_lt_of_cell? _ _ c0; exact h1) (fun e => by have := hob g e; omega))
        have f0 := (hgs (i * 2) (by rw [c0]; rfl)).trans c0
        have f1 := (hgs (i * 2 + 1) (by rw [c1]; rfl)).trans c1
        have hpa : PathAt w8 xs[i].1.A xs[i].2 := e1.keep hk8 (fun q cs hq e => by subst e; rw [H7.out.2.2.2.1] at hq; cases hq)
        have hpb := hpa.keep d3 (fun q cs hq e => by
          rcases e with e | e
          · subst e; rw [hE8.c1] at hq; cases hq
          · subst e; rw [hE8.c2] at hq; cases hq)
        rw [List.getElem_map]
        refine ⟨g, xs[i].1.A, xs[i].1.c, rfl, ?_, f1, by show xs[i].2.length ≤ _; omega, e4, hpb.C e4⟩
        rw [f0, e2]
      · rw [hll]
        have h9 := (Kd.R_reads' hU6.eg.log).2.1
        omega
end
end Go.Proofs.Ytbekjccehhaljaa.H

set_option linter.unusedVariables false
set_option linter.unusedSimpArgs false
namespace Go.Proofs.Ytbekjccehhaljaa.H
open Go.RowKit Go.Hay Go.Proofs.YtbekjccehhaljaaW.PrintWords Go.Proofs.YtbekjccehhaljaaW.PrintLast Go.Proofs.YtbekjccehhaljaaW.PrintMore
def zPc : Pc := ⟨false, 0⟩
def rd_Pc (xs : List Pc) (i : Int) : Pc := xs.getD i.toNat zPc
theorem at_Pc {w : World} {A : Option Addr} {n : Nat} {xs : List Pc} (h : Kd.C kPc w A n xs) (i : Int) (h0 : 0 ≤ i) (h1 : i < n) : ∃ ad , A = some ad ∧ w.cell? (ad.add (i.toNat * 2)) = some (.bool (rd_Pc xs i).f0) ∧ w.cell? ⟨(ad.add (i.toNat * 2)).block, (ad.add (i.toNat * 2)).off + 1, none⟩ = some (.int .i64 (rd_Pc xs i).f1) := by
  obtain ⟨ad, c, e, _, hK, hc0⟩ := Kd.C_get h zPc i h0 h1
  have hc : ∀ j u, c[j]? = some u → w.cell? (ad.add (i.toNat * 2 + j)) = some u := hc0
  obtain rfl := kPc_open hK
  exact ⟨ad, e, hc 0 _ rfl, by rw [← add_field _ _ 1 (by omega)]; exact hc 1 _ rfl⟩
/-- A path: nil, or a row. -/
def PathIs (w : World) (A : Option Addr) (c : Nat) (path : List Int) : Prop := (Kd.int .i64).C w A path.length path ∧ ((A = none ∧ c = 0 ∧ path = []) ∨ ((∃ ad, A = some ad) ∧ path.length ≤ c)) ∧ ∀ ad, A = some ad → ad.block < w.heap.size
theorem PathIs.len {w : World} {A : Option Addr} {c : Nat} {path : List Int} (h : PathIs w A c path) : path.length ≤ c := by
  rcases h.2.1 with ⟨_, h2, h3⟩ | ⟨_, h2⟩
  · rw [h2, h3]; exact Nat.le_refl _
  · exact h2
theorem clone_any (A : Option Addr) (c : Nat) (path : List Int) (w : World) (h : PathIs w A c path) (hl : path.length ≤ 1000) :
    Calls Try.prog 50 #[.slice A path.length c] w fun e w' => ∃ v, e = .returned v ∧ (Kd.int .i64).R 3 w' w.heap.size (fun _ => True) v path ∧ Below w.heap.size w w' := by
  refine clonei_any A c path w h.1 (fun e => ?_) hl
  rcases h.2.1 with ⟨_, h2, h3⟩ | ⟨⟨ad, h2⟩, _⟩
  · exact ⟨h2, h3⟩
  · rw [h2] at e; cases e
end Go.Proofs.Ytbekjccehhaljaa.H

set_option linter.unusedVariables false
set_option linter.unusedSimpArgs false
namespace Go.Proofs.Ytbekjccehhaljaa.H
open Go.RowKit Go.Hay Go.Proofs.YtbekjccehhaljaaW.PrintWords Go.Proofs.YtbekjccehhaljaaW.PrintLast Go.Proofs.YtbekjccehhaljaaW.PrintMore
theorem panic_viaM {P : Program} {fn : Func} {R : Ending → World → Prop} {ops : Array Oper} {Q : Exit → Act → World → Prop} (hQ : ∀ c a w, Q (.panic c) a w = bodyPost P fn R (.panic c) a w) :
    ∀ o ∈ ops.toList, ∀ c a v w, Q (.panic c) (a.put o.dst v) w → Q (.panic c) a w := by
  intro o ho c a v w h
  rw [hQ] at h ⊢
  exact panic_put (P := P) (fn := fn) (R := R) o ho c a v w h
/-- What the two closures keep: the numbers told so far, the first failure; S: the blocks that they write. -/
abbrev Inv := List Int → Option (List Int) → (Nat → Prop) → World → Prop
structure Teller (F1 F2 : Nat) (caps1 caps2 : Array Value) (B : Nat) (I : Inv) : Prop where
  size : ∀ {told : List Int} {S : Nat → Prop} {w : World}, I told none S w → B ≤ w.heap.size ∧ ∀ k, S k → B ≤ k ∧ k < w.heap.size
  keep : ∀ {told : List Int} {q : Option (List Int)} {S : Nat → Prop} {w w' : World}, I told q S w → Below w.heap.size w w' → I told q S w'
  tell : ∀ {told : List Int} {S : Nat → Prop} {w : World} (x : Int), I told none S w → told.length ≤ 1000000 → Calls Try.prog F1 (#[.int .i64 x] ++ caps1) w fun e w' => e = .returned (.tuple #[]) ∧ ∃ S', I (told ++ [x]) none S' w' ∧ Keep S w w' ∧ ∀ k, S' k → S k ∨ w.heap.size ≤ k
  fails : ∀ {told : List Int} {S : Nat → Prop} {w : World} {A : Option Addr} {c : Nat} {path : List Int}, I told none S w → PathIs w A c path → (∀ ad, A = some ad → ¬ S ad.block) → Calls Try.prog F2 (#[.slice A path.length c] ++ caps2) w fun e w' => e = .returned (.tuple #[]) ∧ ∃ S', I told (some path) S' w' ∧ Keep S w w'
theorem PathIs.below {w w' : World} {A : Option Addr} {c : Nat} {path : List Int} (h : PathIs w A c path) (hb : Below w.heap.size w w') : PathIs w' A c path := ⟨Kd.C_below h.1 hb, h.2.1, fun ad e => Nat.lt_of_lt_of_le (h.2.2 ad e) hb.size⟩
theorem PathIs.keep {w w' : World} {A : Option Addr} {c : Nat} {path : List Int} {S : Nat → Prop} (h : PathIs w A c path) (hk : Keep S w w') (hS : ∀ ad, A = some ad → ¬ S ad.block) : PathIs w' A c path := by
  refine ⟨?_, h.2.1, fun ad e => Nat.lt_of_lt_of_le (h.2.2 ad e) hk.size⟩
  obtain ⟨hC, _⟩ := h
  refine ⟨hC.1, hC.2.1, fun hp => ?_⟩
  obtain ⟨ad, rfl, hx⟩ := hC.2.2 hp
  refine ⟨ad, rfl, fun j p hj => ?_⟩
  obtain ⟨cs, h1, h2, h3⟩ := hx j p hj
  exact ⟨cs, h1, h2, fun i u hu => hk.cell (h3 i u hu) (by rw [add_block]; exact hS ad rfl)⟩
/-- An own row of numbers is a path. -/
theorem PathIs.own {w : World} {base e : Nat} {v : Value} {path : List Int} {ok : Nat → Prop} (h : (Kd.int .i64).R e w base ok v path) : ∃ A c, v = .slice A path.length c ∧ PathIs w A c path ∧ (∀ ad, A = some ad → base ≤ ad.block) := by
  obtain ⟨A, c, rfl⟩ := Kd.R_slice h
  have hC := (Kd.R_reads' h).2.2
  have hlen := (Kd.R_reads' h).2.1
  obtain ⟨_, inner, ⟨_, ho⟩, _⟩ := h
  rcases ho with ⟨h1, h2⟩ | ⟨g, cap, cur, h1, h5, h6, _⟩
  · injection h1 with h1 h3 h4
    subst h1
    exact ⟨none, c, rfl, ⟨hC, .inl ⟨rfl, h4, List.eq_nil_of_length_eq_zero h2⟩, fun ad e => by cases e⟩, fun ad e => by cases e⟩
  · injection h1 with h1 h3 h4
    subst h1
    exact ⟨_, c, rfl, ⟨hC, .inr ⟨⟨_, rfl⟩, hlen⟩, fun ad e => by cases e; exact blk_lt h6⟩, fun ad e => by cases e; exact h5⟩
def WalkOk (F1 F2 : Nat) (caps1 caps2 : Array Value) (w0 : World) (I : Inv) (t : Tr) : Prop :=
  ∀ (a A : Option Addr) (c : Nat) (path told : List Int) (S : Nat → Prop) (w : World) (d : Int), IsT t w0 a → Below w0.heap.size w0 w → PathIs w A c path → (∀ ad, A = some ad → ¬ S ad.block) → I told none S w → rightT t d = true → 0 ≤ d → (path.length : Int) ≤ d →
    told.length + (walkT t path).1.length ≤ 1000000 →
    Calls Try.prog 32 #[.pointer a, .slice A path.length c, .func (.func F1) #[] caps1, .func (.func F2) #[] caps2] w fun e w' => e = .returned (.int .i64 (walkT t path).2.1) ∧
      ∃ S', I (told ++ (walkT t path).1) (walkT t path).2.2 S' w' ∧ Keep S w w' ∧ ((walkT t path).2.2 = none → ∀ k, S' k → S k ∨ w.heap.size ≤ k)
/-- What is known within the loop. -/
structure WW (w0 : World) (I : Inv) (S : Nat → Prop) (A : Option Addr) (c : Nat) (path told t1 : List Int) (w w' : World) : Prop where
  st : ∃ S', I (told ++ t1) none S' w' ∧ Keep S w w' ∧ ∀ k, S' k → S k ∨ w.heap.size ≤ k
  below : Below w0.heap.size w0 w'
  path : PathIs w' A c path
theorem WW.keep {F1 F2 : Nat} {caps1 caps2 : Array Value} {w0 : World} {I : Inv} (TT : Teller F1 F2 caps1 caps2 w0.heap.size I) {S : Nat → Prop} {A : Option Addr} {c : Nat} {path told t1 : List Int} {w w' w'' : World} (h : WW w0 I S A c path told t1 w w') (k : Below w'.heap.size w' w'') : WW w0 I S A c path told t1 w w'' := by
  obtain ⟨⟨S', h1, h2, h3⟩, h4, h5⟩ := h
  exact ⟨⟨S', TT.keep h1 k, h2.then (Keep.of_below k (fun _ => False)) (fun _ _ h => h.elim), h3⟩, h4.trans (k.mono h4.size), h5.below k⟩
theorem WW.next {F1 F2 : Nat} {caps1 caps2 : Array Value} {w0 : World} {I : Inv} (TT : Teller F1 F2 caps1 caps2 w0.heap.size I) {S : Nat → Prop} {A : Option Addr} {c : Nat} {path told t1 : List Int} {w w' : World} (hpl : ∀ ad, A = some ad → ad.block < w.heap.size) (hpS : ∀ ad, A = some ad → ¬ S ad.block) (h : WW w0 I S A c path told t1 w w') :
    ∃ S', I (told ++ t1) none S' w' ∧ (∀ ad, A = some ad → ¬ S' ad.block) ∧ (∀ k, S' k → w0.heap.size ≤ k ∧ k < w'.heap.size) ∧ (∀ {w2 : World}, Keep S' w' w2 → Keep S w w2) ∧
      ∀ {t2 : List Int} {S2 : Nat → Prop} {w2 : World}, I (told ++ t1 ++ t2) none S2 w2 → Keep S' w' w2 → (∀ k, S2 k → S' k ∨ w'.heap.size ≤ k) → WW w0 I S A c path told (t1 ++ t2) w w2 := by
  obtain ⟨⟨S', h1, h2, h3⟩, h4, h5⟩ := h
  have hne : ∀ ad, A = some ad → ¬ S' ad.block := fun ad e hs => (h3 _ hs).elim (hpS ad e) (fun hh => by have := hpl ad e; omega)
  have hk : ∀ {w2 : World}, Keep S' w' w2 → Keep S w w2 := fun k => h2.then k (fun i hi hs => (h3 i hs).elim id (fun hh => absurd hi (by omega)))
  refine ⟨S', h1, hne, (TT.size h1).2, hk, fun {t2 S2 w2} hI k hS => ⟨⟨S2, by rw [← List.append_assoc]; exact hI, hk k, fun x hx => (hS x hx).elim (h3 x) (fun hh => .inr (Nat.le_trans h2.size hh))⟩, h4.trans (k.below (TT.size h1).1 (fun x hx hs => by have := ((TT.size h1).2 x hs).1; omega)), h5.keep k hne⟩⟩
theorem metP_here {ps : List Pc} {i : Nat} {m r : Int} {q : Pc} (hi : i < ps.length) (hq : ps[i] = q) (h : metP m (ps.drop i) = some r) : (q.f0 = false ∧ metP m (ps.drop (i + 1)) = some r) ∨ (q.f0 = true ∧ q.f1 = m ∧ metP (m + 1) (ps.drop (i + 1)) = some r) := by
  rw [List.drop_eq_getElem_cons hi, hq, metP] at h
  by_cases h1 : q.f0 = true
  · rw [if_pos h1] at h
    by_cases h2 : q.f1 = m
    · rw [if_pos h2] at h; exact .inr ⟨h1, h2, h⟩
    · rw [if_neg h2] at h; cases h
  · rw [if_neg h1] at h; exact .inl ⟨by simpa using h1, h⟩
theorem preT_preT (a b : List Int) (r : List Int × Int × Option (List Int)) : preT a (preT b r) = preT (a ++ b) r := by simp [preT]
theorem rightTs_mem : ∀ {ks : List Tr} {d : Int}, rightTs ks d = true → ∀ (i : Nat) (h : i < ks.length), rightT ks[i] d = true
  | [], _, _, i, h => absurd h (Nat.not_lt_zero _)
  | k :: r, d, h, i, hi => by
    rw [rightTs, Bool.and_eq_true] at h
    cases i with
    | zero => exact h.1
    | succ i => exact rightTs_mem h.2 i (by simpa using hi)
theorem right_inv {ps : List Pc} {ks : List Tr} {v f d : Int} (h : rightT (.node ps ks v f) d = true) : d ≤ 30 ∧ (f = 0 ∨ v = 0) ∧ metP 0 ps = some (ks.length : Int) ∧ rightTs ks (d + 1) = true := by
  rw [rightT] at h
  split at h
  · cases h
  · rename_i h1
    split at h
    · cases h
    · rename_i m hm
      split at h
      · rename_i h2
        refine ⟨by omega, ?_, by rw [hm, h2], h⟩
        by_cases hf : f = 0
        · exact .inl hf
        · by_cases hv : v = 0
          · exact .inr hv
          · exact absurd (.inr ⟨hf, hv⟩) h1
      · cases h
set_option maxRecDepth 100000 in
set_option maxHeartbeats 8000000 in
theorem walk33_node (g : Nat) (caps1 caps2 : Array Value) (hc1 : caps1 = #[.pointer (some ⟨g, 0, none⟩)]) (hc2 : caps2 = #[]) (w0 : World) (I : Inv) (TT : Teller 33 34 caps1 caps2 w0.heap.size I) (ps : List Pc) (ks : List Tr) (v f : Int) (hk : ∀ k ∈ ks, WalkOk 33 34 caps1 caps2 w0 I k) : WalkOk 33 34 caps1 caps2 w0 I (.node ps ks v f) := by
  subst hc1
  subst hc2
  intro a A c path told S w d h hb0 hp hpS hI hr hd0 hpl htl
  obtain ⟨hd30, hfv, hmet, hrs⟩ := right_inv hr
  have h' := h
  simp only [IsT] at h'
  obtain ⟨b, A1, c1, A2, c2, qs, rfl, g1, g2, g3, g4, g5, g6⟩ := h'
  obtain ⟨W, hW⟩ : ∃ W, W = walkKs ks path 0 := ⟨_, rfl⟩
  have hres : walkT (.node ps ks v f) path = if (walkPs ps W).2.1 = 0 then ((walkPs ps W).1, f, if f = 0 then none else some path) else walkPs ps W := by rw [hW, walkT]
  have hWm : ∀ m (h : m < ks.length), W.getD m ([], 0, none) = walkT ks[m] (path ++ [(m : Int)]) := fun m h => by
    rw [List.getD_eq_getElem?_getD, hW, walkKs_get ks path 0 m h]; simp
  obtain ⟨R, hR⟩ : ∃ R, R = walkT (.node ps ks v f) path := ⟨_, rfl⟩
  rw [← hR] at hres htl ⊢
  have hmax := Kd.C_max g3
  have HW := Aside0.mk (show WW w0 I S A c path told [] w w from ⟨⟨S, by simpa using hI, Keep.refl _ _, fun k h => .inl h⟩, hb0, hp⟩)
  have HR := Aside0.mk hres
  have HWM := Aside0.mk hWm
  have HK := Aside0.mk hk
  have G := Aside0.mk (And.intro g1 (And.intro g3 (And.intro g5 g6)))
  have HM := Aside0.mk hmet
  have HRS := Aside0.mk hrs
  have HD := Aside0.mk (And.intro hd0 (And.intro hd30 hpl))
  have HTL := Aside0.mk htl
  have HPS := Aside0.mk (And.intro hp.2.2 hpS)
  have hR1 : R.1 = (walkPs ps W).1 := by rw [hres]; split <;> rfl
  have HR1 := Aside0.mk hR1
  have HT := Aside0.mk TT
  have gw := (hb0.block _ (blk_lt g1)).trans g1
  have n0 := blk_cell gw 0
  clear h hb0 hp hpS hI hr hd0 hpl htl hd30 hfv hmet hrs g1 g2 g3 g4 g5 g6 gw hR hW hres hWm hk TT hR1
  go_enter Try.func32, Try.ntmps32
  go_wp2_with fail
  go_step3
  go_wp2_with fail
  go_step3
  go_wp2_with fail
  clear n0
  go_loopw [18] (fun v18 wr => ∃ (i : Nat) (m : Int) (t1 : List Int), v18 = .int .i64 i ∧ i ≤ ps.length ∧ Aside0 (0 ≤ m ∧ metP m (ps.drop i) = some (ks.length : Int)) ∧ Aside0 (walkPs ps W = preT t1 (walkPs (ps.drop i) W)) ∧ Aside0 (WW w0 I S A c path told t1 w wr)) (fun v18 _ => ps.length - (intOf v18).toNat)
  case atStart => exact ⟨0, 0, [], rfl, Nat.zero_le _, ⟨Int.le_refl _, by simpa using HM.out⟩, ⟨by simp [preT]⟩, HW⟩
  case round =>
    clear HW HM
    obtain ⟨i, m, t1, rfl, hi, HM, HP, HW⟩ := hrel
    by_cases hlt : i < ps.length
    · obtain ⟨ad, rfl, hx0, hx1⟩ := at_Pc G.out.2.1 i (by omega) (by omega)
      replace hx0 := (HW.out.below.cell (World.block_lt_of_cell? w0 _ hx0)).trans hx0
      replace hx1 := (HW.out.below.cell (World.block_lt_of_cell? w0 _ hx1)).trans hx1
      simp only [Int.toNat_natCast] at hx0 hx1
      have hfi : rd_Pc ps (i : Int) = ps[i] := by simp [rd_Pc, hlt]
      rw [hfi] at hx0 hx1
      clear hfi
      generalize hfj : ps[i] = pi at hx0 hx1
      have HHERE := Aside0.mk (metP_here hlt hfj HM.out.2)
      have HDR := Aside0.mk (show walkPs (ps.drop i) W = walkPs (pi :: ps.drop (i + 1)) W by rw [List.drop_eq_getElem_cons hlt, hfj])
      clear hfj
      obtain ⟨p0, p1⟩ := pi
      have HW2 := Aside0.mk (HW.out.keep HT.out ((Below.refl _ _).alloc (Nat.le_refl _) (.cells #[.bool p0, .int .i64 p1] 86)))
      cases p0 with
      | false =>
        obtain ⟨S', hI, hne, hS', hkk, hnx⟩ := HW2.out.next HT.out HPS.out.1 HPS.out.2
        have hbd : (told ++ t1).length ≤ 1000000 := by
          have e := congrArg (fun r => r.1.length) HP.out
          simp only [preT, List.length_append] at e
          have := HTL.out
          rw [HR1.out] at this
          rw [List.length_append]; omega
        have HTE := Aside0.mk (HT.out.tell p1 hI hbd)
        have HNX := Aside0.mk (fun {S2 : Nat → Prop} {w2 : World} => hnx (t2 := [p1]) (S2 := S2) (w2 := w2))
        have hhere : metP m (ps.drop (i + 1)) = some (ks.length : Int) := HHERE.out.elim (fun h => h.2) (fun h => by cases h.1)
        have HM2 := Aside0.mk (And.intro HM.out.1 hhere)
        have HP2 := Aside0.mk (show walkPs ps W = preT (t1 ++ [p1]) (walkPs (ps.drop (i + 1)) W) by
          rw [HP.out, HDR.out, walkPs, if_neg (by simp), preT_preT])
        clear hI hne hS' hkk hnx hbd hhere HHERE HDR
        go_wp2_with fail
        refine (HTE.out).mono ?_
        rintro e w2 ⟨rfl, S2, hI2, hk2, hs2⟩
        have HW3 := Aside0.mk (HNX.out hI2 hk2 hs2)
        clear hI2 hk2 hs2 HNX HTE HW2 HW hx0 hx1
        go_wp2_with fail
        go_roundw
        case rel => exact ⟨i + 1, m, t1 ++ [p1], by go_num, by omega, HM2, HP2, HW3⟩
        case measure => simp [intOf]; omega
      | true =>
        have hh : p1 = m ∧ metP (m + 1) (ps.drop (i + 1)) = some (ks.length : Int) := HHERE.out.elim (fun h => by cases h.1) (fun h => h.2)
        obtain ⟨rfl, hmn⟩ := hh
        have hle := metP_le hmn
        obtain ⟨n, rfl⟩ := Int.eq_ofNat_of_zero_le HM.out.1
        have hnk : n < ks.length := by omega
        have HM2 := Aside0.mk (And.intro (show (0 : Int) ≤ (n : Int) + 1 by omega) hmn)
        obtain ⟨hnq, hIsT⟩ := IsTs.get G.out.2.2.2 n hnk
        obtain ⟨adk, rfl, hxk⟩ := at_P G.out.2.2.1 n hnk hnq
        have hxk2 := (HW2.out.below.cell (World.block_lt_of_cell? w0 _ hxk)).trans hxk
        have gw2 := (HW2.out.below.block _ (blk_lt G.out.1)).trans G.out.1
        have HX := Aside0.mk (And.intro hxk2 (And.intro gw2 hIsT))
        have hnk' : ((n : Int) < (ks.length : Int)) = True := eq_true (by omega)
        clear hle hmn HHERE hxk hxk2 gw2 hIsT HW
        go_upto_region 7 with (fail)
        clear hx0 hx1
        generalize wr.alloc (.cells #[.bool true, .int .i64 (n : Int)] 86) = wq at HX HW2 ⊢
        refine wp_region_seq2 (fun w' => Below wq.heap.size wq w') [14, 15] [.take 0, .take 1, .take 2, .take 3, .take 4, .take 5, .take 6, .take 7, .take 9, .take 12, .take 13, .pair 8 10, .op 11, .fin 14, .fin 15] (by kernel_rfl) (by kernel_rfl) rfl (by kernel_rfl) (panic_viaM (P := Try.prog) (fn := Try.f32) (R := fun e w' => e = .returned (.int .i64 R.2.1) ∧ ∃ S', I (told ++ R.1) R.2.2 S' w' ∧ Keep S w w' ∧ (R.2.2 = none → ∀ k, S' k → S k ∨ w.heap.size ≤ k)) (fun _ _ _ => rfl)) ?_
        have hs : Below wq.heap.size wq wq.drew := (Below.refl _ _).drew
        repeat (
          (first
            | (refine runSeq2_take (v := ?_) (by rfl) (by rfl) (fun w' hS => ?_) hs ?_
               rotate_left
               · (have hG := (hS.block _ (blk_lt HX.out.2.1)).trans HX.out.2.1; have d1 := blk_cell hG 1; have q0 := (hS.cell (World.block_lt_of_cell? wq _ HX.out.1)).trans HX.out.1; go_simp; exact rfl))
            | refine runSeq2_skip (by rfl) (by rfl) hs ?_)
          (try simp only [Act.put, List.setIfInBounds_toArray, List.set_cons_zero, List.set_cons_succ]))
        have hlen : path.length ≤ 1000 := by have h1 := HD.out.2.2; have h2 := HD.out.2.1; omega
        refine runSeq2_pairM (di := 39) (dj := 41) (fun v u w' => (Kd.int .i64).R 3 w' wq.heap.size (fun _ => True) v path ∧ ∃ bl, u = .slice (some ⟨bl, 0, none⟩) 1 1 ∧ w'.heap[bl]? = some (.cells #[.int .i64 (n : Int)] 3 (0, 0))) (by decide) ?_ ?_ ?_
        · refine wpOp_at (by rfl) (by rfl) (fun K hK => ?_)
          go_simp
          refine (clone_any A c path _ (HW2.out.path.below hs) hlen).mono ?_
          rintro e w1 ⟨v, rfl, hR, hb⟩
          have hs1 := hs.trans (hb.mono hs.size)
          refine hK _ _ ⟨v, rfl, hs1, ?_⟩
          clear hK K
          refine wpOp_at (by rfl) (by rfl) (fun K hK => ?_)
          go_simp
          exact hK _ _ ⟨_, rfl, hs1.alloc hs1.size _, Kd.R_lower (Kd.R_alloc hR _) hs.size, _, rfl, alloc_blk _ _⟩
        · refine wpOp_at (by rfl) (by rfl) (fun K hK => ?_)
          go_simp
          have hs1 := hs.alloc hs.size (.cells #[.int .i64 (n : Int)] 3)
          refine hK _ _ ⟨_, rfl, hs1, ?_⟩
          clear hK K
          refine wpOp_at (by rfl) (by rfl) (fun K hK => ?_)
          go_simp
          refine (clone_any A c path _ (HW2.out.path.below hs1) hlen).mono ?_
          rintro e w1 ⟨v, rfl, hR, hb⟩
          have ha := alloc_blk wq.drew (.cells #[.int .i64 (n : Int)] 3)
          exact hK _ _ ⟨v, rfl, hs1.trans (hb.mono hs1.size), Kd.R_lower hR hs1.size, _, rfl, (hb.block _ (blk_lt ha)).trans ha⟩
        · rintro vv uu w3 hs3 ⟨hR3, bl, rfl, hbl⟩
          (try simp only [Act.put, List.setIfInBounds_toArray, List.set_cons_zero, List.set_cons_succ])
          refine runSeq2_op (by rfl) (by rfl) (fun K hK => ?_)
          refine wp_append_nums .i64 wq.heap.size rfl (.tmp 39) (.tmp 41) 52 3 8 rfl Try.underlying52 infoC3 (by decide) vv path [(n : Int)] (some ⟨bl, 0, none⟩) 1 1 rfl rfl hR3 (reads_nums [(n : Int)] hbl (by simp)) hs3.size (by omega) ?_
          intro v1 w4 hR4 hb4 hg4 hat4
          have hs4 := hs3.trans hb4
          refine hK _ _ hs4 ?_
          clear hK K hR3 hbl hs3 hb4 hg4 hat4 hs w3
          (try simp only [Act.put, List.setIfInBounds_toArray, List.set_cons_zero, List.set_cons_succ])
          obtain ⟨A', c', rfl, hp', hown⟩ := PathIs.own hR4
          obtain ⟨S', hI, hne, hS', hkk, hnx⟩ := HW2.out.next HT.out HPS.out.1 HPS.out.2
          obtain ⟨K', hK'⟩ : ∃ K', K' = walkT ks[n] (path ++ [(n : Int)]) := ⟨_, rfl⟩
          have hWn : W.getD n ([], 0, none) = K' := (HWM.out n hnk).trans hK'.symm
          have hstep : walkPs (ps.drop i) W = if K'.2.1 = 0 then preT K'.1 (walkPs (ps.drop (i + 1)) W) else K' := by
            rw [HDR.out, walkPs, if_pos rfl, Int.toNat_natCast, hWn]
          have hbd : (told ++ t1).length + K'.1.length ≤ 1000000 := by
            have e := congrArg (fun r => r.1.length) HP.out
            simp only [preT, List.length_append] at e
            have := HTL.out
            rw [HR1.out] at this
            have e2 : K'.1.length ≤ (walkPs (ps.drop i) W).1.length := by
              rw [hstep]; split
              · simp [preT]
              · exact Nat.le_refl _
            rw [List.length_append]; omega
          have hcall := HK.out ks[n] (List.getElem_mem hnk) qs[n] A' c' (path ++ [(n : Int)]) (told ++ t1) S' w4 (d + 1) HX.out.2.2 (HW2.out.below.trans (hs4.mono HW2.out.below.size)) hp' (fun ad e hs => by have h1 := hown ad e; have h2 := (hS' _ hs).2; omega) (HT.out.keep hI hs4) (rightTs_mem HRS.out n hnk) (by have := HD.out.1; omega) (by have := HD.out.2.2; simp; omega) (by rw [← hK']; exact hbd)
          rw [← hK'] at hcall
          have hfit : Fits K' := hK' ▸ walkT_fits _ _
          obtain ⟨L, hL⟩ : ∃ L, L = (path ++ [(n : Int)]).length := ⟨_, rfl⟩
          rw [← hL] at hcall ⊢
          have HCALL := Aside0.mk hcall
          have HFIT := Aside0.mk hfit
          have HSTEP := Aside0.mk hstep
          have HNX := Aside0.mk (fun {S2 : Nat → Prop} {w2 : World} => hnx (t2 := K'.1) (S2 := S2) (w2 := w2))
          have HKK := Aside0.mk (fun {w2 : World} => hkk (w2 := w2))
          have HS4 := Aside0.mk hs4
          clear hp' hown hI hne hS' hkk hnx hWn hstep hbd hcall hfit hK' hs4 hR4 hL hlen HDR
          refine runSeq2_fin (by rfl) (by rfl) (fun K hK => ?_)
          go_simp
          refine HCALL.out.mono ?_
          rintro e w5 ⟨rfl, S2, hI2, hk2, hs2⟩
          have HE := Aside0.mk (And.intro hI2 (And.intro ((Keep.of_below HS4.out S').trans hk2) (fun h k hk => (hs2 h k hk).elim Or.inl (fun hh => Or.inr (Nat.le_trans HS4.out.size hh)))))
          clear hI2 hk2 hs2 HCALL
          refine hK _ _ ?_
          clear hK K
          refine runSeq2_fin (by rfl) (by rfl) (fun K hK => ?_)
          go_simp
          refine hK _ _ ?_
          clear hK K
          refine runSeq2_nil ?_
          by_cases hz : K'.2.1 = 0
          · have hno := HFIT.out.1 hz
            have hE := HE.out
            rw [hno] at hE
            have HW3 := Aside0.mk (HNX.out hE.1 hE.2.1 (hE.2.2 rfl))
            have HP2 := Aside0.mk (show walkPs ps W = preT (t1 ++ K'.1) (walkPs (ps.drop (i + 1)) W) by
              rw [HP.out, HSTEP.out, if_pos hz, preT_preT])
            have hz' : (K'.2.1 != 0) = false := by rw [hz]; rfl
            clear hE hno hz HE HNX HKK HP HSTEP HFIT
            go_wp2_with fail
            go_roundw
            case rel => exact ⟨i + 1, (n : Int) + 1, t1 ++ K'.1, by go_num, by omega, HM2, HP2, HW3⟩
            case measure => simp [intOf]; omega
          · have hRR : R = preT t1 K' := by
              have e : walkPs ps W = preT t1 K' := by rw [HP.out, HSTEP.out, if_neg hz]
              rw [HR.out, e, if_neg (show ¬ (preT t1 K').2.1 = 0 from hz)]
            have hz' : (K'.2.1 != 0) = true := by simp [hz]
            have HRR := Aside0.mk hRR
            have HZ := Aside0.mk hz
            clear hRR hz
            go_wp2_with fail
            dsimp only [Exit.noGoto]
            go_ret
            refine ⟨by rw [HRR.out]; rfl, S2, ?_, HKK.out HE.out.2.1, fun h => absurd (HFIT.out.2 (by rw [HRR.out] at h; exact h)) HZ.out⟩
            rw [HRR.out]
            show I (told ++ (t1 ++ K'.1)) K'.2.2 S2 w5
            rw [← List.append_assoc]
            exact HE.out.1
    · obtain rfl : i = ps.length := by omega
      clear hlt hi
      have hend : walkPs ps W = preT t1 ([], 0, none) := by have := HP.out; rw [List.drop_length] at this; exact this
      have hRR : R = (t1, f, if f = 0 then none else some path) := by
        rw [HR.out, hend, if_pos (show (preT t1 ([], 0, none)).2.1 = 0 from rfl)]; simp [preT]
      have HRR := Aside0.mk hRR
      obtain ⟨S', hI, hne, hS', hkk, hnx⟩ := HW.out.next HT.out HPS.out.1 HPS.out.2
      have gw2 := (HW.out.below.block _ (blk_lt G.out.1)).trans G.out.1
      have n3 := blk_cell gw2 3
      have hstt := HW.out.st
      have HST := Aside0.mk hstt
      by_cases hf : f = 0
      · have hf' : (f != 0) = false := by rw [hf]; rfl
        have HF := Aside0.mk hf
        clear hRR hend hf hI hne hS' hkk hnx gw2 hstt HW HP
        go_wp2_with fail
        dsimp only [Exit.noGoto]
        go_ret
        obtain ⟨S2, h1, h2, h3⟩ := HST.out
        rw [HRR.out]
        refine ⟨rfl, S2, ?_, h2, fun _ => h3⟩
        rw [if_pos HF.out]
        exact h1
      · have hf' : (f != 0) = true := by simp [hf]
        have HF := Aside0.mk hf
        have HFL := Aside0.mk (HT.out.fails hI HW.out.path hne)
        have HKK := Aside0.mk (fun {w2 : World} => hkk (w2 := w2))
        have HG := Aside0.mk gw2
        have HS' := Aside0.mk hS'
        have HB := Aside0.mk HW.out.below
        clear hRR hend hf hI hne hS' hkk hnx gw2 hstt HW HP
        go_wp2_with fail
        refine HFL.out.mono ?_
        rintro e w2 ⟨rfl, S2, hI2, hk2⟩
        have gw3 := hk2.blk HG.out (fun hs => by have h1 := (HS'.out _ hs).1; have h2 := blk_lt G.out.1; omega)
        have n3 := blk_cell gw3 3
        have HE := Aside0.mk (And.intro hI2 (HKK.out hk2))
        clear hI2 hk2 gw3 HG
        go_wp2_with fail
        dsimp only [Exit.noGoto]
        go_ret
        rw [HRR.out]
        refine ⟨rfl, S2, ?_, HE.out.2, fun h => ?_⟩
        · rw [if_neg HF.out]; exact HE.out.1
        · rw [if_neg HF.out] at h; cases h
mutual
theorem walk33_any (g : Nat) (w0 : World) (I : Inv) (TT : Teller 33 34 #[.pointer (some ⟨g, 0, none⟩)] #[] w0.heap.size I) : ∀ t : Tr, WalkOk 33 34 #[.pointer (some ⟨g, 0, none⟩)] #[] w0 I t
  | .nil => fun a A c path told S w d h hb0 hp hpS hI hr => by rw [rightT] at hr; cases hr
  | .node ps ks v f => walk33_node g _ _ rfl rfl w0 I TT ps ks v f (walks33_any g w0 I TT ks)
theorem walks33_any (g : Nat) (w0 : World) (I : Inv) (TT : Teller 33 34 #[.pointer (some ⟨g, 0, none⟩)] #[] w0.heap.size I) : ∀ l : List Tr, ∀ k ∈ l, WalkOk 33 34 #[.pointer (some ⟨g, 0, none⟩)] #[] w0 I k
  | [], k, h => by cases h
  | x :: r, k, h => by
    rcases List.mem_cons.1 h with h | h
    · exact h ▸ walk33_any g w0 I TT x
    · exact walks33_any g w0 I TT r k h
end
end Go.Proofs.Ytbekjccehhaljaa.H

