/- code.Read answers the program of bytes, or why there is none. -/
import Derived.Test.YtkbbgkhanmmhpaaH0
import Derived.Test.YtkbbgkhanmmhpaaVCodeWrite
import Derived.Laws.BitsAllLaws
set_option linter.unusedVariables false
set_option linter.unusedSimpArgs false
namespace Go.Proofs.Ytkbbgkhanmmhpaa.H
open Go.RowKit Go.Hay Go.Proofs.YtkbbgkhanmmhpaaW.PrintWords Go.Proofs.YtkbbgkhanmmhpaaW.PrintLast Go.Proofs.YtkbbgkhanmmhpaaW.PrintMore

/-! ### what bytes are -/
def pByte : List Int → Option (Int × List Int)
  | [] => none
  | b :: t => some (b, t)
def sgn (n : Int) : Int := if n < 2147483648 then n else n - 4294967296
def pWord : List Int → Option (Int × List Int)
  | a :: b :: c :: d :: t => some (sgn (a + 256 * b + 65536 * c + 16777216 * d), t)
  | _ => none
def pInstr : List Int → Option (S33 × List Int)
  | a :: b :: c :: d :: t => (pWord t).map fun x => (⟨a, b, c, d, x.1⟩, x.2)
  | _ => none
def pMany {α : Type} (f : List Int → Option (α × List Int)) : Nat → List Int → Option (List α × List Int)
  | 0, bs => some ([], bs)
  | n + 1, bs => (f bs).bind fun x => (pMany f n x.2).map fun y => (x.1 :: y.1, y.2)
def pSeveral {α : Type} (f : List Int → Option (α × List Int)) : List Int → Option (List α × List Int)
  | [] => none
  | n :: t => pMany f n.toNat t
def pFunc : List Int → Option (S36 × List Int)
  | [] => none
  | a :: t => (pSeveral pInstr t).map fun x => (⟨a, x.1⟩, x.2)
def rngB (bs : List Int) : Prop := ∀ x ∈ bs, 0 ≤ x ∧ x ≤ 255
instance (bs : List Int) : Decidable (rngB bs) := inferInstanceAs (Decidable (∀ x ∈ bs, 0 ≤ x ∧ x ≤ 255))
def readP : List Int → List S36 × Int
  | 72 :: t => match pSeveral pFunc t with
    | none => ([], 2)
    | some (p, []) => (p, 0)
    | some (_, _ :: _) => ([], 3)
  | _ => ([], 4)
def code_Read.f (bs : List Int) : Option (List S36 × Int) := if rngB bs then some (readP bs) else none

/-! ### the reader -/
structure RSt (W0 : World) (g : Nat) (bs : List Int) (w : World) : Prop where
  row : ∃ A c, w.heap[g]? = some (.cells #[.slice A bs.length c] 65 (0, 0)) ∧ bs.length ≤ c ∧ (Kd.int .u8).C W0 A bs.length bs
  below : Below W0.heap.size W0 w
  new : W0.heap.size ≤ g
  rng : rngB bs
theorem RSt.keep {W0 : World} {g : Nat} {bs : List Int} {w w1 : World} {S : Nat → Prop} (h : RSt W0 g bs w) (hk : Keep S w w1) (hg : ¬ S g) (hS : ∀ k, S k → W0.heap.size ≤ k) : RSt W0 g bs w1 := by
  obtain ⟨A, c, h1, h2, h3⟩ := h.row
  exact ⟨⟨A, c, hk.blk h1 hg, h2, h3⟩, h.below.trans (hk.below h.below.size (fun k hk hs => by have := hS k hs; omega)), h.new, h.rng⟩

def bytePost (W0 : World) (g : Nat) (bs : List Int) (w : World) (e : Ending) (w' : World) : Prop :=
  match bs with
  | [] => e = .panicked [{ v := code_wrongV 2, recovered := false }] ∧ w = w'
  | b :: t => e = .returned (.int .i64 b) ∧ RSt W0 g t w' ∧ Keep (· = g) w w'

set_option maxRecDepth 100000 in
theorem byte_any (W0 : World) (g : Nat) (bs : List Int) (w : World) (h : RSt W0 g bs w) : Calls Try.prog 30 #[.pointer (some ⟨g, 0, none⟩)] w (bytePost W0 g bs w) := by
  obtain ⟨A, c, h1, h2, h3⟩ := h.row
  have hc := blk_cell h1 0
  have hf := blk_frozen h1 0
  cases bs with
  | nil =>
    have H1 := Aside0.mk h1
    clear h1 h2 h3 h
    go_enter Try.func30, Try.ntmps30
    go_wp2_with (go_at_call 23; refine (code_need_no _ _).mono ?_; rintro e w' ⟨rfl, rfl⟩)
    exact ⟨rfl, rfl, rfl⟩
  | cons b t =>
    have hb := h.rng b (by simp)
    have hb0 := hb.1
    have hb1 := hb.2
    obtain ⟨ad, rfl, hx⟩ := Kd.at_int h3 0 (by omega) (by simp)
    have hx' := (h.below.cell (World.block_lt_of_cell? W0 _ hx)).trans hx
    simp [rd, Addr.add] at hx'
    obtain ⟨A2, c2, hcut, hC2, hc2⟩ : ∃ A2 c2, (∀ W : World, (Instr.slice 43 (.slice (some ad) (t.length + 1) c) (some (.int .i64 1)) none none).run Try.prog W = .ok (.slice A2 t.length c2) W) ∧ (Kd.int .u8).C W0 A2 t.length t ∧ t.length ≤ c2 := by
      obtain ⟨i5, hi5, hz0, hz1, hz2⟩ := info_parts info5
      have hcut := cut_from (P := Try.prog) 43 5 .i64 Try.underlying43 hi5 1 hz1 (some ad) (b :: t).length c 1 (by omega) (by simp; omega)
      exact ⟨_, _, hcut, Kd.C_drop (m := 1) h3 (by simp) h2, by simp at h2 ⊢; omega⟩
    have H1 := Aside0.mk h1
    have H := Aside0.mk h
    have HC2 := Aside0.mk hC2
    clear h1 h h3 hb hx hC2
    go_enter Try.func30, Try.ntmps30
    go_wp2_with (go_at_call 23; refine (code_need_ok _ _).mono ?_; rintro e w' ⟨rfl, rfl⟩)
    go_ret
    exact ⟨rfl, ⟨⟨A2, c2, blk_set H1.out 0 _, hc2, HC2.out⟩, Below.setCell H.out.below H.out.new _, H.out.new, fun x hx => H.out.rng x (List.mem_cons_of_mem _ hx)⟩, Keep.set (S := (· = g)) (p := ⟨g, 0, none⟩) (Keep.refl _ _) (.inr rfl) _⟩

theorem or_add {a b : Int} (i : Nat) (ha : 0 ≤ a) (ha2 : a.toNat < 2 ^ i) (ha3 : a < 4294967296) (hb : 0 ≤ b) (hb3 : b * (2 ^ i : Nat) < 4294967296) : bits .or .u32 a (b * (2 ^ i : Nat)) = a + b * (2 ^ i : Nat) := by
  have h0 : 0 ≤ b * ((2 ^ i : Nat) : Int) := Int.mul_nonneg hb (Int.natCast_nonneg _)
  rw [u32_or _ _ ha ha3 h0 hb3]
  have e : (b * ((2 ^ i : Nat) : Int)).toNat = 2 ^ i * b.toNat := by
    obtain ⟨m, rfl⟩ := Int.eq_ofNat_of_zero_le hb
    rw [← Int.natCast_mul, Int.toNat_natCast, Int.toNat_natCast, Nat.mul_comm]
  rw [e, Nat.or_comm, ← Nat.two_pow_add_eq_or_of_lt ha2]
  rw [Int.natCast_add, ← e, Int.toNat_of_nonneg h0, Int.toNat_of_nonneg ha, Int.add_comm]
theorem or_zero {b : Int} (hb : 0 ≤ b) (h : b < 4294967296) : bits .or .u32 0 b = b := by
  rw [u32_or _ _ (by omega) (by omega) hb h]; simp; omega
theorem word_val {a b c d : Int} (a0 : 0 ≤ a) (a1 : a ≤ 255) (b0 : 0 ≤ b) (b1 : b ≤ 255) (c0 : 0 ≤ c) (c1 : c ≤ 255) (d0 : 0 ≤ d) (d1 : d ≤ 255) :
    wrap64 (wrap32 (bits .or .u32 (bits .or .u32 (bits .or .u32 (bits .or .u32 0 a) (b * 256)) (c * 65536)) (d * 16777216))) = sgn (a + 256 * b + 65536 * c + 16777216 * d) := by
  have e1 : bits .or .u32 a (b * 256) = a + b * 256 := or_add 8 a0 (by omega) (by omega) b0 (by omega)
  have e2 : bits .or .u32 (a + b * 256) (c * 65536) = a + b * 256 + c * 65536 := or_add 16 (by omega) (by omega) (by omega) c0 (by omega)
  have e3 : bits .or .u32 (a + b * 256 + c * 65536) (d * 16777216) = a + b * 256 + c * 65536 + d * 16777216 := or_add 24 (by omega) (by omega) (by omega) d0 (by omega)
  rw [or_zero a0 (by omega), e1, e2, e3]
  unfold wrap64 wrap32 sgn
  split <;> omega
def wordPost (W0 : World) (g : Nat) (bs : List Int) (w : World) (e : Ending) (w' : World) : Prop :=
  Keep (· = g) w w' ∧ match pWord bs with
  | none => e = .panicked [{ v := code_wrongV 2, recovered := false }]
  | some (n, t) => e = .returned (.int .i64 n) ∧ RSt W0 g t w'
set_option maxRecDepth 100000 in
set_option maxHeartbeats 4000000 in
theorem word_any (W0 : World) (g : Nat) (bs : List Int) (w : World) (h : RSt W0 g bs w) : Calls Try.prog 33 #[.pointer (some ⟨g, 0, none⟩)] w (wordPost W0 g bs w) := by
  have H := Aside0.mk h
  clear h
  go_enter Try.func33, Try.ntmps33
  go_wp2_with fail
  refine wp_loop_rounds 5 ?_
  have HK := Aside0.mk (Keep.refl (· = g) w)
  rw [rounds_succ]
  go_wp2_with fail
  refine (byte_any W0 g bs w H.out).mono ?_
  intro e w1 hb
  cases bs with
  | nil => obtain ⟨rfl, rfl⟩ := hb; exact ⟨rfl, HK.out, rfl⟩
  | cons b0 t0 =>
  obtain ⟨rfl, hr1, hk1⟩ := hb
  have hr := H.out.rng b0 (by simp)
  have g0b0 := hr.1
  have g1b0 := hr.2
  have hk2 := HK.out.trans hk1
  clear hr H HK hk1
  have H := Aside0.mk hr1
  have HK := Aside0.mk hk2
  clear hr1 hk2
  go_wp2_with fail
  rw [rounds_succ]
  go_wp2_with fail
  refine (byte_any W0 g t0 w1 H.out).mono ?_
  intro e w2 hb
  cases t0 with
  | nil => obtain ⟨rfl, rfl⟩ := hb; exact ⟨rfl, HK.out, rfl⟩
  | cons b1 t1 =>
  obtain ⟨rfl, hr1, hk1⟩ := hb
  have hr := H.out.rng b1 (by simp)
  have g0b1 := hr.1
  have g1b1 := hr.2
  have hk2 := HK.out.trans hk1
  clear hr H HK hk1
  have H := Aside0.mk hr1
  have HK := Aside0.mk hk2
  clear hr1 hk2
  go_wp2_with fail
  rw [rounds_succ]
  go_wp2_with fail
  refine (byte_any W0 g t1 w2 H.out).mono ?_
  intro e w3 hb
  cases t1 with
  | nil => obtain ⟨rfl, rfl⟩ := hb; exact ⟨rfl, HK.out, rfl⟩
  | cons b2 t2 =>
  obtain ⟨rfl, hr1, hk1⟩ := hb
  have hr := H.out.rng b2 (by simp)
  have g0b2 := hr.1
  have g1b2 := hr.2
  have hk2 := HK.out.trans hk1
  clear hr H HK hk1
  have H := Aside0.mk hr1
  have HK := Aside0.mk hk2
  clear hr1 hk2
  go_wp2_with fail
  rw [rounds_succ]
  go_wp2_with fail
  refine (byte_any W0 g t2 w3 H.out).mono ?_
  intro e w4 hb
  cases t2 with
  | nil => obtain ⟨rfl, rfl⟩ := hb; exact ⟨rfl, HK.out, rfl⟩
  | cons b3 t3 =>
  obtain ⟨rfl, hr1, hk1⟩ := hb
  have hr := H.out.rng b3 (by simp)
  have g0b3 := hr.1
  have g1b3 := hr.2
  have hk2 := HK.out.trans hk1
  clear hr H HK hk1
  have H := Aside0.mk hr1
  have HK := Aside0.mk hk2
  clear hr1 hk2
  go_wp2_with fail
  have HE := Aside0.mk (word_val g0b0 g1b0 g0b1 g1b1 g0b2 g1b2 g0b3 g1b3)
  rw [rounds_succ]
  go_wp2_with fail
  go_ret
  refine ⟨HK.out, ?_⟩
  simp only [pWord]
  exact ⟨by rw [← HE.out]; rfl, H.out⟩

def code_instrPost (W0 : World) (g : Nat) (bs : List Int) (w : World) (e : Ending) (w' : World) : Prop :=
  Keep (· = g) w w' ∧ match pInstr bs with
  | none => e = .panicked [{ v := code_wrongV 2, recovered := false }]
  | some (x, t) => e = .returned (.agg #[.int .i64 x.f0, .int .i64 x.f1, .int .i64 x.f2, .int .i64 x.f3, .int .i64 x.f4]) ∧ RSt W0 g t w'
set_option maxRecDepth 100000 in
set_option maxHeartbeats 4000000 in
theorem code_instr_any (W0 : World) (g : Nat) (bs : List Int) (w : World) (h : RSt W0 g bs w) : Calls Try.prog 32 #[.pointer (some ⟨g, 0, none⟩)] w (code_instrPost W0 g bs w) := by
  have hgs : g < w.heap.size := by obtain ⟨A, c, h1, _⟩ := h.row; exact blk_lt h1
  have hal : Keep (· = g) w (w.alloc (.cells #[.int .i64 0, .int .i64 0, .int .i64 0, .int .i64 0, .int .i64 0] 33)) := (Keep.refl _ _).alloc _
  have HK := Aside0.mk hal
  have HX := Aside0.mk (alloc_blk w (.cells #[.int .i64 0, .int .i64 0, .int .i64 0, .int .i64 0, .int .i64 0] 33))
  have H := Aside0.mk (h.keep (S := fun _ => False) ((Keep.refl _ _).alloc (.cells #[.int .i64 0, .int .i64 0, .int .i64 0, .int .i64 0, .int .i64 0] 33)) (fun h => h) (fun _ h => h.elim))
  have hns : W0.heap.size ≤ w.heap.size := h.below.size
  have HNS := Aside0.mk hns
  clear h hal hns
  go_enter Try.func32, Try.ntmps32
  go_wp2_with fail
  refine (byte_any W0 g bs _ H.out).mono ?_
  intro e w1 hb
  cases bs with
  | nil => obtain ⟨rfl, rfl⟩ := hb; exact ⟨rfl, HK.out, by simp [pInstr]⟩
  | cons b0 t0 =>
  obtain ⟨rfl, hr1, hk1⟩ := hb
  have hk2 := HK.out.then hk1 (fun _ _ h => h)
  have hx2 := hk1.blk HX.out (by omega)
  clear H HK HX hk1
  have H := Aside0.mk hr1
  have HK := Aside0.mk hk2
  have HX := Aside0.mk hx2
  clear hr1 hk2 hx2
  go_wp2_with fail
  refine (byte_any W0 g t0 _ H.out).mono ?_
  intro e w1 hb
  cases t0 with
  | nil => obtain ⟨rfl, rfl⟩ := hb; exact ⟨rfl, HK.out, by simp [pInstr]⟩
  | cons b1 t1 =>
  obtain ⟨rfl, hr1, hk1⟩ := hb
  have hk2 := HK.out.then hk1 (fun _ _ h => h)
  have hx2 := hk1.blk HX.out (by omega)
  clear H HK HX hk1
  have H := Aside0.mk hr1
  have HK := Aside0.mk hk2
  have HX := Aside0.mk hx2
  clear hr1 hk2 hx2
  go_wp2_with fail
  refine (byte_any W0 g t1 _ H.out).mono ?_
  intro e w1 hb
  cases t1 with
  | nil => obtain ⟨rfl, rfl⟩ := hb; exact ⟨rfl, HK.out, by simp [pInstr]⟩
  | cons b2 t2 =>
  obtain ⟨rfl, hr1, hk1⟩ := hb
  have hk2 := HK.out.then hk1 (fun _ _ h => h)
  have hx2 := hk1.blk HX.out (by omega)
  clear H HK HX hk1
  have H := Aside0.mk hr1
  have HK := Aside0.mk hk2
  have HX := Aside0.mk hx2
  clear hr1 hk2 hx2
  go_wp2_with fail
  refine (byte_any W0 g t2 _ H.out).mono ?_
  intro e w1 hb
  cases t2 with
  | nil => obtain ⟨rfl, rfl⟩ := hb; exact ⟨rfl, HK.out, by simp [pInstr]⟩
  | cons b3 t3 =>
  obtain ⟨rfl, hr1, hk1⟩ := hb
  have hk2 := HK.out.then hk1 (fun _ _ h => h)
  have hx2 := hk1.blk HX.out (by omega)
  clear H HK HX hk1
  have H := Aside0.mk hr1
  have HK := Aside0.mk hk2
  have HX := Aside0.mk hx2
  clear hr1 hk2 hx2
  go_wp2_with fail
  refine (word_any W0 g t3 _ H.out).mono ?_
  rintro e w5 ⟨hk1, hb⟩
  have hk2 := HK.out.then hk1 (fun _ _ h => h)
  have hx2 := hk1.blk HX.out (by omega)
  clear H HK HX hk1
  have HK := Aside0.mk hk2
  have HX := Aside0.mk hx2
  clear hk2
  cases hp : pWord t3 with
  | none => rw [hp] at hb; subst hb; exact ⟨rfl, HK.out, by simp [pInstr, hp]⟩
  | some x =>
  obtain ⟨n, t⟩ := x
  rw [hp] at hb
  obtain ⟨rfl, hr1⟩ := hb
  have H := Aside0.mk hr1
  have HP := Aside0.mk hp
  have c0 := blk_cell hx2 0
  have c1 := blk_cell hx2 1
  have c2 := blk_cell hx2 2
  have c3 := blk_cell hx2 3
  have c4 := blk_cell hx2 4
  have f0 := blk_frozen hx2 0
  have f1 := blk_frozen hx2 1
  have f2 := blk_frozen hx2 2
  have f3 := blk_frozen hx2 3
  have f4 := blk_frozen hx2 4
  have hu44 := Try.underlying33
  clear hr1 hp hx2
  go_wp2_with fail
  have e := blk_set (blk_set (blk_set (blk_set (blk_set HX.out 0 (.int .i64 b0)) 1 (.int .i64 b1)) 2 (.int .i64 b2)) 3 (.int .i64 b3)) 4 (.int .i64 n)
  have q0 := blk_cell e 0
  have q1 := blk_cell e 1
  have q2 := blk_cell e 2
  have q3 := blk_cell e 3
  have q4 := blk_cell e 4
  have hin : ∀ o : Nat, w.heap.size ≤ (⟨w.heap.size, o, none⟩ : Addr).block ∨ (⟨w.heap.size, o, none⟩ : Addr).block = g := fun _ => .inl (Nat.le_refl _)
  have ek := ((((HK.out.set (hin 0) (.int .i64 b0)).set (hin 1) (.int .i64 b1)).set (hin 2) (.int .i64 b2)).set (hin 3) (.int .i64 b3)).set (hin 4) (.int .i64 n)
  have hin2 : ∀ o : Nat, w5.heap.size ≤ (⟨w.heap.size, o, none⟩ : Addr).block ∨ (⟨w.heap.size, o, none⟩ : Addr).block = w.heap.size := fun _ => .inr rfl
  have es0 : Keep (· = w.heap.size) w5 w5 := Keep.refl _ _
  have es := ((((es0.set (hin2 0) (.int .i64 b0)).set (hin2 1) (.int .i64 b1)).set (hin2 2) (.int .i64 b2)).set (hin2 3) (.int .i64 b3)).set (hin2 4) (.int .i64 n)
  refine bodyPost_ret (v := .agg #[.int .i64 b0, .int .i64 b1, .int .i64 b2, .int .i64 b3, .int .i64 n]) (by simp [results, Try.results32, go_sem, q0, q1, q2, q3, q4]) rfl ⟨ek, ?_⟩
  simp only [pInstr, HP.out, Option.map_some]
  exact ⟨trivial, H.out.keep es (by omega) (fun k hk => by subst hk; exact HNS.out)⟩

/-! ### several -/
theorem pMany_none {α : Type} {f : List Int → Option (α × List Int)} {n i : Nat} {t r : List Int} {xs : List α} (hi : i < n) (h : pMany f n t = (pMany f (n - i) r).map fun y => (xs ++ y.1, y.2)) (hf : f r = none) : pMany f n t = none := by
  obtain ⟨m, hm⟩ : ∃ m, n - i = m + 1 := ⟨n - i - 1, by omega⟩
  rw [h, hm]; simp [pMany, hf]
theorem pMany_some {α : Type} {f : List Int → Option (α × List Int)} {n i : Nat} {t r r2 : List Int} {xs : List α} {x : α} (hi : i < n) (h : pMany f n t = (pMany f (n - i) r).map fun y => (xs ++ y.1, y.2)) (hf : f r = some (x, r2)) :
    pMany f n t = (pMany f (n - (i + 1)) r2).map fun y => ((xs ++ [x]) ++ y.1, y.2) := by
  obtain ⟨m, hm⟩ : ∃ m, n - i = m + 1 := ⟨n - i - 1, by omega⟩
  have hm2 : n - (i + 1) = m := by omega
  rw [h, hm, hm2]; simp only [pMany, hf, Option.bind_some, Option.map_map]
  congr 1; funext y; simp
theorem pMany_end {α : Type} {f : List Int → Option (α × List Int)} {n : Nat} {t r : List Int} {xs : List α} (h : pMany f n t = (pMany f (n - n) r).map fun y => (xs ++ y.1, y.2)) : pMany f n t = some (xs, r) := by
  rw [h, Nat.sub_self]; simp [pMany]

def manyPost {α : Type} (d : Kd α) (t : Nat) (p : Option (List α × List Int)) (W0 : World) (g : Nat) (w : World) (e : Ending) (w' : World) : Prop :=
  Keep (· = g) w w' ∧ match p with
  | none => e = .panicked [{ v := code_wrongV 2, recovered := false }]
  | some (x, r) => ∃ v, e = .returned v ∧ RSt W0 g r w' ∧ d.R t w' w.heap.size (fun _ => True) v x
set_option maxRecDepth 100000 in
set_option maxHeartbeats 4000000 in
theorem severalI_any (W0 : World) (g : Nat) (bs : List Int) (w : World) (h : RSt W0 g bs w) : Calls Try.prog 31 #[.pointer (some ⟨g, 0, none⟩), .func (.func 32) #[.pointer (some ⟨g, 0, none⟩)] #[]] w (manyPost k33 33 (pSeveral pInstr bs) W0 g w) := by
  have hgs : g < w.heap.size := by obtain ⟨A, c, h1, _⟩ := h.row; exact blk_lt h1
  have HGS := Aside0.mk hgs
  have HNS := Aside0.mk h.below.size
  have H := Aside0.mk h
  clear h hgs
  go_enter Try.func31, Try.ntmps31
  go_wp2_with fail
  refine (byte_any W0 g bs _ H.out).mono ?_
  intro e w1 hb
  cases bs with
  | nil => obtain ⟨rfl, rfl⟩ := hb; exact ⟨rfl, Keep.refl _ _, by simp [pSeveral]⟩
  | cons b0 t0 =>
  obtain ⟨rfl, hr1, hk1⟩ := hb
  have hrb := H.out.rng b0 (by simp)
  clear H
  have H := Aside0.mk hr1
  have HK := Aside0.mk hk1
  have HRB := Aside0.mk hrb
  clear hr1 hk1 hrb
  go_wp2_with fail
  obtain ⟨n, rfl⟩ := Int.eq_ofNat_of_zero_le HRB.out.1
  have hn : n ≤ 255 := by have := HRB.out.2; omega
  go_loopw [5, 8] (fun v5 v8 wr => ∃ (i : Nat) (xs : List S33) (r : List Int), v8 = .int .i64 i ∧ i ≤ n ∧ Aside0 (pMany pInstr n t0 = (pMany pInstr (n - i) r).map fun y => (xs ++ y.1, y.2)) ∧ Aside0 (RSt W0 g r wr) ∧ Aside0 (Keep (· = g) w wr) ∧ Aside0 (xs.length = i) ∧ Aside0 (k33.R 33 wr w.heap.size (fun _ => True) v5 xs)) (fun _ v8 _ => n - (intOf v8).toNat)
  case atStart => exact ⟨0, [], t0, rfl, Nat.zero_le _, ⟨by simp⟩, H, HK, ⟨rfl⟩, ⟨Kd.R_nil _ _ _ _ _⟩⟩
  case round =>
    clear H HK
    skip
    obtain ⟨i, xs, r, rfl, hi, HP, H, HK, HL, HO⟩ := hrel
    by_cases hlt : i < n
    · go_wp2_with fail
      refine (code_instr_any W0 g r _ H.out).mono ?_
      rintro e w2 ⟨hk2, hb⟩
      cases hp : pInstr r with
      | none => rw [hp] at hb; subst hb; exact ⟨rfl, HK.out.then hk2 (fun _ _ h => h), by simp [pSeveral, pMany_none hlt HP.out hp]⟩
      | some y =>
      obtain ⟨x, r2⟩ := y
      rw [hp] at hb
      obtain ⟨rfl, hr2⟩ := hb
      have hp2 := pMany_some hlt HP.out hp
      have ho2 := Kd.R_keep HO.out hk2 (fun k _ hb _ e => by have := HGS.out; omega)
      have hk3 := HK.out.then hk2 (fun _ _ h => h)
      clear HP H HK HO hk2 hp
      have HP := Aside0.mk hp2
      have H := Aside0.mk hr2
      have HK := Aside0.mk hk3
      have HO := Aside0.mk ho2
      clear hp2 hr2 hk3 ho2
      have hbs := HK.out.size
      have hxl : (xs.length + 1) * 40 ≤ 140737488355328 := by have := HL.out; omega
      go_wp2_with (first | ((with_reducible refine gate_builtin (b := .append) (xs := #[.tmp 10, .tmp 13]) rfl ?_); refine Kd.R_append k33 (w0 := w2) w.heap.size rfl (.tmp 10) (.tmp 13) 34 33 (.agg #[(.int .i64 0), (.int .i64 0), (.int .i64 0), (.int .i64 0), (.int .i64 0)]) 40 rfl Try.underlying34 info33 rfl (by decide) (by omega) u5 xs x [.int .i64 x.f0, .int .i64 x.f1, .int .i64 x.f2, .int .i64 x.f3, .int .i64 x.f4] (fun _ => True) (fun _ => False) rfl (by first | (go_simp; done) | (go_simp; rfl)) ?aP (fun _ hk => hk.elim) ?aF ?aO ?aB ?aS ?aL ?_; (case aP => exact k33_mkM _ _ _ x); (case aF => exact (fun _ _ => trivial)); (case aO => exact HO.out); (case aB => exact Below.refl _ _); (case aS => exact hbs); (case aL => exact hxl); intro v9 w9 hR9 hb9 hg9 hat9; have R9 := Aside0.mk hR9; have G9 := Aside0.mk hg9; have B9 := Aside0.mk hb9; clear hR9 hb9 hg9 hat9))
      go_roundw
      case rel => exact ⟨i + 1, xs ++ [x], r2, by go_num, by omega, HP, ⟨H.out.keep (Keep.of_belowB B9.out) (by have := HGS.out; omega) (fun k hk => by have := HNS.out; omega)⟩, ⟨HK.out.then (Keep.of_belowB B9.out) (fun k hk h => absurd hk (by omega))⟩, ⟨by have := HL.out; simp; omega⟩, R9⟩
      case measure => simp [intOf]; omega
    · obtain rfl : i = n := by omega
      go_wp2_with fail
      go_ret
      refine ⟨HK.out, ?_⟩
      simp only [pSeveral, Int.toNat_natCast, pMany_end HP.out]
      exact ⟨_, rfl, H.out, HO.out⟩
def funcPost (W0 : World) (g : Nat) (bs : List Int) (w : World) (e : Ending) (w' : World) : Prop :=
  Keep (· = g) w w' ∧ match pFunc bs with
  | none => e = .panicked [{ v := code_wrongV 2, recovered := false }]
  | some (x, t) => ∃ v, e = .returned (.agg #[.int .i64 x.f0, v]) ∧ RSt W0 g t w' ∧ k33.R 33 w' w.heap.size (fun _ => True) v x.f1
set_option maxRecDepth 100000 in
set_option maxHeartbeats 4000000 in
theorem func_any (W0 : World) (g : Nat) (bs : List Int) (w : World) (h : RSt W0 g bs w) : Calls Try.prog 26 #[.pointer (some ⟨g, 0, none⟩)] w (funcPost W0 g bs w) := by
  have hgs : g < w.heap.size := by obtain ⟨A, c, h1, _⟩ := h.row; exact blk_lt h1
  have hal : Keep (· = g) w (w.alloc (.cells #[.int .i64 0, .slice none 0 0] 36)) := (Keep.refl _ _).alloc _
  have HK := Aside0.mk hal
  have HX := Aside0.mk (alloc_blk w (.cells #[.int .i64 0, .slice none 0 0] 36))
  have H := Aside0.mk (h.keep (S := fun _ => False) ((Keep.refl _ _).alloc (.cells #[.int .i64 0, .slice none 0 0] 36)) (fun h => h) (fun _ h => h.elim))
  have hns : W0.heap.size ≤ w.heap.size := h.below.size
  have HNS := Aside0.mk hns
  have hmf : ∀ (fn : Fn) (first cap : Array Value) (w : World), (Instr.makeFunc fn first cap).run Try.prog w = .ok (.func fn first cap) w := fun _ _ _ _ => rfl
  clear h hal hns
  go_enter Try.func26, Try.ntmps26
  go_wp2_with fail
  refine (byte_any W0 g bs _ H.out).mono ?_
  intro e w1 hb
  cases bs with
  | nil => obtain ⟨rfl, rfl⟩ := hb; exact ⟨rfl, HK.out, by simp [pFunc]⟩
  | cons b0 t0 =>
  obtain ⟨rfl, hr1, hk1⟩ := hb
  have hk2 := HK.out.then hk1 (fun _ _ h => h)
  have hx2 := hk1.blk HX.out (by omega)
  clear H HK HX hk1
  have H := Aside0.mk hr1
  have HK := Aside0.mk hk2
  have HX := Aside0.mk hx2
  clear hr1 hk2 hx2
  go_wp2_with fail
  refine (severalI_any W0 g t0 _ H.out).mono ?_
  rintro e w5 ⟨hk1, hb⟩
  have hk2 := HK.out.then hk1 (fun _ _ h => h)
  have hx2 := hk1.blk HX.out (by omega)
  have hw1 := blk_lt HX.out
  clear H HK HX hk1
  have HK := Aside0.mk hk2
  have HX := Aside0.mk hx2
  clear hk2
  cases hp : pSeveral pInstr t0 with
  | none => rw [hp] at hb; subst hb; exact ⟨rfl, HK.out, by simp [pFunc, hp]⟩
  | some x =>
  obtain ⟨xs, t⟩ := x
  rw [hp] at hb
  obtain ⟨v, rfl, hr1, hR⟩ := hb
  obtain ⟨A, c, rfl⟩ := Kd.R_slice hR
  have H := Aside0.mk hr1
  have HR := Aside0.mk hR
  have HP := Aside0.mk hp
  have c0 := blk_cell hx2 0
  have c1 := blk_cell hx2 1
  have f0 := blk_frozen hx2 0
  have f1 := blk_frozen hx2 1
  have hu47 := Try.underlying36
  clear hr1 hp hx2 hR
  go_wp2_with fail
  have e := blk_set (blk_set HX.out 0 (.int .i64 b0)) 1 (.slice A xs.length c)
  have q0 := blk_cell e 0
  have q1 := blk_cell e 1
  have hin : ∀ o : Nat, w.heap.size ≤ (⟨w.heap.size, o, none⟩ : Addr).block ∨ (⟨w.heap.size, o, none⟩ : Addr).block = g := fun _ => .inl (Nat.le_refl _)
  have ek := (HK.out.set (hin 0) (.int .i64 b0)).set (hin 1) (.slice A xs.length c)
  have hin2 : ∀ o : Nat, w5.heap.size ≤ (⟨w.heap.size, o, none⟩ : Addr).block ∨ (⟨w.heap.size, o, none⟩ : Addr).block = w.heap.size := fun _ => .inr rfl
  have es0 : Keep (· = w.heap.size) w5 w5 := Keep.refl _ _
  have es := (es0.set (hin2 0) (.int .i64 b0)).set (hin2 1) (.slice A xs.length c)
  refine bodyPost_ret (v := .agg #[.int .i64 b0, .slice A xs.length c]) (by simp [results, Try.results26, go_sem, q0, q1]) rfl ⟨ek, ?_⟩
  simp only [pFunc, HP.out, Option.map_some]
  exact ⟨_, rfl, H.out.keep es (by omega) (fun k hk => by subst hk; exact HNS.out), Kd.R_lower (Kd.R_keep HR.out es (fun k _ hb _ e => by omega)) (by omega)⟩

def manyPostS {α : Type} (d : Kd α) (t : Nat) (p : Option (List α × List Int)) (W0 : World) (g : Nat) (w : World) (e : Ending) (w' : World) : Prop :=
  Keep (· = g) w w' ∧ match p with
  | none => e = .panicked [{ v := code_wrongV 2, recovered := false }]
  | some (x, r) => ∃ v, e = .returned v ∧ RSt W0 g r w' ∧ Kd.S d t w' w.heap.size (fun _ => True) v x
set_option maxRecDepth 100000 in
set_option maxHeartbeats 4000000 in
theorem severalF_any (W0 : World) (g : Nat) (bs : List Int) (w : World) (h : RSt W0 g bs w) : Calls Try.prog 25 #[.pointer (some ⟨g, 0, none⟩), .func (.func 26) #[.pointer (some ⟨g, 0, none⟩)] #[]] w (manyPostS k36 36 (pSeveral pFunc bs) W0 g w) := by
  have hgs : g < w.heap.size := by obtain ⟨A, c, h1, _⟩ := h.row; exact blk_lt h1
  have HGS := Aside0.mk hgs
  have HNS := Aside0.mk h.below.size
  have H := Aside0.mk h
  clear h hgs
  go_enter Try.func25, Try.ntmps25
  go_wp2_with fail
  refine (byte_any W0 g bs _ H.out).mono ?_
  intro e w1 hb
  cases bs with
  | nil => obtain ⟨rfl, rfl⟩ := hb; exact ⟨rfl, Keep.refl _ _, by simp [pSeveral]⟩
  | cons b0 t0 =>
  obtain ⟨rfl, hr1, hk1⟩ := hb
  have hrb := H.out.rng b0 (by simp)
  clear H
  have H := Aside0.mk hr1
  have HK := Aside0.mk hk1
  have HRB := Aside0.mk hrb
  clear hr1 hk1 hrb
  go_wp2_with fail
  obtain ⟨n, rfl⟩ := Int.eq_ofNat_of_zero_le HRB.out.1
  have hn : n ≤ 255 := by have := HRB.out.2; omega
  go_loopw [5, 8] (fun v5 v8 wr => ∃ (i : Nat) (xs : List S36) (r : List Int), v8 = .int .i64 i ∧ i ≤ n ∧ Aside0 (pMany pFunc n t0 = (pMany pFunc (n - i) r).map fun y => (xs ++ y.1, y.2)) ∧ Aside0 (RSt W0 g r wr) ∧ Aside0 (Keep (· = g) w wr) ∧ Aside0 (xs.length = i) ∧ Aside0 (Kd.S k36 36 wr w.heap.size (fun _ => True) v5 xs)) (fun _ v8 _ => n - (intOf v8).toNat)
  case atStart => exact ⟨0, [], t0, rfl, Nat.zero_le _, ⟨by simp⟩, H, HK, ⟨rfl⟩, ⟨Kd.S_nil _ _ _ _ _⟩⟩
  case round =>
    clear H HK
    obtain ⟨i, xs, r, rfl, hi, HP, H, HK, HL, HO⟩ := hrel
    by_cases hlt : i < n
    · go_wp2_with fail
      refine (func_any W0 g r _ H.out).mono ?_
      rintro e w2 ⟨hk2, hb⟩
      cases hp : pFunc r with
      | none => rw [hp] at hb; subst hb; exact ⟨rfl, HK.out.then hk2 (fun _ _ h => h), by simp [pSeveral, pMany_none hlt HP.out hp]⟩
      | some y =>
      obtain ⟨x, r2⟩ := y
      rw [hp] at hb
      obtain ⟨vx, rfl, hr2, hRx⟩ := hb
      have hp2 := pMany_some hlt HP.out hp
      have hlt9 := Kd.S_lt HO.out
      have ho2 := Go.Hay.Kd.S_kp (Kd.S_bound HO.out) hk2 (fun k _ hb _ e => by have := HGS.out; omega)
      have hk3 := HK.out.then hk2 (fun _ _ h => h)
      have hbs0 := HK.out.size
      clear HP H HK HO hp
      have HP := Aside0.mk hp2
      have H := Aside0.mk hr2
      have HK := Aside0.mk hk3
      have HO := Aside0.mk ho2
      have HRX := Aside0.mk hRx
      have HLT := Aside0.mk hlt9
      have HK2 := Aside0.mk hk2
      clear hp2 hr2 hk3 ho2 hRx hlt9 hk2
      have hbs := HK.out.size
      have hxl : (xs.length + 1) * 32 ≤ 140737488355328 := by have := HL.out; omega
      obtain ⟨Ax, cx, rfl⟩ := Kd.R_slice HRX.out
      go_wp2_with (first | ((with_reducible refine gate_builtin (b := .append) (xs := #[.tmp 10, .tmp 13]) rfl ?_); refine Kd.S_append k36 (w0 := w2) w.heap.size rfl (.tmp 10) (.tmp 13) 27 36 (.agg #[(.int .i64 0), (.slice none 0 0)]) 32 rfl Try.underlying27 info36 rfl (by decide) (by omega) u5 xs x [.int .i64 x.f0, .slice Ax x.f1.length cx] (fun _ => True) (fun k => wr.heap.size ≤ k) rfl (by first | (go_simp; done) | (go_simp; rfl)) ?aP ?aK ?aF ?aO ?aB ?aS ?aL ?_; (case aP => exact k36_mkM _ _ _ x (Kd.R_mono (Kd.R_lower (Kd.R_bound HRX.out) hbs0) (fun _ h => h.2.1))); (case aK => exact (fun k hk => ⟨trivial, fun e => by have := HLT.out k e.symm; omega⟩)); (case aF => exact (fun _ _ => trivial)); (case aO => exact Kd.S_mono HO.out (fun k hk => ⟨trivial, by have := hk.2.2.1; omega⟩)); (case aB => exact Below.refl _ _); (case aS => exact hbs); (case aL => exact hxl); intro v9 w9 hR9 hb9 hg9 hat9; have R9 := Aside0.mk hR9; have G9 := Aside0.mk hg9; have B9 := Aside0.mk hb9; clear hR9 hb9 hg9 hat9))
      go_roundw
      case rel => exact ⟨i + 1, xs ++ [x], r2, by go_num, by omega, HP, ⟨H.out.keep (Keep.of_belowB B9.out) (by have := HGS.out; omega) (fun k hk => by have := HNS.out; omega)⟩, ⟨HK.out.then (Keep.of_belowB B9.out) (fun k hk h => absurd hk (by omega))⟩, ⟨by have := HL.out; simp; omega⟩, R9⟩
      case measure => simp [intOf]; omega
    · obtain rfl : i = n := by omega
      go_wp2_with fail
      go_ret
      refine ⟨HK.out, ?_⟩
      simp only [pSeveral, Int.toNat_natCast, pMany_end HP.out]
      exact ⟨_, rfl, H.out, HO.out⟩

/-- The deferred closure behind a panic of ours: the results are nil and why. -/
theorem rcatch_panicking (B : Nat) (e : Int) (w : World) (v1 v2 : Value) (h1 : w.heap[B]? = some (.cells #[v1] 27 (0, 0))) (h2 : w.heap[B + 1]? = some (.cells #[v2] 24 (0, 0))) :
    CallsD Try.prog 24 #[.pointer (some ⟨B, 0, none⟩), .pointer (some ⟨B + 1, 0, none⟩)] (.panicking [{ v := code_wrongV e, recovered := false }]) w fun x u' w' =>
      x = .returned (.tuple #[]) ∧ u' = .panicking [{ v := code_wrongV e, recovered := true }] ∧ Below B w w' ∧ w'.heap[B]? = some (.cells #[.slice none 0 0] 27 (0, 0)) ∧ w'.heap[B + 1]? = some (.cells #[.int .i64 e] 24 (0, 0)) := by
  refine callsD_of_wpS Try.func24 rfl fun c₀ cs hu => ?_
  apply wpS_seq
  apply wpS_region
  simp [wpOpsS, go_sem, recoverD, hu, Try.ntmps24, Exit.thenS]
  refine wpS_body ?_
  simp only [Array.replicate_succ, Array.replicate_zero, List.push_toArray, List.append_toArray, List.nil_append, List.cons_append, List.setIfInBounds_toArray, List.set_cons_zero, List.set_cons_succ, code_wrongV]
  go_wp2_with (go_at_call 21; refine (taken_any _ _).mono ?_; rintro x w1 ⟨rfl, hb⟩; have h1' := (hb.block _ (blk_lt h1)).trans h1; have h2' := (hb.block _ (blk_lt h2)).trans h2; have c1 := blk_cell h1' 0; have f1 := blk_frozen h1' 0; have c2 := blk_cell h2' 0; have f2 := blk_frozen h2' 0)
  go_end0
  have hB := blk_lt h1
  refine ⟨rfl, trivial, Below.setCell (p := ⟨B + 1, 0, none⟩) (Below.setCell (p := ⟨B, 0, none⟩) (hb.mono (Nat.le_of_lt hB)) (Nat.le_refl _) _) (show B ≤ B + 1 by omega) _, ?_, ?_⟩
  · rw [blk_far (p := ⟨B + 1, 0, none⟩) (t := 27) (cs := #[.slice none 0 0]) ?_ (by simp) _]
    exact blk_set h1' 0 _
  · exact blk_set (blk_far h2' (by simp) _) 0 _

theorem rcatch_idle (p q : Addr) (w : World) :
    CallsD Try.prog 24 #[.pointer (some p), .pointer (some q)] .returning w fun x u' w' =>
      x = .returned (.tuple #[]) ∧ u' = .returning ∧ w = w' := by
  refine callsD_of_wpS Try.func24 rfl fun c₀ cs hu => ?_
  apply wpS_seq
  apply wpS_region
  simp [wpOpsS, go_sem, recoverD, hu, Try.ntmps24, Exit.thenS]
  refine wpS_body_same hu ?_
  simp only [Array.replicate_succ, Array.replicate_zero, List.push_toArray, List.append_toArray, List.nil_append, List.cons_append, List.setIfInBounds_toArray, List.set_cons_zero, List.set_cons_succ]
  go_wp2
  go_end0
  exact ⟨rfl, trivial, rfl⟩


def rPost (w : World) (bs : List Int) (e : Ending) (w' : World) : Prop :=
  ∃ v0_ : Value, e = .returned (.tuple #[v0_, .int .i64 (readP bs).2]) ∧ Kd.S k36 36 w' w.heap.size (fun _ => True) v0_ (readP bs).1 ∧ Below w.heap.size w w'

/-- A panic of ours anywhere inside: the call answers why. -/
theorem read_panics (bs : List Int) (c : Int) (w w' : World) (tmps : Array Value) (v : Value) (hno : readP bs = ([], c))
    (h1 : w'.heap[w.heap.size]? = some (.cells #[v] 27 (0, 0))) (h2 : w'.heap[w.heap.size + 1]? = some (.cells #[.int .i64 0] 24 (0, 0))) (hb : Below w.heap.size w w')
    (t2 : tmps.getD 2 undef = .pointer (some ⟨w.heap.size, 0, none⟩)) (t3 : tmps.getD 3 undef = .pointer (some ⟨w.heap.size + 1, 0, none⟩)) :
    bodyPostD Try.prog Try.f15 (rPost w bs) (.panic [{ v := code_wrongV c, recovered := false }])
      { tmps := tmps, defers := [{ target := Target.fn (Fn.func 24) #[.pointer (some ⟨w.heap.size, 0, none⟩), .pointer (some ⟨w.heap.size + 1, 0, none⟩)], args := #[] }] } w' := by
  refine leaves_cons (f := 24) (args := #[.pointer (some ⟨w.heap.size, 0, none⟩), .pointer (some ⟨w.heap.size + 1, 0, none⟩)]) (by simp) (by simp [go_sem]) ?_
  refine (rcatch_panicking w.heap.size c w' _ _ h1 h2).mono ?_
  rintro e u' w2 ⟨rfl, rfl, hb2, c1, c2⟩
  have q1 := blk_cell c1 0
  have q2 := blk_cell c2 0
  simp only [Array.getD_eq_getD_getElem?] at t2 t3
  refine ⟨.tuple #[.slice none 0 0, .int .i64 c], by simp [results, Try.results15, go_sem, t2, t3, q1, q2], ?_⟩
  exact ⟨_, by rw [hno], by rw [hno]; exact Kd.S_nil _ _ _ _ _, hb.trans hb2⟩

theorem readP_no {b : Int} {t : List Int} (h : b ≠ 72) : readP (b :: t) = ([], 4) := by
  unfold readP
  split
  · rename_i he
    simp only [List.cons.injEq] at he
    exact absurd he.1 h
  · rfl
theorem two_blocks (w : World) (o o2 : Obj) : ((w.alloc o).alloc o2).heap[w.heap.size]? = some o ∧ ((w.alloc o).alloc o2).heap[w.heap.size + 1]? = some o2 := by
  refine ⟨?_, ?_⟩
  · show ((w.heap.push _).push _)[_]? = _
    simp [Array.getElem?_push]
  · show ((w.heap.push _).push _)[_]? = _
    rw [show w.heap.size + 1 = (w.heap.push o).size by simp, Array.getElem?_push_size]

set_option maxRecDepth 100000 in
set_option maxHeartbeats 4000000 in
theorem read_walk (A0 : Option Addr) (c0 : Nat) (l0 : List Int) (w : World) (hr0 : Kd.C (Kd.int .u8) w A0 l0.length l0) (hc0 : l0.length ≤ c0) (hrng : rngB l0) :
    Calls Try.prog 15 #[.slice A0 l0.length c0] w (rPost w l0) := by
  have hmf : ∀ (fn : Fn) (first cap : Array Value) (w : World), (Instr.makeFunc fn first cap).run Try.prog w = .ok (.func fn first cap) w := fun _ _ _ _ => rfl
  have hbl := ((Below.refl w.heap.size w).alloc (Nat.le_refl _) (.cells #[.slice none 0 0] 27)).alloc (by simp) (.cells #[.int .i64 0] 24)
  obtain ⟨e0, e1⟩ := two_blocks w (.cells #[.slice none 0 0] 27) (.cells #[.int .i64 0] 24)
  cases l0 with
  | nil =>
    have E := Aside0.mk (And.intro e0 (And.intro e1 hbl))
    clear e0 e1 hbl hr0
    go_enter_defers Try.func15, Try.ntmps15
    go_wp2_with (go_at_call 23; refine (code_need_no _ _).mono ?_; rintro e w' ⟨rfl, rfl⟩)
    exact read_panics [] 4 w _ _ _ rfl E.out.1 E.out.2.1 E.out.2.2 rfl rfl
  | cons b t =>
  obtain ⟨ad, rfl, hx⟩ := Kd.at_int hr0 0 (by omega) (by simp)
  have hx' := (hbl.cell (World.block_lt_of_cell? w _ hx)).trans hx
  simp [rd, Addr.add] at hx'
  by_cases hm : b = 72
  · subst hm
    obtain ⟨A2, c2, hcut, hC2, hc2⟩ : ∃ A2 c2, (∀ W : World, (Instr.slice 43 (.slice (some ad) (t.length + 1) c0) (some (.int .i64 1)) none none).run Try.prog W = .ok (.slice A2 t.length c2) W) ∧ (Kd.int .u8).C w A2 t.length t ∧ t.length ≤ c2 := by
      obtain ⟨i5, hi5, hz0, hz1, hz2⟩ := info_parts info5
      have hcut := cut_from (P := Try.prog) 43 5 .i64 Try.underlying43 hi5 1 hz1 (some ad) (72 :: t).length c0 1 (by omega) (by simp; omega)
      exact ⟨_, _, hcut, Kd.C_drop (m := 1) hr0 (by simp) hc0, by simp at hc0 ⊢; omega⟩
    have E := Aside0.mk (And.intro e0 (And.intro e1 hbl))
    have HC2 := Aside0.mk hC2
    have HC0 := Aside0.mk hc0
    have HG := Aside0.mk hrng
    have Hc2 := Aside0.mk hc2
    clear e0 e1 hbl hr0 hC2 hx hc0 hrng hc2
    have hu60 := Try.underlying65
    go_enter_defers Try.func15, Try.ntmps15
    go_wp2_with (go_at_call 23; refine (code_need_ok _ _).mono ?_; rintro e w' ⟨rfl, rfl⟩)
    have hst : RSt w (w.heap.size + 1 + 1) t (((w.alloc (.cells #[.slice none 0 0] 27)).alloc (.cells #[.int .i64 0] 24)).alloc (.cells #[.slice A2 t.length c2] 65)) := by
      refine ⟨⟨A2, c2, ?_, Hc2.out, HC2.out⟩, ?_, by omega, fun x hx => HG.out x (List.mem_cons_of_mem _ hx)⟩
      · have := alloc_blk ((w.alloc (.cells #[.slice none 0 0] 27)).alloc (.cells #[.int .i64 0] 24)) (.cells #[.slice A2 t.length c2] 65)
        simpa using this
      · exact E.out.2.2.alloc (by simp; omega) _
    have h0 : (((w.alloc (.cells #[.slice none 0 0] 27)).alloc (.cells #[.int .i64 0] 24)).alloc (.cells #[.slice A2 t.length c2] 65)).heap[w.heap.size]? = some (.cells #[.slice none 0 0] 27 (0, 0)) := (Below.heap_alloc _ _ _ (blk_lt E.out.1)).trans E.out.1
    have h1 : (((w.alloc (.cells #[.slice none 0 0] 27)).alloc (.cells #[.int .i64 0] 24)).alloc (.cells #[.slice A2 t.length c2] 65)).heap[w.heap.size + 1]? = some (.cells #[.int .i64 0] 24 (0, 0)) := (Below.heap_alloc _ _ _ (blk_lt E.out.2.1)).trans E.out.2.1
    have hw3 : w.heap.size + 3 ≤ (((w.alloc (.cells #[.slice none 0 0] 27)).alloc (.cells #[.int .i64 0] 24)).alloc (.cells #[.slice A2 t.length c2] 65)).heap.size := by simp
    clear E hx' hcut
    generalize ((w.alloc (.cells #[.slice none 0 0] 27)).alloc (.cells #[.int .i64 0] 24)).alloc (.cells #[.slice A2 t.length c2] 65) = w3 at hst h0 h1 hw3 ⊢
    have HST := Aside0.mk hst
    have H0 := Aside0.mk h0
    have H1 := Aside0.mk h1
    have HW3 := Aside0.mk hw3
    clear hst h0 h1 hw3
    refine (severalF_any w (w.heap.size + 1 + 1) t w3 HST.out).mono ?_
    rintro e w4 ⟨hk, hb⟩
    have h0 := hk.blk H0.out (by omega)
    have h1 := hk.blk H1.out (by omega)
    have hbl : Below w.heap.size w w4 := HST.out.below.trans (hk.below (by have := HW3.out; omega) (fun k hk => by omega))
    cases hp : pSeveral pFunc t with
    | none =>
      rw [hp] at hb
      subst hb
      exact read_panics _ 2 w _ _ _ (by simp [readP, hp]) h0 h1 hbl rfl rfl
    | some x =>
    obtain ⟨p, r⟩ := x
    rw [hp] at hb
    obtain ⟨v, rfl, hr, hR⟩ := hb
    obtain ⟨Av, cv, rfl⟩ := Kd.S_slice hR
    obtain ⟨A5, c5, g1, g2, g3⟩ := hr.row
    have hin2 : ∀ o : Nat, w4.heap.size ≤ (⟨w.heap.size, o, none⟩ : Addr).block ∨ (⟨w.heap.size, o, none⟩ : Addr).block = w.heap.size := fun _ => .inr rfl
    have es0 : Keep (· = w.heap.size) w4 w4 := Keep.refl _ _
    have es := es0.set (hin2 0) (.slice Av p.length cv)
    have k0 := blk_set h0 0 (.slice Av p.length cv)
    have k1 := es.blk h1 (by omega)
    have k2 := es.blk g1 (by omega)
    have kR := Go.Hay.Kd.S_kp hR es (fun k _ hb _ e => by have := HW3.out; omega)
    have kB := hbl.trans (es.below hbl.size (fun k hk => by omega))
    have c0' := blk_cell h0 0
    have f0 := blk_frozen h0 0
    have hcap := blk_cell k2 0
    have P := Aside0.mk (And.intro hp (And.intro k0 (And.intro k1 (And.intro kR kB))))
    clear hk h0 h1 hbl hp hr hR g1 g2 g3 hin2 es0 es k0 k1 k2 kR kB HST H0 H1
    cases r with
    | cons y ys =>
      go_wp2_with (go_at_call 23; refine (code_need_no _ _).mono ?_; rintro e w' ⟨rfl, rfl⟩)
      exact read_panics _ 3 w _ _ _ (by simp [readP, P.out.1]) P.out.2.1 P.out.2.2.1 P.out.2.2.2.2 rfl rfl
    | nil =>
      have q0 := blk_cell P.out.2.1 0
      have q1 := blk_cell P.out.2.2.1 0
      have z0 := blk_frozen P.out.2.1 0
      have z1 := blk_frozen P.out.2.2.1 0
      go_wp2_with (go_at_call 23; refine (code_need_ok _ _).mono ?_; rintro e w' ⟨rfl, rfl⟩)
      have e0 := blk_far (p := ⟨w.heap.size + 1, 0, none⟩) (blk_set P.out.2.1 0 (.slice Av p.length cv)) (by simp) (.int .i64 0)
      have e1 := blk_set (blk_far (p := ⟨w.heap.size, 0, none⟩) P.out.2.2.1 (by simp) (.slice Av p.length cv)) 0 (.int .i64 0)
      have hout : ∀ (W : World) (o : Nat), W.heap.size ≤ (⟨w.heap.size, o, none⟩ : Addr).block ∨ (⟨w.heap.size, o, none⟩ : Addr).block < w.heap.size + 2 := fun _ _ => .inr (show w.heap.size < w.heap.size + 2 by omega)
      have hout1 : ∀ (W : World) (o : Nat), W.heap.size ≤ (⟨w.heap.size + 1, o, none⟩ : Addr).block ∨ (⟨w.heap.size + 1, o, none⟩ : Addr).block < w.heap.size + 2 := fun _ _ => .inr (show w.heap.size + 1 < w.heap.size + 2 by omega)
      have es0 : Keep (fun k => k < w.heap.size + 2) (w4.setCell ⟨w.heap.size, 0, none⟩ (.slice Av p.length cv)) (w4.setCell ⟨w.heap.size, 0, none⟩ (.slice Av p.length cv)) := Keep.refl _ _
      have es := (es0.set (hout _ 0) (.slice Av p.length cv)).set (hout1 _ 0) (.int .i64 0)
      have eR := Go.Hay.Kd.S_kp P.out.2.2.2.1 es (fun k _ hb _ e => by have := HW3.out; omega)
      have eB := Below.setCell (p := ⟨w.heap.size + 1, 0, none⟩) (Below.setCell (p := ⟨w.heap.size, 0, none⟩) P.out.2.2.2.2 (Nat.le_refl _) (.slice Av p.length cv)) (show w.heap.size ≤ w.heap.size + 1 by omega) (.int .i64 0)
      have r1 := blk_cell e0 0
      have r2 := blk_cell e1 0
      refine leaves_cons (f := 24) (args := #[.pointer (some ⟨w.heap.size, 0, none⟩), .pointer (some ⟨w.heap.size + 1, 0, none⟩)]) (by simp) (by simp [go_sem]) ?_
      refine (rcatch_idle _ _ _).mono ?_
      rintro e u' w2 ⟨rfl, rfl, rfl⟩
      refine ⟨.tuple #[.slice Av p.length cv, .int .i64 0], ?_, ?_⟩
      · simp [results, Try.results15, go_sem, r1, r2]
      · have hre : readP (72 :: t) = (p, 0) := by simp [readP, P.out.1]
        exact ⟨_, by rw [hre], by rw [hre]; exact Kd.S_lower eR (by have := HW3.out; omega), eB⟩
  · have hb72 : (b == 72) = false := by simp [hm]
    have E := Aside0.mk (And.intro e0 (And.intro e1 hbl))
    have HM := Aside0.mk hm
    clear e0 e1 hbl hr0 hx hm
    go_enter_defers Try.func15, Try.ntmps15
    go_wp2_with (go_at_call 23; refine (code_need_no _ _).mono ?_; rintro e w' ⟨rfl, rfl⟩)
    exact read_panics _ 4 w _ _ _ (readP_no HM.out) E.out.1 E.out.2.1 E.out.2.2 rfl rfl

theorem code_Read.calls (A0 : Option Addr) (c0 : Nat) (l0 : List Int) (r1 : List (S36)) (r2 : Int) (w : World) (hr0 : Kd.C (Kd.int .u8) w A0 l0.length l0) (hc0 : l0.length ≤ c0) (h : code_Read.f l0 = some (r1, r2)) :
    Calls Try.prog 15 #[.slice A0 l0.length c0] w fun e w' => ∃ v0_ : Value, e = .returned (.tuple #[v0_, .int .i64 r2]) ∧ Kd.S k36 36 w' w.heap.size (fun _ => True) v0_ r1 ∧ Below w.heap.size w w' := by
  unfold code_Read.f at h
  by_cases hr : rngB l0
  · rw [if_pos hr] at h
    have hq := Option.some.inj h
    refine (read_walk A0 c0 l0 w hr0 hc0 hr).mono ?_
    rintro e w' ⟨v, he, hR, hb⟩
    rw [hq] at he hR
    exact ⟨v, he, hR, hb⟩
  · rw [if_neg hr] at h; cases h
#print axioms code_Read.calls
end Go.Proofs.Ytkbbgkhanmmhpaa.H
