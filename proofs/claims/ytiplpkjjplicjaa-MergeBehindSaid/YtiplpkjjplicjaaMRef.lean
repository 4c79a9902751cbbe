/- The reference's Merge of the node at a place: what the tree's walk comes to. -/
import Derived.Test.YtiplpkjjplicjaaMOf
import Derived.Test.YtiplpkjjplicjaaRoomW
set_option linter.unusedVariables false
set_option linter.unusedSimpArgs false
namespace Go.Proofs.Ytiplpkjjplicjaa.H
open Go.RowKit Go.Hay Go.Proofs.YtiplpkjjplicjaaW.PrintWords Go.Proofs.YtiplpkjjplicjaaW.PrintLast Go.Proofs.YtiplpkjjplicjaaW.PrintMore
structure RM (w : World) (y : S63) (Ap : Option Addr) (cp : Nat) (Ak : Option Addr) (ck : Nat) (vt : Value) (t1 : List Int) (w' : World) : Prop where
  below : Below w.heap.size w w'
  res : w'.heap[w.heap.size]? = some (.cells #[.slice none 0 0, .int .i64 0, .int .i64 0, .slice none 0 0, .bool false] 54 (0, 0))
  node : w'.heap[w.heap.size + 1]? = some (.cells #[.slice Ap y.f0.length cp, .slice Ak y.f1.length ck, .int .i64 y.f2, .int .i64 y.f3] 63 (0, 0))
  out : w'.heap[w.heap.size + 1 + 1]? = some (.cells #[vt, .int .i64 0, .int .i64 0, .slice none 0 0, .bool false] 54 (0, 0))
  told : (Kd.int .i64).R 2 w' (w.heap.size + 3) (fun _ => True) vt t1
section
variable {w W w1 : World} {y : S63} {Ap Ak : Option Addr} {cp ck : Nat} {vt v1 : Value} {t1 ns : List Int}
theorem RM.keep (h : RM w y Ap cp Ak ck vt t1 W) (k : Below W.heap.size W w1) : RM w y Ap cp Ak ck vt t1 w1 :=
  ⟨h.below.trans (k.mono h.below.size), (k.block _ (blk_lt h.res)).trans h.res, (k.block _ (blk_lt h.node)).trans h.node, (k.block _ (blk_lt h.out)).trans h.out, R_flat (flatI _) h.told (fun _ _ => trivial) (fun i hi => k.block i (R_own h.told i hi).2)⟩
theorem RM.size (h : RM w y Ap cp Ak ck vt t1 W) : w.heap.size + 3 ≤ W.heap.size := by have := blk_lt h.out; omega
theorem RM.push (h : RM w y Ap cp Ak ck vt t1 W) (hR : (Kd.int .i64).R 2 w1 (w.heap.size + 3) (fun _ => True) v1 (t1 ++ ns)) (hb : Below (w.heap.size + 3) W w1) : RM w y Ap cp Ak ck v1 (t1 ++ ns) (w1.setCell ⟨w.heap.size + 1 + 1, 0, none⟩ v1) := by
  have hset : ∀ k, k ≠ w.heap.size + 1 + 1 → (w1.setCell ⟨w.heap.size + 1 + 1, 0, none⟩ v1).heap[k]? = w1.heap[k]? := fun k hk => Below.heap_setCell w1 ⟨_, 0, none⟩ v1 k hk
  have ho : w1.heap[w.heap.size + 1 + 1]? = some (.cells #[vt, .int .i64 0, .int .i64 0, .slice none 0 0, .bool false] 54 (0, 0)) := (hb.block _ (by omega)).trans h.out
  refine ⟨(h.below.trans (hb.mono (by omega))).setCell (by simp; omega) _, (hset _ (by omega)).trans ((hb.block _ (by omega)).trans h.res), (hset _ (by omega)).trans ((hb.block _ (by omega)).trans h.node), blk_set ho 0 _, R_flat (flatI _) hR (fun _ _ => trivial) (fun k hk => hset k (fun e => by have := (R_own hR k hk).1; omega))⟩
end
/-- A row that reads as a path. -/
def PathC (w : World) (A : Option Addr) (c : Nat) (path : List Int) : Prop := (Kd.int .i64).C w A path.length path ∧ path.length ≤ c
theorem PathC.below {w w' : World} {A : Option Addr} {c : Nat} {path : List Int} (h : PathC w A c path) (hb : Below w.heap.size w w') : PathC w' A c path := ⟨Kd.C_below h.1 hb, h.2⟩
/-- What Merge answers, kept by blocks of B. -/
structure Told (base : Nat) (B : Nat → Prop) (t : T) (R : List Int × Int × Option (List Int)) (w : World) (v : Value) (At : Option Addr) (ct : Nat) (val : Int) (Af : Option Addr) (cf : Nat) : Prop where
  ans : v = .agg #[.slice At R.1.length ct, .int .i64 val, .int .i64 R.2.1, .slice Af (R.2.2.getD []).length cf, .bool R.2.2.isSome]
  told : (Kd.int .i64).R 2 w base B (.slice At R.1.length ct) R.1
  first : PathC w Af cf (R.2.2.getD [])
  own : ∀ ad, Af = some ad → B ad.block ∧ ad.block < w.heap.size
  val : R.2.1 = 0 → val = valT t
def RefOk (l : List S63) (n i : Nat) : Prop := ∀ (A0 : Option Addr) (c0 : Nat) (Ap : Option Addr) (cp : Nat) (path : List Int) (d : Int) (w : World), k63.C w A0 l.length l → PathC w Ap cp path → (∀ ad, Ap = some ad → ad.block < w.heap.size) → rightT (treeN l n i) d = true → 0 ≤ d → path.length ≤ d.toNat →
  (walkT (treeN l n i) path).1.length ≤ 1000000 → Calls Try.prog 19 #[.slice A0 l.length c0, .int .i64 i, .slice Ap path.length cp] w fun e w' => ∃ v, e = .returned v ∧ Below w.heap.size w w' ∧ ∃ At ct val Af cf, Told w.heap.size (fun b => w.heap.size ≤ b ∨ ∃ ad, Ap = some ad ∧ b = ad.block) (treeN l n i) (walkT (treeN l n i) path) w' v At ct val Af cf
theorem Told.lower {base base' : Nat} {B B' : Nat → Prop} {t : T} {R : List Int × Int × Option (List Int)} {w : World} {v : Value} {At Af : Option Addr} {ct cf : Nat} {val : Int} (h : Told base B t R w v At ct val Af cf) (hb : base' ≤ base) (hB : ∀ b, b < w.heap.size → B b → B' b) : Told base' B' t R w v At ct val Af cf :=
  ⟨h.ans, nums_flat (Kd.R_lower h.told hb) (fun b hb => hB b (nums_own h.told b hb).2.2 (h.told.1 b hb)) (fun _ _ => rfl), h.first, fun ad e => ⟨hB _ (h.own ad e).2 (h.own ad e).1, (h.own ad e).2⟩, h.val⟩
theorem Told.keep {base : Nat} {B B' : Nat → Prop} {t : T} {R : List Int × Int × Option (List Int)} {w w' : World} {v : Value} {At Af : Option Addr} {ct cf : Nat} {val : Int} (h : Told base B t R w v At ct val Af cf) (hk : ∀ b, B b → w'.heap[b]? = w.heap[b]?) (hz : w.heap.size ≤ w'.heap.size) (hB : ∀ b, B b → B' b) : Told base B' t R w' v At ct val Af cf :=
  ⟨h.ans, nums_flat h.told (fun b hb => hB b (h.told.1 b hb)) (fun b hb => hk b (h.told.1 b hb)), ⟨C_at (fun x => x) h.first.1 (fun ad e => hk _ (h.own ad e).1), h.first.2⟩, fun ad e => ⟨hB _ (h.own ad e).1, Nat.lt_of_lt_of_le (h.own ad e).2 hz⟩, h.val⟩
/-- what each operation of the drawn region yields. -/
structure RF (base : Nat) (path : List Int) (mm : Int) (t : T) (R : List Int × Int × Option (List Int)) (i : Nat) (v : Value) (B : Nat → Prop) (w : World) : Prop where
  r6 : i = 6 → (Kd.int .i64).R 3 w base B v []
  r8 : i = 8 → (Kd.int .i64).R 3 w base B v path
  r10 : i = 10 → ∃ bl, v = .slice (some ⟨bl, 0, none⟩) 1 1 ∧ w.heap[bl]? = some (.cells #[.int .i64 mm] 3 (0, 0)) ∧ B bl
  r11 : i = 11 → (Kd.int .i64).R 3 w base B v (path ++ [mm])
  r12 : i = 12 → ∃ At ct val Af cf, Told base B t R w v At ct val Af cf ∧ ∀ ad, Af = some ad → base ≤ ad.block
  r13 : i = 13 → ∃ bx, v = .pointer (some ⟨bx, 0, none⟩) ∧ w.heap[bx]? = some (.cells #[.slice none 0 0, .int .i64 0, .int .i64 0, .slice none 0 0, .bool false] 54 (0, 0)) ∧ B bx ∧ base ≤ bx
section
variable {base : Nat} {path : List Int} {mm : Int} {t : T} {R : List Int × Int × Option (List Int)} {v : Value} {B : Nat → Prop} {w : World}
theorem RF.of6 (h : (Kd.int .i64).R 3 w base B v []) : RF base path mm t R 6 v B w := ⟨fun _ => h, fun e => absurd e (by decide), fun e => absurd e (by decide), fun e => absurd e (by decide), fun e => absurd e (by decide), fun e => absurd e (by decide)⟩
theorem RF.of8 (h : (Kd.int .i64).R 3 w base B v path) : RF base path mm t R 8 v B w := ⟨fun e => absurd e (by decide), fun _ => h, fun e => absurd e (by decide), fun e => absurd e (by decide), fun e => absurd e (by decide), fun e => absurd e (by decide)⟩
theorem RF.of10 (h : ∃ bl, v = .slice (some ⟨bl, 0, none⟩) 1 1 ∧ w.heap[bl]? = some (.cells #[.int .i64 mm] 3 (0, 0)) ∧ B bl) : RF base path mm t R 10 v B w := ⟨fun e => absurd e (by decide), fun e => absurd e (by decide), fun _ => h, fun e => absurd e (by decide), fun e => absurd e (by decide), fun e => absurd e (by decide)⟩
theorem RF.of11 (h : (Kd.int .i64).R 3 w base B v (path ++ [mm])) : RF base path mm t R 11 v B w := ⟨fun e => absurd e (by decide), fun e => absurd e (by decide), fun e => absurd e (by decide), fun _ => h, fun e => absurd e (by decide), fun e => absurd e (by decide)⟩
theorem RF.of12 (h : ∃ At ct val Af cf, Told base B t R w v At ct val Af cf ∧ ∀ ad, Af = some ad → base ≤ ad.block) : RF base path mm t R 12 v B w := ⟨fun e => absurd e (by decide), fun e => absurd e (by decide), fun e => absurd e (by decide), fun e => absurd e (by decide), fun _ => h, fun e => absurd e (by decide)⟩
theorem RF.of13 (h : ∃ bx, v = .pointer (some ⟨bx, 0, none⟩) ∧ w.heap[bx]? = some (.cells #[.slice none 0 0, .int .i64 0, .int .i64 0, .slice none 0 0, .bool false] 54 (0, 0)) ∧ B bx ∧ base ≤ bx) : RF base path mm t R 13 v B w := ⟨fun e => absurd e (by decide), fun e => absurd e (by decide), fun e => absurd e (by decide), fun e => absurd e (by decide), fun e => absurd e (by decide), fun _ => h⟩
end
theorem RF.stable {base : Nat} {path : List Int} {mm : Int} {t : T} {R : List Int × Int × Option (List Int)} (i : Nat) (v : Value) (B : Nat → Prop) (w w' : World) (h : RF base path mm t R i v B w) (hz : w.heap.size ≤ w'.heap.size) (hk : ∀ k, B k → w'.heap[k]? = w.heap[k]?) : RF base path mm t R i v B w' :=
  ⟨fun e => nums_flat (h.r6 e) (h.r6 e).1 (fun b hb => hk b ((h.r6 e).1 b hb)), fun e => nums_flat (h.r8 e) (h.r8 e).1 (fun b hb => hk b ((h.r8 e).1 b hb)), fun e => (h.r10 e).elim fun bl q => ⟨bl, q.1, (hk _ q.2.2).trans q.2.1, q.2.2⟩, fun e => nums_flat (h.r11 e) (h.r11 e).1 (fun b hb => hk b ((h.r11 e).1 b hb)), fun e => by obtain ⟨At, ct, val, Af, cf, q, q2⟩ := h.r12 e; exact ⟨At, ct, val, Af, cf, q.keep hk hz (fun _ h => h), q2⟩, fun e => (h.r13 e).elim fun bx q => ⟨bx, q.1, (hk _ q.2.2.1).trans q.2.1, q.2.2⟩⟩
theorem set5_facts {w : World} {b : Nat} {t : TypeId} {c0 c1 c2 c3 c4 v0 v1 v2 v3 v4 : Value} (hb : w.heap[b]? = some (.cells #[c0, c1, c2, c3, c4] t (0, 0))) (w6 : World)
    (e : w6 = ((((w.setCell ⟨b, 0, none⟩ v0).setCell ⟨b, 1, none⟩ v1).setCell ⟨b, 2, none⟩ v2).setCell ⟨b, 3, none⟩ v3).setCell ⟨b, 4, none⟩ v4) :
    w6.heap[b]? = some (.cells #[v0, v1, v2, v3, v4] t (0, 0)) ∧ (∀ k, k ≠ b → w6.heap[k]? = w.heap[k]?) ∧ w6.heap.size = w.heap.size ∧ (∀ B w0, Below B w0 w → B ≤ b → Below B w0 w6) := by
  subst e
  refine ⟨blk_set (blk_set (blk_set (blk_set (blk_set hb 0 _) 1 _) 2 _) 3 _) 4 _, fun k hk => ?_, by simp [World.setCell], fun B w0 h hB => ((((h.setCell hB _).setCell hB _).setCell hB _).setCell hB _).setCell hB _⟩
  rw [Below.heap_setCell _ ⟨b, 4, none⟩ _ k hk, Below.heap_setCell _ ⟨b, 3, none⟩ _ k hk, Below.heap_setCell _ ⟨b, 2, none⟩ _ k hk, Below.heap_setCell _ ⟨b, 1, none⟩ _ k hk, Below.heap_setCell _ ⟨b, 0, none⟩ _ k hk]
set_option maxRecDepth 100000 in
set_option maxHeartbeats 8000000 in
theorem ref_step (l : List S63) (hG : Good l) (n i : Nat) (hi : i < l.length) (ih : ∀ j, i < j → j < l.length → RefOk l n j) : RefOk l (n + 1) i := by
  intro A0 c0 App cpp path d w hC hP hPs hr hd0 hpl htl
  obtain ⟨ad, Ap, cp, Ak, ck, rfl, q0, q1, q2, q3, hcp, hCp, hck, hCk⟩ := at_T63 hC (i : Int) (by omega) (by omega)
  have hyd : rd_T63 l (i : Int) = l.getD i z63 := by unfold rd_T63; rw [Int.toNat_natCast]
  have htree : treeN l (n + 1) i = .node (rd_T63 l (i : Int)).f0 ((rd_T63 l (i : Int)).f1.map fun k => treeN l n k.toNat) (rd_T63 l (i : Int)).f2 (rd_T63 l (i : Int)).f3 := by rw [hyd]; rfl
  have hmem : rd_T63 l (i : Int) ∈ l := by rw [hyd, List.getD_eq_getElem?_getD, List.getElem?_eq_getElem hi]; exact List.getElem_mem hi
  have hup : ∀ k ∈ (rd_T63 l (i : Int)).f1, (i : Int) < k ∧ k < (l.length : Int) := by
    have : rd_T63 l (i : Int) = l[i] := by rw [hyd, List.getD_eq_getElem?_getD, List.getElem?_eq_getElem hi]; rfl
    rw [this]; exact hG.up i hi
  have hp1 := hG.ps _ hmem
  rw [Int.toNat_natCast] at q0 q1 q2 q3
  rw [htree] at hr htl ⊢
  generalize rd_T63 l (i : Int) = y at q0 q1 q2 q3 hcp hCp hck hCk hup hp1 hr htl ⊢
  clear htree hyd hmem
  obtain ⟨ks, hks⟩ : ∃ ks, ks = y.f1.map fun k => treeN l n k.toNat := ⟨_, rfl⟩
  rw [← hks] at hr htl ⊢
  have hkl : ks.length = y.f1.length := by rw [hks, List.length_map]
  have hkg : ∀ m (h : m < ks.length) (h' : m < y.f1.length), ks[m] = treeN l n y.f1[m].toNat := fun m h h' => by simp [hks]
  obtain ⟨hd30, hfv, hmet, hrs⟩ := right_inv hr
  obtain ⟨W, hW⟩ : ∃ W, W = walkKs ks path 0 := ⟨_, rfl⟩
  have hres : walkT (.node y.f0 ks y.f2 y.f3) path = if (walkPs y.f0 W).2.1 = 0 then ((walkPs y.f0 W).1, y.f3, if y.f3 = 0 then none else some path) else walkPs y.f0 W := by rw [hW, walkT]
  have hWm : ∀ m (h : m < ks.length), W.getD m ([], 0, none) = walkT ks[m] (path ++ [(m : Int)]) := fun m h => by
    rw [List.getD_eq_getElem?_getD, hW, walkKs_get ks path 0 m h]; simp
  obtain ⟨R, hR⟩ : ∃ R, R = walkT (.node y.f0 ks y.f2 y.f3) path := ⟨_, rfl⟩
  rw [← hR] at hres htl ⊢
  have hR1 : R.1 = (walkPs y.f0 W).1 := by rw [hres]; split <;> rfl
  have HR := Aside0.mk (And.intro hres (And.intro hR1 htl))
  have HWM := Aside0.mk (And.intro hWm (And.intro hkl hkg))
  have HX := Aside0.mk (And.intro q0 (And.intro q1 (And.intro q2 q3)))
  have HY := Aside0.mk (And.intro hCp (And.intro hCk (And.intro hcp hck)))
  have HG := Aside0.mk (And.intro hup (And.intro hp1 hG.few))
  have HC := Aside0.mk (And.intro hC (And.intro hP hPs))
  have HI := Aside0.mk ih
  have HM := Aside0.mk hmet
  have HRS := Aside0.mk hrs
  have HD := Aside0.mk (And.intro hd0 (And.intro hd30 hpl))
  have hmax := Kd.C_max hCp
  have HW := Aside0.mk (show RM w y Ap cp Ak ck (.slice none 0 0) [] (((w.alloc (.cells #[.slice none 0 0, .int .i64 0, .int .i64 0, .slice none 0 0, .bool false] 54)).alloc (.cells #[.slice Ap y.f0.length cp, .slice Ak y.f1.length ck, .int .i64 y.f2, .int .i64 y.f3] 63)).alloc (.cells #[.slice none 0 0, .int .i64 0, .int .i64 0, .slice none 0 0, .bool false] 54)) from by
    have b1 := (Below.refl w.heap.size w).alloc (Nat.le_refl _) (.cells #[.slice none 0 0, .int .i64 0, .int .i64 0, .slice none 0 0, .bool false] 54)
    have b2 := b1.alloc b1.size (.cells #[.slice Ap y.f0.length cp, .slice Ak y.f1.length ck, .int .i64 y.f2, .int .i64 y.f3] 63)
    have b3 := b2.alloc b2.size (.cells #[.slice none 0 0, .int .i64 0, .int .i64 0, .slice none 0 0, .bool false] 54)
    have e1 : (w.alloc (.cells #[.slice none 0 0, .int .i64 0, .int .i64 0, .slice none 0 0, .bool false] 54)).heap.size = w.heap.size + 1 := Array.size_push _
    have e2 : ((w.alloc (.cells #[.slice none 0 0, .int .i64 0, .int .i64 0, .slice none 0 0, .bool false] 54)).alloc (.cells #[.slice Ap y.f0.length cp, .slice Ak y.f1.length ck, .int .i64 y.f2, .int .i64 y.f3] 63)).heap.size = w.heap.size + 1 + 1 := by rw [← e1]; exact Array.size_push _
    have h0 := blk_alloc (blk_alloc (alloc_blk w (.cells #[.slice none 0 0, .int .i64 0, .int .i64 0, .slice none 0 0, .bool false] 54)) (.cells #[.slice Ap y.f0.length cp, .slice Ak y.f1.length ck, .int .i64 y.f2, .int .i64 y.f3] 63)) (.cells #[.slice none 0 0, .int .i64 0, .int .i64 0, .slice none 0 0, .bool false] 54)
    have h1 := blk_alloc (alloc_blk (w.alloc (.cells #[.slice none 0 0, .int .i64 0, .int .i64 0, .slice none 0 0, .bool false] 54)) (.cells #[.slice Ap y.f0.length cp, .slice Ak y.f1.length ck, .int .i64 y.f2, .int .i64 y.f3] 63)) (.cells #[.slice none 0 0, .int .i64 0, .int .i64 0, .slice none 0 0, .bool false] 54)
    have h2 := alloc_blk ((w.alloc (.cells #[.slice none 0 0, .int .i64 0, .int .i64 0, .slice none 0 0, .bool false] 54)).alloc (.cells #[.slice Ap y.f0.length cp, .slice Ak y.f1.length ck, .int .i64 y.f2, .int .i64 y.f3] 63)) (.cells #[.slice none 0 0, .int .i64 0, .int .i64 0, .slice none 0 0, .bool false] 54)
    rw [e1] at h1
    rw [e2] at h2
    exact ⟨b3, h0, h1, h2, Kd.R_nil _ _ _ _ _⟩)
  clear q0 q1 q2 q3 hCp hCk hcp hck hup hp1 hC hP hPs ih hr hd0 hpl htl hd30 hfv hmet hrs hR hW hres hWm hks hkl hkg hR1
  have HX2 := HX.out
  have hB1 := (Below.refl w.heap.size w).alloc (Nat.le_refl _) (.cells #[.slice none 0 0, .int .i64 0, .int .i64 0, .slice none 0 0, .bool false] 54)
  have q0 := (hB1.cell (World.block_lt_of_cell? w _ HX2.1)).trans HX2.1
  have q1 := (hB1.cell (World.block_lt_of_cell? w _ HX2.2.1)).trans HX2.2.1
  have q2 := (hB1.cell (World.block_lt_of_cell? w _ HX2.2.2.1)).trans HX2.2.2.1
  have q3 := (hB1.cell (World.block_lt_of_cell? w _ HX2.2.2.2)).trans HX2.2.2.2
  clear HX2 hB1
  go_enter Try.func19, Try.ntmps19
  go_wp2_with fail
  clear q0 q1 q2 q3
  go_loopw [9] (fun v9 wr => ∃ (j : Nat) (m : Int) (t1 : List Int) (vt : Value), v9 = .int .i64 j ∧ j ≤ y.f0.length ∧ Aside0 (0 ≤ m ∧ metP m (y.f0.drop j) = some (ks.length : Int)) ∧ Aside0 (walkPs y.f0 W = preT t1 (walkPs (y.f0.drop j) W)) ∧ Aside0 (RM w y Ap cp Ak ck vt t1 wr)) (fun v9 _ => y.f0.length - (intOf v9).toNat)
  case atStart => exact ⟨0, 0, [], _, rfl, Nat.zero_le _, ⟨Int.le_refl _, by simpa using HM.out⟩, ⟨by simp [preT]⟩, HW⟩
  case round =>
    clear HW HM
    obtain ⟨j, m, t1, vt, rfl, hj, HM, HP, HW⟩ := hrel
    have n0 := blk_cell HW.out.node 0
    by_cases hlt : j < y.f0.length
    · obtain ⟨ad1, rfl, hx0, hx1⟩ := at_T64 HY.out.1 (j : Int) (by omega) (by omega)
      replace hx0 := (HW.out.below.cell (World.block_lt_of_cell? w _ hx0)).trans hx0
      replace hx1 := (HW.out.below.cell (World.block_lt_of_cell? w _ hx1)).trans hx1
      simp only [Int.toNat_natCast] at hx0 hx1
      have hfi : rd_T64 y.f0 (j : Int) = y.f0[j] := by simp [rd_T64, hlt]
      rw [hfi] at hx0 hx1
      clear hfi
      generalize hfj : y.f0[j] = pi at hx0 hx1
      have HHERE := Aside0.mk (metP_here hlt hfj HM.out.2)
      have HDR := Aside0.mk (show walkPs (y.f0.drop j) W = walkPs (pi :: y.f0.drop (j + 1)) W by rw [List.drop_eq_getElem_cons hlt, hfj])
      clear hfj
      obtain ⟨p0, p1⟩ := pi
      have HW2 := Aside0.mk (HW.out.keep ((Below.refl _ _).alloc (Nat.le_refl _) (.cells #[.bool p0, .int .i64 p1] 64)))
      cases p0 with
      | false =>
        have hhere : metP m (y.f0.drop (j + 1)) = some (ks.length : Int) := HHERE.out.elim (fun h => h.2) (fun h => by cases h.1)
        have HM2 := Aside0.mk (And.intro HM.out.1 hhere)
        have HP2 := Aside0.mk (show walkPs y.f0 W = preT (t1 ++ [p1]) (walkPs (y.f0.drop (j + 1)) W) by
          rw [HP.out, HDR.out, walkPs, if_neg (by simp), preT_preT])
        clear hhere HHERE HDR
        have hpb := alloc_blk wr (.cells #[.bool false, .int .i64 p1] 64)
        go_upto_region 8 with fail
        clear hx0 hx1 n0
        generalize wr.alloc (.cells #[.bool false, .int .i64 p1] 64) = wq at HW2 hpb ⊢
        obtain ⟨Aq, cq, rfl⟩ := Kd.R_slice HW2.out.told
        have hbd : t1.length ≤ 1000000 := by
          have e := congrArg (fun r => r.1.length) HP2.out
          simp only [preT, List.length_append] at e
          have := HR.out.2.2
          rw [HR.out.2.1] at this
          omega
        have c0' := blk_cell HW2.out.out 0
        have pc1 := blk_cell hpb 1
        clear hpb
        go_wp2_with (first | ((with_reducible refine gate_builtin (b := .append) (xs := #[.tmp 33, .tmp 36]) rfl ?_); refine Kd.R_append (Kd.int .i64) (w0 := wq) (w.heap.size + 3) rfl (.tmp 33) (.tmp 36) 23 2 (.int .i64 0) 8 rfl Try.underlying23 info2 rfl (by decide) (by omega) (.slice Aq t1.length cq) t1 p1 [.int .i64 p1] (fun _ => True) (fun _ => False) rfl (by first | (go_simp; done) | (go_simp; rfl)) ?aP (fun _ hk => hk.elim) ?aF ?aO ?aB ?aS ?aL ?_; (case aP => rfl); (case aF => exact (fun _ _ => trivial)); (case aO => exact HW2.out.told); (case aB => exact Below.refl _ _); (case aS => exact HW2.out.size); (case aL => omega); intro v9 w9 hR9 hb9 hg9 hat9; have HW3 := Aside0.mk (HW2.out.push hR9 hb9); have hn9 := (hb9.block _ (show w.heap.size + 1 + 1 < w.heap.size + 3 by omega)).trans HW2.out.out; have d9 := blk_cell hn9 0; have z9 := blk_frozen hn9 0; obtain ⟨A9, c9, rfl⟩ := Kd.R_slice hR9; rw [show (t1 ++ [p1]).length = t1.length + 1 from List.length_append ..] at HW3; clear hR9 hb9 hg9 hat9 hn9 c0' pc1))
        go_roundw
        case rel => exact ⟨j + 1, m, t1 ++ [p1], _, by go_num, by omega, HM2, HP2, HW3⟩
        case measure => simp [intOf]; omega
      | true =>
        have hh : p1 = m ∧ metP (m + 1) (y.f0.drop (j + 1)) = some (ks.length : Int) := HHERE.out.elim (fun h => by cases h.1) (fun h => h.2)
        obtain ⟨rfl, hmn⟩ := hh
        have hle := metP_le hmn
        obtain ⟨mm, rfl⟩ := Int.eq_ofNat_of_zero_le HM.out.1
        have hnk : mm < ks.length := by omega
        have hnk2 : mm < y.f1.length := by have := HWM.out.2.1; omega
        have HM2 := Aside0.mk (And.intro (show (0 : Int) ≤ (mm : Int) + 1 by omega) hmn)
        obtain ⟨adk, rfl, hxk⟩ := Kd.at_int HY.out.2.1 (mm : Int) (by omega) (by omega)
        rw [Int.toNat_natCast, show rd y.f1 (mm : Int) = y.f1[mm] by simp [rd, hnk2]] at hxk
        have hup := HG.out.1 y.f1[mm] (List.getElem_mem hnk2)
        have hkt := HWM.out.2.2 mm hnk hnk2
        generalize y.f1[mm] = x at hxk hup hkt
        obtain ⟨xn, rfl⟩ := Int.eq_ofNat_of_zero_le (show 0 ≤ x by omega)
        rw [Int.toNat_natCast] at hkt
        have HXK := Aside0.mk (And.intro hxk (And.intro hup (And.intro hkt (And.intro hnk hnk2))))
        have hnk' : ((mm : Int) < (y.f1.length : Int)) = True := eq_true (by omega)
        clear hle hmn HHERE hxk hup hkt
        go_upto_region 10 with (fail)
        clear hx0 hx1 n0
        generalize wr.alloc (.cells #[.bool true, .int .i64 (mm : Int)] 64) = wq at HW2 ⊢
        obtain ⟨Aq, cq, rfl⟩ := Kd.R_slice HW2.out.told
        obtain ⟨K', hK'⟩ : ∃ K', K' = walkT ks[mm] (path ++ [(mm : Int)]) := ⟨_, rfl⟩
        have hWn : W.getD mm ([], 0, none) = K' := (HWM.out.1 mm hnk).trans hK'.symm
        have hstep : walkPs (y.f0.drop j) W = if K'.2.1 = 0 then preT K'.1 (walkPs (y.f0.drop (j + 1)) W) else K' := by
          rw [HDR.out, walkPs, if_pos rfl, Int.toNat_natCast, hWn]
        have hbd : t1.length + K'.1.length ≤ 1000000 := by
          have e := congrArg (fun r => r.1.length) HP.out
          simp only [preT, List.length_append] at e
          have := HR.out.2.2
          rw [HR.out.2.1] at this
          have e2 : K'.1.length ≤ (walkPs (y.f0.drop j) W).1.length := by
            rw [hstep]; split
            · simp [preT]
            · exact Nat.le_refl _
          omega
        have hplen : path.length ≤ 1000 := by have h1 := HD.out.2.2; have h2 := HD.out.2.1; omega
        have hfit : Fits K' := hK' ▸ walkT_fits _ _
        have HFIT := Aside0.mk hfit
        have HSTEP := Aside0.mk (And.intro hstep hbd)
        have HK' := Aside0.mk (And.intro hK' hplen)
        clear hWn hstep hbd hfit hK' hplen HDR
        refine wp_region_seq2 (fun w' => Below wq.heap.size wq w') [14] [.take 0, .take 1, .take 2, .take 3, .take 4, .take 5, .take 7, .take 9, .rooms [6, 8, 10, 11, 12, 13], .fin 14] (by kernel_rfl) (by kernel_rfl) rfl (by kernel_rfl) (panic_via (P := Try.prog) (fn := Try.f19) (R := fun e w' => ∃ v, e = .returned v ∧ Below w.heap.size w w' ∧ ∃ At ct val Af cf, Told w.heap.size (fun b => w.heap.size ≤ b ∨ ∃ ad, App = some ad ∧ b = ad.block) (.node y.f0 ks y.f2 y.f3) R w' v At ct val Af cf) (fun _ _ _ => rfl)) ?_
        have hs : Below wq.heap.size wq wq.drew := (Below.refl _ _).drew
        repeat (
          (first
            | (refine runSeq2_take (v := ?_) (by rfl) (by rfl) (fun w' hS => ?_) hs ?_
               rotate_left
               · (have hG := (hS.block _ (blk_lt HW2.out.node)).trans HW2.out.node; have d1 := blk_cell hG 1; have q0 := (hS.cell (World.block_lt_of_cell? wq _ ((HW2.out.below.cell (World.block_lt_of_cell? w _ HXK.out.1)).trans HXK.out.1))).trans ((HW2.out.below.cell (World.block_lt_of_cell? w _ HXK.out.1)).trans HXK.out.1); go_simp; exact rfl))
            | refine runSeq2_skip (by rfl) (by rfl) hs ?_)
          (try simp only [Act.put, List.setIfInBounds_toArray, List.set_cons_zero, List.set_cons_succ]))
        refine ⟨RF wq.heap.size path (mm : Int) ks[mm] K', Rooms.of (fun i v B w w' h _ hz hk => RF.stable i v B w w' h hz hk) ?_, hs, ?_⟩
        · intro i hi vals B w1 a1 hs1 fact apart old dep
          rcases List.mem_cons.1 hi with rfl | hi
          · refine wpOp_at (by rfl) (by rfl) (fun K hK => ?_)
            go_simp
            refine hK _ _ ⟨_, fun k => k = w1.heap.size, rfl, hs1.alloc hs1.size _, by simp, RF.of6 (nums_empty .i64 3 w1 wq.heap.size hs1.size), fun k hk => ⟨by rw [hk]; simp, .inl (by rw [hk]; exact Nat.le_refl _)⟩, fun k hk _ => alloc_old _ _ hk⟩
          rcases List.mem_cons.1 hi with rfl | hi
          · have f6 := fact 6 (by kernel_rfl)
            have s47 := dep 6 47 (by kernel_rfl) (by rfl)
            have s48 := old 48 (by kernel_rfl)
            refine wpOp_at (by rfl) (by rfl) (fun K hK => ?_)
            refine room_append_nums .i64 wq.heap.size rfl (.tmp 47) (.tmp 48) 31 3 8 rfl Try.underlying31 info3 (by decide) (vals 6) [] path App path.length cpp s47 s48 (f6.1.r6 rfl) (Kd.C_below HC.out.2.1.1 (HW2.out.below.trans (hs1.mono HW2.out.below.size))) hs1.size (by have := HK'.out.2; simp; omega) ?_
            intro v1 w2 B' hR hb hsz hB' hkp
            rw [List.nil_append] at hR
            exact hK _ _ ⟨v1, B', rfl, hs1.trans hb, hsz, RF.of8 hR, fun k hk => ⟨(hB' k hk).1, (hB' k hk).2.imp id (fun h => ⟨6, by kernel_rfl, h⟩)⟩, fun k hk hn => hkp k hk (hn 6 (by kernel_rfl))⟩
          rcases List.mem_cons.1 hi with rfl | hi
          · have s50 : a1.tmps[50]?.getD undef = .int .i64 (mm : Int) := by rw [← Array.getD_eq_getD_getElem?]; exact old 50 (by kernel_rfl)
            refine wpOp_at (by rfl) (by rfl) (fun K hK => ?_)
            go_simp
            refine hK _ _ ⟨_, fun k => k = w1.heap.size, rfl, hs1.alloc hs1.size _, by simp, RF.of10 ⟨w1.heap.size, rfl, alloc_blk _ _, rfl⟩, fun k hk => ⟨by rw [hk]; simp, .inl (by rw [hk]; exact Nat.le_refl _)⟩, fun k hk _ => alloc_old _ _ hk⟩
          rcases List.mem_cons.1 hi with rfl | hi
          · have f8 := fact 8 (by kernel_rfl)
            obtain ⟨bl, hv, hbl, hBb⟩ := (fact 10 (by kernel_rfl)).1.r10 rfl
            have s49 := dep 8 49 (by kernel_rfl) (by rfl)
            have s51 := dep 10 51 (by kernel_rfl) (by rfl)
            rw [hv] at s51
            refine wpOp_at (by rfl) (by rfl) (fun K hK => ?_)
            refine room_append_nums .i64 wq.heap.size rfl (.tmp 49) (.tmp 51) 31 3 8 rfl Try.underlying31 info3 (by decide) (vals 8) path [(mm : Int)] (some ⟨bl, 0, none⟩) 1 1 s49 s51 (f8.1.r8 rfl) (reads_nums [(mm : Int)] hbl (by simp)) hs1.size (by have := HK'.out.2; omega) ?_
            intro v1 w2 B' hR hb hsz hB' hkp
            exact hK _ _ ⟨v1, B', rfl, hs1.trans hb, hsz, RF.of11 hR, fun k hk => ⟨(hB' k hk).1, (hB' k hk).2.imp id (fun h => ⟨8, by kernel_rfl, h⟩)⟩, fun k hk hn => hkp k hk (hn 8 (by kernel_rfl))⟩
          rcases List.mem_cons.1 hi with rfl | hi
          · have f11 := fact 11 (by kernel_rfl)
            have s52 := dep 11 52 (by kernel_rfl) (by rfl)
            have s41 := old 41 (by kernel_rfl)
            have s46 := old 46 (by kernel_rfl)
            have hR11 := f11.1.r11 rfl
            obtain ⟨A', c', hv⟩ := Kd.R_slice hR11
            rw [hv] at s52
            rw [hv] at hR11
            have hq4 := Kd.R_reads' hR11
            have hcall := HI.out xn (by have := HXK.out.2.1.1; omega) (by have := HXK.out.2.1.2; omega) (some ad) c0 A' c' (path ++ [(mm : Int)]) (d + 1) w1 (Kd.C_below HC.out.1 (HW2.out.below.trans (hs1.mono HW2.out.below.size))) ⟨hq4.2.2, hq4.2.1⟩ (fun adr e => (nums_own hR11 adr.block (by
              obtain ⟨g, hg⟩ := own_at hR11 (by simp)
              rw [hg] at e ⊢
              cases e; rfl)).2.2) (by rw [← HXK.out.2.2.1]; exact rightTs_mem HRS.out mm hnk) (by have := HD.out.1; omega) (by have h0 := HD.out.1; have := HD.out.2.2; simp; omega) (by rw [← HXK.out.2.2.1, ← HK'.out.1]; have := HSTEP.out.2; omega)
            rw [← HXK.out.2.2.1, ← HK'.out.1] at hcall
            have hAW : ∀ adr, A' = some adr → wq.heap.size ≤ adr.block := fun adr e => by
              obtain ⟨g, hg⟩ := own_at hR11 (by simp)
              rw [hg] at e hR11
              cases e
              exact (nums_own hR11 g rfl).2.1
            have hAB : ∀ adr, A' = some adr → B 11 adr.block := fun adr e => by
              obtain ⟨g, hg⟩ := own_at hR11 (by simp)
              rw [hg] at e hR11
              cases e
              exact hR11.1 g rfl
            refine wpOp_at (by rfl) (by rfl) (fun K hK => ?_)
            go_simp
            rw [show path.length + 1 = (path ++ [(mm : Int)]).length by simp]
            refine hcall.mono ?_
            rintro e w2 ⟨v, rfl, hb, At, ct, val, Af, cf, hT⟩
            refine hK _ _ ⟨v, fun b => b < w2.heap.size ∧ (w1.heap.size ≤ b ∨ B 11 b), rfl, hs1.trans (hb.mono hs1.size), hb.size, RF.of12 ⟨At, ct, val, Af, cf, ?_, fun adr e => ((hT.own adr e).1.elim (fun h => Nat.le_trans hs1.size h) (fun ⟨adr2, e2, e3⟩ => e3 ▸ hAW adr2 e2))⟩, fun k hk => ⟨hk.1, hk.2.imp id (fun h => ⟨11, by kernel_rfl, h⟩)⟩, fun k hk _ => hb.block k hk⟩
            exact hT.lower hs1.size (fun b hlt h => ⟨hlt, h.imp id (fun ⟨adr, e, e2⟩ => e2 ▸ hAB adr e)⟩)
          rcases List.mem_cons.1 hi with rfl | hi
          · refine wpOp_at (by rfl) (by rfl) (fun K hK => ?_)
            go_simp
            refine hK _ _ ⟨_, fun k => k = w1.heap.size, rfl, hs1.alloc hs1.size _, by simp, RF.of13 ⟨w1.heap.size, rfl, alloc_blk _ _, rfl, hs1.size⟩, fun k hk => ⟨by rw [hk]; simp, .inl (by rw [hk]; exact Nat.le_refl _)⟩, fun k hk _ => alloc_old _ _ hk⟩
          · cases hi
        · intro vals B w5 hs5 hL
          obtain ⟨⟨At, ct, val, Af, cf, hT, hAf⟩, hlt12⟩ := (hL.get 12 (by kernel_rfl)).imp (fun h => h.r12 rfl) id
          obtain ⟨⟨bx, hv13, hbx, hB13, hbase⟩, hlt13⟩ := (hL.get 13 (by kernel_rfl)).imp (fun h => h.r13 rfl) id
          have hnx : ∀ b, B 12 b → b ≠ bx := fun b h e => hL.ne 12 13 (by kernel_rfl) (by kernel_rfl) (by decide) b h (e ▸ hB13)
          have hv12 := hT.ans
          refine runSeq2_putE (d := some 47) (by rfl) (runSeq2_putE (d := some 49) (by rfl) (runSeq2_putE (d := some 51) (by rfl) (runSeq2_putE (d := some 52) (by rfl) (runSeq2_putE (d := some 53) (by rfl) (runSeq2_putE (d := some 12) (by rfl) (runSeq2_putE_nil ?_))))))
          rw [hv12, hv13]
          generalize vals 6 = x6
          generalize vals 8 = x8
          generalize vals 10 = x10
          generalize vals 11 = x11
          generalize B 12 = B12 at hT hnx hlt12
          clear hlt13 hL hv12 hv13 hB13
          (try simp only [Act.put, List.setIfInBounds_toArray, List.set_cons_zero, List.set_cons_succ])
          refine runSeq2_fin (by rfl) (by rfl) (fun K hK => ?_)
          have z0 := blk_frozen hbx 0
          have z1 := blk_frozen hbx 1
          have z2 := blk_frozen hbx 2
          have z3 := blk_frozen hbx 3
          have z4 := blk_frozen hbx 4
          have x0 := blk_cell hbx 0
          have x1 := blk_cell hbx 1
          have x2 := blk_cell hbx 2
          have x3 := blk_cell hbx 3
          have x4 := blk_cell hbx 4
          go_simp
          clear z0 z1 z2 z3 z4 x0 x1 x2 x3 x4
          refine hK _ _ ?_
          clear hK K
          refine runSeq2_nil ?_
          obtain ⟨w6, hw6⟩ : ∃ w6, w6 = ((((w5.setCell ⟨bx, 0, none⟩ (.slice At K'.1.length ct)).setCell ⟨bx, 1, none⟩ (.int .i64 val)).setCell ⟨bx, 2, none⟩ (.int .i64 K'.2.1)).setCell ⟨bx, 3, none⟩ (.slice Af (K'.2.2.getD []).length cf)).setCell ⟨bx, 4, none⟩ (.bool K'.2.2.isSome) := ⟨_, rfl⟩
          rw [← hw6]
          obtain ⟨hx6, ho6, hsz6, hb6⟩ := set5_facts hbx w6 hw6
          have HW6 := Aside0.mk (HW2.out.keep (hb6 _ _ hs5 hbase))
          have HT6 := Aside0.mk (And.intro (hT.keep (B' := B12) (fun b hb => ho6 b (hnx b hb)) (by omega) (fun _ h => h)) (And.intro hAf hbase))
          have HX6 := Aside0.mk hx6
          have hou := blk_cell HW6.out.out 0
          have x0 := blk_cell hx6 0
          have x2 := blk_cell hx6 2
          have hlt6 : ∀ b, B12 b → b < w6.heap.size := fun b hb => by rw [hsz6]; exact hlt12 b hb
          have HL6 := Aside0.mk (And.intro hlt6 (And.intro hnx (blk_lt hx6)))
          clear hbx hT hAf hnx hlt12 hbase hs5 hw6 hx6 ho6 hsz6 hb6 hlt6
          have hlen8 : (t1.length + K'.1.length) * 8 ≤ 140737488355328 := by have := HSTEP.out.2; omega
          have hOWN := Aside0.mk (fun b (hb : (Value.slice Aq t1.length cq).ownBlock = some b) => nums_own HW2.out.told b hb)
          have key : ∀ v9 w9, (Kd.int .i64).R 2 w9 (w.heap.size + 3) (fun _ => True) v9 (t1 ++ K'.1) → Below (w.heap.size + 3) w6 w9 → w6.grownBy w9 (Value.slice Aq t1.length cq).ownBlock →
              RM w y (some ad1) cp (some adk) ck v9 (t1 ++ K'.1) (w9.setCell ⟨w.heap.size + 1 + 1, 0, none⟩ v9) ∧ Told wq.heap.size B12 ks[mm] K' (w9.setCell ⟨w.heap.size + 1 + 1, 0, none⟩ v9) (.agg #[.slice At K'.1.length ct, .int .i64 val, .int .i64 K'.2.1, .slice Af (K'.2.2.getD []).length cf, .bool K'.2.2.isSome]) At ct val Af cf ∧
              (w9.setCell ⟨w.heap.size + 1 + 1, 0, none⟩ v9).heap[bx]? = some (.cells #[.slice At K'.1.length ct, .int .i64 val, .int .i64 K'.2.1, .slice Af (K'.2.2.getD []).length cf, .bool K'.2.2.isSome] 54 (0, 0)) := by
            intro v9 w9 hR9 hb9 hg9
            have hq3 := HW2.out.size
            have hkk : ∀ b, wq.heap.size ≤ b → b < w6.heap.size → (w9.setCell ⟨w.heap.size + 1 + 1, 0, none⟩ v9).heap[b]? = w6.heap[b]? := fun b h1 h2 =>
              (Below.heap_setCell w9 ⟨_, 0, none⟩ v9 b (by simp; omega)).trans (hg9.block b h2 (fun e => by have := (hOWN.out b e.symm).2.2; omega))
            refine ⟨HW6.out.push hR9 hb9, ?_, (hkk bx HT6.out.2.2 HL6.out.2.2).trans HX6.out⟩
            have hz9 : w6.heap.size ≤ (w9.setCell ⟨w.heap.size + 1 + 1, 0, none⟩ v9).heap.size := by have := hg9.size; simpa [World.setCell] using this
            exact ⟨rfl, nums_flat HT6.out.1.told (fun b hb => HT6.out.1.told.1 b hb) (fun b hb => hkk b (nums_own HT6.out.1.told b hb).2.1 (nums_own HT6.out.1.told b hb).2.2),
              ⟨C_at (fun x => x) HT6.out.1.first.1 (fun adr e => hkk _ (HT6.out.2.1 adr e) (HT6.out.1.own adr e).2), HT6.out.1.first.2⟩, fun adr e => ⟨(HT6.out.1.own adr e).1, Nat.lt_of_lt_of_le (HT6.out.1.own adr e).2 hz9⟩, HT6.out.1.val⟩
          have HKEY := Aside0.mk key
          clear key hlen8
          by_cases hz : K'.2.1 = 0
          · have hz' : (K'.2.1 != 0) = false := by rw [hz]; rfl
            have HP2 := Aside0.mk (show walkPs y.f0 W = preT (t1 ++ K'.1) (walkPs (y.f0.drop (j + 1)) W) by
              rw [HP.out, HSTEP.out.1, if_pos hz, preT_preT])
            clear hz
            go_wp2_with (first | ((with_reducible refine gate_builtin (b := .append) (xs := #[.tmp 55, .tmp 57]) rfl ?_); refine Kd.R_append_rows (Kd.int .i64) (w0 := w6) (w.heap.size + 3) rfl (.tmp 55) (.tmp 57) 23 2 (.int .i64 0) 8 rfl Try.underlying23 info2 rfl (by decide) (by omega) (.slice Aq t1.length cq) t1 K'.1 _ _ _ (fun _ => True) (fun _ => False) rfl rfl ?aO ?aR (fun _ _ h => h) (fun _ h => h.elim) ?aF ?aB ?aS ?aL ?_; (case aO => exact HW6.out.told); (case aR => exact (Kd.R_reads' HT6.out.1.told).2.2); (case aF => exact (fun _ _ => trivial)); (case aB => exact Below.refl _ _); (case aS => exact HW6.out.size); (case aL => have := HSTEP.out.2; omega); intro v9 w9 hR9 hb9 hg9 hat9; have hK9 := HKEY.out v9 w9 hR9 hb9 hg9; have hn9 := (hb9.block _ (show w.heap.size + 1 + 1 < w.heap.size + 3 by omega)).trans HW6.out.out; have d9 := blk_cell hn9 0; have z9 := blk_frozen hn9 0; obtain ⟨A9, c9, rfl⟩ := Kd.R_slice hR9; rw [show (t1 ++ K'.1).length = t1.length + K'.1.length from List.length_append ..] at hK9; have x2 := blk_cell hK9.2.2 2; have HK9 := Aside0.mk hK9; clear hR9 hb9 hg9 hat9 hn9 hou hK9))
            go_roundw
            case rel => exact ⟨j + 1, (mm : Int) + 1, t1 ++ K'.1, _, by go_num, by omega, HM2, HP2, ⟨by simpa using HK9.out.1⟩⟩
            case measure => simp [intOf]; omega
          · have hRR : R = preT t1 K' := by
              have e : walkPs y.f0 W = preT t1 K' := by rw [HP.out, HSTEP.out.1, if_neg hz]
              rw [HR.out.1, e, if_neg (show ¬ (preT t1 K').2.1 = 0 from hz)]
            have hz' : (K'.2.1 != 0) = true := by simp [hz]
            have HRR := Aside0.mk (And.intro hRR hz)
            clear hRR hz
            go_upto_region 13 with (first | ((with_reducible refine gate_builtin (b := .append) (xs := #[.tmp 55, .tmp 57]) rfl ?_); refine Kd.R_append_rows (Kd.int .i64) (w0 := w6) (w.heap.size + 3) rfl (.tmp 55) (.tmp 57) 23 2 (.int .i64 0) 8 rfl Try.underlying23 info2 rfl (by decide) (by omega) (.slice Aq t1.length cq) t1 K'.1 _ _ _ (fun _ => True) (fun _ => False) rfl rfl ?aO ?aR (fun _ _ h => h) (fun _ h => h.elim) ?aF ?aB ?aS ?aL ?_; (case aO => exact HW6.out.told); (case aR => exact (Kd.R_reads' HT6.out.1.told).2.2); (case aF => exact (fun _ _ => trivial)); (case aB => exact Below.refl _ _); (case aS => exact HW6.out.size); (case aL => have := HSTEP.out.2; omega); intro v9 w9 hR9 hb9 hg9 hat9; have hK9 := HKEY.out v9 w9 hR9 hb9 hg9; have hn9 := (hb9.block _ (show w.heap.size + 1 + 1 < w.heap.size + 3 by omega)).trans HW6.out.out; have d9 := blk_cell hn9 0; have z9 := blk_frozen hn9 0; obtain ⟨A9, c9, rfl⟩ := Kd.R_slice hR9; rw [show (t1 ++ K'.1).length = t1.length + K'.1.length from List.length_append ..] at hK9; have x2 := blk_cell hK9.2.2 2; have HK9 := Aside0.mk hK9; clear hR9 hb9 hg9 hat9 hn9 hou hK9))
            clear x0 x2 d9 z9
            obtain ⟨w10, hw10⟩ : ∃ w10, w10 = w9.setCell ⟨w.heap.size + 1 + 1, 0, none⟩ (.slice A9 (t1.length + K'.1.length) c9) := ⟨_, rfl⟩
            rw [← hw10] at HK9 ⊢
            clear hw10
            obtain ⟨h1, h2, h3⟩ := HK9.out
            have o0 := blk_cell h1.out 0
            have x0 := blk_cell h3 0
            have z0 := blk_frozen h3 0
            go_upto_region 14 with fail
            clear o0 x0 z0
            obtain ⟨w11, hw11⟩ : ∃ w11, w11 = w10.setCell ⟨bx, 0, none⟩ (.slice A9 (t1.length + K'.1.length) c9) := ⟨_, rfl⟩
            rw [← hw11]
            have hq3 := HW2.out.size
            have hbxw := HT6.out.2.2
            have hold : ∀ k, k ≠ bx → w11.heap[k]? = w10.heap[k]? := fun k hk => by rw [hw11]; exact Below.heap_setCell w10 ⟨bx, 0, none⟩ _ k hk
            have hx11 := blk_set h3 0 (.slice A9 (t1.length + K'.1.length) c9)
            rw [← hw11] at hx11
            have hr11 := (hold w.heap.size (by omega)).trans h1.res
            have hb11 : Below w.heap.size w w11 := by rw [hw11]; exact h1.below.setCell (by simp; omega) _
            have hsz11 : w11.heap.size = w10.heap.size := by rw [hw11]; simp [World.setCell]
            have x0 : w11.cell? ⟨bx, 0, none⟩ = some (.slice A9 (t1.length + K'.1.length) c9) := blk_cell hx11 0
            have x1 : w11.cell? ⟨bx, 1, none⟩ = some (.int .i64 val) := blk_cell hx11 1
            have x2 : w11.cell? ⟨bx, 2, none⟩ = some (.int .i64 K'.2.1) := blk_cell hx11 2
            have x3 : w11.cell? ⟨bx, 3, none⟩ = some (.slice Af (K'.2.2.getD []).length cf) := blk_cell hx11 3
            have x4 : w11.cell? ⟨bx, 4, none⟩ = some (.bool K'.2.2.isSome) := blk_cell hx11 4
            have r0 := blk_cell hr11 0
            have r1 := blk_cell hr11 1
            have r2 := blk_cell hr11 2
            have r3 := blk_cell hr11 3
            have r4 := blk_cell hr11 4
            have y0 := blk_frozen hr11 0
            have y1 := blk_frozen hr11 1
            have y2 := blk_frozen hr11 2
            have y3 := blk_frozen hr11 3
            have y4 := blk_frozen hr11 4
            have HE := Aside0.mk (And.intro hr11 (And.intro hb11 (And.intro hold (And.intro hsz11 (And.intro hq3 hbxw)))))
            clear hw11 hold hx11 hr11 hb11 hsz11 h1 h2 h3 hq3 hbxw
            go_wp2_with fail
            (try dsimp only [Exit.noGoto])
            obtain ⟨w12, hw12⟩ : ∃ w12, w12 = ((((w11.setCell ⟨w.heap.size, 0, none⟩ (.slice A9 (t1.length + K'.1.length) c9)).setCell ⟨w.heap.size, 1, none⟩ (.int .i64 val)).setCell ⟨w.heap.size, 2, none⟩ (.int .i64 K'.2.1)).setCell ⟨w.heap.size, 3, none⟩ (.slice Af (K'.2.2.getD []).length cf)).setCell ⟨w.heap.size, 4, none⟩ (.bool K'.2.2.isSome) := ⟨_, rfl⟩
            rw [← hw12]
            obtain ⟨hr12, ho12, hsz12, hb12⟩ := set5_facts HE.out.1 w12 hw12
            have q0 : w12.cell? ⟨w.heap.size, 0, none⟩ = some (.slice A9 (t1.length + K'.1.length) c9) := blk_cell hr12 0
            have q1 : w12.cell? ⟨w.heap.size, 1, none⟩ = some (.int .i64 val) := blk_cell hr12 1
            have q2 : w12.cell? ⟨w.heap.size, 2, none⟩ = some (.int .i64 K'.2.1) := blk_cell hr12 2
            have q3 : w12.cell? ⟨w.heap.size, 3, none⟩ = some (.slice Af (K'.2.2.getD []).length cf) := blk_cell hr12 3
            have q4 : w12.cell? ⟨w.heap.size, 4, none⟩ = some (.bool K'.2.2.isSome) := blk_cell hr12 4
            refine bodyPost_ret (v := .agg #[.slice A9 (t1.length + K'.1.length) c9, .int .i64 val, .int .i64 K'.2.1, .slice Af (K'.2.2.getD []).length cf, .bool K'.2.2.isSome]) (by simp [results, Try.results19, go_sem, q0, q1, q2, q3, q4]) rfl ⟨_, rfl, hb12 _ _ HE.out.2.1 (Nat.le_refl _), A9, c9, val, Af, cf, ?_⟩
            clear q0 q1 q2 q3 q4 hw12 hr12
            obtain ⟨-, hb11, hold, hsz11, hq3, hbxw⟩ := HE.out
            have hRM := HK9.out.1
            have hTT := HK9.out.2.1
            have hkeep : ∀ b, b ≠ bx → b ≠ w.heap.size → w12.heap[b]? = w10.heap[b]? := fun b h1 h2 => (ho12 b h2).trans (hold b h1)
            have htold := hRM.told
            have hown := hTT.own
            obtain ⟨hRR, hz⟩ := HRR.out
            rw [hRR]
            refine ⟨by show _ = Value.agg #[.slice A9 (t1 ++ K'.1).length c9, _, _, _, _]; rw [List.length_append]; rfl, ?_, ?_, fun adr e => ?_, fun h => absurd h hz⟩
            · show (Kd.int .i64).R 2 w12 w.heap.size _ (.slice A9 (t1 ++ K'.1).length c9) (t1 ++ K'.1)
              rw [List.length_append]
              exact nums_flat (Kd.R_lower htold (by omega)) (fun b hb => .inl (by have := (nums_own htold b hb).2.1; omega)) (fun b hb => hkeep b (fun e => by
                have h1 := hRM.told
                have h3 := HK9.out.2.2
                have h4 := Kd.R_typed htold b hb
                obtain ⟨cs, h4⟩ := h4
                rw [e, h3] at h4
                cases h4) (by have := (nums_own htold b hb).2.1; omega))
            · exact ⟨C_at (fun x => x) hTT.first.1 (fun adr e => hkeep _ (fun e2 => HL6.out.2.1 _ (hown adr e).1 e2) (by have := HT6.out.2.1 adr e; omega)), hTT.first.2⟩
            · have h1 := HT6.out.2.1 adr e
              have h2 := (hown adr e).2
              exact ⟨.inl (by omega), by omega⟩
    · obtain rfl : j = y.f0.length := by omega
      clear hlt hj
      have hend : walkPs y.f0 W = preT t1 ([], 0, none) := by have := HP.out; rw [List.drop_length] at this; exact this
      have hRR : R = (t1, y.f3, if y.f3 = 0 then none else some path) := by
        rw [HR.out.1, hend, if_pos (show (preT t1 ([], 0, none)).2.1 = 0 from rfl)]; simp [preT]
      have HRR := Aside0.mk hRR
      clear hend hRR
      obtain ⟨Aq, cq, rfl⟩ := Kd.R_slice HW.out.told
      go_upto_region 15 with fail
      clear n0
      have hs : wr.drew.heap[w.heap.size + 1]? = some (.cells #[.slice Ap y.f0.length cp, .slice Ak y.f1.length ck, .int .i64 y.f2, .int .i64 y.f3] 63 (0, 0)) := HW.out.node
      have ho : wr.drew.heap[w.heap.size + 1 + 1]? = some (.cells #[.slice Aq t1.length cq, .int .i64 0, .int .i64 0, .slice none 0 0, .bool false] 54 (0, 0)) := HW.out.out
      refine wp_region_seq2 (fun w' => w'.heap[w.heap.size + 1]? = some (.cells #[.slice Ap y.f0.length cp, .slice Ak y.f1.length ck, .int .i64 y.f2, .int .i64 y.f3] 63 (0, 0))) [7] [.take 0, .take 1, .take 2, .take 3, .take 4, .op 5, .op 6, .fin 7] (by kernel_rfl) (by kernel_rfl) rfl (by kernel_rfl) (panic_via (P := Try.prog) (fn := Try.f19) (R := fun e w' => ∃ v, e = .returned v ∧ Below w.heap.size w w' ∧ ∃ At ct val Af cf, Told w.heap.size (fun b => w.heap.size ≤ b ∨ ∃ ad, App = some ad ∧ b = ad.block) (.node y.f0 ks y.f2 y.f3) R w' v At ct val Af cf) (fun _ _ _ => rfl)) ?_
      repeat (
        (first
          | (refine runSeq2_take (v := ?_) (by rfl) (by rfl) (fun w' hS => ?_) hs ?_
             rotate_left
             · (have n2 := blk_cell hS 2; have n3 := blk_cell hS 3; go_simp; exact rfl))
          | refine runSeq2_skip (by rfl) (by rfl) hs ?_)
        (try simp only [Act.put, List.setIfInBounds_toArray, List.set_cons_zero, List.set_cons_succ]))
      refine runSeq2_op (by rfl) (by rfl) (fun K hK => ?_)
      have o0 := blk_cell ho 0
      have o1 := blk_cell ho 1
      have z1 := blk_frozen ho 1
      go_simp
      clear o0 o1 z1
      obtain ⟨w1, hw1⟩ : ∃ w1, w1 = (wr.setCell ⟨w.heap.size + 1 + 1, 1, none⟩ (.int .i64 y.f2)).drew := ⟨_, rfl⟩
      rw [← hw1]
      have ho1 : w1.heap[w.heap.size + 1 + 1]? = some (.cells #[.slice Aq t1.length cq, .int .i64 y.f2, .int .i64 0, .slice none 0 0, .bool false] 54 (0, 0)) := by rw [hw1]; exact blk_set HW.out.out 1 _
      have hk1 : ∀ k, k ≠ w.heap.size + 1 + 1 → w1.heap[k]? = wr.heap[k]? := fun k hk => by rw [hw1]; exact Below.heap_setCell wr ⟨w.heap.size + 1 + 1, 1, none⟩ _ k hk
      have hb1 : Below w.heap.size w w1 := by rw [hw1]; exact (HW.out.below.setCell (by simp; omega) _).drew
      have hz1 : w1.heap.size = wr.heap.size := by rw [hw1]; simp [World.setCell, World.drew]
      have hn1 := (hk1 (w.heap.size + 1) (by omega)).trans HW.out.node
      refine hK _ _ hn1 ?_
      clear hK K hs ho hw1
      refine runSeq2_op (by rfl) (by rfl) (fun K hK => ?_)
      go_simp
      refine hK _ _ hn1 ?_
      clear hK K
      refine runSeq2_fin (by rfl) (by rfl) (fun K hK => ?_)
      have o2 := blk_cell ho1 2
      have z2 := blk_frozen ho1 2
      go_simp
      clear o2 z2
      obtain ⟨w2, hw2⟩ : ∃ w2, w2 = w1.setCell ⟨w.heap.size + 1 + 1, 2, none⟩ (.int .i64 y.f3) := ⟨_, rfl⟩
      rw [← hw2]
      have ho2 : w2.heap[w.heap.size + 1 + 1]? = some (.cells #[.slice Aq t1.length cq, .int .i64 y.f2, .int .i64 y.f3, .slice none 0 0, .bool false] 54 (0, 0)) := by rw [hw2]; exact blk_set ho1 2 _
      have hk2 : ∀ k, k ≠ w.heap.size + 1 + 1 → w2.heap[k]? = wr.heap[k]? := fun k hk => by rw [hw2, Below.heap_setCell w1 ⟨w.heap.size + 1 + 1, 2, none⟩ _ k hk]; exact hk1 k hk
      have hb2 : Below w.heap.size w w2 := by rw [hw2]; exact hb1.setCell (by simp; omega) _
      have hz2 : w2.heap.size = wr.heap.size := by rw [hw2]; simpa [World.setCell] using hz1
      have hn2 := (hk2 (w.heap.size + 1) (by omega)).trans HW.out.node
      have n3 := blk_cell hn2 3
      refine hK _ _ ?_
      clear hK K hw2 ho1 hk1 hb1 hz1 hn1
      refine runSeq2_nil ?_
      have HS2 := Aside0.mk (And.intro ho2 (And.intro hk2 (And.intro hb2 hz2)))
      clear ho2 hk2 hb2 hz2 hn2
      by_cases hf : y.f3 = 0
      · have hf' : (y.f3 != 0) = false := by rw [hf]; rfl
        have HRR2 := Aside0.mk (show R = (t1, y.f3, none) ∧ True from ⟨by rw [HRR.out, if_pos hf], trivial⟩)
        clear hf
        go_upto_region 18 with fail
        clear n3
        have ho3 := HS2.out.1
        have o0 := blk_cell ho3 0
        have o1 := blk_cell ho3 1
        have o2 := blk_cell ho3 2
        have o3 := blk_cell ho3 3
        have o4 := blk_cell ho3 4
        have hr3 := (HS2.out.2.1 w.heap.size (by omega)).trans HW.out.res
        have r0 := blk_cell hr3 0
        have r1 := blk_cell hr3 1
        have r2 := blk_cell hr3 2
        have r3 := blk_cell hr3 3
        have r4 := blk_cell hr3 4
        have y0 := blk_frozen hr3 0
        have y1 := blk_frozen hr3 1
        have y2 := blk_frozen hr3 2
        have y3 := blk_frozen hr3 3
        have y4 := blk_frozen hr3 4
        have HE := Aside0.mk (And.intro hr3 HS2.out.2)
        clear ho3 hr3
        go_wp2_with fail
        (try dsimp only [Exit.noGoto])
        obtain ⟨w12, hw12⟩ : ∃ w12, w12 = ((((w2.setCell ⟨w.heap.size, 0, none⟩ (.slice Aq t1.length cq)).setCell ⟨w.heap.size, 1, none⟩ (.int .i64 y.f2)).setCell ⟨w.heap.size, 2, none⟩ (.int .i64 y.f3)).setCell ⟨w.heap.size, 3, none⟩ (.slice none 0 0)).setCell ⟨w.heap.size, 4, none⟩ (.bool false) := ⟨_, rfl⟩
        rw [← hw12]
        obtain ⟨hr12, ho12, hsz12, hb12⟩ := set5_facts HE.out.1 w12 hw12
        have q0 : w12.cell? ⟨w.heap.size, 0, none⟩ = some (.slice Aq t1.length cq) := blk_cell hr12 0
        have q1 : w12.cell? ⟨w.heap.size, 1, none⟩ = some (.int .i64 y.f2) := blk_cell hr12 1
        have q2 : w12.cell? ⟨w.heap.size, 2, none⟩ = some (.int .i64 y.f3) := blk_cell hr12 2
        have q3 : w12.cell? ⟨w.heap.size, 3, none⟩ = some (.slice none 0 0) := blk_cell hr12 3
        have q4 : w12.cell? ⟨w.heap.size, 4, none⟩ = some (.bool false) := blk_cell hr12 4
        refine bodyPost_ret (v := .agg #[.slice Aq t1.length cq, .int .i64 y.f2, .int .i64 y.f3, .slice none 0 0, .bool false]) (by simp [results, Try.results19, go_sem, q0, q1, q2, q3, q4]) rfl ⟨_, rfl, hb12 _ _ HE.out.2.2.1 (Nat.le_refl _), Aq, cq, y.f2, none, 0, ?_⟩
        clear q0 q1 q2 q3 q4 hw12 hr12
        have hRM := HW.out
        have hkeep : ∀ b, b ≠ w.heap.size + 1 + 1 → b ≠ w.heap.size → w12.heap[b]? = wr.heap[b]? := fun b h1 h2 => (ho12 b h2).trans (HE.out.2.1 b h1)
        have hq3 := hRM.size
        have htold := hRM.told
        rw [HRR2.out.1]
        refine ⟨rfl, ?_, ?_, fun adr e => ?_, fun h => rfl⟩
        · exact nums_flat (Kd.R_lower htold (by omega)) (fun b hb => .inl (by have := (nums_own htold b hb).2.1; omega)) (fun b hb => hkeep b (by have := (nums_own htold b hb).2.1; omega) (by have := (nums_own htold b hb).2.1; omega))
        · exact ⟨C_at (fun x => x) (Kd.C_nil _ w2) (fun adr e => by cases e), Nat.le_refl _⟩
        · cases e
      · have hf' : (y.f3 != 0) = true := by simp [hf]
        have HRR2 := Aside0.mk (show R = (t1, y.f3, some path) ∧ True from ⟨by rw [HRR.out, if_neg hf], trivial⟩)
        clear hf
        have o3 := blk_cell HS2.out.1 3
        have o4 := blk_cell HS2.out.1 4
        have z3 := blk_frozen HS2.out.1 3
        have z4 := blk_frozen HS2.out.1 4
        go_upto_region 18 with fail
        clear n3 o3 o4 z3 z4
        obtain ⟨w3, hw3⟩ : ∃ w3, w3 = (w2.setCell ⟨w.heap.size + 1 + 1, 3, none⟩ (.slice App path.length cpp)).setCell ⟨w.heap.size + 1 + 1, 4, none⟩ (.bool true) := ⟨_, rfl⟩
        rw [← hw3]
        have HS3 := Aside0.mk (show w3.heap[w.heap.size + 1 + 1]? = some (.cells #[.slice Aq t1.length cq, .int .i64 y.f2, .int .i64 y.f3, .slice App path.length cpp, .bool true] 54 (0, 0)) ∧ (∀ k, k ≠ w.heap.size + 1 + 1 → w3.heap[k]? = wr.heap[k]?) ∧ Below w.heap.size w w3 ∧ w3.heap.size = wr.heap.size from by
          obtain ⟨a1, a2, a3, a4⟩ := HS2.out
          rw [hw3]
          refine ⟨blk_set (blk_set a1 3 _) 4 _, fun k hk => ?_, (a3.setCell (by simp; omega) _).setCell (by simp; omega) _, by simpa [World.setCell] using a4⟩
          rw [Below.heap_setCell _ ⟨w.heap.size + 1 + 1, 4, none⟩ _ k hk, Below.heap_setCell _ ⟨w.heap.size + 1 + 1, 3, none⟩ _ k hk]
          exact a2 k hk)
        clear hw3 HS2
        have ho3 := HS3.out.1
        have o0 := blk_cell ho3 0
        have o1 := blk_cell ho3 1
        have o2 := blk_cell ho3 2
        have o3 := blk_cell ho3 3
        have o4 := blk_cell ho3 4
        have hr3 := (HS3.out.2.1 w.heap.size (by omega)).trans HW.out.res
        have r0 := blk_cell hr3 0
        have r1 := blk_cell hr3 1
        have r2 := blk_cell hr3 2
        have r3 := blk_cell hr3 3
        have r4 := blk_cell hr3 4
        have y0 := blk_frozen hr3 0
        have y1 := blk_frozen hr3 1
        have y2 := blk_frozen hr3 2
        have y3 := blk_frozen hr3 3
        have y4 := blk_frozen hr3 4
        have HE := Aside0.mk (And.intro hr3 HS3.out.2)
        clear ho3 hr3
        go_wp2_with fail
        (try dsimp only [Exit.noGoto])
        obtain ⟨w12, hw12⟩ : ∃ w12, w12 = ((((w3.setCell ⟨w.heap.size, 0, none⟩ (.slice Aq t1.length cq)).setCell ⟨w.heap.size, 1, none⟩ (.int .i64 y.f2)).setCell ⟨w.heap.size, 2, none⟩ (.int .i64 y.f3)).setCell ⟨w.heap.size, 3, none⟩ (.slice App path.length cpp)).setCell ⟨w.heap.size, 4, none⟩ (.bool true) := ⟨_, rfl⟩
        rw [← hw12]
        obtain ⟨hr12, ho12, hsz12, hb12⟩ := set5_facts HE.out.1 w12 hw12
        have q0 : w12.cell? ⟨w.heap.size, 0, none⟩ = some (.slice Aq t1.length cq) := blk_cell hr12 0
        have q1 : w12.cell? ⟨w.heap.size, 1, none⟩ = some (.int .i64 y.f2) := blk_cell hr12 1
        have q2 : w12.cell? ⟨w.heap.size, 2, none⟩ = some (.int .i64 y.f3) := blk_cell hr12 2
        have q3 : w12.cell? ⟨w.heap.size, 3, none⟩ = some (.slice App path.length cpp) := blk_cell hr12 3
        have q4 : w12.cell? ⟨w.heap.size, 4, none⟩ = some (.bool true) := blk_cell hr12 4
        refine bodyPost_ret (v := .agg #[.slice Aq t1.length cq, .int .i64 y.f2, .int .i64 y.f3, .slice App path.length cpp, .bool true]) (by simp [results, Try.results19, go_sem, q0, q1, q2, q3, q4]) rfl ⟨_, rfl, hb12 _ _ HE.out.2.2.1 (Nat.le_refl _), Aq, cq, y.f2, App, cpp, ?_⟩
        clear q0 q1 q2 q3 q4 hw12 hr12
        have hRM := HW.out
        have hkeep : ∀ b, b ≠ w.heap.size + 1 + 1 → b ≠ w.heap.size → w12.heap[b]? = wr.heap[b]? := fun b h1 h2 => (ho12 b h2).trans (HE.out.2.1 b h1)
        have hq3 := hRM.size
        have htold := hRM.told
        rw [HRR2.out.1]
        refine ⟨rfl, ?_, ?_, fun adr e => ?_, fun h => rfl⟩
        · exact nums_flat (Kd.R_lower htold (by omega)) (fun b hb => .inl (by have := (nums_own htold b hb).2.1; omega)) (fun b hb => hkeep b (by have := (nums_own htold b hb).2.1; omega) (by have := (nums_own htold b hb).2.1; omega))
        · have hb := hb12 _ _ HE.out.2.2.1 (Nat.le_refl _)
          exact (HC.out.2.1.below hb)
        · have hb := hb12 _ _ HE.out.2.2.1 (Nat.le_refl _)
          exact ⟨.inr ⟨adr, e, rfl⟩, Nat.lt_of_lt_of_le (HC.out.2.2 adr e) hb.size⟩
theorem ref_any (l : List S63) (hG : Good l) : ∀ (n i : Nat), l.length - i ≤ n → i < l.length → RefOk l n i
  | 0, i, h, hi => by omega
  | n + 1, i, h, hi => ref_step l hG n i hi (fun j h1 h2 => ref_any l hG n j (by omega) h2)
#print axioms ref_any
end Go.Proofs.Ytiplpkjjplicjaa.H
