/- A program in memory; the example. -/
import Derived.Test.YtnhipdniceoigaaEvG
set_option linter.unusedVariables false
set_option linter.unusedSimpArgs false
namespace Go.Proofs.Ytnhipdniceoigaa.H
open Go.RowKit Go.Hay Go.Proofs.YtnhipdniceoigaaW.PrintWords Go.Proofs.YtnhipdniceoigaaW.PrintLast Go.Proofs.YtnhipdniceoigaaW.PrintMore
theorem flatMap_piece {β : Type} {s : Nat} (f : β → List Value) : ∀ (ps : List β) (hf : ∀ p ∈ ps, (f p).length = s) (j : Nat) (h : j < ps.length), ((ps.flatMap f).drop (j * s)).take s = f ps[j]
  | p :: ps, hf, 0, _ => by
    rw [Nat.zero_mul, List.drop_zero, List.flatMap_cons]
    have := hf p (List.mem_cons_self ..)
    rw [← this, List.take_left]
    rfl
  | p :: ps, hf, j + 1, h => by
    have h1 := hf p (List.mem_cons_self ..)
    rw [List.flatMap_cons, show (j + 1) * s = (f p).length + j * s by rw [h1, Nat.succ_mul, Nat.add_comm], List.drop_length_add_append]
    exact flatMap_piece f ps (fun q hq => hf q (List.mem_cons_of_mem _ hq)) j (by simpa using h)
theorem reads_flat {α β : Type} {R : α → List Value → Prop} {s : Nat} {W : World} {b : Nat} {t : TypeId} {fr : Nat × Nat} (g : β → α) (f : β → List Value) (ps : List β) (hf : ∀ p ∈ ps, (f p).length = s) (hR : ∀ p ∈ ps, R (g p) (f p)) (h : W.heap[b]? = some (.cells (ps.flatMap f).toArray t fr)) (hm : ps.length ≤ 9223372036854775807) : ReadsRow R s W (some ⟨b, 0, none⟩) ps.length (ps.map g) := by
  have e : ps.length = (ps.map g).length := (List.length_map ..).symm
  rw [e]
  refine reads_cells h ⟨?_, fun j p hj => ?_⟩ (by rw [← e]; exact hm)
  · have e2 : (ps.flatMap f).length = ps.length * s := by
      clear h hm hR e
      induction ps with
      | nil => simp
      | cons p ps ih => rw [List.flatMap_cons, List.length_append, hf p (List.mem_cons_self ..), ih (fun q hq => hf q (List.mem_cons_of_mem _ hq)), List.length_cons, Nat.succ_mul, Nat.add_comm]
    rw [← e]
    exact e2
  · have hlt : j < ps.length := by have := (List.getElem?_eq_some_iff.1 hj).1; simpa using this
    rw [List.getElem?_map, List.getElem?_eq_getElem hlt] at hj
    have hj : g ps[j] = p := Option.some.inj hj
    show R p (((ps.flatMap f).toArray.toList.drop (j * s)).take s)
    rw [← hj]
    have := flatMap_piece f ps hf j hlt
    rw [show (ps.flatMap f).toArray.toList = ps.flatMap f from rfl, this]
    exact hR _ (List.getElem_mem _)
def icells (x : S55) : List Value := [.int .i64 x.f0, .int .i64 x.f1, .int .i64 x.f2, .int .i64 x.f3, .int .i64 x.f4]
theorem code_C {w : World} {b : Nat} {t : TypeId} {fr : Nat × Nat} (code : List S55) (h : w.heap[b]? = some (.cells (code.flatMap icells).toArray t fr)) (hm : code.length ≤ 9223372036854775807) : k55.C w (some ⟨b, 0, none⟩) code.length code := by
  have := reads_flat (R := k55.K w) (s := 5) id icells code (fun _ _ => rfl) (fun x _ => k55_mk w x) h hm
  rwa [List.map_id] at this
def fcells (p : S58 × Option Addr × Nat) : List Value := [.int .i64 p.1.f0, .slice p.2.1 p.1.f1.length p.2.2]
theorem prog_C {w : World} {b : Nat} {t : TypeId} {fr : Nat × Nat} (ps : List (S58 × Option Addr × Nat)) (h : w.heap[b]? = some (.cells (ps.flatMap fcells).toArray t fr)) (hm : ps.length ≤ 9223372036854775807) (hc : ∀ p ∈ ps, k55.C w p.2.1 p.1.f1.length p.1.f1 ∧ p.1.f1.length ≤ p.2.2) : k58.C w (some ⟨b, 0, none⟩) ps.length (ps.map fun p => p.1) :=
  reads_flat (R := k58.K w) (s := 2) (fun p : S58 × Option Addr × Nat => p.1) fcells ps (fun _ _ => rfl) (fun p hp => k58_mk w p.1 (hc p hp).2 (hc p hp).1) h hm
def exP : List S58 := [⟨0, [⟨1, 1, 0, 0, 7⟩, ⟨15, 1, 0, 0, 0⟩, ⟨17, 1, 0, 0, 0⟩]⟩]
theorem exP_ends : evalR exP [] 9 0 9 = ((7, 0, [7], [([], 3)]), 0) := by kernel_rfl
set_option maxRecDepth 100000 in
set_option maxHeartbeats 8000000 in
theorem awake_any (w : World) : Calls Try.prog 17 #[] w fun e w' => e = .returned (.bool true) ∧ Below w.heap.size w w' := by
  obtain ⟨W2, hW2⟩ : ∃ W2, W2 = (w.alloc (.cells (([⟨1, 1, 0, 0, 7⟩, ⟨15, 1, 0, 0, 0⟩, ⟨17, 1, 0, 0, 0⟩] : List S55).flatMap icells).toArray 55)).alloc (.cells #[.int .i64 0, .slice (some ⟨w.heap.size, 0, none⟩) 3 3] 58) := ⟨_, rfl⟩
  have e1 : (w.alloc (.cells (([⟨1, 1, 0, 0, 7⟩, ⟨15, 1, 0, 0, 0⟩, ⟨17, 1, 0, 0, 0⟩] : List S55).flatMap icells).toArray 55)).heap.size = w.heap.size + 1 := Array.size_push _
  have h1 : W2.heap[w.heap.size]? = some (.cells (([⟨1, 1, 0, 0, 7⟩, ⟨15, 1, 0, 0, 0⟩, ⟨17, 1, 0, 0, 0⟩] : List S55).flatMap icells).toArray 55 (0, 0)) := by rw [hW2]; exact blk_alloc (alloc_blk w _) _
  have h2 : W2.heap[w.heap.size + 1]? = some (.cells (([(⟨0, [⟨1, 1, 0, 0, 7⟩, ⟨15, 1, 0, 0, 0⟩, ⟨17, 1, 0, 0, 0⟩]⟩, some ⟨w.heap.size, 0, none⟩, 3)] : List (S58 × Option Addr × Nat)).flatMap fcells).toArray 58 (0, 0)) := by
    rw [hW2, ← e1]
    exact alloc_blk _ _
  have hb2 : Below w.heap.size w W2 := by
    have b1 := (Below.refl w.heap.size w).alloc (Nat.le_refl _) (.cells (([⟨1, 1, 0, 0, 7⟩, ⟨15, 1, 0, 0, 0⟩, ⟨17, 1, 0, 0, 0⟩] : List S55).flatMap icells).toArray 55)
    rw [hW2]; exact b1.alloc b1.size _
  have hP := prog_C _ h2 (by simp) (fun p hp => by
    obtain rfl := List.mem_singleton.1 hp
    exact ⟨code_C _ h1 (by simp), Nat.le_refl _⟩)
  have hev := Eval_any (A := some ⟨w.heap.size + 1, 0, none⟩) (c := 1) (Aa := none) (ca := 0) (l := exP) (args := []) (b := 9) (d := 0) (most := 9) hP (Nat.le_refl _) (Kd.C_nil _ _) (Nat.le_refl _) (by decide)
  rw [show evalR exP [] 9 0 (9 : Int).toNat = ((7, 0, [7], [([], 3)]), 0) from exP_ends] at hev
  have HEV := Aside0.mk hev
  have HB := Aside0.mk hb2
  have HW := Aside0.mk hW2
  clear hW2 e1 h1 h2 hb2 hP hev
  go_enter Try.func17, Try.ntmps17
  go_wp2_with fail
  have hev := HEV.out
  rw [HW.out] at hev
  refine hev.mono ?_
  rintro e w3 ⟨⟨At, ct, Al, cl, rfl, hrc⟩, hb3⟩
  obtain ⟨ad1, e1, hc1⟩ := hrc.told.2.2 (by decide)
  obtain ⟨c1, l1, k1, g1⟩ := hc1 0 7 rfl
  have k1 : c1 = [.int .i64 7] := k1
  subst k1 e1
  have t0 := g1 0 _ rfl
  obtain ⟨ad2, Ap, cp, e2, u0, u1, hcp, hCp⟩ := at_T49 hrc.log 0 (by decide) (by decide)
  subst e2
  obtain ⟨V, hV⟩ : ∃ V, V = resV ((7, 0, [7], [([], 3)]), 0).1 (some ad1) ct (some ad2) cl := ⟨_, rfl⟩
  rw [← hV]
  replace hV : V = .agg #[.int .i64 7, .int .i64 0, .slice (some ad1) 1 ct, .slice (some ad2) 1 cl] := hV
  subst hV
  replace t0 : w3.cell? ad1 = some (.int .i64 7) := t0
  replace u1 : w3.cell? ⟨ad2.block, ad2.off + 1, none⟩ = some (.int .i64 3) := u1
  have hb3' : Below W2.heap.size W2 w3 := by rw [HW.out]; exact hb3
  have HB3 := Aside0.mk (HB.out.trans (hb3'.mono HB.out.size))
  obtain ⟨W4, hW4⟩ : ∃ W4, W4 = w3.alloc (.cells #[.int .i64 7, .int .i64 0, .slice (some ad1) 1 ct, .slice (some ad2) 1 cl] 30) := ⟨_, rfl⟩
  have hb4 : Below w3.heap.size w3 W4 := by rw [hW4]; exact (Below.refl w3.heap.size w3).alloc (Nat.le_refl _) _
  have hx4 : W4.heap[w3.heap.size]? = some (.cells #[.int .i64 7, .int .i64 0, .slice (some ad1) 1 ct, .slice (some ad2) 1 cl] 30 (0, 0)) := by rw [hW4]; exact alloc_blk w3 _
  have t0 := (hb4.cell (World.block_lt_of_cell? _ _ t0)).trans t0
  have u1 := (hb4.cell (World.block_lt_of_cell? _ _ u1)).trans u1
  have x0 := blk_cell hx4 0
  have x1 := blk_cell hx4 1
  have x2 := blk_cell hx4 2
  have x3 := blk_cell hx4 3
  have HW4 := Aside0.mk hW4
  have HB4 := Aside0.mk (HB3.out.trans (hb4.mono HB3.out.size))
  clear hev hrc hc1 g1 u0 hcp hCp hb3 hb3' hW4 hx4 hb4
  go_upto_region 2 with (fail)
  rw [← HW4.out]
  go_wp2_with fail
  go_ret
  exact ⟨rfl, HB4.out⟩
end Go.Proofs.Ytnhipdniceoigaa.H
