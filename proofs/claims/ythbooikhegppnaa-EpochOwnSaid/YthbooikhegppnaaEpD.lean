/- Announce's closures; slices.IndexFunc, ContainsFunc, DeleteFunc with them. -/
import Derived.Test.YthbooikhegppnaaEpW
set_option linter.unusedVariables false
set_option linter.unusedSimpArgs false
namespace Go.Proofs.Ythbooikhegppnaa.H
open Go.RowKit Go.Hay Go.Proofs.YthbooikhegppnaaW.PrintWords Go.Proofs.YthbooikhegppnaaW.PrintLast Go.Proofs.YthbooikhegppnaaW.PrintMore
theorem rt_at {e B g n cap : Nat} {ok : Nat → Prop} {W : World} {xs : List Rt} (h : kRt.R e W B ok (.slice (some ⟨g, 0, none⟩) n cap) xs) {i : Nat} (hi : i < xs.length) : W.cell? ⟨g, i * 2, none⟩ = some (.int .i64 xs[i].t) ∧ W.cell? ⟨g, i * 2 + 1, none⟩ = some (.int .i64 xs[i].at_) ∧ W.frozen? ⟨g, i * 2, none⟩ = false ∧ W.frozen? ⟨g, i * 2 + 1, none⟩ = false := by
  have hq := Kd.R_reads' h
  obtain ⟨ad, e1, hc⟩ := hq.2.2.2.2 (by omega)
  cases e1
  obtain ⟨cs, h1, h2, h3⟩ := hc i _ (List.getElem?_eq_getElem hi)
  obtain rfl := kRt_open h2
  have q0 := h3 0 _ rfl
  have q1 := h3 1 _ rfl
  rw [add_plain] at q0 q1
  obtain ⟨g', cp, hv, _, _, C, hC⟩ := Kd.R_form h (by omega)
  injection hv with hA _ _
  cases hA
  exact ⟨q0, q1, blk_frozen hC _, blk_frozen hC _⟩
theorem rt_set {e B g n cap : Nat} {ok : Nat → Prop} {W : World} {xs : List Rt} (h : kRt.R e W B ok (.slice (some ⟨g, 0, none⟩) n cap) xs) {i : Nat} (hi : i < xs.length) (x : Rt) :
    kRt.R e ((W.setCell ⟨g, i * 2, none⟩ (.int .i64 x.t)).setCell ⟨g, i * 2 + 1, none⟩ (.int .i64 x.at_)) B ok (.slice (some ⟨g, 0, none⟩) n cap) (xs.set i x) := by
  have hq := rt_at h hi
  have hn := (Kd.R_reads' h).1
  have := (Kd.R_seg h (i : Int) (by omega) (by omega) (c := [.int .i64 xs[i].t, .int .i64 xs[i].at_]) (seg := [.int .i64 x.t, .int .i64 x.at_]) (j := 0) rfl (fun j u hj => by
    rw [Int.toNat_natCast]
    match j, hj with
    | 0, hj => cases hj; exact hq.1
    | 1, hj => cases hj; exact hq.2.1) (Nat.le_refl _) (x' := x) (okp := fun _ => False) (kRt_mkM _ _ _ x) (fun _ h => h.elim)).1
  rw [Int.toNat_natCast] at this
  exact this
theorem setCells_keep {g : Nat} : ∀ (vs : List Value) (o : Nat) (w : World) (S : Nat → Prop), S g → Keep S w (w.setCells g o vs)
  | [], _, w, S, _ => Keep.refl S w
  | v :: r, o, w, S, h => ((Keep.refl S w).set (.inr h) v).trans (setCells_keep r (o + 1) _ S h)
theorem rt_clear {e B g n cap : Nat} {ok : Nat → Prop} {W : World} {xs : List Rt} (h : kRt.R e W B ok (.slice (some ⟨g, 0, none⟩) n cap) xs) {i : Nat} (hi : i ≤ xs.length) (vs : List Value) (hv : i * 2 + vs.length = xs.length * 2) :
    kRt.R e (W.setCells g (i * 2) vs) B ok (.slice (some ⟨g, 0, none⟩) i cap) (xs.take i) := by
  obtain ⟨hok, inner, ⟨hl, ho⟩, hr⟩ := Kd.R_take h hi
  refine ⟨hok, inner, ⟨hl, ?_⟩, hr.1, fun j p hj => by have := kRt_openM (hr.2 j p hj); rw [this]; exact kRt_mkM _ _ _ _⟩
  have hq := Kd.R_reads' h
  rcases ho with ⟨h1, _⟩ | ⟨g', cp, cur, h1, h2, h3, h4, h5, h6, h7⟩
  · cases h1
  · injection h1 with a1 a2 a3
    have a4 : g = g' := by injection a1 with a1; injection a1
    subst a4
    subst a3
    obtain ⟨cur', h8, h9, h10⟩ := setCells_row vs (i * 2) W cur h3 (by rw [h6]; show _ ≤ cap * 2; omega)
    have hlen : (List.take i xs).length = i := by rw [List.length_take]; omega
    refine .inr ⟨g, cap, cur', by rw [hlen], h2, h8, h4, h5, h9.trans h6, ?_⟩
    rw [hlen] at h7 ⊢
    show cur'.toList.take (i * 2) = inner
    have h7 : cur.toList.take (i * 2) = inner := h7
    have hcl : i * 2 ≤ cur.toList.length := by rw [Array.length_toList, h6]; show _ ≤ cap * 2; omega
    rw [h10, List.append_assoc, List.take_append_of_le_length (by rw [List.length_take]; omega), List.take_take, Nat.min_self, h7]
/-- clear of a row of pairs. -/
theorem run_clear_pairs {P : Program} (w : World) (t e ty : TypeId) (ht : P.underlying t = some (.slice e)) (hv : ∀ w, (zeroValue e).run P w = .ok (.agg #[.int .i64 0, .int .i64 0]) w) (b o n c : Nat) (hn : 0 < n)
    (hc : ∀ j, j < n * 2 → (w.cell? ⟨b, o + j, none⟩).isSome = true) (hf : ∀ j, j < n * 2 → w.frozen? ⟨b, o + j, none⟩ = false) :
    (Builtin.clear_ #[t] ty #[.slice (some ⟨b, o, none⟩) n c]).run P w = .ok (.tuple #[]) (w.setCells b o (List.replicate (n * 2) (.int .i64 0))) := by
  have hzc : (Builtin.zeroCells (Value.agg #[.int .i64 0, .int .i64 0]).cells n).toList = List.replicate (n * 2) (.int .i64 0) := by
    simp [Builtin.zeroCells, Value.cells]
    apply List.ext_getElem
    · simp [Nat.mul_comm]
    · intro i h1 h2
      simp
      have : i % 2 = 0 ∨ i % 2 = 1 := by omega
      rcases this with h | h <;> simp [h]
  have hst := run_storeCells_cells (P := P) b o (List.replicate (n * 2) (.int .i64 0)) 0 w (by simpa using hc) (by simpa using hf) (by intro v hv'; rw [List.eq_of_mem_replicate hv']; rfl)
  simp only [Nat.add_zero] at hst
  obtain ⟨m, rfl⟩ : ∃ m, n = m + 1 := ⟨n - 1, by omega⟩
  simp only [Builtin.clear_]
  simp [run_underlying ht, hv, hzc, hst]
end Go.Proofs.Ythbooikhegppnaa.H
