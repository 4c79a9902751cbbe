/- What the proof of FrameNew stands on, part 9: this session's own texts and the words that the kit's print lays, those that are used. -/
import Derived.Test.YtcciejcpijlkfaaZFrameNew8
set_option linter.unusedVariables false
set_option linter.unusedSimpArgs false
namespace Go.Proofs.Ytcciejcpijlkfaa.H
open Go.RowKit Go.Hay Go.Proofs.YtcciejcpijlkfaaW.PrintWords Go.Proofs.YtcciejcpijlkfaaW.PrintLast Go.Proofs.YtcciejcpijlkfaaW.PrintMore
/-- the boxes of 'begin'. -/
structure BW (w : World) (A : Option Addr) (n c : Nat) (b d : Int) (fb : Nat) (x : S65) (k r h f : Int) (va vb : Value) (W : World) : Prop where
  below : Below w.heap.size w W
  c0 : W.heap[w.heap.size]? = some (.cells #[.slice A n c, .int .i64 b, .int .i64 d, .pointer (some ⟨fb, 0, none⟩)] 115 (0, 0))
  c1 : W.heap[w.heap.size + 1]? = some (.cells #[.int .i64 x.f0, .int .i64 x.f1, .int .i64 x.f2, .int .i64 x.f3, .int .i64 x.f4] 65 (0, 0))
  c2 : W.heap[w.heap.size + 1 + 1]? = some (.cells #[.int .i64 k, .int .i64 0, .int .i64 r, .int .i64 f, .int .i64 h, .int .i64 0, va, vb] 36 (0, 0))
  c3 : W.heap[w.heap.size + 1 + 1 + 1]? = some zEff
theorem BW.start (w : World) (A : Option Addr) (n c : Nat) (b d : Int) (fb : Nat) (x : S65) (k r h : Int) : BW w A n c b d fb x k r h 0 (.slice none 0 0) (.slice none 0 0) ((((w.alloc (.cells #[.slice A n c, .int .i64 b, .int .i64 d, .pointer (some ⟨fb, 0, none⟩)] 115)).alloc (.cells #[.int .i64 x.f0, .int .i64 x.f1, .int .i64 x.f2, .int .i64 x.f3, .int .i64 x.f4] 65)).alloc (.cells #[.int .i64 k, .int .i64 0, .int .i64 r, .int .i64 0, .int .i64 h, .int .i64 0, .slice none 0 0, .slice none 0 0] 36)).alloc zEff) := by
  obtain ⟨w1, h1⟩ : ∃ w1, w1 = w.alloc (.cells #[.slice A n c, .int .i64 b, .int .i64 d, .pointer (some ⟨fb, 0, none⟩)] 115) := ⟨_, rfl⟩
  obtain ⟨w2, h2⟩ : ∃ w2, w2 = w1.alloc (.cells #[.int .i64 x.f0, .int .i64 x.f1, .int .i64 x.f2, .int .i64 x.f3, .int .i64 x.f4] 65) := ⟨_, rfl⟩
  obtain ⟨w3, h3⟩ : ∃ w3, w3 = w2.alloc (.cells #[.int .i64 k, .int .i64 0, .int .i64 r, .int .i64 0, .int .i64 h, .int .i64 0, .slice none 0 0, .slice none 0 0] 36) := ⟨_, rfl⟩
  rw [← h1, ← h2, ← h3]
  have e1 : w1.heap.size = w.heap.size + 1 := by rw [h1]; exact Array.size_push _
  have e2 : w2.heap.size = w.heap.size + 1 + 1 := by rw [h2, ← e1]; exact Array.size_push _
  have e3 : w3.heap.size = w.heap.size + 1 + 1 + 1 := by rw [h3, ← e2]; exact Array.size_push _
  have b1 : Below w.heap.size w w1 := by rw [h1]; exact (Below.refl w.heap.size w).alloc (Nat.le_refl _) _
  have b2 : Below w1.heap.size w1 w2 := by rw [h2]; exact (Below.refl w1.heap.size w1).alloc (Nat.le_refl _) _
  have b3 : Below w2.heap.size w2 w3 := by rw [h3]; exact (Below.refl w2.heap.size w2).alloc (Nat.le_refl _) _
  have b4 : Below w3.heap.size w3 (w3.alloc zEff) := (Below.refl w3.heap.size w3).alloc (Nat.le_refl _) _
  have c0 : w1.heap[w.heap.size]? = some (.cells #[.slice A n c, .int .i64 b, .int .i64 d, .pointer (some ⟨fb, 0, none⟩)] 115 (0, 0)) := by rw [h1]; exact alloc_blk w _
  have c1 : w2.heap[w.heap.size + 1]? = some (.cells #[.int .i64 x.f0, .int .i64 x.f1, .int .i64 x.f2, .int .i64 x.f3, .int .i64 x.f4] 65 (0, 0)) := by rw [h2, ← e1]; exact alloc_blk w1 _
  have c2 : w3.heap[w.heap.size + 1 + 1]? = some (.cells #[.int .i64 k, .int .i64 0, .int .i64 r, .int .i64 0, .int .i64 h, .int .i64 0, .slice none 0 0, .slice none 0 0] 36 (0, 0)) := by rw [h3, ← e2]; exact alloc_blk w2 _
  have c3 : (w3.alloc zEff).heap[w.heap.size + 1 + 1 + 1]? = some zEff := by rw [← e3]; exact alloc_blk w3 _
  have b34 := b3.trans (b4.mono b3.size)
  have b24 := b2.trans (b34.mono b2.size)
  exact ⟨b1.trans (b24.mono b1.size), (b24.block _ (blk_lt c0)).trans c0, (b34.block _ (blk_lt c1)).trans c1, (b4.block _ (blk_lt c2)).trans c2, c3⟩
section
variable {w W W' : World} {A : Option Addr} {n c : Nat} {b d : Int} {fb : Nat} {x : S65} {k r h f : Int} {va vb : Value} {vp : Value} {F : Fr}
theorem BW.below2 (q : BW w A n c b d fb x k r h f va vb W) (hb : Below W.heap.size W W') : BW w A n c b d fb x k r h f va vb W' :=
  ⟨q.below.trans (hb.mono q.below.size), (hb.block _ (blk_lt q.c0)).trans q.c0, (hb.block _ (blk_lt q.c1)).trans q.c1, (hb.block _ (blk_lt q.c2)).trans q.c2, (hb.block _ (blk_lt q.c3)).trans q.c3⟩
theorem BW.set (q : BW w A n c b d fb x k r h f va vb W) (i : Nat) (v : Value) {f' : Int} {va' vb' : Value} (hs : (#[.int .i64 k, .int .i64 0, .int .i64 r, .int .i64 f, .int .i64 h, .int .i64 0, va, vb] : Array Value).setIfInBounds i v = #[.int .i64 k, .int .i64 0, .int .i64 r, .int .i64 f', .int .i64 h, .int .i64 0, va', vb']) :
    BW w A n c b d fb x k r h f' va' vb' (W.setCell ⟨w.heap.size + 1 + 1, i, none⟩ v) ∧ Keep (fun j => j = w.heap.size + 1 + 1) W (W.setCell ⟨w.heap.size + 1 + 1, i, none⟩ v) := by
  have hk : Keep (fun j => j = w.heap.size + 1 + 1) W (W.setCell ⟨w.heap.size + 1 + 1, i, none⟩ v) := (Keep.refl (fun j => j = w.heap.size + 1 + 1) W).set (p := ⟨w.heap.size + 1 + 1, i, none⟩) (.inr rfl) _
  refine ⟨⟨q.below.trans (hk.below q.below.size (fun j hj e => by omega)), hk.blk q.c0 (by omega), hk.blk q.c1 (by omega), ?_, hk.blk q.c3 (by omega)⟩, hk⟩
  have := blk_set q.c2 i v
  rw [hs] at this
  exact this
end
theorem R_new {w : World} {e B : Nat} {ok : Nat → Prop} {A : Option Addr} {n c : Nat} {xs : List Int} (h : (Kd.int .i64).R e w B ok (.slice A n c) xs) : xs = [] ∨ ∃ ad, A = some ad ∧ B ≤ ad.block := by
  by_cases hx : 0 < xs.length
  · obtain ⟨g, cp, hv, _⟩ := Kd.R_form h hx
    injection hv with hA _ _
    subst hA
    exact .inr ⟨_, rfl, (nums_own h g rfl).2.1⟩
  · exact .inl (List.eq_nil_of_length_eq_zero (by omega))
section
variable {A : Option Addr} {n c : Nat} {b d : Int} {fb : Nat} {F : Fr} {w : World} {Ap : Option Addr} {cp : Nat}
def eV (k r h : Int) : Value := .agg #[.int .i64 k, .int .i64 0, .int .i64 r, .int .i64 0, .int .i64 h, .int .i64 0, .slice none 0 0, .slice none 0 0]
set_option maxRecDepth 100000 in
set_option maxHeartbeats 8000000 in
theorem dbegin_no (h : FB fb F (.slice Ap F.path.length cp) w) (x : S65) (k r h0 : Int) (hd : d ≤ (F.path.length : Int)) : Calls Try.prog 64 #[dV A n c b d fb, xvF x, eV k r h0] w (DoP fb (.slice Ap F.path.length cp) (efFails 4, F) w) := by
  obtain ⟨x0, x1, x2, x3, x4⟩ := x
  obtain ⟨W, hW⟩ : ∃ W, W = ((((w.alloc (.cells #[.slice A n c, .int .i64 b, .int .i64 d, .pointer (some ⟨fb, 0, none⟩)] 115)).alloc (.cells #[.int .i64 x0, .int .i64 x1, .int .i64 x2, .int .i64 x3, .int .i64 x4] 65)).alloc (.cells #[.int .i64 k, .int .i64 0, .int .i64 r, .int .i64 0, .int .i64 h0, .int .i64 0, .slice none 0 0, .slice none 0 0] 36)).alloc (.cells #[.int .i64 0, .int .i64 0, .int .i64 0, .int .i64 0, .int .i64 0, .int .i64 0, .slice none 0 0, .slice none 0 0] 36)) := ⟨_, rfl⟩
  have hD : BW w A n c b d fb ⟨x0, x1, x2, x3, x4⟩ k r h0 0 (.slice none 0 0) (.slice none 0 0) W := by rw [hW]; exact BW.start w A n c b d fb ⟨x0, x1, x2, x3, x4⟩ k r h0
  have HD := Aside0.mk hD
  have HW := Aside0.mk hW
  have H := Aside0.mk (And.intro h (h.below hD.below))
  have d3 := blk_cell hD.c0 3
  have d2 := blk_cell hD.c0 2
  have t4 := (h.below hD.below).fix.2.2.2.2
  clear hW hD h
  unfold dV xvF eV
  have hd1 : (d ≤ (F.path.length : Int)) = True := eq_true hd
  go_enter Try.func64, Try.ntmps64
  go_upto_region 1 with (fail)
  rw [← HW.out]
  go_quiet (fail)
  go_wp2_with fail
  refine (ffails_any _ _).mono ?_
  rintro e w2 ⟨rfl, hb2⟩
  clear d3 d2 t4 hd hd1
  have hbd := (pw_below_drewN (Below.refl W.heap.size W) nq).trans (hb2.mono (pw_below_drewN (Below.refl W.heap.size W) nq).size)
  have hc2 := (HD.out.below2 hbd).c3
  have HC2 := Aside0.mk hc2
  have H2 := Aside0.mk (And.intro (H.out.2.below hbd) (And.intro hbd HD.out.below))
  have q0 := blk_cell hc2 0
  have q1 := blk_cell hc2 1
  have q2 := blk_cell hc2 2
  have q3 := blk_cell hc2 3
  have q4 := blk_cell hc2 4
  have q5 := blk_cell hc2 5
  have q6 := blk_cell hc2 6
  have q7 := blk_cell hc2 7
  have f0 := blk_frozen hc2 0
  have f1 := blk_frozen hc2 1
  have f2 := blk_frozen hc2 2
  have f3 := blk_frozen hc2 3
  have f4 := blk_frozen hc2 4
  have f5 := blk_frozen hc2 5
  have f6 := blk_frozen hc2 6
  have f7 := blk_frozen hc2 7
  clear hb2 hbd hc2
  unfold efV
  go_wp2_with fail
  obtain ⟨hs1, hs2⟩ := storeE_at HC2.out (efFails 4) none 0 none 0
  refine ⟨rfl, _, eff_results (e := efFails 4) (Aa := none) (ca := 0) (Ab := none) (cb := 0) rfl rfl hs1, none, 0, none, 0, rfl, EfC.plain _ _ _ ⟨rfl, rfl⟩, H2.out.1.keep hs2 (by have := H.out.1.lt; omega), ?_⟩
  exact (Keep.of_below (H2.out.2.2.trans (H2.out.2.1.mono H2.out.2.2.size)) (fun q => q = fb)).then hs2 (fun q hq e => by omega)
set_option maxRecDepth 100000 in
set_option maxHeartbeats 8000000 in
theorem dbegin_yes {l : List S68} (hl : POk l) (hC : k68.C w A l.length l) (hP : (Kd.int .i64).C w Ap F.path.length F.path) (hpc : F.path.length ≤ cp) (hpn : Ap = none → cp = 0) (h : FB fb F (.slice Ap F.path.length cp) w) (x : S65) (k r h0 : Int) (hd : ¬ d ≤ (F.path.length : Int)) (hd30 : d ≤ 30) (hb : 0 ≤ x.f2 ∧ x.f2 < 8) (hcf : 0 ≤ x.f3 ∧ x.f3 < l.length ∧ (rd_T68 l x.f3).f0 ≤ 8 - x.f2) :
    Calls Try.prog 64 #[dV A l.length c b d fb, xvF x, eV k r h0] w (DoP fb (.slice Ap F.path.length cp) (⟨k, 0, r, x.f3, h0, 0, argsF l x F, F.path ++ [F.kids]⟩, { F with kids := wrap64 (F.kids + 1) }) w) := by
  obtain ⟨n, hn⟩ : ∃ n, n = l.length := ⟨_, rfl⟩
  rw [← hn]
  have HN := Aside0.mk hn
  clear hn
  obtain ⟨x0, x1, x2, x3, x4⟩ := x
  obtain ⟨W, hW⟩ : ∃ W, W = ((((w.alloc (.cells #[.slice A n c, .int .i64 b, .int .i64 d, .pointer (some ⟨fb, 0, none⟩)] 115)).alloc (.cells #[.int .i64 x0, .int .i64 x1, .int .i64 x2, .int .i64 x3, .int .i64 x4] 65)).alloc (.cells #[.int .i64 k, .int .i64 0, .int .i64 r, .int .i64 0, .int .i64 h0, .int .i64 0, .slice none 0 0, .slice none 0 0] 36)).alloc (.cells #[.int .i64 0, .int .i64 0, .int .i64 0, .int .i64 0, .int .i64 0, .int .i64 0, .slice none 0 0, .slice none 0 0] 36)) := ⟨_, rfl⟩
  have hD : BW w A n c b d fb ⟨x0, x1, x2, x3, x4⟩ k r h0 0 (.slice none 0 0) (.slice none 0 0) W := by rw [hW]; exact BW.start w A n c b d fb ⟨x0, x1, x2, x3, x4⟩ k r h0
  have HD := Aside0.mk hD
  have HW := Aside0.mk hW
  have H := Aside0.mk (And.intro h (h.below hD.below))
  have d3 := blk_cell hD.c0 3
  have d2 := blk_cell hD.c0 2
  have t4 := (h.below hD.below).fix.2.2.2.2
  clear hW hD h
  unfold dV xvF eV
  have hb : 0 ≤ x2 ∧ x2 < 8 := hb
  have hcf : 0 ≤ x3 ∧ x3 < l.length ∧ (rd_T68 l x3).f0 ≤ 8 - x2 := hcf
  obtain ⟨b2, rfl⟩ : ∃ b2 : Nat, x2 = b2 := ⟨x2.toNat, by omega⟩
  obtain ⟨f, rfl⟩ : ∃ f : Nat, x3 = f := ⟨x3.toNat, by omega⟩
  have hd1 : (d ≤ (F.path.length : Int)) = False := eq_false hd
  have hlen : F.path.length ≤ 1000 := by omega
  have HP := Aside0.mk (And.intro hP (And.intro hpc (And.intro hpn hlen)))
  have hfl : f < l.length := by omega
  have hrd : rd_T68 l (f : Int) = l[f] := by simp [rd_T68, hfl]
  have har := (hl.fn f hfl).1
  rw [hrd] at hcf
  have hargs : argsF l ⟨x0, x1, (b2 : Int), (f : Int), x4⟩ F = (F.regs.drop b2).take l[f].f0.toNat := by unfold argsF; simp only [hrd]; rfl
  obtain ⟨ar, har2⟩ : ∃ ar : Nat, l[f].f0 = ar := ⟨l[f].f0.toNat, by omega⟩
  show Calls _ _ _ _ (DoP fb (.slice Ap F.path.length cp) (⟨k, 0, r, (f : Int), h0, 0, argsF l ⟨x0, x1, (b2 : Int), (f : Int), x4⟩ F, F.path ++ [F.kids]⟩, { F with kids := wrap64 (F.kids + 1) }) w)
  rw [hargs, har2, Int.toNat_natCast]
  obtain ⟨xs, hxs⟩ : ∃ xs, xs = (F.regs.drop b2).take ar := ⟨_, rfl⟩
  rw [← hxs]
  rw [har2] at hcf
  have hxl : xs.length = ar := by rw [hxs]; exact (H.out.1.argsC b2 ar (by omega)).1
  have HA := Aside0.mk (And.intro hxs (And.intro hxl (And.intro (show b2 + ar ≤ 8 by omega) (show b2 < 8 by omega))))
  have har3 : (rd_T68 l (f : Int)).f0 = ar := by rw [hrd]; exact har2
  have HF := Aside0.mk (And.intro (show f < l.length from hfl) har3)
  have HC := Aside0.mk hC
  clear hP hpc hpn hlen hd hd30 hb hcf hargs har2 hrd har har3 hfl hxs hxl hC
  go_enter Try.func64, Try.ntmps64
  go_upto_region 1 with (fail)
  rw [← HW.out]
  go_quiet (fail)
  go_upto_region 3 with (fail)
  have hbd := pw_below_drewN (Below.refl W.heap.size W) nq
  have HD := Aside0.mk (HD.out.below2 hbd)
  have H := Aside0.mk (And.intro H.out.1 (H.out.2.below hbd))
  clear HW hbd d3 d2 t4 hd1
  generalize W.drewN nq = W at HD H ⊢
  have c3 := blk_cell HD.out.c1 3
  have e3 := blk_cell HD.out.c2 3
  have z3 := blk_frozen HD.out.c2 3
  go_upto_region 4 with (fail)
  obtain ⟨W1, hW1⟩ : ∃ W1, W1 = W.setCell ⟨w.heap.size + 1 + 1, 3, none⟩ (.int .i64 (f : Int)) := ⟨_, rfl⟩
  rw [← hW1]
  obtain ⟨hD1, hk1⟩ := HD.out.set 3 (.int .i64 (f : Int)) (f' := f) (va' := .slice none 0 0) (vb' := .slice none 0 0) rfl
  rw [← hW1] at hD1 hk1
  have HD := Aside0.mk hD1
  have H := Aside0.mk (And.intro H.out.1 (H.out.2.keep hk1 (by have := H.out.1.lt; omega)))
  clear c3 e3 z3 hD1 hk1 hW1
  generalize W1 = W at HD H ⊢
  have d0 := blk_cell HD.out.c0 0
  have d3 := blk_cell HD.out.c0 3
  have c2 := blk_cell HD.out.c1 2
  have c3 := blk_cell HD.out.c1 3
  obtain ⟨adp, Ai, ci, hap, p0, p1, hci, hCi⟩ := at_T68 (Kd.C_below HC.out HD.out.below) (f : Int) (by omega) (by have := HF.out.1; omega)
  rw [HF.out.2, Int.toNat_natCast] at p0
  rw [hap] at d0
  have hfl2 : ((f : Int) < (n : Int)) = True := eq_true (by have := HF.out.1; have := HN.out; omega)
  have hsl := slice_regsF fb b2 ar HA.out.2.2.2 HA.out.2.2.1
  have hwr : IntKind.i64.wrap ((b2 : Int) + (ar : Int)) = (b2 : Int) + (ar : Int) := IntWalk.i64_in _ (by have := HA.out.2.2.1; omega)
  have HM := Aside0.mk (And.intro d0 (And.intro d3 (And.intro c2 (And.intro c3 p0))))
  clear d0 d3 c2 c3 p0 p1 hci hCi hap
  refine wp_region_T (fun w' => Below W.heap.size W w') [19] (.takes [0, 1, 2, 3, 4, 5, 6, 7, 8, 9, 10, 11, 12, 13, 14, 15, 16] (.op 17 (.takes [18] (.fin 19 .done)))) (by kernel_rfl) (by kernel_rfl) (by kernel_rfl) (by kernel_rfl) (panic_via (P := Try.prog) (fn := Try.f64) (R := DoP fb (.slice Ap F.path.length cp) (⟨k, 0, r, f, h0, 0, xs, F.path ++ [F.kids]⟩, { F with kids := wrap64 (F.kids + 1) }) w) (fun _ _ _ => rfl)) ?_
  have hs : Below W.heap.size W W.drew := (Below.refl _ _).drew
  have hmv : ∀ {w' : World} {p : Addr} {v : Value}, Below W.heap.size W w' → W.cell? p = some v → w'.cell? p = some v := fun hS hq => (hS.cell (World.block_lt_of_cell? W _ hq)).trans hq
  simp only [Turns.takes]
  repeat (
    (first
      | (refine runT_take (v := ?_) (by rfl) (by rfl) (fun w' hS => ?_) hs ?_
         rotate_left
         · (have d0 := hmv hS HM.out.1; have d3 := hmv hS HM.out.2.1; have c2 := hmv hS HM.out.2.2.1; have c3 := hmv hS HM.out.2.2.2.1; have p0 := hmv hS HM.out.2.2.2.2; go_simp; exact rfl))
      | refine runT_skip (by rfl) (by rfl) hs ?_)
    (try simp only [Act.put, List.setIfInBounds_toArray, List.set_cons_zero, List.set_cons_succ]))
  clear hsl hwr hfl2
  refine runT_op (by rfl) (by rfl) (fun K hK => ?_)
  go_simp
  have hF5 := H.out.2.below hs
  have hC5 : (Kd.int .i64).C W.drew (some ⟨fb, 5 + b2, none⟩) xs.length xs := by have h9 := (hF5.argsC b2 ar HA.out.2.2.1).2; rw [HA.out.1]; exact h9
  have hcl := clone64_any (some ⟨fb, 5 + b2, none⟩) (8 - b2) xs W.drew hC5 (fun e => by cases e) (by have := HA.out.2.1; have := HA.out.2.2.1; omega)
  rw [HA.out.2.1] at hcl
  refine hcl.mono ?_
  rintro e w6 ⟨v, rfl, hR6, hb6⟩
  have hs6 := hs.trans (hb6.mono hs.size)
  obtain ⟨Aa, ca, rfl⟩ := Kd.R_slice hR6
  obtain ⟨_, hca, hCa⟩ := Kd.R_reads' hR6
  have hnew := R_new hR6
  refine hK _ _ hs6 ?_
  have HAA := Aside0.mk (And.intro hCa (And.intro hca (show xs = [] ∨ ∃ ad, Aa = some ad ∧ w.heap.size + 4 ≤ ad.block from hnew.imp id (fun ⟨ad, e1, e2⟩ => ⟨ad, e1, by have h1 := blk_lt HD.out.c3; have h2 := hs.size; omega⟩))))
  clear hK K hcl hC5 hF5 hR6 hb6 hCa hca hnew hmv hs
  (try simp only [Act.put, List.setIfInBounds_toArray, List.set_cons_zero, List.set_cons_succ])
  have hs := hs6
  repeat (
    (first
      | (refine runT_take (v := ?_) (by rfl) (by rfl) (fun w' hS => ?_) hs ?_
         rotate_left
         · (skip; go_simp; exact rfl))
      | refine runT_skip (by rfl) (by rfl) hs ?_)
    (try simp only [Act.put, List.setIfInBounds_toArray, List.set_cons_zero, List.set_cons_succ]))
  have HD := Aside0.mk (HD.out.below2 hs6)
  have H := Aside0.mk (And.intro H.out.1 (H.out.2.below hs6))
  have e6 := blk_cell HD.out.c2 6
  have z6 := blk_frozen HD.out.c2 6
  refine runT_fin (by rfl) (by rfl) (fun K hK => ?_)
  go_simp
  refine hK _ _ ?_
  clear hK K
  refine runT_done ?_
  obtain ⟨W1, hW1⟩ : ∃ W1, W1 = w6.setCell ⟨w.heap.size + 1 + 1, 6, none⟩ (.slice Aa xs.length ca) := ⟨_, rfl⟩
  rw [← hW1]
  obtain ⟨hD1, hk1⟩ := HD.out.set 6 (.slice Aa xs.length ca) (f' := f) (va' := .slice Aa xs.length ca) (vb' := .slice none 0 0) rfl
  rw [← hW1] at hD1 hk1
  have hCa1 : (Kd.int .i64).C W1 Aa xs.length xs := by
    obtain ⟨q1, q2, q3⟩ := HAA.out
    exact C_new q1 q3 hk1 (fun q hq hlt => by omega)
  have HD := Aside0.mk hD1
  have H := Aside0.mk (And.intro H.out.1 (H.out.2.keep hk1 (by have := H.out.1.lt; omega)))
  clear e6 z6 hD1 hk1 hW1 hs6 hs
  generalize W1 = W at HD H hCa1 ⊢
  go_upto_region 5 with (fail)
  have d3 := blk_cell HD.out.c0 3
  have t3 := H.out.2.fix.2.2.2.1
  have t4 := H.out.2.fix.2.2.2.2
  have HM := Aside0.mk (And.intro d3 (And.intro t3 t4))
  clear d3 t3 t4
  refine wp_region_seq2 (fun w' => Below W.heap.size W w') [14] [.take 0, .take 1, .take 2, .take 3, .take 4, .take 6, .take 7, .take 8, .take 9, .take 10, .pair 5 11, .op 12, .take 13, .fin 14] (by kernel_rfl) (by kernel_rfl) rfl (by kernel_rfl) (panic_via (P := Try.prog) (fn := Try.f64) (R := DoP fb (.slice Ap F.path.length cp) (⟨k, 0, r, f, h0, 0, xs, F.path ++ [F.kids]⟩, { F with kids := wrap64 (F.kids + 1) }) w) (fun _ _ _ => rfl)) ?_
  have hs : Below W.heap.size W W.drew := (Below.refl _ _).drew
  have hmv : ∀ {w' : World} {p : Addr} {v : Value}, Below W.heap.size W w' → W.cell? p = some v → w'.cell? p = some v := fun hS hq => (hS.cell (World.block_lt_of_cell? W _ hq)).trans hq
  repeat (
    (first
      | (refine runSeq2_take (v := ?_) (by rfl) (by rfl) (fun w' hS => ?_) hs ?_
         rotate_left
         · (have d3 := hmv hS HM.out.1; have t3 := hmv hS HM.out.2.1; have t4 := hmv hS HM.out.2.2; go_simp; exact rfl))
      | refine runSeq2_skip (by rfl) (by rfl) hs ?_)
    (try simp only [Act.put, List.setIfInBounds_toArray, List.set_cons_zero, List.set_cons_succ]))
  have hCp := fun {w' : World} (hb : Below W.heap.size W w') => Kd.C_below HP.out.1 (HD.out.below.trans (hb.mono HD.out.below.size))
  have hcl0 : Ap = none → cp = 0 ∧ F.path = [] := fun e => by have h1 := HP.out.2.2.1 e; have h2 := HP.out.2.1; exact ⟨h1, List.eq_nil_of_length_eq_zero (by omega)⟩
  refine runSeq2_pairM (di := 45) (dj := 51) (fun v u w' => (Kd.int .i64).R 3 w' W.heap.size (fun _ => True) v F.path ∧ ∃ bl, u = .slice (some ⟨bl, 0, none⟩) 1 1 ∧ w'.heap[bl]? = some (.cells #[.int .i64 F.kids] 3 (0, 0))) (by decide) ?_ ?_ ?_
  · refine wpOp_at (by rfl) (by rfl) (fun K hK => ?_)
    go_simp
    refine (clonei_any Ap cp F.path _ (hCp hs) hcl0 HP.out.2.2.2).mono ?_
    rintro e w1 ⟨v, rfl, hR, hb⟩
    have hs1 := hs.trans (hb.mono hs.size)
    refine hK _ _ ⟨v, rfl, hs1, ?_⟩
    clear hK K
    refine wpOp_at (by rfl) (by rfl) (fun K hK => ?_)
    go_simp
    exact hK _ _ ⟨_, rfl, hs1.alloc hs1.size _, Kd.R_lower (Kd.R_alloc hR _) hs.size, _, rfl, alloc_blk _ _⟩
  · refine wpOp_at (by rfl) (by rfl) (fun K hK => ?_)
    go_simp
    have hs1 := hs.alloc hs.size (.cells #[.int .i64 F.kids] 3)
    refine hK _ _ ⟨_, rfl, hs1, ?_⟩
    clear hK K
    refine wpOp_at (by rfl) (by rfl) (fun K hK => ?_)
    go_simp
    refine (clonei_any Ap cp F.path _ (hCp hs1) hcl0 HP.out.2.2.2).mono ?_
    rintro e w1 ⟨v, rfl, hR, hb⟩
    have ha := alloc_blk W.drew (.cells #[.int .i64 F.kids] 3)
    exact hK _ _ ⟨v, rfl, hs1.trans (hb.mono hs1.size), Kd.R_lower hR hs1.size, _, rfl, (hb.block _ (blk_lt ha)).trans ha⟩
  · rintro vv uu w3 hs3 ⟨hR3, bl, rfl, hbl⟩
    (try simp only [Act.put, List.setIfInBounds_toArray, List.set_cons_zero, List.set_cons_succ])
    refine runSeq2_op (by rfl) (by rfl) (fun K hK => ?_)
    refine wp_append_nums .i64 W.heap.size rfl (.tmp 45) (.tmp 51) 23 3 8 rfl Try.underlying23 info3 (by decide) vv F.path [F.kids] (some ⟨bl, 0, none⟩) 1 1 rfl rfl hR3 (reads_nums [F.kids] hbl (by simp)) hs3.size (by have := HP.out.2.2.2; omega) ?_
    intro v1 W3 hR4 hb4 hg4 hat4
    have hs4 := hs3.trans hb4
    refine hK _ _ hs4 ?_
    clear hK K hR3 hbl hs3 hb4 hg4 hat4 hs w3
    (try simp only [Act.put, List.setIfInBounds_toArray, List.set_cons_zero, List.set_cons_succ])
    obtain ⟨Ab, cb, rfl⟩ := Kd.R_slice hR4
    obtain ⟨_, hcb, hCb⟩ := Kd.R_reads' hR4
    have hnb := R_new hR4
    have HBB := Aside0.mk (And.intro (show F.path ++ [F.kids] = [] ∨ ∃ ad, Ab = some ad ∧ w.heap.size + 4 ≤ ad.block from hnb.imp id (fun ⟨ad, e1, e2⟩ => ⟨ad, e1, by have h1 := blk_lt HD.out.c3; omega⟩)) hcb)
    have hs := hs4
    refine runSeq2_take (v := ?_) (by rfl) (by rfl) (fun w' hS => ?_) hs ?_
    rotate_left
    · go_simp; exact rfl
    (try simp only [Act.put, List.setIfInBounds_toArray, List.set_cons_zero, List.set_cons_succ])
    have HD := Aside0.mk (HD.out.below2 hs4)
    have H := Aside0.mk (And.intro H.out.1 (H.out.2.below hs4))
    have hCa2 := Kd.C_below hCa1 hs4
    have e7 := blk_cell HD.out.c2 7
    have z7 := blk_frozen HD.out.c2 7
    clear hCa1 hR4 hs4 hs hcb hnb hCp hcl0 hmv
    refine runSeq2_fin (by rfl) (by rfl) (fun K hK => ?_)
    go_simp
    refine hK _ _ ?_
    clear hK K
    refine runSeq2_nil ?_
    obtain ⟨L, hL⟩ : ∃ L, L = (F.path ++ [F.kids]).length := ⟨_, rfl⟩
    have hL2 : F.path.length + 1 = L := by rw [hL]; simp
    (try rw [hL2])
    (try rw [← hL])
    obtain ⟨W4, hW4⟩ : ∃ W4, W4 = W3.setCell ⟨w.heap.size + 1 + 1, 7, none⟩ (.slice Ab L cb) := ⟨_, rfl⟩
    rw [← hW4]
    have HL := Aside0.mk hL
    clear hL hL2
    obtain ⟨hD1, hk1⟩ := HD.out.set 7 (.slice Ab L cb) (f' := f) (va' := .slice Aa xs.length ca) (vb' := .slice Ab L cb) rfl
    rw [← hW4] at hD1 hk1
    have hCa3 := C_new hCa2 HAA.out.2.2 hk1 (fun q hq hlt => by omega)
    have hCb3 := C_new hCb HBB.out.1 hk1 (fun q hq hlt => by omega)
    have HD := Aside0.mk hD1
    have H := Aside0.mk (And.intro H.out.1 (H.out.2.keep hk1 (by have := H.out.1.lt; omega)))
    clear e7 z7 hD1 hk1 hW4 hCa2 hCb
    generalize W4 = W at HD H hCa3 hCb3 ⊢
    have d3 := blk_cell HD.out.c0 3
    have t3 := H.out.2.fix.2.2.2.1
    have z3 := H.out.2.frozen 3
    have hwk : IntKind.i64.wrap (F.kids + 1) = wrap64 (F.kids + 1) := IntWalk.i64_left _
    go_upto_region 7 with (fail)
    obtain ⟨W5, hW5⟩ : ∃ W5, W5 = W.setCell ⟨fb, 3, none⟩ (.int .i64 (wrap64 (F.kids + 1))) := ⟨_, rfl⟩
    rw [← hW5]
    have hk5 : Keep (fun q => q = fb) W W5 := by rw [hW5]; exact (Keep.refl (fun q => q = fb) W).set (p := ⟨fb, 3, none⟩) (.inr rfl) _
    have hF5 := H.out.2.setKids (wrap64 (F.kids + 1))
    rw [← hW5] at hF5
    have hc2 := hk5.blk HD.out.c2 (by have := H.out.1.lt; omega)
    have hc3 := hk5.blk HD.out.c3 (by have := H.out.1.lt; omega)
    have hCa5 := C_new hCa3 HAA.out.2.2 hk5 (fun q hq hlt => by have := H.out.1.lt; omega)
    have hCb5 := C_new hCb3 HBB.out.1 hk5 (fun q hq hlt => by have := H.out.1.lt; omega)
    have HC2 := Aside0.mk hc3
    have H5 := Aside0.mk (And.intro hF5 (And.intro hk5 (And.intro hCa5 hCb5)))
    have y0 := blk_cell hc2 0
    have y1 := blk_cell hc2 1
    have y2 := blk_cell hc2 2
    have y3 := blk_cell hc2 3
    have y4 := blk_cell hc2 4
    have y5 := blk_cell hc2 5
    have y6 := blk_cell hc2 6
    have y7 := blk_cell hc2 7
    have q0 := blk_cell hc3 0
    have q1 := blk_cell hc3 1
    have q2 := blk_cell hc3 2
    have q3 := blk_cell hc3 3
    have q4 := blk_cell hc3 4
    have q5 := blk_cell hc3 5
    have q6 := blk_cell hc3 6
    have q7 := blk_cell hc3 7
    have f0 := blk_frozen hc3 0
    have f1 := blk_frozen hc3 1
    have f2 := blk_frozen hc3 2
    have f3 := blk_frozen hc3 3
    have f4 := blk_frozen hc3 4
    have f5 := blk_frozen hc3 5
    have f6 := blk_frozen hc3 6
    have f7 := blk_frozen hc3 7
    clear d3 t3 z3 hwk hW5 hk5 hF5 hc2 hc3 hCa5 hCb5 hCa3 hCb3
    go_wp2_with fail
    obtain ⟨hs1, hs2⟩ := storeE_at HC2.out ⟨k, 0, r, f, h0, 0, xs, F.path ++ [F.kids]⟩ Aa ca Ab cb
    have hL := HL.out
    subst hL
    refine ⟨rfl, _, eff_results (e := ⟨k, 0, r, f, h0, 0, xs, F.path ++ [F.kids]⟩) (Aa := Aa) (ca := ca) (Ab := Ab) (cb := cb) rfl rfl hs1, Aa, ca, Ab, cb, rfl, ?_, H5.out.1.keep hs2 (by have := H.out.1.lt; omega), ?_⟩
    · exact ⟨C_new H5.out.2.2.1 HAA.out.2.2 hs2 (fun q hq hlt => by omega), HAA.out.2.1, C_new H5.out.2.2.2 HBB.out.1 hs2 (fun q hq hlt => by omega), HBB.out.2, HAA.out.2.2.imp id (fun ⟨ad, e1, e2⟩ => ⟨ad, e1, by omega⟩), HBB.out.1.imp id (fun ⟨ad, e1, e2⟩ => ⟨ad, e1, by omega⟩)⟩
    · exact ((Keep.of_below HD.out.below (fun q => q = fb)).trans H5.out.2.1).then hs2 (fun q hq e => by omega)
theorem dbegin_any {l : List S68} (hl : POk l) (hC : k68.C w A l.length l) (hP : (Kd.int .i64).C w Ap F.path.length F.path) (hpc : F.path.length ≤ cp) (hpn : Ap = none → cp = 0) (h : FB fb F (.slice Ap F.path.length cp) w) (x : S65) (k r h0 : Int) (hd30 : d ≤ 30) (hb : 0 ≤ x.f2 ∧ x.f2 < 8) (hcf : 0 ≤ x.f3 ∧ x.f3 < l.length ∧ (rd_T68 l x.f3).f0 ≤ 8 - x.f2) :
    Calls Try.prog 64 #[dV A l.length c b d fb, xvF x, eV k r h0] w (DoP fb (.slice Ap F.path.length cp) (beginF l d x F k r h0) w) := by
  unfold beginF
  by_cases hd : d ≤ (F.path.length : Int)
  · rw [if_pos hd]; exact dbegin_no h x k r h0 hd
  · rw [if_neg hd]; exact dbegin_yes hl hC hP hpc hpn h x k r h0 hd hd30 hb hcf
set_option maxRecDepth 100000 in
set_option maxHeartbeats 8000000 in
theorem dspawn_any {l : List S68} (hl : POk l) (hC : k68.C w A l.length l) (hP : (Kd.int .i64).C w Ap F.path.length F.path) (hpc : F.path.length ≤ cp) (hpn : Ap = none → cp = 0) (h : FB fb F (.slice Ap F.path.length cp) w) (x : S65) (hd30 : d ≤ 30) (hb : 0 ≤ x.f2 ∧ x.f2 < 8) (hcf : 0 ≤ x.f3 ∧ x.f3 < l.length ∧ (rd_T68 l x.f3).f0 ≤ 8 - x.f2) :
    Calls Try.prog 45 #[dV A l.length c b d fb, xvF x] w (DoP fb (.slice Ap F.path.length cp) (beginF l d x F 3 x.f1 0) w) := by
  obtain ⟨n, hn⟩ : ∃ n, n = l.length := ⟨_, rfl⟩
  rw [← hn]
  have hbeg := fun {W : World} (hb1 : Below w.heap.size w W) => dbegin_any (A := A) (c := c) (b := b) (d := d) (fb := fb) hl (Kd.C_below hC hb1) (Kd.C_below hP hb1) hpc hpn (h.below hb1) x 3 x.f1 0 hd30 hb hcf
  rw [← hn] at hbeg
  clear hC hP hpc hpn hl hd30 hb hcf hn
  obtain ⟨x0, x1, x2, x3, x4⟩ := x
  obtain ⟨W, hW⟩ : ∃ W, W = (((w.alloc (.cells #[.slice A n c, .int .i64 b, .int .i64 d, .pointer (some ⟨fb, 0, none⟩)] 115)).alloc (.cells #[.int .i64 x0, .int .i64 x1, .int .i64 x2, .int .i64 x3, .int .i64 x4] 65)).alloc (.cells #[.int .i64 0, .int .i64 0, .int .i64 0, .int .i64 0, .int .i64 0, .int .i64 0, .slice none 0 0, .slice none 0 0] 36)) := ⟨_, rfl⟩
  have hD : DW w A n c b d fb ⟨x0, x1, x2, x3, x4⟩ W := by rw [hW]; exact DW.start w A n c b d fb ⟨x0, x1, x2, x3, x4⟩
  have HD := Aside0.mk hD
  have HW := Aside0.mk hW
  have H := Aside0.mk (And.intro h (h.below hD.below))
  clear hW hD h
  have HB := Aside0.mk (hbeg HD.out.below)
  clear hbeg
  unfold dV xvF
  have hu := Try.underlying36
  go_enter Try.func45, Try.ntmps45
  go_upto_region 1 with (fail)
  rw [← HW.out]
  have d0 := blk_cell HD.out.c0 0
  have d1 := blk_cell HD.out.c0 1
  have d2 := blk_cell HD.out.c0 2
  have d3 := blk_cell HD.out.c0 3
  have c0 := blk_cell HD.out.c1 0
  have c1 := blk_cell HD.out.c1 1
  have c2 := blk_cell HD.out.c1 2
  have c3 := blk_cell HD.out.c1 3
  have c4 := blk_cell HD.out.c1 4
  go_wp2_with fail
  refine HB.out.mono ?_
  clear d0 d1 d2 d3 c0 c1 c2 c3 c4 HB
  show ∀ e w', DoP fb (.slice Ap F.path.length cp) (beginF l d ⟨x0, x1, x2, x3, x4⟩ F 3 x1 0) W e w' → _
  obtain ⟨q, hq⟩ : ∃ q, q = beginF l d ⟨x0, x1, x2, x3, x4⟩ F 3 x1 0 := ⟨_, rfl⟩
  show ∀ e w', DoP fb (.slice Ap F.path.length cp) (beginF l d ⟨x0, x1, x2, x3, x4⟩ F 3 x1 0) W e w' → _
  rw [← hq]
  have HQ := Aside0.mk hq
  clear hq
  rintro e w2 ⟨Aa, ca, Ab, cb, rfl, hE, hF, hk⟩
  have hc2 := hk.blk HD.out.c2 (by have := H.out.1.lt; omega)
  have HC2 := Aside0.mk hc2
  have H2 := Aside0.mk (And.intro hF (And.intro hk hE))
  have q0 := blk_cell hc2 0
  have q1 := blk_cell hc2 1
  have q2 := blk_cell hc2 2
  have q3 := blk_cell hc2 3
  have q4 := blk_cell hc2 4
  have q5 := blk_cell hc2 5
  have q6 := blk_cell hc2 6
  have q7 := blk_cell hc2 7
  have f0 := blk_frozen hc2 0
  have f1 := blk_frozen hc2 1
  have f2 := blk_frozen hc2 2
  have f3 := blk_frozen hc2 3
  have f4 := blk_frozen hc2 4
  have f5 := blk_frozen hc2 5
  have f6 := blk_frozen hc2 6
  have f7 := blk_frozen hc2 7
  clear hF hk hE hc2
  unfold efV
  go_wp2_with fail
  obtain ⟨hs1, hs2⟩ := storeE_at HC2.out q.1 Aa ca Ab cb
  show bodyPost _ _ (DoP fb (.slice Ap F.path.length cp) (beginF l d ⟨x0, x1, x2, x3, x4⟩ F 3 x1 0) w) _ _ _
  rw [← HQ.out]
  have hlt := blk_lt HD.out.c2
  refine ⟨rfl, _, eff_results (e := q.1) (Aa := Aa) (ca := ca) (Ab := Ab) (cb := cb) rfl rfl hs1, Aa, ca, Ab, cb, rfl, ?_, H2.out.1.keep hs2 (by have := H.out.1.lt; omega), ?_⟩
  · have h9 := H2.out.2.2.keep hs2 (fun q hq hl e => by omega)
    exact ⟨h9.args, h9.argsC, h9.path, h9.pathC, h9.newA.imp id (fun ⟨ad, e1, e2⟩ => ⟨ad, e1, by have := HD.out.below.size; omega⟩), h9.newP.imp id (fun ⟨ad, e1, e2⟩ => ⟨ad, e1, by have := HD.out.below.size; omega⟩)⟩
  · exact ((Keep.of_below HD.out.below (fun q => q = fb)).trans H2.out.2.1).then hs2 (fun q hq e => by omega)
set_option maxRecDepth 100000 in
set_option maxHeartbeats 8000000 in
theorem dfuture_any {l : List S68} (hl : POk l) (hC : k68.C w A l.length l) (hP : (Kd.int .i64).C w Ap F.path.length F.path) (hpc : F.path.length ≤ cp) (hpn : Ap = none → cp = 0) (h : FB fb F (.slice Ap F.path.length cp) w) (x : S65) (hd30 : d ≤ 30) (hb : 0 ≤ x.f2 ∧ x.f2 < 8) (hcf : 0 ≤ x.f3 ∧ x.f3 < l.length ∧ (rd_T68 l x.f3).f0 ≤ 8 - x.f2) :
    Calls Try.prog 47 #[dV A l.length c b d fb, xvF x] w (DoP fb (.slice Ap F.path.length cp) (beginF l d x F 4 0 x.f1) w) := by
  obtain ⟨n, hn⟩ : ∃ n, n = l.length := ⟨_, rfl⟩
  rw [← hn]
  have hbeg := fun {W : World} (hb1 : Below w.heap.size w W) => dbegin_any (A := A) (c := c) (b := b) (d := d) (fb := fb) hl (Kd.C_below hC hb1) (Kd.C_below hP hb1) hpc hpn (h.below hb1) x 4 0 x.f1 hd30 hb hcf
  rw [← hn] at hbeg
  clear hC hP hpc hpn hl hd30 hb hcf hn
  obtain ⟨x0, x1, x2, x3, x4⟩ := x
  obtain ⟨W, hW⟩ : ∃ W, W = (((w.alloc (.cells #[.slice A n c, .int .i64 b, .int .i64 d, .pointer (some ⟨fb, 0, none⟩)] 115)).alloc (.cells #[.int .i64 x0, .int .i64 x1, .int .i64 x2, .int .i64 x3, .int .i64 x4] 65)).alloc (.cells #[.int .i64 0, .int .i64 0, .int .i64 0, .int .i64 0, .int .i64 0, .int .i64 0, .slice none 0 0, .slice none 0 0] 36)) := ⟨_, rfl⟩
  have hD : DW w A n c b d fb ⟨x0, x1, x2, x3, x4⟩ W := by rw [hW]; exact DW.start w A n c b d fb ⟨x0, x1, x2, x3, x4⟩
  have HD := Aside0.mk hD
  have HW := Aside0.mk hW
  have H := Aside0.mk (And.intro h (h.below hD.below))
  clear hW hD h
  have HB := Aside0.mk (hbeg HD.out.below)
  clear hbeg
  unfold dV xvF
  have hu := Try.underlying36
  go_enter Try.func47, Try.ntmps47
  go_upto_region 1 with (fail)
  rw [← HW.out]
  have d0 := blk_cell HD.out.c0 0
  have d1 := blk_cell HD.out.c0 1
  have d2 := blk_cell HD.out.c0 2
  have d3 := blk_cell HD.out.c0 3
  have c0 := blk_cell HD.out.c1 0
  have c1 := blk_cell HD.out.c1 1
  have c2 := blk_cell HD.out.c1 2
  have c3 := blk_cell HD.out.c1 3
  have c4 := blk_cell HD.out.c1 4
  go_wp2_with fail
  refine HB.out.mono ?_
  clear d0 d1 d2 d3 c0 c1 c2 c3 c4 HB
  show ∀ e w', DoP fb (.slice Ap F.path.length cp) (beginF l d ⟨x0, x1, x2, x3, x4⟩ F 4 0 x1) W e w' → _
  obtain ⟨q, hq⟩ : ∃ q, q = beginF l d ⟨x0, x1, x2, x3, x4⟩ F 4 0 x1 := ⟨_, rfl⟩
  show ∀ e w', DoP fb (.slice Ap F.path.length cp) (beginF l d ⟨x0, x1, x2, x3, x4⟩ F 4 0 x1) W e w' → _
  rw [← hq]
  have HQ := Aside0.mk hq
  clear hq
  rintro e w2 ⟨Aa, ca, Ab, cb, rfl, hE, hF, hk⟩
  have hc2 := hk.blk HD.out.c2 (by have := H.out.1.lt; omega)
  have HC2 := Aside0.mk hc2
  have H2 := Aside0.mk (And.intro hF (And.intro hk hE))
  have q0 := blk_cell hc2 0
  have q1 := blk_cell hc2 1
  have q2 := blk_cell hc2 2
  have q3 := blk_cell hc2 3
  have q4 := blk_cell hc2 4
  have q5 := blk_cell hc2 5
  have q6 := blk_cell hc2 6
  have q7 := blk_cell hc2 7
  have f0 := blk_frozen hc2 0
  have f1 := blk_frozen hc2 1
  have f2 := blk_frozen hc2 2
  have f3 := blk_frozen hc2 3
  have f4 := blk_frozen hc2 4
  have f5 := blk_frozen hc2 5
  have f6 := blk_frozen hc2 6
  have f7 := blk_frozen hc2 7
  clear hF hk hE hc2
  unfold efV
  go_wp2_with fail
  obtain ⟨hs1, hs2⟩ := storeE_at HC2.out q.1 Aa ca Ab cb
  show bodyPost _ _ (DoP fb (.slice Ap F.path.length cp) (beginF l d ⟨x0, x1, x2, x3, x4⟩ F 4 0 x1) w) _ _ _
  rw [← HQ.out]
  have hlt := blk_lt HD.out.c2
  refine ⟨rfl, _, eff_results (e := q.1) (Aa := Aa) (ca := ca) (Ab := Ab) (cb := cb) rfl rfl hs1, Aa, ca, Ab, cb, rfl, ?_, H2.out.1.keep hs2 (by have := H.out.1.lt; omega), ?_⟩
  · have h9 := H2.out.2.2.keep hs2 (fun q hq hl e => by omega)
    exact ⟨h9.args, h9.argsC, h9.path, h9.pathC, h9.newA.imp id (fun ⟨ad, e1, e2⟩ => ⟨ad, e1, by have := HD.out.below.size; omega⟩), h9.newP.imp id (fun ⟨ad, e1, e2⟩ => ⟨ad, e1, by have := HD.out.below.size; omega⟩)⟩
  · exact ((Keep.of_below HD.out.below (fun q => q = fb)).trans H2.out.2.1).then hs2 (fun q hq e => by omega)
end
end Go.Proofs.Ytcciejcpijlkfaa.H

