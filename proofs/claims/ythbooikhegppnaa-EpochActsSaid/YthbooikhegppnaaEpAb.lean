/- EpochActs: the two epochs side by side, and an act's box. -/
import Derived.Test.YthbooikhegppnaaEpRf
set_option linter.unusedVariables false
set_option linter.unusedSimpArgs false
namespace Go.Proofs.Ythbooikhegppnaa.H
open Go.RowKit Go.Hay Go.Proofs.YthbooikhegppnaaW.PrintWords Go.Proofs.YthbooikhegppnaaW.PrintLast Go.Proofs.YthbooikhegppnaaW.PrintMore
theorem countP_take {α : Type} (p : α → Bool) {xs : List α} {i : Nat} (h : i < xs.length) : (xs.take (i + 1)).countP p = (xs.take i).countP p + (if p xs[i] = true then 1 else 0) := by
  rw [List.take_succ_eq_append_getElem h, List.countP_append, List.countP_singleton]
set_option maxRecDepth 100000 in
set_option maxHeartbeats 4000000 in
theorem rlimbo_any {B r : Nat} {now : Int} {ann : List Int} {L : List S45} {v1 v2 : Value} (k : Int) (w : World) (h : RS B r now ann L v1 v2 w) (hl : L.length ≤ 1000) : Calls Try.prog 18 #[.pointer (some ⟨r, 0, none⟩), .int .i64 k] w fun e w' => e = .returned (.int .i64 (L.countP (fun x => x.f0 == k))) ∧ w = w' := by
  obtain ⟨A2, c2, rfl⟩ := Kd.R_slice h.r2
  obtain ⟨_, _, hr2⟩ := Kd.R_reads' h.r2
  have d2 := blk_cell h.node 2
  have H := Aside0.mk hr2
  clear h hr2
  go_enter Try.func18, Try.ntmps18
  go_wp2_with fail
  go_loop [5, 6] (fun v5 v6 => ∃ (i : Nat), v6 = .int .i64 i ∧ i ≤ L.length ∧ v5 = .int .i64 ((L.take i).countP (fun x => x.f0 == k) : Nat)) (fun _ v6 => L.length - (intOf v6).toNat)
  case atStart => exact ⟨0, rfl, Nat.zero_le _, rfl⟩
  case round =>
    obtain ⟨i, rfl, hi, rfl⟩ := hrel
    have hc : (L.take i).countP (fun x => x.f0 == k) ≤ (L.take i).length := List.countP_le_length
    have hc2 : (L.take i).length ≤ L.length := by rw [List.length_take]; omega
    by_cases hlt : i < L.length
    · have hm2 : (L.take i).countP (fun x => x.f0 == k) ≤ 1000 := by omega
      obtain ⟨ad2, rfl, p0, p1, p2⟩ := at_T45 H.out (i : Int) (by omega) (by omega)
      have hrd : rd_T45 L (i : Int) = L[i] := by simp [rd_T45, hlt]
      rw [hrd, Int.toNat_natCast] at p0
      have HT := Aside0.mk (countP_take (fun x : S45 => x.f0 == k) hlt)
      clear p1 p2 hrd
      generalize (L.take i).countP (fun x => x.f0 == k) = m at hc hm2 HT
      by_cases hx : L[i].f0 = k
      · rw [hx] at p0
        rw [if_pos (by simpa using hx)] at HT
        clear hx
        go_wp2_with fail
        go_round
        case rel => exact ⟨i + 1, by go_num, by omega, by rw [HT.out]; go_num⟩
        case measure => simp [intOf]; omega
      · have hx' : (L[i].f0 == k) = false := by simpa using hx
        rw [if_neg (by simpa using hx)] at HT
        clear hx
        go_wp2_with fail
        go_round
        case rel => exact ⟨i + 1, by go_num, by omega, by rw [HT.out]; rfl⟩
        case measure => simp [intOf]; omega
    · obtain rfl : i = L.length := by omega
      go_wp2_with fail
      go_ret
      exact ⟨rfl, rfl⟩
def PB (r : Nat) (v1 v2 : Value) (b q : Nat) : Prop := PR r v1 v2 q ∨ q = b
structure AB (w : World) (B r b : Nat) (x : S30) (now1 : Int) (ws : List (Int × List Rt)) (now2 : Int) (ann : List Int) (L : List S45) (v1 v2 : Value) (wr : World) : Prop where
  st : St w (PB r v1 v2 b) w.heap.size now1 ws wr
  rs : RS B r now2 ann L v1 v2 wr
  bx : wr.heap[b]? = some (.cells #[.bool x.f0, .int .i64 x.f1, .int .i64 x.f2] 30 (0, 0))
  lo : w.heap.size ≤ B
  lb : w.heap.size ≤ b
section
variable {w wr w1 : World} {B r b : Nat} {x : S30} {now1 now1' now2 now2' : Int} {ws ws' : List (Int × List Rt)} {ann ann' : List Int} {L L' : List S45} {v1 v2 v2' : Value}
theorem AB.pB (h : AB w B r b x now1 ws now2 ann L v1 v2 wr) : ∀ q, PB r v1 v2 b q → w.heap.size ≤ q := by
  intro q hq
  have h1 := h.lo
  rcases hq with hq | rfl
  · have := h.rs.pB q hq; omega
  · exact h.lb
theorem AB.bne (h : AB w B r b x now1 ws now2 ann L v1 v2 wr) : ¬ PR r v1 v2 b := by
  intro hq
  have hb := h.bx
  rcases hq with e | e | e
  · rw [e, h.rs.node] at hb; cases hb
  · obtain ⟨cs, h1⟩ := Kd.R_typed h.rs.r1 b e
    rw [h1] at hb; cases hb
  · obtain ⟨cs, h1⟩ := Kd.R_typed h.rs.r2 b e
    rw [h1] at hb; cases hb
theorem AB.same (h : AB w B r b x now1 ws now2 ann L v1 v2 wr) (hs : St w (PB r v1 v2 b) w.heap.size now1' ws' w1) (hk : ∀ q, PB r v1 v2 b q → w1.heap[q]? = wr.heap[q]?) : AB w B r b x now1' ws' now2 ann L v1 v2 w1 :=
  ⟨hs, h.rs.keep (fun q hq => hk q (.inl hq)), (hk b (.inr rfl)).trans h.bx, h.lo, h.lb⟩
theorem AB.keep (h : AB w B r b x now1 ws now2 ann L v1 v2 wr) (hb : Below wr.heap.size wr w1) : AB w B r b x now1 ws now2 ann L v1 v2 w1 :=
  h.same (h.st.keep hb h.pB) (fun q hq => hb.block q (h.st.lt q hq))
theorem AB.retire (h : AB w B r b x now1 ws now2 ann L v1 v2 wr) (k : Nat) (t : Int) (hn : ws.length ≤ 1000) (hk : k < ws.length) (hl : (rowP ws k).length ≤ 1000000) :
    Calls Try.prog 10 #[.pointer (some ⟨w.heap.size, 0, none⟩), .int .i64 k, .int .i64 t] wr fun e w' => e = .returned (.int .i64 0) ∧ AB w B r b x now1 (retP now1 ws k t) now2 ann L v1 v2 w' := by
  refine (h.st.retire k t hn hk hl).mono ?_
  rintro e w' ⟨rfl, hs, hq⟩
  exact ⟨rfl, h.same hs hq⟩
theorem AB.announce (h : AB w B r b x now1 ws now2 ann L v1 v2 wr) (k : Nat) (hn : ws.length ≤ 1000) (hk : k < ws.length) (hl : (rowP ws k).length ≤ 1000000) (hf : Fine now1 (rowP ws k)) (h0 : 0 ≤ now1) (h1 : now1 ≤ 100000000) :
    Calls Try.prog 11 #[.pointer (some ⟨w.heap.size, 0, none⟩), .int .i64 k] wr fun e w' => ∃ A c, e = .returned (.tuple #[.slice A (outP now1 ws k).length c, .int .i64 0]) ∧ (Kd.int .i64).R 3 w' wr.heap.size (fun _ => True) (.slice A (outP now1 ws k).length c) (outP now1 ws k) ∧ AB w B r b x (nowP now1 ws k) (annP now1 ws k) now2 ann L v1 v2 w' ∧ ∀ q, PR r v1 v2 q → q < wr.heap.size := by
  refine (h.st.announce k hn hk hl hf h0 h1).mono ?_
  rintro e w' ⟨⟨A, c, rfl, hR⟩, hs, hq⟩
  exact ⟨A, c, rfl, hR, h.same hs hq, fun q hq => (h.rs.pB q hq).2⟩
theorem AB.announce_out (h : AB w B r b x now1 ws now2 ann L v1 v2 wr) (k : Int) (hn : ws.length ≤ 1000) (hk : k < 0 ∨ (ws.length : Int) ≤ k) :
    Calls Try.prog 11 #[.pointer (some ⟨w.heap.size, 0, none⟩), .int .i64 k] wr fun e w' => e = .returned (.tuple #[.slice none 0 0, .int .i64 1]) ∧ AB w B r b x now1 ws now2 ann L v1 v2 w' := by
  refine (h.st.announce_out k hn hk h.pB).mono ?_
  rintro e w' ⟨rfl, hs, hb⟩
  exact ⟨rfl, h.keep hb⟩
theorem AB.write (h : AB w B r b x now1 ws now2 ann L v1 v2 wr) (hk : Keep (PR r v1 v2) wr w1) (hs : RS B r now2' ann' L' v1 v2' w1) (hp : ∀ q, PR r v1 v2' q → PR r v1 v2 q ∨ wr.heap.size ≤ q) : AB w B r b x now1 ws now2' ann' L' v1 v2' w1 := by
  have hb := blk_lt h.bx
  refine ⟨h.st.write (hk.mono (fun _ _ h => .inl h)) h.pB (fun q hq => ?_), hs, hk.blk h.bx h.bne, h.lo, h.lb⟩
  rcases hq with hq | rfl
  · refine ⟨?_, (hs.pB q hq).2⟩
    rcases hp q hq with h2 | h2
    · exact .inl (.inl h2)
    · exact .inr h2
  · exact ⟨.inl (.inr rfl), Nat.lt_of_lt_of_le hb hk.size⟩
theorem AB.rann (h : AB w B r b x now1 ws now2 ann L v1 v2 wr) (k : Nat) (hk : k < ann.length) (hl : L.length ≤ 1000) (ha : ann.length ≤ 1000) (hn0 : 0 ≤ now2) (hn1 : now2 ≤ 1000000) (hf : ∀ x ∈ L, 0 ≤ x.f2 ∧ x.f2 ≤ now2) :
    Calls Try.prog 14 #[.pointer (some ⟨r, 0, none⟩), .int .i64 k] wr fun e w' => ∃ A c v8, e = .returned (.slice A (rOut (rNow now2 ann k) k L).length c) ∧ (Kd.int .i64).R 3 w' wr.heap.size (fun _ => True) (.slice A (rOut (rNow now2 ann k) k L).length c) (rOut (rNow now2 ann k) k L) ∧ AB w B r b x now1 ws (rNow now2 ann k) (ann.set k now2) (rLeft (rNow now2 ann k) k L) v1 v8 w' ∧ Keep (PR r v1 v2) wr w' := by
  refine (rann_any k wr h.rs hk hl ha hn0 hn1 hf).mono ?_
  rintro e w' ⟨A, c, v8, rfl, hR, hs, hk, hp⟩
  exact ⟨A, c, v8, rfl, hR, h.write hk hs hp, hk⟩
theorem AB.push (h : AB w B r b x now1 ws now2 ann L v1 v2 wr) {W w9 : World} {y : S45} {v9 : Value} (hW : Below wr.heap.size wr W) (hR : k45.R 45 w9 B (fun _ => True) v9 (L ++ [y])) (hg : W.grownBy w9 v2.ownBlock) (hat : v9.ownBlock = v2.ownBlock ∨ ∃ q, v9.ownBlock = some q ∧ W.heap.size ≤ q) :
    AB w B r b x now1 ws now2 ann (L ++ [y]) v1 v9 (w9.setCell ⟨r, 2, none⟩ v9) ∧ w9.heap[r]? = wr.heap[r]? ∧ w9.heap[b]? = wr.heap[b]? := by
  have hr := blk_lt h.rs.node
  have hbb := blk_lt h.bx
  have hk : ∀ q, q < wr.heap.size → v2.ownBlock ≠ some q → w9.heap[q]? = wr.heap[q]? := fun q hq hne => (hg.block q (Nat.lt_of_lt_of_le hq hW.size) (fun e => hne e.symm)).trans (hW.block q hq)
  have e1 : w9.heap[r]? = wr.heap[r]? := hk r hr (fun e => h.rs.ne2 r e rfl)
  have e2 : w9.heap[b]? = wr.heap[b]? := hk b hbb (fun e => h.bne (.inr (.inr e)))
  have hs : ∀ q, q ≠ r → (w9.setCell ⟨r, 2, none⟩ v9).heap[q]? = w9.heap[q]? := fun q hq => Below.heap_setCell w9 ⟨r, 2, none⟩ _ q hq
  have h9 : ∀ q, v9.ownBlock = some q → q ≠ r ∧ (v2.ownBlock = some q ∨ wr.heap.size ≤ q) := by
    intro q hq
    rcases hat with e | ⟨q', e, hq'⟩
    · rw [e] at hq; exact ⟨h.rs.ne2 q hq, .inl hq⟩
    · rw [e] at hq; cases hq
      have := hW.size
      exact ⟨by omega, .inr (by omega)⟩
  refine ⟨h.write (v2' := v9) ((Keep.mk (S := PR r v1 v2) (hg.os.trans hW.os) (hg.tape.trans hW.tape) (hg.output.trans hW.output) (Nat.le_trans hW.size hg.size) (fun q hq hn => hk q hq (fun e => hn (.inr (.inr e))))).set (.inr (.inl rfl)) _) ⟨blk_set (e1.trans h.rs.node) 2 v9, nums_flat h.rs.r1 (fun _ _ => trivial) (fun q hq => (hs q (h.rs.ne1 q hq)).trans (hk q (nums_own h.rs.r1 q hq).2.2 (h.rs.ne12 q hq))), k45_flat hR (fun _ _ => trivial) (fun q hq => hs q (h9 q hq).1), h.rs.lo⟩ (fun q hq => ?_), e1, e2⟩
  rcases hq with rfl | hq | hq
  · exact .inl (.inl rfl)
  · exact .inl (.inr (.inl hq))
  · rcases (h9 q hq).2 with e | e
    · exact .inl (.inr (.inr e))
    · exact .inr e
end
def AC (w : World) (r n i : Nat) (v1 v2 : Value) (wr : World) : Prop := ∃ now ws ann L B, RA n i now ws ann L ∧ St w (PR r v1 v2) w.heap.size now ws wr ∧ RS B r now ann L v1 v2 wr ∧ w.heap.size ≤ B
theorem AB.ac {w wr : World} {B r b n i : Nat} {x : S30} {now : Int} {ws : List (Int × List Rt)} {ann : List Int} {L : List S45} {v1 v2 : Value} (h : AB w B r b x now ws now ann L v1 v2 wr) (ha : RA n i now ws ann L) : AC w r n i v1 v2 wr :=
  ⟨now, ws, ann, L, B, ha, h.st.less (fun _ h => .inl h), h.rs, h.lo⟩
theorem AB.start {w wr : World} {B r : Nat} {now : Int} {ws : List (Int × List Rt)} {ann : List Int} {L : List S45} {v1 v2 : Value} (hst : St w (PR r v1 v2) w.heap.size now ws wr) (hrs : RS B r now ann L v1 v2 wr) (hB : w.heap.size ≤ B) (x : S30) :
    AB w B r wr.heap.size x now ws now ann L v1 v2 (wr.alloc (.cells #[.bool x.f0, .int .i64 x.f1, .int .i64 x.f2] 30)) := by
  have hb := (Below.refl wr.heap.size wr).alloc (Nat.le_refl _) (.cells #[.bool x.f0, .int .i64 x.f1, .int .i64 x.f2] 30)
  have hrs1 := hrs.below hb
  refine ⟨hst.write (Keep.of_below hb _) (fun q hq => by have := hrs.pB q hq; omega) (fun q hq => ?_), hrs1, alloc_blk _ _, hB, hst.below.size⟩
  rcases hq with hq | rfl
  · exact ⟨.inl hq, (hrs1.pB q hq).2⟩
  · exact ⟨.inr (Nat.le_refl _), blk_lt (alloc_blk _ _)⟩
end Go.Proofs.Ythbooikhegppnaa.H
