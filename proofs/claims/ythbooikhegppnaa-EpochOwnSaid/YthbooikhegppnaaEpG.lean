/- slices.DeleteFunc with Announce's closure; Announce. -/
import Derived.Test.YthbooikhegppnaaEpF
set_option linter.unusedVariables false
set_option linter.unusedSimpArgs false
namespace Go.Proofs.Ythbooikhegppnaa.H
open Go.RowKit Go.Hay Go.Proofs.YthbooikhegppnaaW.PrintWords Go.Proofs.YthbooikhegppnaaW.PrintLast Go.Proofs.YthbooikhegppnaaW.PrintMore
def goneT (now : Int) (xs : List Rt) : List Int := (xs.filter (readyB now)).map (·.t)
def left (now : Int) (xs : List Rt) : List Rt := xs.filter (fun x => !readyB now x)
theorem gone_take {now : Int} {xs : List Rt} {i : Nat} (h : i < xs.length) : goneT now (xs.take (i + 1)) = goneT now (xs.take i) ++ (if readyB now xs[i] = true then [xs[i].t] else []) := by
  unfold goneT
  rw [List.take_succ_eq_append_getElem h, List.filter_append, List.map_append]
  congr 1
  cases hr : readyB now xs[i] <;> simp [List.filter_cons, hr]
theorem left_take {now : Int} {xs : List Rt} {i : Nat} (h : i < xs.length) : left now (xs.take (i + 1)) = left now (xs.take i) ++ (if readyB now xs[i] = true then [] else [xs[i]]) := by
  unfold left
  rw [List.take_succ_eq_append_getElem h, List.filter_append]
  congr 1
  cases hr : readyB now xs[i] <;> simp [List.filter_cons, hr]
theorem gone_len (now : Int) (xs : List Rt) : (goneT now xs).length ≤ xs.length := by
  unfold goneT; rw [List.length_map]; exact List.length_filter_le _ _
theorem gone_none {now : Int} {xs : List Rt} (h : xs.any (readyB now) = false) : goneT now xs = [] ∧ left now xs = xs := by
  have h2 : ∀ x ∈ xs, readyB now x = false := fun x hx => by
    cases hr : readyB now x with
    | false => rfl
    | true => rw [List.any_eq_true.2 ⟨x, hx, hr⟩] at h; cases h
  constructor
  · unfold goneT; rw [List.filter_eq_nil_iff.2 (fun x hx => by rw [h2 x hx]; simp)]; rfl
  · unfold left; exact List.filter_eq_self.2 (fun x hx => by rw [h2 x hx]; rfl)
/-- what the loops need of the world: the limbo's row, x's box, the epoch; all of it ahead of o. -/
structure LI (B q p b o : Nat) (now : Int) (n cap : Nat) (ys : List Rt) (out : List Int) (w : World) : Prop where
  row : kRt.R 62 w B (fun k => k = q) (.slice (some ⟨q, 0, none⟩) n cap) ys
  xb : XB p b now w
  out : OutI o out w
  qo : q < o
  po : p < o
  bo : b < o
theorem LI.step {B q p b o : Nat} {now : Int} {n cap : Nat} {ys : List Rt} {out out' : List Int} {w w' : World} (h : LI B q p b o now n cap ys out w) (hb : Below o w w') (ho : OutI o out' w') : LI B q p b o now n cap ys out' w' :=
  ⟨rt_flat h.row h.row.1 (fun k hk => hb.block k (by have := h.row.1 k hk; have := h.qo; omega)), h.xb.keep (hb.block p h.po) (hb.block b h.bo), ho, h.qo, h.po, h.bo⟩
theorem LI.keepB {B q p b o : Nat} {now : Int} {n cap : Nat} {ys : List Rt} {out : List Int} {w w' : World} (h : LI B q p b o now n cap ys out w) (hb : Below w.heap.size w w') : LI B q p b o now n cap ys out w' :=
  h.step (hb.mono (Nat.le_of_lt h.out.lt)) (h.out.below hb)
def Fine (now : Int) (xs : List Rt) : Prop := ∀ x ∈ xs, 0 ≤ x.at_ ∧ x.at_ ≤ now
set_option maxRecDepth 100000 in
set_option maxHeartbeats 4000000 in
theorem index25_any (B q p b o : Nat) (now : Int) (cap : Nat) (xs : List Rt) (out : List Int) (w : World) (h : LI B q p b o now xs.length cap xs out w) (hl : out.length + xs.length ≤ 1000000) (hf : Fine now xs) (hn : now ≤ 1000000000) :
    Calls Try.prog 25 #[.slice (some ⟨q, 0, none⟩) xs.length cap, .func (.func 23) #[] #[.pointer (some ⟨p, 0, none⟩), .pointer (some ⟨o, 0, none⟩)]] w fun e w' => Below o w w' ∧
      ((e = .returned (.int .i64 (-1)) ∧ xs.any (readyB now) = false ∧ OutI o out w') ∨ ∃ i, ∃ h : i < xs.length, e = .returned (.int .i64 (i : Nat)) ∧ (xs.take i).any (readyB now) = false ∧ readyB now xs[i] = true ∧ OutI o (out ++ [xs[i].t]) w') := by
  have HH := Aside0.mk (And.intro h (And.intro hf hn))
  have HW := Aside0.mk (show Below o w w ∧ OutI o out w from ⟨Below.refl _ _, h.out⟩)
  clear h hf hn
  go_enter Try.func25, Try.ntmps25
  go_wp2_with fail
  go_loopw [8] (fun v8 wr => ∃ (i : Nat), v8 = .int .i64 i ∧ i ≤ xs.length ∧ Aside0 ((xs.take i).any (readyB now) = false) ∧ Aside0 (Below o w wr ∧ OutI o out wr)) (fun v8 _ => xs.length - (intOf v8).toNat)
  case atStart => exact ⟨0, rfl, Nat.zero_le _, ⟨rfl⟩, HW⟩
  case round =>
    clear HW
    obtain ⟨i, rfl, hi, HN, HD⟩ := hrel
    by_cases hlt : i < xs.length
    · have hL := HH.out.1.step HD.out.1 HD.out.2
      obtain ⟨h0, h1, -, -⟩ := rt_at hL.row hlt
      have hany := any_take (readyB now) xs i hlt
      rw [HN.out, Bool.false_or] at hany
      have hfx := HH.out.2.1 xs[i] (List.getElem_mem hlt)
      obtain ⟨x, hx⟩ : ∃ x, x = xs[i] := ⟨_, rfl⟩
      rw [← hx] at h0 h1 hany hfx
      have HANY := Aside0.mk hany
      have HX := Aside0.mk (show ∃ h : i < xs.length, x = xs[i] from ⟨hlt, hx⟩)
      have HC := Aside0.mk (c23_any x p b o now out wr hL.xb hL.out (by omega) hfx.1 hfx.2 HH.out.2.2)
      have ho := hL.qo
      clear hL hany hfx hx ho
      go_wp2_with fail
      refine HC.out.mono ?_
      rintro e w2 ⟨rfl, hd1, hd2, -⟩
      have HD2 := Aside0.mk (And.intro (HD.out.1.trans hd2) hd1)
      clear hd1 hd2 h0 h1 HC
      cases hb : readyB now x with
      | true =>
        have hbo := HD2.out
        rw [hb, if_pos rfl] at hbo
        have HD3 := Aside0.mk (And.intro hbo hb)
        clear hbo hb HD2 HANY
        go_wp2_with fail
        go_ret
        obtain ⟨hlt2, hx⟩ := HX.out
        exact ⟨HD3.out.1.1, .inr ⟨i, hlt2, rfl, HN.out, by rw [← hx]; exact HD3.out.2, by rw [← hx]; exact HD3.out.1.2⟩⟩
      | false =>
        rw [hb] at HANY
        have hbo := HD2.out
        rw [hb, if_neg (by simp)] at hbo
        have HD3 := Aside0.mk hbo
        clear HN hb hbo HD2
        go_wp2_with fail
        go_roundw
        case rel => exact ⟨i + 1, by go_num, by omega, HANY, HD3⟩
        case measure => simp [intOf]; omega
    · obtain rfl : i = xs.length := by omega
      rw [List.take_length] at HN
      clear hlt
      go_wp2_with fail
      go_ret
      exact ⟨HD.out.1, .inl ⟨rfl, HN.out, HD.out.2⟩⟩
#print axioms index25_any
theorem hz62 : ∀ w, (zeroValue 62).run Try.prog w = .ok (.agg #[.int .i64 0, .int .i64 0]) w := fun _ => by kernel_rfl
set_option maxRecDepth 100000 in
theorem index25_nil (p o : Nat) (w : World) : Calls Try.prog 25 #[.slice none 0 0, .func (.func 23) #[] #[.pointer (some ⟨p, 0, none⟩), .pointer (some ⟨o, 0, none⟩)]] w fun e w' => e = .returned (.int .i64 (-1)) ∧ w = w' := by
  go_enter Try.func25, Try.ntmps25
  go_wp2_with fail
  go_loop [8] (fun v8 => v8 = .int .i64 0) (fun _ => 0)
  case atStart => rfl
  case round =>
    obtain rfl := hrel
    go_wp2_with fail
    go_ret
    exact ⟨rfl, rfl⟩
set_option maxRecDepth 100000 in
theorem delete_nil (p o : Nat) (w : World) : Calls Try.prog 22 #[.slice none 0 0, .func (.func 23) #[] #[.pointer (some ⟨p, 0, none⟩), .pointer (some ⟨o, 0, none⟩)]] w fun e w' => e = .returned (.slice none 0 0) ∧ w = w' := by
  have H := Aside0.mk (index25_nil p o w)
  go_enter Try.func22, Try.ntmps22
  go_wp2_with fail
  refine H.out.mono ?_
  rintro e w' ⟨rfl, rfl⟩
  go_wp2_with fail
  go_ret
  exact ⟨rfl, rfl⟩
/-- the loop of DeleteFunc. -/
structure DI (B q p b o : Nat) (now : Int) (cap : Nat) (xs : List Rt) (out : List Int) (w : World) (j i : Nat) (ys : List Rt) (w' : World) : Prop where
  li : LI B q p b o now xs.length cap ys (out ++ goneT now (xs.take j)) w'
  len : ys.length = xs.length
  low : ys.take i = left now (xs.take j)
  high : ys.drop j = xs.drop j
  ilen : i = (left now (xs.take j)).length
  ij : i < j
  jn : j ≤ xs.length
  keep : Keep (fun k => k = q ∨ o ≤ k) w w'
theorem high_next {α : Type} {ys xs : List α} {j : Nat} (h : ys.drop j = xs.drop j) : ys.drop (j + 1) = xs.drop (j + 1) := by
  have := congrArg (List.drop 1) h
  rw [List.drop_drop, List.drop_drop] at this
  exact this
theorem keep_two {o : Nat} {S : Nat → Prop} {w w1 w2 : World} (h1 : Below w.heap.size w w1) (h2 : Below o w1 w2) (hS : ∀ k, k < w.heap.size → ¬ S k → ¬ o ≤ k) : Keep S w w2 :=
  ⟨h2.os.trans h1.os, h2.tape.trans h1.tape, h2.output.trans h1.output, Nat.le_trans h1.size h2.size, fun k hk hn => (h2.block k (Nat.lt_of_not_le (hS k hk hn))).trans (h1.block k hk)⟩
set_option maxRecDepth 100000 in
set_option maxHeartbeats 8000000 in
theorem delete_any (B q p b o : Nat) (now : Int) (cap : Nat) (xs : List Rt) (out : List Int) (w : World) (h : LI B q p b o now xs.length cap xs out w) (hp : p ≠ q) (hb : b ≠ q) (hl : out.length + xs.length ≤ 1000000) (hf : Fine now xs) (hn : now ≤ 1000000000) :
    Calls Try.prog 22 #[.slice (some ⟨q, 0, none⟩) xs.length cap, .func (.func 23) #[] #[.pointer (some ⟨p, 0, none⟩), .pointer (some ⟨o, 0, none⟩)]] w fun e w' =>
      e = .returned (.slice (some ⟨q, 0, none⟩) (left now xs).length cap) ∧ kRt.R 62 w' B (fun k => k = q) (.slice (some ⟨q, 0, none⟩) (left now xs).length cap) (left now xs) ∧ OutI o (out ++ goneT now xs) w' ∧ Keep (fun k => k = q ∨ o ≤ k) w w' := by
  have HI := Aside0.mk (index25_any B q p b o now cap xs out w h hl hf hn)
  have HH := Aside0.mk (And.intro h (And.intro hf (And.intro hn (And.intro hp hb))))
  clear h hf hn hp hb
  go_enter Try.func22, Try.ntmps22
  go_wp2_with fail
  refine HI.out.mono ?_
  rintro e w1 ⟨hb1, hres⟩
  have HB := Aside0.mk hb1
  rcases hres with ⟨rfl, hany, hout⟩ | ⟨i0, hi0, rfl, hany, hrd, hout⟩
  · have HX := Aside0.mk (And.intro (gone_none hany) hout)
    clear hany hout hb1 HI
    go_wp2_with fail
    go_ret
    obtain ⟨⟨h1, h2⟩, h3⟩ := HX.out
    have hL := HH.out.1.step HB.out h3
    rw [h2, h1, List.append_nil]
    exact ⟨rfl, hL.row, h3, ⟨HB.out.os, HB.out.tape, HB.out.output, HB.out.size, fun k hk hn => HB.out.block k (Nat.lt_of_not_le (fun e => hn (.inr e)))⟩⟩
  · have hgn := gone_none hany
    have hx1 : goneT now (xs.take (i0 + 1)) = [xs[i0].t] := by rw [gone_take hi0, hgn.1, if_pos hrd]; rfl
    have hx2 : left now (xs.take (i0 + 1)) = xs.take i0 := by rw [left_take hi0, hgn.2, if_pos hrd, List.append_nil]
    have HD := Aside0.mk (show DI B q p b o now cap xs out w (i0 + 1) i0 xs w1 from ⟨by rw [hx1]; exact HH.out.1.step hb1 hout, rfl, hx2.symm, rfl, by rw [hx2, List.length_take]; omega, by omega, by omega,
      ⟨hb1.os, hb1.tape, hb1.output, hb1.size, fun k hk hn => hb1.block k (Nat.lt_of_not_le (fun e => hn (.inr e)))⟩⟩)
    have hne : ((i0 : Int) == -1) = false := by rw [beq_eq_false_iff_ne]; omega
    clear hgn hx1 hx2 hany hrd hout hb1 HI HB
    go_wp2_with fail
    go_loopw [5, 6] (fun v5 v6 wr => ∃ (j i : Nat) (ys : List Rt), v5 = .int .i64 i ∧ v6 = .int .i64 j ∧ j ≤ xs.length ∧ Aside0 (DI B q p b o now cap xs out w j i ys wr)) (fun _ v6 _ => xs.length - (intOf v6).toNat)
    case atStart => exact ⟨i0 + 1, i0, xs, rfl, by go_num, by omega, HD⟩
    case round =>
      clear HD
      obtain ⟨j, i, ys, rfl, rfl, hj, HD⟩ := hrel
      by_cases hlt : j < xs.length
      · have hjy : j < ys.length := by rw [HD.out.len]; exact hlt
        obtain ⟨h0, h1, -, -⟩ := rt_at HD.out.li.row hjy
        have hyx : ys[j] = xs[j] := by
          have e := congrArg (fun l => l[0]?) HD.out.high
          simp only [List.getElem?_drop, Nat.add_zero] at e
          rw [List.getElem?_eq_getElem hjy, List.getElem?_eq_getElem hlt] at e
          exact Option.some.inj e
        have hfx := HH.out.2.1 xs[j] (List.getElem_mem hlt)
        obtain ⟨x, hx⟩ : ∃ x, x = xs[j] := ⟨_, rfl⟩
        rw [hyx, ← hx] at h0 h1
        rw [← hx] at hfx
        have HX := Aside0.mk (And.intro (show ∃ h : j < xs.length, x = xs[j] from ⟨hlt, hx⟩) hjy)
        have hba := (Below.refl wr.heap.size wr).alloc (Nat.le_refl _) (.cells #[.int .i64 x.t, .int .i64 x.at_] 62)
        have hbl := alloc_blk wr (.cells #[.int .i64 x.t, .int .i64 x.at_] 62)
        have hLa := HD.out.li.keepB hba
        have HC := Aside0.mk (c23_any x p b o now _ _ hLa.xb hLa.out (by rw [List.length_append]; have := gone_len now (xs.take j); rw [List.length_take] at this; omega) hfx.1 hfx.2 HH.out.2.2.1)
        have HA := Aside0.mk (And.intro hba (And.intro hbl hLa))
        have hij := HD.out.ij
        clear hyx hfx hx hba hbl hLa
        go_wp2_with fail
        refine HC.out.mono ?_
        rintro e w2 ⟨rfl, hd1, hd2, hd3⟩
        have HL2 := Aside0.mk (And.intro (HA.out.2.2.step hd2 hd1) (And.intro hd2 (hd3 _ _ HA.out.2.1)))
        clear hd1 hd2 hd3 h0 h1 HC
        have hiy : i < ys.length := by omega
        cases hb : readyB now x with
        | true =>
          have HD3 := Aside0.mk (show DI B q p b o now cap xs out w (j + 1) i ys w2 from by
            obtain ⟨⟨hlt2, hx⟩, hjy2⟩ := HX.out
            have hb2 := hb
            rw [hx] at hb2
            have h2 := HL2.out.1
            rw [hb, if_pos rfl, hx] at h2
            exact ⟨by rw [gone_take hlt, if_pos hb2, ← List.append_assoc]; exact h2, HD.out.len, by rw [left_take hlt, if_pos hb2, List.append_nil]; exact HD.out.low, high_next HD.out.high, by rw [left_take hlt, if_pos hb2, List.append_nil]; exact HD.out.ilen, by omega, by omega,
              HD.out.keep.trans (keep_two HA.out.1 HL2.out.2.1 (fun k hk hn => fun e => hn (.inr e)))⟩)
          clear hb HD HL2 HA
          go_wp2_with fail
          go_roundw
          case rel => exact ⟨j + 1, i, ys, rfl, by go_num, by omega, HD3⟩
          case measure => simp [intOf]; omega
        | false =>
          have HD3 := Aside0.mk (show DI B q p b o now cap xs out w (j + 1) (i + 1) (ys.set i x) ((w2.setCell ⟨q, i * 2, none⟩ (.int .i64 x.t)).setCell ⟨q, i * 2 + 1, none⟩ (.int .i64 x.at_)) from by
            obtain ⟨⟨hlt2, hx⟩, hjy2⟩ := HX.out
            have hb2 := hb
            rw [hx] at hb2
            have h2 := HL2.out.1
            rw [hb, if_neg (by simp)] at h2
            have hk2 : Keep (fun k => k = q) w2 ((w2.setCell ⟨q, i * 2, none⟩ (.int .i64 x.t)).setCell ⟨q, i * 2 + 1, none⟩ (.int .i64 x.at_)) := Keep.set (p := ⟨q, i * 2 + 1, none⟩) (Keep.set (p := ⟨q, i * 2, none⟩) (Keep.refl (fun k => k = q) w2) (.inr rfl) _) (.inr rfl) _
            have hnb : ¬ readyB now xs[j] = true := by rw [hb2]; simp
            refine ⟨?_, by rw [List.length_set]; exact HD.out.len, ?_, ?_, ?_, by omega, by omega, ?_⟩
            · rw [gone_take hlt, if_neg hnb, List.append_nil]
              exact ⟨rt_set h2.row hiy x, h2.xb.keep (hk2.block p (blk_lt h2.xb.box) HH.out.2.2.2.1) (hk2.block b (World.block_lt_of_cell? w2 _ h2.xb.now) HH.out.2.2.2.2), h2.out.keep hk2 (fun k hk e => by have := h2.qo; omega), h2.qo, h2.po, h2.bo⟩
            · rw [left_take hlt, if_neg hnb, ← HD.out.low, ← hx]
              rw [List.take_succ_eq_append_getElem (by rw [List.length_set]; exact hiy), List.getElem_set_self, List.take_set_of_le (Nat.le_refl _)]
            · rw [List.drop_set_of_lt (by omega)]; exact high_next HD.out.high
            · rw [left_take hlt, if_neg hnb, List.length_append, ← HD.out.ilen]; rfl
            · exact (HD.out.keep.trans (keep_two HA.out.1 HL2.out.2.1 (fun k hk hn => fun e => hn (.inr e)))).trans (hk2.mono (fun k _ e => .inl e)))
          obtain ⟨s0, s1, z0, z1⟩ := rt_at HL2.out.1.row hiy
          have v0 := blk_cell HL2.out.2.2 0
          have v1 := blk_cell HL2.out.2.2 1
          have hil : ((i : Int) < (xs.length : Int)) = True := eq_true (by have := HD.out.len; omega)
          clear hb HD HL2 HA
          go_wp2_with fail
          go_roundw
          case rel => exact ⟨j + 1, i + 1, _, by go_num, by go_num, by omega, HD3⟩
          case measure => simp [intOf]; omega
      · obtain rfl : j = xs.length := by omega
        obtain ⟨hli, hlen, hlow, -, hil, hij, -, hkp⟩ := HD.out
        rw [List.take_length] at hli hlow hil
        obtain ⟨hi62, e62, z62⟩ : ∃ inf, Try.prog.info? 62 = some inf ∧ inf.size = 2 := ⟨_, rfl, rfl⟩
        have hq := Kd.R_reads' hli.row
        have hcut : ∀ W, (Instr.slice 56 (.slice (some ⟨q, 0, none⟩) xs.length cap) (some (.int .i64 (i : Int))) none none).run Try.prog W = .ok (.slice (some ⟨q, i * 2, none⟩) (xs.length - i) (cap - i)) W := fun W => by
          have := cut_from (P := Try.prog) 56 62 .i64 Try.underlying56 e62 2 z62 (some ⟨q, 0, none⟩) xs.length cap (i : Int) (by omega) (by omega) W
          rw [Int.toNat_natCast, if_neg (by omega), Option.map_some, add_plain] at this
          exact this
        have hcut2 : ∀ W, (Instr.slice 56 (.slice (some ⟨q, 0, none⟩) xs.length cap) none (some (.int .i64 (i : Int))) none).run Try.prog W = .ok (.slice (some ⟨q, 0, none⟩) i cap) W := fun W => by
          have := cut_to (P := Try.prog) 56 62 .i64 Try.underlying56 e62 (some ⟨q, 0, none⟩) xs.length cap (i : Int) (by omega) (by omega) (by omega) W
          rw [Int.toNat_natCast] at this
          exact this
        have hclr := fun ty => run_clear_pairs (P := Try.prog) wr 56 62 ty Try.underlying56 hz62 q (i * 2) (xs.length - i) (cap - i) (by omega) (fun m hm => by
          have hlt2 : i + m / 2 < ys.length := by omega
          obtain ⟨s0, s1, _, _⟩ := rt_at hli.row hlt2
          rcases Nat.mod_two_eq_zero_or_one m with h2 | h2
          · rw [show i * 2 + m = (i + m / 2) * 2 by omega, s0]; rfl
          · rw [show i * 2 + m = (i + m / 2) * 2 + 1 by omega, s1]; rfl) (fun m hm => by
          have hlt2 : i + m / 2 < ys.length := by omega
          obtain ⟨_, _, s0, s1⟩ := rt_at hli.row hlt2
          rcases Nat.mod_two_eq_zero_or_one m with h2 | h2
          · rw [show i * 2 + m = (i + m / 2) * 2 by omega, s0]
          · rw [show i * 2 + m = (i + m / 2) * 2 + 1 by omega, s1])
        have hk2 := setCells_keep (g := q) (List.replicate ((xs.length - i) * 2) (.int .i64 0)) (i * 2) wr (fun k => k = q) rfl
        have HE := Aside0.mk (And.intro (rt_clear hli.row (i := i) (by omega) (List.replicate ((xs.length - i) * 2) (.int .i64 0)) (by rw [List.length_replicate]; omega)) (And.intro hk2 (And.intro hli (And.intro hlow (And.intro hil hkp)))))
        clear hk2 hli hlow hkp HD hq e62 z62
        clear hil hlen hij
        go_wp2_with fail
        go_ret
        obtain ⟨h1, h2, h3, h4, h5, h6⟩ := HE.out
        rw [h4] at h1
        rw [← h5]
        exact ⟨rfl, h1, h3.out.keep h2 (fun k hk e => by have := h3.qo; omega), h6.trans (h2.mono (fun k _ e => .inl e))⟩
#print axioms delete_any
end Go.Proofs.Ythbooikhegppnaa.H
