/- The reference's Right and Many of nodes of a list, in plain words: what the tree's are. -/
import Derived.Test.YtiplpkjjplicjaaMPlain
import Derived.Test.YtiplpkjjplicjaaMOf
import Derived.Test.YtiplpkjjplicjaaH11
import Derived.Test.YtiplpkjjplicjaaH22
import Derived.Test.YtiplpkjjplicjaaH23
import Derived.Test.YtiplpkjjplicjaaMAwake
set_option linter.unusedVariables false
set_option linter.unusedSimpArgs false
namespace Go.Proofs.Ytiplpkjjplicjaa.H
open Go.RowKit Go.Hay Go.Proofs.YtiplpkjjplicjaaW.PrintWords Go.Proofs.YtiplpkjjplicjaaW.PrintLast Go.Proofs.YtiplpkjjplicjaaW.PrintMore
theorem ev_succ {α : Type} {f g : Nat → Option α} {r : α} (h : ∀ k, f (k + 1) = g k) (hg : Ev g r) : Ev f r := by
  obtain ⟨K, hK⟩ := hg
  exact ⟨K + 1, fun k hk => by obtain ⟨j, rfl⟩ : ∃ j, k = j + 1 := ⟨k - 1, by omega⟩; rw [h]; exact hK j (by omega)⟩
theorem ev_now {α : Type} {f : Nat → Option α} {r : α} (h : ∀ k, f (k + 1) = some r) : Ev f r := ⟨1, fun k hk => by obtain ⟨j, rfl⟩ : ∃ j, k = j + 1 := ⟨k - 1, by omega⟩; exact h j⟩
theorem wrap_small {a : Int} (h0 : -9000000000000000000 ≤ a) (h1 : a ≤ 9000000000000000000) : wrap64 a = a := by unfold wrap64; omega
theorem rd64_at {xs : List S64} {j : Nat} (h : j < xs.length) : rd_T64 xs (j : Int) = xs[j] := by simp [rd_T64, h]
section
variable {l : List S63} (hG : Good l)
def afterP (ks : List T) (d : Int) : Option Int → Bool
  | none => false
  | some q => if q = (ks.length : Int) then rightTs ks (d + 1) else false
theorem right_l1 (d : Int) (hd0 : 0 ≤ d) (hd : d ≤ 30) (ps : List S64) (kd : List Int) (v f : Int) (n : Nat) (hk : kd.length ≤ 1000)
    (ih : ∀ k ∈ kd, ∃ m : Nat, k = m ∧ Ev (fun q => haymowref07_Right.f q l k (d + 1)) (rightT (treeN l n m) (d + 1))) :
    ∀ (r i : Nat), kd.length - i = r → i ≤ kd.length → Ev (fun q => haymowref07_Right.l1 q l d i ps kd v f) (rightTs ((kd.drop i).map fun k => treeN l n k.toNat) (d + 1))
  | 0, i, hr, hi => by
    have : i = kd.length := by omega
    subst this
    rw [List.drop_length]
    exact ev_now (fun k => by rw [haymowref07_Right.l1, if_neg (by omega)]; rfl)
  | r + 1, i, hr, hi => by
    have hlt : i < kd.length := by omega
    obtain ⟨m, hm, hev⟩ := ih kd[i] (List.getElem_mem hlt)
    have hrd : rd kd (i : Int) = kd[i] := by simp [rd, hlt]
    have hw : wrap64 (d + 1) = d + 1 := wrap_small (by omega) (by omega)
    have hwi : wrap64 ((i : Int) + 1) = ((i + 1 : Nat) : Int) := by rw [wrap_small (by omega) (by omega)]; rfl
    rw [List.drop_eq_getElem_cons hlt, List.map_cons, rightTs, hm, Int.toNat_natCast]
    refine ev_succ (g := fun k => (haymowref07_Right.f k l kd[i] (d + 1)).bind fun t115 => if t115 = true then haymowref07_Right.l1 k l d ((i + 1 : Nat) : Int) ps kd v f else some false) (fun k => ?_) ?_
    · rw [haymowref07_Right.l1, if_pos (by omega), if_pos (by omega), hrd, hw, hwi]
    · refine Ev.bind hev ?_
      have h2 := right_l1 d hd0 hd ps kd v f n hk ih r (i + 1) (by omega) (by omega)
      cases rightT (treeN l n m) (d + 1) with
      | true => simpa using h2
      | false => exact ⟨0, fun _ _ => by simp⟩
theorem right_l0 (d : Int) (hd0 : 0 ≤ d) (hd : d ≤ 30) (ps : List S64) (kd : List Int) (v f : Int) (n : Nat) (hk : kd.length ≤ 1000) (hp : ps.length ≤ 1000)
    (ih : ∀ k ∈ kd, ∃ m : Nat, k = m ∧ Ev (fun q => haymowref07_Right.f q l k (d + 1)) (rightT (treeN l n m) (d + 1))) :
    ∀ (r i : Nat) (m : Int), ps.length - i = r → i ≤ ps.length → 0 ≤ m → m ≤ i → Ev (fun q => haymowref07_Right.l0 q l d m i ps kd v f) (afterP (kd.map fun k => treeN l n k.toNat) d (metP m (ps.drop i)))
  | 0, i, m, hr, hi, hm0, hm => by
    have : i = ps.length := by omega
    subst this
    rw [List.drop_length, metP, afterP, List.length_map]
    by_cases hmk : m = (kd.length : Int)
    · rw [if_pos hmk]
      refine ev_succ (g := fun k => haymowref07_Right.l1 k l d ((0 : Nat) : Int) ps kd v f) (fun k => ?_) ?_
      · rw [haymowref07_Right.l0, if_neg (by omega), if_pos hmk]; rfl
      · have := right_l1 d hd0 hd ps kd v f n hk ih kd.length 0 rfl (Nat.zero_le _)
        simpa using this
    · rw [if_neg hmk]
      exact ev_now (fun k => by rw [haymowref07_Right.l0, if_neg (by omega), if_neg hmk])
  | r + 1, i, m, hr, hi, hm0, hm => by
    have hlt : i < ps.length := by omega
    have hrd := rd64_at hlt
    have hwi : wrap64 ((i : Int) + 1) = ((i + 1 : Nat) : Int) := by rw [wrap_small (by omega) (by omega)]; rfl
    have hwm : wrap64 (m + 1) = m + 1 := wrap_small (by omega) (by omega)
    rw [List.drop_eq_getElem_cons hlt, metP]
    by_cases h1 : ps[i].f0 = true
    · rw [if_pos h1]
      by_cases h2 : ps[i].f1 = m
      · rw [if_pos h2]
        refine ev_succ (fun k => ?_) (right_l0 d hd0 hd ps kd v f n hk hp ih r (i + 1) (m + 1) (by omega) (by omega) (by omega) (by omega))
        rw [haymowref07_Right.l0, if_pos (by omega), if_pos (by omega), hrd, if_pos h1, if_pos h2, hwi, hwm]
      · rw [if_neg h2]
        exact ev_now (fun k => by rw [haymowref07_Right.l0, if_pos (by omega), if_pos (by omega), hrd, if_pos h1, if_neg h2]; rfl)
    · rw [if_neg h1]
      refine ev_succ (fun k => ?_) (right_l0 d hd0 hd ps kd v f n hk hp ih r (i + 1) m (by omega) (by omega) (by omega) (by omega))
      rw [haymowref07_Right.l0, if_pos (by omega), if_pos (by omega), hrd, if_neg h1, hwi]
include hG in
theorem right_plain : ∀ (n i : Nat) (d : Int), l.length - i ≤ n → i < l.length → 0 ≤ d → d ≤ 31 → Ev (fun k => haymowref07_Right.f k l i d) (rightT (treeN l n i) d)
  | 0, i, d, h, hi, _, _ => by omega
  | n + 1, i, d, h, hi, hd0, hd1 => by
    have hyd : rd_T63 l (i : Int) = l.getD i z63 := by unfold rd_T63; rw [Int.toNat_natCast]
    have hmem : l.getD i z63 ∈ l := by rw [List.getD_eq_getElem?_getD, List.getElem?_eq_getElem hi]; exact List.getElem_mem hi
    have hup : ∀ k ∈ (l.getD i z63).f1, (i : Int) < k ∧ k < (l.length : Int) := by
      have : l.getD i z63 = l[i] := by rw [List.getD_eq_getElem?_getD, List.getElem?_eq_getElem hi]; rfl
      rw [this]; exact hG.up i hi
    rw [treeN]
    have hp := hG.ps _ hmem
    have hk := hG.ks _ hmem
    by_cases hc : d > 30
    · rw [right_early (.inl hc)]
      refine ev_succ (g := fun k => haymowref07_Right.j0 k l d true (l.getD i z63).f0 (l.getD i z63).f1 (l.getD i z63).f2 (l.getD i z63).f3) (fun k => ?_) (ev_now (fun k => by rw [haymowref07_Right.j0, if_pos rfl]))
      rw [haymowref07_Right.f, if_pos (by omega), if_pos (by omega), if_pos hc, hyd]
    · have hgo : ∀ b : Bool, b = false → Ev (fun k => haymowref07_Right.j0 k l d b (l.getD i z63).f0 (l.getD i z63).f1 (l.getD i z63).f2 (l.getD i z63).f3) (afterP ((l.getD i z63).f1.map fun k => treeN l n k.toNat) d (metP 0 (l.getD i z63).f0)) := by
        rintro b rfl
        refine ev_succ (g := fun k => haymowref07_Right.l0 k l d 0 ((0 : Nat) : Int) (l.getD i z63).f0 (l.getD i z63).f1 (l.getD i z63).f2 (l.getD i z63).f3) (fun k => by rw [haymowref07_Right.j0, if_neg (by simp)]; rfl) ?_
        have := right_l0 (l := l) d hd0 (by omega) (l.getD i z63).f0 (l.getD i z63).f1 (l.getD i z63).f2 (l.getD i z63).f3 n hk hp (fun k hkm => by
          obtain ⟨m, rfl⟩ := Int.eq_ofNat_of_zero_le (show 0 ≤ k by have := (hup k hkm).1; omega)
          exact ⟨m, rfl, right_plain n m (d + 1) (by have := (hup _ hkm).1; omega) (by have := (hup _ hkm).2; omega) (by omega) (by omega)⟩) _ 0 0 rfl (Nat.zero_le _) (Int.le_refl _) (by omega)
        simpa using this
      have hres : (¬ (d > 30 ∨ ((l.getD i z63).f3 ≠ 0 ∧ (l.getD i z63).f2 ≠ 0))) → rightT (.node (l.getD i z63).f0 ((l.getD i z63).f1.map fun k => treeN l n k.toNat) (l.getD i z63).f2 (l.getD i z63).f3) d = afterP ((l.getD i z63).f1.map fun k => treeN l n k.toNat) d (metP 0 (l.getD i z63).f0) := by
        intro hne
        cases hm : metP 0 (l.getD i z63).f0 with
        | none => exact right_none hm
        | some m => exact right_some hne hm
      by_cases hf : (l.getD i z63).f3 = 0
      · rw [hres (by rintro (h | h); exact hc h; exact h.1 hf)]
        refine ev_succ (fun k => ?_) (hgo false rfl)
        rw [haymowref07_Right.f, if_pos (by omega), if_pos (by omega), if_neg hc, hyd, if_pos hf]
      · by_cases hv : (l.getD i z63).f2 = 0
        · rw [hres (by rintro (h | h); exact hc h; exact h.2 hv)]
          refine ev_succ (fun k => ?_) (hgo ((l.getD i z63).f2 != 0) (by rw [hv]; rfl))
          rw [haymowref07_Right.f, if_pos (by omega), if_pos (by omega), if_neg hc, hyd, if_neg hf]
        · rw [right_early (.inr ⟨hf, hv⟩)]
          refine ev_succ (g := fun k => haymowref07_Right.j0 k l d ((l.getD i z63).f2 != 0) (l.getD i z63).f0 (l.getD i z63).f1 (l.getD i z63).f2 (l.getD i z63).f3) (fun k => ?_) (ev_now (fun k => by rw [haymowref07_Right.j0, if_pos (by simpa using hv)]))
          rw [haymowref07_Right.f, if_pos (by omega), if_pos (by omega), if_neg hc, hyd, if_neg hf]
end
/-! ### how many -/
def numP : List S64 → Int
  | [] => 0
  | p :: r => (if p.f0 = true then 0 else 1) + numP r
theorem numP_met : ∀ (l : List S64) (m r : Int), metP m l = some r → numP l = (l.length : Int) - (r - m)
  | [], m, r, h => by rw [metP] at h; injection h with h; simp [numP, h]
  | p :: l, m, r, h => by
    rw [metP] at h
    rw [numP, List.length_cons]
    by_cases h1 : p.f0 = true
    · rw [if_pos h1] at h ⊢
      by_cases h2 : p.f1 = m
      · rw [if_pos h2] at h; have := numP_met l _ r h; push_cast; omega
      · rw [if_neg h2] at h; cases h
    · rw [if_neg h1] at h ⊢
      have := numP_met l m r h; push_cast; omega
theorem numP_pos : ∀ l : List S64, 0 ≤ numP l ∧ numP l ≤ l.length
  | [] => by simp [numP]
  | p :: l => by have := numP_pos l; rw [numP, List.length_cons]; split <;> (push_cast; omega)
section
variable {l : List S63} (hG : Good l)
theorem many_l1 (y : S63) (i : Nat) (hyd : rd_T63 l (i : Int) = y) (hi : i < l.length) (ks : List T) (hlen : ks.length = y.f1.length) (hk : y.f1.length ≤ 1000) (d : Int) (hr : rightTs ks d = true)
    (ih : ∀ j (h : j < y.f1.length) (h' : j < ks.length), Ev (fun q => haymowref07_Many.f q l y.f1[j]) (nodesT ks[j], numsT ks[j])) (a b : Int) (ha : 0 ≤ a) (hb : 0 ≤ b)
    (hn : a + nodesTs ks ≤ 1000000) (hm : b + numsTs ks ≤ 1000000) (r : Nat) :
    ∀ (j : Nat), y.f1.length - j = r → j ≤ y.f1.length → Ev (fun q => haymowref07_Many.l1 q l i (a + nodesTs (ks.take j)) (b + numsTs (ks.take j)) j) (a + nodesTs ks, b + numsTs ks) := by
  induction r with
  | zero =>
    intro j hj hle
    have e : ks.take j = ks := List.take_of_length_le (by omega)
    rw [e]
    exact ev_now (fun k => by rw [haymowref07_Many.l1, if_pos (by omega), if_pos (by omega), hyd, if_neg (by omega)])
  | succ r ihr =>
    intro j hj hle
    have hlt : j < y.f1.length := by omega
    have hlt2 : j < ks.length := by omega
    have hj1 : y.f1.length - (j + 1) = r := by omega
    have hj2 : j + 1 ≤ y.f1.length := by omega
    have c1 : (0 : Int) ≤ (i : Int) := by omega
    have c2 : (i : Int) < (l.length : Int) := by omega
    have c3 : (j : Int) < (y.f1.length : Int) := by omega
    have c4 : (0 : Int) ≤ (j : Int) := by omega
    have hev := ih j hlt hlt2
    have hrd : rd y.f1 (j : Int) = y.f1[j] := by simp [rd, hlt]
    have hwj : wrap64 ((j : Int) + 1) = ((j + 1 : Nat) : Int) := by rw [wrap_small (by omega) (by omega)]; rfl
    have e1 := nodesTs_split ks j hlt2
    have e2 := numsTs_split ks j hlt2
    have t1 := nodesTs_take ks j hlt2
    have t2 := numsTs_take ks j hlt2
    have p1 := counts_pos _ (rightTs_part j hr).1
    have p2 := counts_pos _ (rightTs_part (j + 1) hr).2
    have p3 := count_pos _ (rightTs_mem hr j hlt2)
    have h1 := ihr (j + 1) hj1 hj2
    rw [t1, t2] at h1
    clear t1 t2 ihr ih
    generalize nodesTs (ks.take j) = na at *
    generalize numsTs (ks.take j) = ma at *
    generalize nodesT ks[j] = nb at *
    generalize numsT ks[j] = mb at *
    generalize nodesTs (ks.drop (j + 1)) = nc at *
    generalize numsTs (ks.drop (j + 1)) = mc at *
    generalize nodesTs ks = nd at *
    generalize numsTs ks = md at *
    have w1 : wrap64 (a + na + nb) = a + na + nb := by clear hev h1 hrd hwj; exact wrap_small (by omega) (by omega)
    have w2 : wrap64 (b + ma + mb) = b + ma + mb := by clear hev h1 hrd hwj; exact wrap_small (by omega) (by omega)
    refine ev_succ (g := fun k => (haymowref07_Many.f k l y.f1[j]).bind fun bt162 => haymowref07_Many.l1 k l i (wrap64 (a + na + bt162.1)) (wrap64 (b + ma + bt162.2)) ((j + 1 : Nat) : Int)) (fun k => ?_) ?_
    · rw [haymowref07_Many.l1, if_pos c1, if_pos c2, hyd, if_pos c3, if_pos c4, hrd, hwj]
    · refine Ev.bind hev ?_
      simp only
      rw [w1, w2, Int.add_assoc, Int.add_assoc]
      exact h1
theorem many_l0 (i : Nat) (hi : i < l.length) (hp : (l.getD i z63).f0.length ≤ 1000) (R : Int × Int)
    (hend : Ev (fun q => haymowref07_Many.l1 q l i 1 (numP (l.getD i z63).f0) 0) R) :
    ∀ (r j : Nat), (l.getD i z63).f0.length - j = r → j ≤ (l.getD i z63).f0.length → Ev (fun q => haymowref07_Many.l0 q l i 1 (numP (l.getD i z63).f0 - numP ((l.getD i z63).f0.drop j)) j) R
  | 0, j, hj, hle => by
    have hyd : rd_T63 l (i : Int) = l.getD i z63 := by unfold rd_T63; rw [Int.toNat_natCast]
    have : j = (l.getD i z63).f0.length := by omega
    subst this
    rw [List.drop_length, numP, Int.sub_zero]
    refine ev_succ (fun k => ?_) hend
    rw [haymowref07_Many.l0, if_pos (by omega), if_pos (by omega), hyd, if_neg (by omega)]
  | r + 1, j, hj, hle => by
    have hyd : rd_T63 l (i : Int) = l.getD i z63 := by unfold rd_T63; rw [Int.toNat_natCast]
    have h1 := many_l0 i hi hp R hend r (j + 1) (by omega) (by omega)
    have hlt : j < (l.getD i z63).f0.length := by omega
    have hrd := rd64_at hlt
    have hwj : wrap64 ((j : Int) + 1) = ((j + 1 : Nat) : Int) := by rw [wrap_small (by omega) (by omega)]; rfl
    have hb := numP_pos (l.getD i z63).f0
    have hb2 := numP_pos ((l.getD i z63).f0.drop (j + 1))
    have hl2 : ((l.getD i z63).f0.drop (j + 1)).length ≤ 1000 := by rw [List.length_drop]; omega
    rw [List.drop_eq_getElem_cons hlt, numP]
    by_cases hp1 : ((l.getD i z63).f0[j]).f0 = true
    · rw [if_pos hp1, Int.zero_add]
      refine ev_succ (fun k => ?_) h1
      rw [haymowref07_Many.l0, if_pos (by omega), if_pos (by omega), hyd, if_pos (by omega), if_pos (by omega), hrd, if_pos hp1, hwj]
    · rw [if_neg hp1]
      refine ev_succ (fun k => ?_) h1
      rw [haymowref07_Many.l0, if_pos (by omega), if_pos (by omega), hyd, if_pos (by omega), if_pos (by omega), hrd, if_neg hp1, hwj, wrap_small (by omega) (by omega)]
      congr 1
      omega
include hG in
theorem many_plain : ∀ (n i : Nat) (d : Int), l.length - i ≤ n → i < l.length → rightT (treeN l n i) d = true → nodesT (treeN l n i) ≤ 1000000 → numsT (treeN l n i) ≤ 1000000 → Ev (fun k => haymowref07_Many.f k l i) (nodesT (treeN l n i), numsT (treeN l n i))
  | 0, i, d, h, hi, _, _, _ => by omega
  | n + 1, i, d, h, hi, hr, hn, hm => by
    have hmem : l.getD i z63 ∈ l := by rw [List.getD_eq_getElem?_getD, List.getElem?_eq_getElem hi]; exact List.getElem_mem hi
    have hup : ∀ k ∈ (l.getD i z63).f1, (i : Int) < k ∧ k < (l.length : Int) := by
      have : l.getD i z63 = l[i] := by rw [List.getD_eq_getElem?_getD, List.getElem?_eq_getElem hi]; rfl
      rw [this]; exact hG.up i hi
    have hp := hG.ps _ hmem
    have hk := hG.ks _ hmem
    rw [treeN] at hr
    obtain ⟨_, _, hmet, hrs⟩ := right_inv hr
    rw [treeN, nodesT] at hn
    rw [treeN, numsT] at hm
    rw [treeN, nodesT, numsT]
    have hnum := numP_met _ _ _ hmet
    rw [Int.sub_zero] at hnum
    rw [← hnum] at hm ⊢
    have hpp := numP_pos (l.getD i z63).f0
    have hc := counts_pos _ hrs
    have hlen : ((l.getD i z63).f1.map fun k => treeN l n k.toNat).length = (l.getD i z63).f1.length := List.length_map _
    have h1 := many_l1 (l.getD i z63) i (by unfold rd_T63; rw [Int.toNat_natCast]) hi ((l.getD i z63).f1.map fun k => treeN l n k.toNat) hlen hk (d + 1) hrs (fun j h h' => by
      have hkm := List.getElem_mem h
      obtain ⟨m, hm2⟩ := Int.eq_ofNat_of_zero_le (show 0 ≤ (l.getD i z63).f1[j] by have := (hup _ hkm).1; omega)
      have hg : ((l.getD i z63).f1.map fun k => treeN l n k.toNat)[j] = treeN l n m := by rw [List.getElem_map, hm2, Int.toNat_natCast]
      have e1 := nodesTs_split _ j h'
      have e2 := numsTs_split _ j h'
      have p1 := counts_pos _ (rightTs_part j hrs).1
      have p2 := counts_pos _ (rightTs_part (j + 1) hrs).2
      have p3 := rightTs_mem hrs j h'
      rw [hg] at e1 e2 p3 ⊢
      have hu := hup _ hkm
      rw [hm2] at hu ⊢
      exact many_plain n m (d + 1) (by omega) (by omega) p3 (by omega) (by omega)) 1 (numP (l.getD i z63).f0) (by omega) hpp.1 (by omega) (by omega) _ 0 rfl (Nat.zero_le _)
    simp only [List.take_zero, List.map_nil, nodesTs, numsTs, Int.add_zero] at h1
    have h0 := many_l0 i hi hp _ h1 _ 0 rfl (Nat.zero_le _)
    rw [List.drop_zero, Int.sub_self] at h0
    exact ev_succ (fun k => by rw [haymowref07_Many.f]; rfl) h0
end
theorem compare_loop (a : List Int) (h : a.length ≤ 9223372036854775807) : ∀ (d i : Nat), a.length - i = d → i ≤ a.length → Ev (fun k => haymowref05_Compare.l0 k a a i) 0
  | 0, i, hd, hi => by
    refine ev_succ (g := fun k => haymowref05_Compare.j1 k a a i false) (fun k => by rw [haymowref05_Compare.l0, if_neg (by omega)]) (ev_now (fun k => by rw [haymowref05_Compare.j1, if_neg (by simp), if_neg (by omega), if_neg (by omega)]))
  | d + 1, i, hd, hi => by
    have hwi : wrap64 ((i : Int) + 1) = ((i + 1 : Nat) : Int) := by
      have : wrap64 ((i : Int) + 1) = (i : Int) + 1 := by unfold wrap64; omega
      rw [this]; rfl
    refine ev_succ (g := fun k => haymowref05_Compare.j1 k a a i (decide ((i : Int) < (a.length : Int)))) (fun k => by rw [haymowref05_Compare.l0, if_pos (by omega)]) ?_
    rw [decide_eq_true (by omega)]
    refine ev_succ (fun k => ?_) (compare_loop a h d (i + 1) (by omega) (by omega))
    rw [haymowref05_Compare.j1, if_pos rfl, if_pos (by omega), if_pos (by omega), if_pos (by omega), if_neg (by omega), if_neg (by omega), hwi]
theorem compare_same (a : List Int) (h : a.length ≤ 9223372036854775807) : ∃ k, haymowref05_Compare.f k a a = some 0 := (compare_loop a h _ 0 rfl (Nat.zero_le _)).rounds
end Go.Proofs.Ytiplpkjjplicjaa.H
