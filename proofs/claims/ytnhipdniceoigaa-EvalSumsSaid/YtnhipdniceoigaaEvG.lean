/- Eval. -/
import Derived.Test.YtnhipdniceoigaaEvE
set_option linter.unusedVariables false
set_option linter.unusedSimpArgs false
namespace Go.Proofs.Ytnhipdniceoigaa.H
open Go.RowKit Go.Hay Go.Proofs.YtnhipdniceoigaaW.PrintWords Go.Proofs.YtnhipdniceoigaaW.PrintLast Go.Proofs.YtnhipdniceoigaaW.PrintMore
theorem max_most (most : Int) (ats : Array TypeId) (ty : TypeId) : Builtin.max_ ats ty #[.int .i64 most, .int .i64 0] = pure (.int .i64 (most.toNat : Int)) := by
  rw [max_two, max2_int]
  have e : (if most < 0 then (0 : Int) else most) = (most.toNat : Int) := by split <;> omega
  rw [e]
  rfl
/-- may a program run? -/
def evRight (l : List S58) (n : Nat) (b d : Int) : Bool :=
  if (checkP l).2.2 = 0 then (if b < 1 then false else if b > 10000 then false else if d < 0 then false else if d > 30 then false else ((n : Int) == (rd_T58 l 0).f0)) else false
theorem evRight_f (l : List S58) (args : List Int) (b d : Int) : eval_Right.f l args b d = some (evRight l args.length b d) := by
  unfold eval_Right.f evRight valid_Check.f
  simp only [Option.bind_some]
  by_cases h : (checkP l).2.2 = 0
  · have hl := (check_ok h).len
    rw [if_pos h, if_pos h]
    repeat' split
    all_goals first | rfl | (exfalso; omega)
  · rw [if_neg h, if_neg h]
theorem evRight_ok {l : List S58} {n : Nat} {b d : Int} (h : evRight l n b d = true) : POk l ∧ (1 ≤ b ∧ b ≤ 10000) ∧ (0 ≤ d ∧ d ≤ 30) ∧ (n : Int) = (rd_T58 l 0).f0 ∧ n ≤ 4 := by
  unfold evRight at h
  split at h
  · rename_i hc
    have hp := check_ok hc
    repeat' split at h
    all_goals try (exact absurd h (by decide))
    have hn : (n : Int) = (rd_T58 l 0).f0 := by simpa using h
    have hl := hp.len
    have h0 := (hp.fn 0 (by omega)).1
    have e : rd_T58 l 0 = l[0] := by simp [rd_T58, show 0 < l.length by omega]
    rw [e] at hn
    exact ⟨hp, by omega, by omega, by rw [e]; exact hn, by omega⟩
  · exact absurd h (by decide)
/-- what Eval answers. -/
abbrev EvR := (Int × Int × List Int × List (List Int × Int)) × Int
def noR : Int × Int × List Int × List (List Int × Int) := (0, 0, [], [])
def evalR (l : List S58) (args : List Int) (b d : Int) (most : Nat) : EvR :=
  if evRight l args.length b d = true then match evalP l args b d most with
    | some r => (r, 0)
    | none => (noR, 3)
  else (noR, 1)
def endR (q : Out × Gs) : EvR :=
  match q with
  | (.val v, G) => ((v, 0, G.told, G.log), 0)
  | (.fail why, G) => ((0, why, G.told, G.log), 0)
  | (.long, _) => (noR, 3)
def entS (p : List Int × Int) : S49 := ⟨p.1, p.2⟩
/-- a result in memory. -/
structure ResC (w : World) (r : Int × Int × List Int × List (List Int × Int)) (At : Option Addr) (ct : Nat) (Al : Option Addr) (cl : Nat) : Prop where
  told : (Kd.int .i64).C w At r.2.2.1.length r.2.2.1
  toldC : r.2.2.1.length ≤ ct
  log : k49.C w Al r.2.2.2.length (r.2.2.2.map entS)
  logC : r.2.2.2.length ≤ cl
def resV (r : Int × Int × List Int × List (List Int × Int)) (At : Option Addr) (ct : Nat) (Al : Option Addr) (cl : Nat) : Value := .agg #[.int .i64 r.1, .int .i64 r.2.1, .slice At r.2.2.1.length ct, .slice Al r.2.2.2.length cl]
def EvalPost (w : World) (r : EvR) (e : Ending) (w' : World) : Prop :=
  (∃ At ct Al cl, e = .returned (.tuple #[resV r.1 At ct Al cl, .int .i64 r.2]) ∧ ResC w' r.1 At ct Al cl) ∧ Below w.heap.size w w'
theorem ResC.none (w : World) : ResC w noR Option.none 0 Option.none 0 := ⟨Kd.C_nil _ _, Nat.le_refl _, Kd.C_nil _ _, Nat.le_refl _⟩
/-- the log of an evaluation, read. -/
theorem rows_logC {B : Nat} {Al : Option Addr} {log : List (List Int × Int)} {ents : List Ent} {n cl : Nat} {w : World} (hlog : kEnt.R 49 w B (fun _ => True) (.slice Al n cl) ents) (hok : EntsOk w ents log) : n = log.length ∧ n ≤ cl ∧ k49.C w Al log.length (log.map entS) := by
  have hq := Kd.R_reads' hlog
  have hl := hok.1
  refine ⟨hq.1.trans hl, by have := hq.2.1; omega, by simp, by have h4 := hq.2.2.2.1; rw [hl] at h4; exact h4, fun hp => ?_⟩
  obtain ⟨ad, e1, hc⟩ := hq.2.2.2.2 (by omega)
  refine ⟨ad, e1, fun j p hj => ?_⟩
  rw [List.getElem?_map] at hj
  have hjl : j < log.length := by
    by_cases hlt : j < log.length
    · exact hlt
    · rw [List.getElem?_eq_none (by omega)] at hj; cases hj
  have hje : j < ents.length := by omega
  rw [List.getElem?_eq_getElem hjl] at hj
  have hj : entS log[j] = p := Option.some.inj hj
  subst hj
  obtain ⟨cs, h1, h2, h3⟩ := hc j _ (List.getElem?_eq_getElem hje)
  refine ⟨cs, h1, ?_, h3⟩
  obtain rfl := kEnt_open h2
  obtain ⟨a1, a2, a3, a4, a5⟩ := hok.2 j hje hjl
  have hm := k49_mk w (entS log[j]) (A0 := ents[j].A) (c0 := ents[j].c) (by show log[j].1.length ≤ ents[j].c; omega) (a5.C a4)
  have e : [Value.slice ents[j].A (entS log[j]).f0.length ents[j].c, .int .i64 (entS log[j]).f1] = [.slice ents[j].A ents[j].n ents[j].c, .int .i64 ents[j].s] := by
    rw [a1, a2]; rfl
  rw [← e]
  exact hm
theorem EG.resC {B wb np cp : Nat} {Ap At Al : Option Addr} {budget depth : Int} {G : Gs} {ents : List Ent} {nt ct nl cl : Nat} {w w1 : World} {S : Nat → Prop} (h : EG B wb Ap np cp budget depth G ents (.slice At nt ct) (.slice Al nl cl) w) (hk : Keep S w w1) (hS : ∀ q, S q → ∃ cs t, w.heap[q]? = some (.cells cs t (0, 0)) ∧ t ≠ 2 ∧ t ≠ 49 ∧ t ≠ 3) (v f : Int) : nt = G.told.length ∧ nl = G.log.length ∧ ResC w1 (v, f, G.told, G.log) At ct Al cl := by
  have ht : (Kd.int .i64).R 2 w1 B (fun _ => True) (.slice At nt ct) G.told := nums_flat h.told (fun _ _ => trivial) (fun q hq => hk.block q (nums_own h.told q hq).2.2 (fun hs => by
    obtain ⟨cs, t, h1, h2, _⟩ := hS q hs
    obtain ⟨cs', h3⟩ := Kd.R_typed h.told q hq
    rw [h1] at h3; cases h3; exact h2 rfl))
  have hl : kEnt.R 49 w1 B (fun _ => True) (.slice Al nl cl) ents := R_flat kEnt_flat h.log (fun _ _ => trivial) (fun q hq => hk.block q (R_own h.log q hq).2.2 (fun hs => by
    obtain ⟨cs, t, h1, _, h2, _⟩ := hS q hs
    obtain ⟨cs', h3⟩ := Kd.R_typed h.log q hq
    rw [h1] at h3; cases h3; exact h2 rfl))
  have hok : EntsOk w1 ents G.log := h.ok.keep hk (fun q cs hq hs => by
    obtain ⟨cs', t, h1, _, _, h2⟩ := hS q hs
    rw [hq] at h1; cases h1; exact h2 rfl)
  have hq := Kd.R_reads' ht
  have hl := rows_logC hl hok
  refine ⟨hq.1, hl.1, hq.2.2, by have := hq.2.1; show G.told.length ≤ ct; omega, hl.2.2, by have := hl.2.1; show G.log.length ≤ cl; omega⟩
structure EvW (w : World) (b d : Int) (W : World) : Prop where
  below : Below w.heap.size w W
  c0 : W.heap[w.heap.size]? = some (.cells #[.int .i64 b, .int .i64 d] 37 (0, 0))
  c1 : W.heap[w.heap.size + 1]? = some (.cells #[.int .i64 0, .int .i64 0, .slice none 0 0, .slice none 0 0] 30 (0, 0))
  c2 : W.heap[w.heap.size + 1 + 1]? = some (.cells #[.int .i64 0] 31 (0, 0))
theorem EvW.size {w W : World} {b d : Int} (h : EvW w b d W) : w.heap.size + 3 ≤ W.heap.size := by
  have := blk_lt h.c2; omega
theorem EvW.keep {w w' w'' : World} {b d : Int} (h : EvW w b d w') (k : Below (w.heap.size + 3) w' w'') : EvW w b d w'' :=
  ⟨h.below.trans (k.mono (by omega)), (k.block _ (by omega)).trans h.c0, (k.block _ (by omega)).trans h.c1, (k.block _ (by omega)).trans h.c2⟩
theorem EvW.start (w : World) (b d : Int) : EvW w b d (((w.alloc (.cells #[.int .i64 b, .int .i64 d] 37)).alloc (.cells #[.int .i64 0, .int .i64 0, .slice none 0 0, .slice none 0 0] 30)).alloc (.cells #[.int .i64 0] 31)) := by
  have e1 : (w.alloc (.cells #[.int .i64 b, .int .i64 d] 37)).heap.size = w.heap.size + 1 := Array.size_push _
  have e2 : ((w.alloc (.cells #[.int .i64 b, .int .i64 d] 37)).alloc (.cells #[.int .i64 0, .int .i64 0, .slice none 0 0, .slice none 0 0] 30)).heap.size = w.heap.size + 1 + 1 := by
    rw [← e1]; exact Array.size_push _
  have b1 := (Below.refl w.heap.size w).alloc (Nat.le_refl _) (.cells #[.int .i64 b, .int .i64 d] 37)
  have b2 := b1.alloc b1.size (.cells #[.int .i64 0, .int .i64 0, .slice none 0 0, .slice none 0 0] 30)
  refine ⟨b2.alloc b2.size _, blk_alloc (blk_alloc (alloc_blk w _) _) _, ?_, ?_⟩
  · have := alloc_blk (w.alloc (.cells #[.int .i64 b, .int .i64 d] 37)) (.cells #[.int .i64 0, .int .i64 0, .slice none 0 0, .slice none 0 0] 30)
    rw [e1] at this
    exact blk_alloc this _
  · have := alloc_blk ((w.alloc (.cells #[.int .i64 b, .int .i64 d] 37)).alloc (.cells #[.int .i64 0, .int .i64 0, .slice none 0 0, .slice none 0 0] 30)) (.cells #[.int .i64 0] 31)
    rw [e2] at this
    exact this
theorem eval_results {tmps : Array Value} {w : World} {h : Nat} {x0 x1 x2 x3 : Value} {e : Int} (t8 : tmps.getD 8 undef = .pointer (some ⟨h + 1, 0, none⟩)) (t9 : tmps.getD 9 undef = .pointer (some ⟨h + 1 + 1, 0, none⟩)) (c1 : w.heap[h + 1]? = some (.cells #[x0, x1, x2, x3] 30 (0, 0))) (c2 : w.heap[h + 1 + 1]? = some (.cells #[.int .i64 e] 31 (0, 0))) :
    (results Try.f12 tmps).run Try.prog w = .ok (.tuple #[.agg #[x0, x1, x2, x3], .int .i64 e]) w := by
  have q0 := blk_cell c1 0
  have q1 := blk_cell c1 1
  have q2 := blk_cell c1 2
  have q3 := blk_cell c1 3
  have p0 := blk_cell c2 0
  simp only [Array.getD_eq_getD_getElem?] at t8 t9
  simp [results, Try.results12, go_sem, t8, t9, q0, q1, q2, q3, p0]
section
variable {A Aa : Option Addr} {c ca : Nat} {l : List S58} {args : List Int} {b d most : Int} {w : World}
set_option maxRecDepth 100000 in
set_option maxHeartbeats 8000000 in
theorem Eval_any (hC : k58.C w A l.length l) (hc : l.length ≤ c) (hCa : (Kd.int .i64).C w Aa args.length args) (hca : args.length ≤ ca) (hmost : most ≤ 900000) :
    Calls Try.prog 12 #[.slice A l.length c, .slice Aa args.length ca, .agg #[.int .i64 b, .int .i64 d], .int .i64 most] w (EvalPost w (evalR l args b d most.toNat)) := by
  obtain ⟨r, hr⟩ : ∃ r, r = evalR l args b d most.toNat := ⟨_, rfl⟩
  rw [← hr]
  obtain ⟨W3, hW3⟩ : ∃ W3, W3 = ((w.alloc (.cells #[.int .i64 b, .int .i64 d] 37)).alloc (.cells #[.int .i64 0, .int .i64 0, .slice none 0 0, .slice none 0 0] 30)).alloc (.cells #[.int .i64 0] 31) := ⟨_, rfl⟩
  have hE3 : EvW w b d W3 := by rw [hW3]; exact EvW.start w b d
  have H0 := Aside0.mk (And.intro hC (And.intro hc (And.intro hCa (And.intro hca (And.intro hmost hr)))))
  have HW3 := Aside0.mk hW3
  have H3 := Aside0.mk hE3
  have y0 := blk_cell hE3.c0 0
  have y1 := blk_cell hE3.c0 1
  clear hW3 hC hc hCa hca hmost hr hE3
  go_enter_defers Try.func12, Try.ntmps12
  go_upto_region 1 with (fail)
  rw [← HW3.out]
  go_wp2_with fail
  refine (eval_Right.calls A c l Aa ca args b d _ W3 (Kd.C_below H0.out.1 H3.out.below) H0.out.2.1 (Kd.C_below H0.out.2.2.1 H3.out.below) H0.out.2.2.2.1 (evRight_f l args b d)).mono ?_
  rintro e w4 ⟨rfl, hb4⟩
  have hE4 := H3.out.keep (hb4.mono H3.out.size)
  have H4 := Aside0.mk hE4
  clear y0 y1 hE4 hb4
  cases hRt : evRight l args.length b d with
  | false =>
    have hr := H0.out.2.2.2.2.2
    unfold evalR at hr
    rw [if_neg (by rw [hRt]; decide)] at hr
    have HR := Aside0.mk hr
    have s0 := blk_cell H4.out.c1 0
    have s1 := blk_cell H4.out.c1 1
    have s2 := blk_cell H4.out.c1 2
    have s3 := blk_cell H4.out.c1 3
    have z0 := blk_frozen H4.out.c1 0
    have z1 := blk_frozen H4.out.c1 1
    have z2 := blk_frozen H4.out.c1 2
    have z3 := blk_frozen H4.out.c1 3
    have e0 := blk_cell H4.out.c2 0
    have f0 := blk_frozen H4.out.c2 0
    clear hr hRt
    go_wp2_with fail
    have n3 : w.heap.size + 1 + 1 ≠ w.heap.size + 1 := by omega
    have d1 := blk_set (blk_set (blk_set (blk_set H4.out.c1 0 (.int .i64 0)) 1 (.int .i64 0)) 2 (.slice none 0 0)) 3 (.slice none 0 0)
    have e2 := blk_set (blk_farC (p := ⟨w.heap.size + 1, 3, none⟩) (blk_farC (p := ⟨w.heap.size + 1, 2, none⟩) (blk_farC (p := ⟨w.heap.size + 1, 1, none⟩) (blk_farC (p := ⟨w.heap.size + 1, 0, none⟩) H4.out.c2 n3 (.int .i64 0)) n3 (.int .i64 0)) n3 (.slice none 0 0)) n3 (.slice none 0 0)) 0 (.int .i64 1)
    have d2 := blk_farC (p := ⟨w.heap.size + 1 + 1, 0, none⟩) d1 (Ne.symm n3) (.int .i64 1)
    have hk9 := ((((((Keep.refl (fun q => q = w.heap.size + 1 ∨ q = w.heap.size + 1 + 1) w4).set (p := ⟨w.heap.size + 1, 0, none⟩) (.inr (.inl rfl)) (.int .i64 0)).set (p := ⟨w.heap.size + 1, 1, none⟩) (.inr (.inl rfl)) (.int .i64 0)).set (p := ⟨w.heap.size + 1, 2, none⟩) (.inr (.inl rfl)) (.slice none 0 0)).set (p := ⟨w.heap.size + 1, 3, none⟩) (.inr (.inl rfl)) (.slice none 0 0)).set (p := ⟨w.heap.size + 1 + 1, 0, none⟩) (.inr (.inr rfl)) (.int .i64 1)).below H4.out.below.size (B := w.heap.size) (fun q hq hp => by omega)
    refine ⟨_, eval_results rfl rfl d2 e2, ⟨none, 0, none, 0, ?_, ?_⟩, H4.out.below.trans hk9⟩
    · rw [HR.out]; rfl
    · rw [HR.out]; exact ResC.none _
  | true =>
    obtain ⟨hl, hb, hd, hn, hn4⟩ := evRight_ok hRt
    have hr := H0.out.2.2.2.2.2
    unfold evalR at hr
    rw [if_pos hRt] at hr
    have HR := Aside0.mk (And.intro hr (And.intro hl (And.intro hb (And.intro hd (And.intro hn hn4)))))
    clear hr hRt hl hb hd hn hn4
    have y0 := blk_cell H4.out.c0 0
    have y1 := blk_cell H4.out.c0 1
    have hmax := max_most most
    obtain ⟨n, hn⟩ : ∃ n, n = most.toNat := ⟨_, rfl⟩
    have HN := Aside0.mk hn
    rw [← hn] at hmax
    clear hn
    obtain ⟨wb, hwb⟩ : ∃ wb, wb = w4.heap.size := ⟨_, rfl⟩
    obtain ⟨W5, hW5⟩ : ∃ W5, W5 = (w4.alloc (.cells #[.slice A l.length c, .int .i64 b, .int .i64 d, .int .i64 n, .int .i64 0, .int .i64 0, .slice none 0 0, .slice none 0 0] 71)).alloc (.cells #[.pointer (some ⟨wb, 0, none⟩)] 69) := ⟨_, rfl⟩
    have hsz : (w4.alloc (.cells #[.slice A l.length c, .int .i64 b, .int .i64 d, .int .i64 n, .int .i64 0, .int .i64 0, .slice none 0 0, .slice none 0 0] 71)).heap.size = wb + 1 := by rw [hwb]; exact Array.size_push _
    have hn5 : W5.heap[wb]? = some (.cells #[.slice A l.length c, .int .i64 b, .int .i64 d, .int .i64 n, .int .i64 0, .int .i64 0, .slice none 0 0, .slice none 0 0] 71 (0, 0)) := by rw [hW5]; exact blk_alloc (by rw [hwb]; exact alloc_blk w4 _) _
    have hp5 : W5.heap[wb + 1]? = some (.cells #[.pointer (some ⟨wb, 0, none⟩)] 69 (0, 0)) := by
      rw [hW5]
      have := alloc_blk (w4.alloc (.cells #[.slice A l.length c, .int .i64 b, .int .i64 d, .int .i64 n, .int .i64 0, .int .i64 0, .slice none 0 0, .slice none 0 0] 71)) (.cells #[.pointer (some ⟨wb, 0, none⟩)] 69)
      rwa [hsz] at this
    have hb5 : Below w4.heap.size w4 W5 := by
      have b1 := (Below.refl w4.heap.size w4).alloc (Nat.le_refl _) (.cells #[.slice A l.length c, .int .i64 b, .int .i64 d, .int .i64 n, .int .i64 0, .int .i64 0, .slice none 0 0, .slice none 0 0] 71)
      rw [hW5]; exact b1.alloc b1.size _
    have HWB := Aside0.mk (And.intro hwb hW5)
    have H5 := Aside0.mk (And.intro hn5 (And.intro hp5 hb5))
    clear hsz hn5 hp5 hb5 hwb hW5
    go_wp2_with fail
    rw [← HWB.out.1, ← HWB.out.2]
    have ES5 := Aside0.mk (show ∀ {w' : World}, Below W5.heap.size W5 w' → ES ⟨w4, wb, wb, A, c, b, d⟩ l ⟨n, [], []⟩ [] (.slice none 0 0) (.slice none 0 0) w' from fun hb => ⟨⟨(hb.block _ (blk_lt H5.out.1)).trans H5.out.1, Kd.R_nil _ _ _ _ _, Kd.R_nil _ _ _ _ _, ⟨rfl, fun j h1 => absurd h1 (Nat.not_lt_zero _)⟩, Nat.le_refl _⟩, H5.out.2.2.trans (hb.mono H5.out.2.2.size), Kd.C_below H0.out.1 H4.out.below, by show w4.heap.size ≤ wb; rw [HWB.out.1]; exact Nat.le_refl _⟩)
    have t10 := blk_cell H5.out.2.1 0
    have HT := Aside0.mk t10
    clear t10
    refine wp_region_seq2 (fun w' => w'.heap[wb + 1]? = W5.heap[wb + 1]?) [] [.take 0, .take 1, .take 2, .op 3, .op 4, .op 5, .op 6, .op 7, .op 8] (by kernel_rfl) (by kernel_rfl) rfl (by kernel_rfl) (panic_put2 rfl (by kernel_rfl)) ?_
    have hs : W5.drew.heap[wb + 1]? = W5.heap[wb + 1]? := rfl
    repeat (
      (first
        | (refine runSeq2_take (v := ?_) (by rfl) (by rfl) (fun w' hS => ?_) hs ?_
           rotate_left
           · (have t10 := blk_cell (hS.trans H5.out.2.1) 0; go_simp; exact rfl))
        | refine runSeq2_skip (by rfl) (by rfl) hs ?_)
      (try simp only [Act.put, List.setIfInBounds_toArray, List.set_cons_zero, List.set_cons_succ]))
    refine runSeq2_op (by rfl) (by rfl) (fun K hK => ?_)
    go_simp
    refine hK _ _ hs ?_
    clear hK K
    have hbeg := begin_all (c := ⟨w4, wb, wb, A, c, b, d⟩) (M := n + 1) HR.out.2.1 (by have := H0.out.2.2.2.2.1; have := HN.out; omega) (by have := HR.out.2.2.2.1; show d ≤ 900; omega) (by have := HR.out.2.2.1; show 0 ≤ b ∧ b ≤ 1000000; omega) (n + 1) ⟨n, [], []⟩ [] (.slice none 0 0) (.slice none 0 0) W5.drew 0 none 0 [] Aa ca args noHands (ES5.out (Below.refl _ _).drew) ⟨by show 0 + n ≤ n + 1; omega, by show 0 + n ≤ n + 1; omega, fun e he => by cases he⟩ (by show 0 + 1 + n ≤ n + 1; omega) (by have := HR.out.2.1.len; omega) (PathAt.nil _) (Nat.le_refl _) (fun _ => rfl) (by have := HR.out.2.2.2.1.1; show ((0 : Nat) : Int) ≤ d; omega) (by have := HR.out.2.2.2.2.2; omega) (Kd.C_below (Kd.C_below H0.out.2.2.1 (H4.out.below.trans (H5.out.2.2.mono H4.out.below.size))) ((Below.refl _ _).drew)) H0.out.2.2.2.1 rfl (by show n < n + 1; omega)
    have HBG := Aside0.mk hbeg
    clear hbeg
    refine runSeq2_op (by rfl) (by rfl) (fun K hK => ?_)
    go_simp
    refine HBG.out.mono ?_
    clear HBG
    intro e w6 hpost
    obtain ⟨q, hq⟩ : ∃ q, q = beginP l b d (n + 1) ⟨n, [], []⟩ ((0 : Nat) : Int) [] args noHands := ⟨_, rfl⟩
    have hq2 : r = endR q := by
      rw [HR.out.1]
      unfold evalP
      have hq' : beginP l b d (most.toNat + 1) ⟨most.toNat, [], []⟩ 0 [] args noHands = q := by rw [← HN.out, hq]; rfl
      rw [hq']
      obtain ⟨o, G⟩ := q
      cases o <;> rfl
    replace hpost : EndP ⟨w4, wb, wb, A, c, b, d⟩ l (PG wb (.slice none 0 0) (.slice none 0 0)) q.1 q.2 W5.drew e w6 := by rw [hq]; exact hpost
    have HQ := Aside0.mk hq2
    clear hq hq2
    obtain ⟨hend, hk6, ents, vt, vl, hE6, hq6⟩ := hpost
    have hpg : ∀ x, PG wb (.slice none 0 0) (.slice none 0 0) x → x = wb := by
      intro x hx
      rcases hx with hx | hx | hx
      · exact hx
      · cases hx
      · cases hx
    have hk6' : Keep (fun x => x = wb) W5.drew w6 := hk6.mono (fun x _ hx => hpg x hx)
    have hb6 : Below w4.heap.size w4 w6 := H5.out.2.2.drew.trans (hk6'.below H5.out.2.2.drew.size (fun x hx e => by rw [HWB.out.1] at e; omega))
    have hE9 := H4.out.keep (hb6.mono H4.out.size)
    have hp6 : w6.heap[wb + 1]? = some (.cells #[.pointer (some ⟨wb, 0, none⟩)] 69 (0, 0)) := hk6'.blk (show W5.drew.heap[wb + 1]? = _ from H5.out.2.1) (by omega)
    obtain ⟨At, ct, rfl⟩ := Kd.R_slice hE6.eg.told
    obtain ⟨Al, cl, rfl⟩ := Kd.R_slice hE6.eg.log
    have H6 := Aside0.mk (And.intro hE6 (And.intro hb6 (And.intro hE9 (And.intro hp6 hk6'))))
    have hnode := hE6.eg.node
    have HND := Aside0.mk hnode
    have y4 := blk_cell hnode 4
    have z4 := blk_frozen hnode 4
    obtain ⟨o, G⟩ := q
    clear hk6 hq6 hpg hk6' hb6 hE9 hE6 hnode hs
    cases o with
    | val v =>
      have he : e = .returned (.int .i64 v) := hend
      clear hend
      subst he
      refine hK _ _ (hp6.trans H5.out.2.1.symm) ?_
      clear hK K
      (try simp only [Act.put, List.setIfInBounds_toArray, List.set_cons_zero, List.set_cons_succ])
      refine runSeq2_op (by rfl) (by rfl) (fun K hK => ?_)
      go_simp
      refine hK _ _ (hp6.trans H5.out.2.1.symm) ?_
      clear hK K
      refine runSeq2_op (by rfl) (by rfl) (fun K hK => ?_)
      go_simp
      refine hK _ _ (hp6.trans H5.out.2.1.symm) ?_
      clear hK K
      refine runSeq2_op (by rfl) (by rfl) (fun K hK => ?_)
      go_simp
      refine hK _ _ (hp6.trans H5.out.2.1.symm) ?_
      clear hK K
      obtain ⟨W7, hW7⟩ : ∃ W7, W7 = w6.setCell ⟨wb, 4, none⟩ (.int .i64 v) := ⟨_, rfl⟩
      have hk7 : Keep (fun x => x = wb) w6 W7 := by rw [hW7]; exact (Keep.refl (fun x => x = wb) w6).set (p := ⟨wb, 4, none⟩) (.inr rfl) _
      have hp7 := hk7.blk hp6 (by omega)
      have hn7 := blk_set HND.out 4 (.int .i64 v)
      rw [← hW7] at hn7
      have HW7 := Aside0.mk hW7
      have hE7 := H6.out.2.2.1.keep ((hk7.below H6.out.2.1.size (fun x hx e => by rw [HWB.out.1] at e; omega)).mono H4.out.size)
      have H7 := Aside0.mk (And.intro hk7 (And.intro hp7 (And.intro hn7 hE7)))
      clear hW7 hp6
      refine runSeq2_op (by rfl) (by rfl) (fun K hK => ?_)
      go_simp
      rw [← HW7.out]
      refine hK _ _ (hp7.trans H5.out.2.1.symm) ?_
      clear hK K y4 z4
      refine runSeq2_nil ?_
      have p0 := blk_cell hp7 0
      have r4 := blk_cell hn7 4
      have r5 := blk_cell hn7 5
      have r6 := blk_cell hn7 6
      have r7 := blk_cell hn7 7
      have s0 := blk_cell hE7.c1 0
      have s1 := blk_cell hE7.c1 1
      have s2 := blk_cell hE7.c1 2
      have s3 := blk_cell hE7.c1 3
      have z0 := blk_frozen hE7.c1 0
      have z1 := blk_frozen hE7.c1 1
      have z2 := blk_frozen hE7.c1 2
      have z3 := blk_frozen hE7.c1 3
      have e0 := blk_cell hE7.c2 0
      have f0 := blk_frozen hE7.c2 0
      clear hk7 hp7 hn7 hE7
      go_wp2_with fail
      have n3 : w.heap.size + 1 + 1 ≠ w.heap.size + 1 := by omega
      have hnw : w.heap.size + 1 ≠ wb := by have h1 := H4.out.size; have h2 := HWB.out.1; omega
      have hnw2 : w.heap.size + 1 + 1 ≠ wb := by have h1 := H4.out.size; have h2 := HWB.out.1; omega
      obtain ⟨hk7, hp7, hn7, hE7⟩ := H7.out
      obtain ⟨hE6, hb6, hE9, hp6, hk6⟩ := H6.out
      have d1 := blk_set (blk_set (blk_set (blk_set hE7.c1 0 (.int .i64 v)) 1 (.int .i64 0)) 2 (.slice At G.told.length ct)) 3 (.slice Al ents.length cl)
      have e2 := blk_set (blk_farC (p := ⟨w.heap.size + 1, 3, none⟩) (blk_farC (p := ⟨w.heap.size + 1, 2, none⟩) (blk_farC (p := ⟨w.heap.size + 1, 1, none⟩) (blk_farC (p := ⟨w.heap.size + 1, 0, none⟩) hE7.c2 n3 (.int .i64 v)) n3 (.int .i64 0)) n3 (.slice At G.told.length ct)) n3 (.slice Al ents.length cl)) 0 (.int .i64 0)
      have d2 := blk_farC (p := ⟨w.heap.size + 1 + 1, 0, none⟩) d1 (Ne.symm n3) (.int .i64 0)
      have hk8 := hk7.mono (T := fun q => q = wb ∨ q = w.heap.size + 1 ∨ q = w.heap.size + 1 + 1) (fun q _ e => .inl e)
      have hk9 := ((((hk8.set (p := ⟨w.heap.size + 1, 0, none⟩) (.inr (.inr (.inl rfl))) (.int .i64 v)).set (p := ⟨w.heap.size + 1, 1, none⟩) (.inr (.inr (.inl rfl))) (.int .i64 0)).set (p := ⟨w.heap.size + 1, 2, none⟩) (.inr (.inr (.inl rfl))) (.slice At G.told.length ct)).set (p := ⟨w.heap.size + 1, 3, none⟩) (.inr (.inr (.inl rfl))) (.slice Al ents.length cl)).set (p := ⟨w.heap.size + 1 + 1, 0, none⟩) (.inr (.inr (.inr rfl))) (.int .i64 0)
      have hrc := hE6.eg.resC hk9 (fun q hq => by
        rcases hq with rfl | rfl | rfl
        · exact ⟨_, _, hE6.eg.node, by decide, by decide, by decide⟩
        · exact ⟨_, _, hE9.c1, by decide, by decide, by decide⟩
        · exact ⟨_, _, hE9.c2, by decide, by decide, by decide⟩) v 0
      have hbw : Below w.heap.size w _ := (H4.out.below.trans (hb6.mono (by have := H4.out.below.size; omega))).trans (hk9.below (B := w.heap.size) (by have h1 := hE9.below.size; omega) (fun q hq hs => by have h1 := H4.out.size; have h2 := HWB.out.1; rcases hs with h3 | h3 | h3 <;> omega))
      refine leaves_cons (f := 22) (args := #[.pointer (some ⟨wb + 1, 0, none⟩), .pointer (some ⟨w.heap.size + 1, 0, none⟩), .pointer (some ⟨w.heap.size + 1 + 1, 0, none⟩)]) (by simp) (by simp [go_sem]) ?_
      refine (ecatch_idle _ _ _ _).mono ?_
      rintro e u' w2 ⟨rfl, rfl, rfl⟩
      refine ⟨_, eval_results rfl rfl d2 e2, ⟨At, ct, Al, cl, ?_, ?_⟩, hbw⟩
      · rw [HQ.out]
        show _ = _
        rw [hrc.2.1]
        rfl
      · rw [HQ.out]; exact hrc.2.2
    | fail why =>
      have he : e = .panicked [{ v := failV why, recovered := false }] := hend
      clear hend
      subst he
      refine leaves_cons (f := 22) (args := #[.pointer (some ⟨wb + 1, 0, none⟩), .pointer (some ⟨w.heap.size + 1, 0, none⟩), .pointer (some ⟨w.heap.size + 1 + 1, 0, none⟩)]) (by simp) (by simp [go_sem]) ?_
      obtain ⟨hE6, hb6, hE9, hp6, hk6⟩ := H6.out
      refine (ecatch_fail why hp6 HND.out hE9.c1 hE9.c2).mono ?_
      rintro e u' w9 ⟨rfl, rfl, hk9, d2, e2⟩
      have hrc := hE6.eg.resC hk9 (fun q hq => by
        rcases hq with rfl | rfl | rfl
        · exact ⟨_, _, hE6.eg.node, by decide, by decide, by decide⟩
        · exact ⟨_, _, hE9.c1, by decide, by decide, by decide⟩
        · exact ⟨_, _, hE9.c2, by decide, by decide, by decide⟩) 0 why
      have hbw : Below w.heap.size w _ := (H4.out.below.trans (hb6.mono (by have := H4.out.below.size; omega))).trans (hk9.below (B := w.heap.size) (by have h1 := hE9.below.size; omega) (fun q hq hs => by have h1 := H4.out.size; have h2 := HWB.out.1; rcases hs with h3 | h3 | h3 <;> omega))
      refine ⟨_, eval_results rfl rfl d2 e2, ⟨At, ct, Al, cl, ?_, ?_⟩, hbw⟩
      · rw [HQ.out]
        show _ = _
        rw [hrc.2.1]
        rfl
      · rw [HQ.out]; exact hrc.2.2
    | long =>
      have he : e = .panicked [{ v := longV, recovered := false }] := hend
      clear hend
      subst he
      refine leaves_cons (f := 22) (args := #[.pointer (some ⟨wb + 1, 0, none⟩), .pointer (some ⟨w.heap.size + 1, 0, none⟩), .pointer (some ⟨w.heap.size + 1 + 1, 0, none⟩)]) (by simp) (by simp [go_sem]) ?_
      obtain ⟨hE6, hb6, hE9, hp6, hk6⟩ := H6.out
      refine (ecatch_long hp6 hE9.c1 hE9.c2).mono ?_
      rintro e u' w9 ⟨rfl, rfl, hk9, d2, e2⟩
      have hbw : Below w.heap.size w _ := (H4.out.below.trans (hb6.mono (by have := H4.out.below.size; omega))).trans (hk9.below (B := w.heap.size) (by have h1 := hE9.below.size; omega) (fun q hq hs => by have h1 := H4.out.size; have h2 := HWB.out.1; rcases hs with h3 | h3 <;> omega))
      refine ⟨_, eval_results rfl rfl d2 e2, ⟨none, 0, none, 0, ?_, ?_⟩, hbw⟩
      · rw [HQ.out]; rfl
      · rw [HQ.out]; exact ResC.none _
end
end Go.Proofs.Ytnhipdniceoigaa.H
