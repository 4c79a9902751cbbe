/- The unfolding, merged, is what is evaluated: for every input. No condition. -/
import Derived.Test.YtbekjccehhaljaaZUnfoldMerges6
import Derived.OpenShut
import Derived.Deep.Slices
import Derived.ChangeArms
import Derived.WideShapes
import Derived.Test.YtbekjccehhaljaaRows
import Derived.WalkKit
import Derived.ProofKit
import Derived.ShutString
import Derived.ChangeOld
import Derived.Below
import Derived.SizedLaws
set_option linter.unusedVariables false
set_option linter.unusedSimpArgs false
namespace Go.Proofs.Ytbekjccehhaljaa.H
open Go.RowKit Go.Hay Go.Proofs.YtbekjccehhaljaaW.PrintWords Go.Proofs.YtbekjccehhaljaaW.PrintLast Go.Proofs.YtbekjccehhaljaaW.PrintMore
theorem max_most (most : Int) (ats : Array TypeId) (ty : TypeId) : Builtin.max_ ats ty #[.int .i64 most, .int .i64 0] = pure (.int .i64 (most.toNat : Int)) := by
  rw [max_two, max2_int]
  have e : (if most < 0 then (0 : Int) else most) = (most.toNat : Int) := by split <;> omega
  rw [e]
  rfl
/-- what Eval answers. -/
abbrev EvR := (Int × Int × List Int × List (List Int × Int)) × Int
def noR : Int × Int × List Int × List (List Int × Int) := (0, 0, [], [])
def evalR (l : List S64) (args : List Int) (b d : Int) (most : Nat) : EvR :=
  if evRight l args.length b d = true then match evalP l args b d most with
    | some r => (r, 0)
    | none => (noR, 3)
  else (noR, 1)
def endR (q : Out × Gs) : EvR :=
  match q with
  | (.val v, G) => ((v, 0, G.told, G.log), 0)
  | (.fail why, G) => ((0, why, G.told, G.log), 0)
  | (.long, _) => (noR, 3)
def entS (p : List Int × Int) : S54 := ⟨p.1, p.2⟩
/-- a result in memory. -/
structure ResR (w : World) (r : Int × Int × List Int × List (List Int × Int)) (At : Option Addr) (ct : Nat) (Al : Option Addr) (cl : Nat) : Prop where
  told : (Kd.int .i64).C w At r.2.2.1.length r.2.2.1
  toldC : r.2.2.1.length ≤ ct
  log : k54.C w Al r.2.2.2.length (r.2.2.2.map entS)
  logC : r.2.2.2.length ≤ cl
/-- a block of another kind than a result hangs on. -/
def Other (w : World) (q : Nat) : Prop := ∃ cs t, w.heap[q]? = some (.cells cs t (0, 0)) ∧ t ≠ 2 ∧ t ≠ 54 ∧ t ≠ 3
/-- and it stays, whatever is done to blocks of other kinds. -/
structure ResC (w : World) (r : Int × Int × List Int × List (List Int × Int)) (At : Option Addr) (ct : Nat) (Al : Option Addr) (cl : Nat) : Prop extends ResR w r At ct Al cl where
  keep : ∀ (S : Nat → Prop) (w1 : World), Keep S w w1 → (∀ q, q < w.heap.size → S q → Other w q) → ResR w1 r At ct Al cl
theorem keep_two {S T : Nat → Prop} {w w1 w2 : World} (h1 : Keep S w w1) (hS : ∀ q, q < w.heap.size → S q → Other w q) (h2 : Keep T w1 w2) (hT : ∀ q, q < w1.heap.size → T q → Other w1 q) :
    Keep (fun q => q < w.heap.size ∧ (S q ∨ T q)) w w2 ∧ ∀ q, (q < w.heap.size ∧ (S q ∨ T q)) → Other w q := by
  refine ⟨(h1.mono (fun q hq h => ⟨hq, .inl h⟩)).then (T := T) h2 (fun q hq h => ⟨hq, .inr h⟩), fun q hq => ?_⟩
  by_cases hs : S q
  · exact hS q hq.1 hs
  · rcases hq.2 with h | h
    · exact hS q hq.1 h
    · obtain ⟨cs, t, e, ht⟩ := hT q (Nat.lt_of_lt_of_le hq.1 h1.size) h
      exact ⟨cs, t, (h1.block q hq.1 hs).symm.trans e, ht⟩
theorem ResC.step {w w1 : World} {r : Int × Int × List Int × List (List Int × Int)} {At : Option Addr} {ct : Nat} {Al : Option Addr} {cl : Nat} (h : ResC w r At ct Al cl) {S : Nat → Prop} (hk : Keep S w w1) (hS : ∀ q, q < w.heap.size → S q → Other w q) : ResC w1 r At ct Al cl :=
  ⟨h.keep S w1 hk hS, fun T w2 hk2 hT => by
    obtain ⟨k, hq⟩ := keep_two hk hS hk2 hT
    exact h.keep _ w2 k (fun q _ hs => hq q hs)⟩
theorem ResC.below {w w1 : World} {r : Int × Int × List Int × List (List Int × Int)} {At : Option Addr} {ct : Nat} {Al : Option Addr} {cl : Nat} (h : ResC w r At ct Al cl) (hb : Below w.heap.size w w1) : ResC w1 r At ct Al cl :=
  h.step (Keep.of_below hb (fun _ => False)) (fun _ _ h => h.elim)
def resV (r : Int × Int × List Int × List (List Int × Int)) (At : Option Addr) (ct : Nat) (Al : Option Addr) (cl : Nat) : Value := .agg #[.int .i64 r.1, .int .i64 r.2.1, .slice At r.2.2.1.length ct, .slice Al r.2.2.2.length cl]
def EvalPost (w : World) (r : EvR) (e : Ending) (w' : World) : Prop :=
  (∃ At ct Al cl, e = .returned (.tuple #[resV r.1 At ct Al cl, .int .i64 r.2]) ∧ ResC w' r.1 At ct Al cl) ∧ Below w.heap.size w w'
theorem ResR.none (w : World) : ResR w noR Option.none 0 Option.none 0 := ⟨Kd.C_nil _ _, Nat.le_refl _, Kd.C_nil _ _, Nat.le_refl _⟩
theorem ResC.none (w : World) : ResC w noR Option.none 0 Option.none 0 := ⟨ResR.none w, fun _ w1 _ _ => ResR.none w1⟩
/-- the log of an evaluation, read. -/
theorem rows_logC {B : Nat} {Al : Option Addr} {log : List (List Int × Int)} {ents : List Ent} {n cl : Nat} {w : World} (hlog : kEnt.R 54 w B (fun _ => True) (.slice Al n cl) ents) (hok : EntsOk w ents log) : n = log.length ∧ n ≤ cl ∧ k54.C w Al log.length (log.map entS) := by
  have hq := Kd.R_reads' hlog
  have hl := hok.1
  refine ⟨hq.1.trans hl, by have := hq.2.1; omega, by simp, by have h4 := hq.2.2.2.1; rw [hl] at h4; exact h4, fun hp => ?_⟩
  obtain ⟨ad, e1, hc⟩ := hq.2.2.2.2 (by omega)
  refine ⟨ad, e1, fun j p hj => ?_⟩
  rw [List.getElem?_map] at hj
  have hjl : j < log.length := by
    by_cases hlt : j < log.length
    · exact hlt
    · rw [List.getElem?_eq_none (by omega)] at hj; cases hj
  have hje : j < ents.length := by omega
  rw [List.getElem?_eq_getElem hjl] at hj
  have hj : entS log[j] = p := Option.some.inj hj
  subst hj
  obtain ⟨cs, h1, h2, h3⟩ := hc j _ (List.getElem?_eq_getElem hje)
  refine ⟨cs, h1, ?_, h3⟩
  obtain rfl := kEnt_open h2
  obtain ⟨a1, a2, a3, a4, a5⟩ := hok.2 j hje hjl
  have hm := k54_mk w (entS log[j]) (A0 := ents[j].A) (c0 := ents[j].c) (by show log[j].1.length ≤ ents[j].c; omega) (a5.C a4)
  have e : [Value.slice ents[j].A (entS log[j]).f0.length ents[j].c, .int .i64 (entS log[j]).f1] = [.slice ents[j].A ents[j].n ents[j].c, .int .i64 ents[j].s] := by
    rw [a1, a2]; rfl
  rw [← e]
  exact hm
theorem EG.resR {B wb np cp : Nat} {Ap At Al : Option Addr} {budget depth : Int} {G : Gs} {ents : List Ent} {nt ct nl cl : Nat} {w w1 : World} {S : Nat → Prop} (h : EG B wb Ap np cp budget depth G ents (.slice At nt ct) (.slice Al nl cl) w) (hk : Keep S w w1) (hS : ∀ q, S q → ∃ cs t, w.heap[q]? = some (.cells cs t (0, 0)) ∧ t ≠ 2 ∧ t ≠ 54 ∧ t ≠ 3) (v f : Int) : nt = G.told.length ∧ nl = G.log.length ∧ ResR w1 (v, f, G.told, G.log) At ct Al cl := by
  have ht : (Kd.int .i64).R 2 w1 B (fun _ => True) (.slice At nt ct) G.told := nums_flat h.told (fun _ _ => trivial) (fun q hq => hk.block q (nums_own h.told q hq).2.2 (fun hs => by
    obtain ⟨cs, t, h1, h2, _⟩ := hS q hs
    obtain ⟨cs', h3⟩ := Kd.R_typed h.told q hq
    rw [h1] at h3; cases h3; exact h2 rfl))
  have hl : kEnt.R 54 w1 B (fun _ => True) (.slice Al nl cl) ents := R_flat kEnt_flat h.log (fun _ _ => trivial) (fun q hq => hk.block q (R_own h.log q hq).2.2 (fun hs => by
    obtain ⟨cs, t, h1, _, h2, _⟩ := hS q hs
    obtain ⟨cs', h3⟩ := Kd.R_typed h.log q hq
    rw [h1] at h3; cases h3; exact h2 rfl))
  have hok : EntsOk w1 ents G.log := h.ok.keep hk (fun q cs hq hs => by
    obtain ⟨cs', t, h1, _, _, h2⟩ := hS q hs
    rw [hq] at h1; cases h1; exact h2 rfl)
  have hq := Kd.R_reads' ht
  have hl := rows_logC hl hok
  refine ⟨hq.1, hl.1, hq.2.2, by have := hq.2.1; show G.told.length ≤ ct; omega, hl.2.2, by have := hl.2.1; show G.log.length ≤ cl; omega⟩
theorem EG.resC {B wb np cp : Nat} {Ap At Al : Option Addr} {budget depth : Int} {G : Gs} {ents : List Ent} {nt ct nl cl : Nat} {w w1 : World} {S : Nat → Prop} (h : EG B wb Ap np cp budget depth G ents (.slice At nt ct) (.slice Al nl cl) w) (hk : Keep S w w1) (hS : ∀ q, S q → ∃ cs t, w.heap[q]? = some (.cells cs t (0, 0)) ∧ t ≠ 2 ∧ t ≠ 54 ∧ t ≠ 3) (v f : Int) : nt = G.told.length ∧ nl = G.log.length ∧ ResC w1 (v, f, G.told, G.log) At ct Al cl := by
  obtain ⟨h1, h2, h3⟩ := h.resR hk hS v f
  refine ⟨h1, h2, h3, fun T w2 hk2 hT => ?_⟩
  obtain ⟨k, hq⟩ := keep_two hk (fun q _ hs => hS q hs) hk2 hT
  exact (h.resR k hq v f).2.2
structure EvW (w : World) (b d : Int) (W : World) : Prop where
  below : Below w.heap.size w W
  c0 : W.heap[w.heap.size]? = some (.cells #[.int .i64 b, .int .i64 d] 40 (0, 0))
  c1 : W.heap[w.heap.size + 1]? = some (.cells #[.int .i64 0, .int .i64 0, .slice none 0 0, .slice none 0 0] 77 (0, 0))
  c2 : W.heap[w.heap.size + 1 + 1]? = some (.cells #[.int .i64 0] 34 (0, 0))
theorem EvW.size {w W : World} {b d : Int} (h : EvW w b d W) : w.heap.size + 3 ≤ W.heap.size := by
  have := blk_lt h.c2; omega
theorem EvW.keep {w w' w'' : World} {b d : Int} (h : EvW w b d w') (k : Below (w.heap.size + 3) w' w'') : EvW w b d w'' :=
  ⟨h.below.trans (k.mono (by omega)), (k.block _ (by omega)).trans h.c0, (k.block _ (by omega)).trans h.c1, (k.block _ (by omega)).trans h.c2⟩
theorem EvW.start (w : World) (b d : Int) : EvW w b d (((w.alloc (.cells #[.int .i64 b, .int .i64 d] 40)).alloc (.cells #[.int .i64 0, .int .i64 0, .slice none 0 0, .slice none 0 0] 77)).alloc (.cells #[.int .i64 0] 34)) := by
  have e1 : (w.alloc (.cells #[.int .i64 b, .int .i64 d] 40)).heap.size = w.heap.size + 1 := Array.size_push _
  have e2 : ((w.alloc (.cells #[.int .i64 b, .int .i64 d] 40)).alloc (.cells #[.int .i64 0, .int .i64 0, .slice none 0 0, .slice none 0 0] 77)).heap.size = w.heap.size + 1 + 1 := by
    rw [← e1]; exact Array.size_push _
  have b1 := (Below.refl w.heap.size w).alloc (Nat.le_refl _) (.cells #[.int .i64 b, .int .i64 d] 40)
  have b2 := b1.alloc b1.size (.cells #[.int .i64 0, .int .i64 0, .slice none 0 0, .slice none 0 0] 77)
  refine ⟨b2.alloc b2.size _, blk_alloc (blk_alloc (alloc_blk w _) _) _, ?_, ?_⟩
  · have := alloc_blk (w.alloc (.cells #[.int .i64 b, .int .i64 d] 40)) (.cells #[.int .i64 0, .int .i64 0, .slice none 0 0, .slice none 0 0] 77)
    rw [e1] at this
    exact blk_alloc this _
  · have := alloc_blk ((w.alloc (.cells #[.int .i64 b, .int .i64 d] 40)).alloc (.cells #[.int .i64 0, .int .i64 0, .slice none 0 0, .slice none 0 0] 77)) (.cells #[.int .i64 0] 34)
    rw [e2] at this
    exact this
theorem eval_results {tmps : Array Value} {w : World} {h : Nat} {x0 x1 x2 x3 : Value} {e : Int} (t8 : tmps.getD 8 undef = .pointer (some ⟨h + 1, 0, none⟩)) (t9 : tmps.getD 9 undef = .pointer (some ⟨h + 1 + 1, 0, none⟩)) (c1 : w.heap[h + 1]? = some (.cells #[x0, x1, x2, x3] 77 (0, 0))) (c2 : w.heap[h + 1 + 1]? = some (.cells #[.int .i64 e] 34 (0, 0))) :
    (results Try.f21 tmps).run Try.prog w = .ok (.tuple #[.agg #[x0, x1, x2, x3], .int .i64 e]) w := by
  have q0 := blk_cell c1 0
  have q1 := blk_cell c1 1
  have q2 := blk_cell c1 2
  have q3 := blk_cell c1 3
  have p0 := blk_cell c2 0
  simp only [Array.getD_eq_getD_getElem?] at t8 t9
  simp [results, Try.results21, go_sem, t8, t9, q0, q1, q2, q3, p0]
section
variable {A Aa : Option Addr} {c ca : Nat} {l : List S64} {args : List Int} {b d most : Int} {w : World}
set_option maxRecDepth 100000 in
set_option maxHeartbeats 8000000 in
theorem Eval_any (hC : k64.C w A l.length l) (hc : l.length ≤ c) (hCa : (Kd.int .i64).C w Aa args.length args) (hca : args.length ≤ ca) (hmost : most ≤ 900000) :
    Calls Try.prog 21 #[.slice A l.length c, .slice Aa args.length ca, .agg #[.int .i64 b, .int .i64 d], .int .i64 most] w (EvalPost w (evalR l args b d most.toNat)) := by
  obtain ⟨r, hr⟩ : ∃ r, r = evalR l args b d most.toNat := ⟨_, rfl⟩
  rw [← hr]
  obtain ⟨W3, hW3⟩ : ∃ W3, W3 = ((w.alloc (.cells #[.int .i64 b, .int .i64 d] 40)).alloc (.cells #[.int .i64 0, .int .i64 0, .slice none 0 0, .slice none 0 0] 77)).alloc (.cells #[.int .i64 0] 34) := ⟨_, rfl⟩
  have hE3 : EvW w b d W3 := by rw [hW3]; exact EvW.start w b d
  have H0 := Aside0.mk (And.intro hC (And.intro hc (And.intro hCa (And.intro hca (And.intro hmost hr)))))
  have HW3 := Aside0.mk hW3
  have H3 := Aside0.mk hE3
  have y0 := blk_cell hE3.c0 0
  have y1 := blk_cell hE3.c0 1
  clear hW3 hC hc hCa hca hmost hr hE3
  go_enter_defers Try.func21, Try.ntmps21
  go_upto_region 1 with (fail)
  rw [← HW3.out]
  go_wp2_with fail
  refine (eval_Right.calls A c l Aa ca args b d _ W3 (Kd.C_below H0.out.1 H3.out.below) H0.out.2.1 (Kd.C_below H0.out.2.2.1 H3.out.below) H0.out.2.2.2.1 (evRight_f l args b d)).mono ?_
  rintro e w4 ⟨rfl, hb4⟩
  have hE4 := H3.out.keep (hb4.mono H3.out.size)
  have H4 := Aside0.mk hE4
  clear y0 y1 hE4 hb4
  cases hRt : evRight l args.length b d with
  | false =>
    have hr := H0.out.2.2.2.2.2
    unfold evalR at hr
    rw [if_neg (by rw [hRt]; decide)] at hr
    have HR := Aside0.mk hr
    have s0 := blk_cell H4.out.c1 0
    have s1 := blk_cell H4.out.c1 1
    have s2 := blk_cell H4.out.c1 2
    have s3 := blk_cell H4.out.c1 3
    have z0 := blk_frozen H4.out.c1 0
    have z1 := blk_frozen H4.out.c1 1
    have z2 := blk_frozen H4.out.c1 2
    have z3 := blk_frozen H4.out.c1 3
    have e0 := blk_cell H4.out.c2 0
    have f0 := blk_frozen H4.out.c2 0
    clear hr hRt
    go_wp2_with fail
    have n3 : w.heap.size + 1 + 1 ≠ w.heap.size + 1 := by omega
    have d1 := blk_set (blk_set (blk_set (blk_set H4.out.c1 0 (.int .i64 0)) 1 (.int .i64 0)) 2 (.slice none 0 0)) 3 (.slice none 0 0)
    have e2 := blk_set (blk_farC (p := ⟨w.heap.size + 1, 3, none⟩) (blk_farC (p := ⟨w.heap.size + 1, 2, none⟩) (blk_farC (p := ⟨w.heap.size + 1, 1, none⟩) (blk_farC (p := ⟨w.heap.size + 1, 0, none⟩) H4.out.c2 n3 (.int .i64 0)) n3 (.int .i64 0)) n3 (.slice none 0 0)) n3 (.slice none 0 0)) 0 (.int .i64 1)
    have d2 := blk_farC (p := ⟨w.heap.size + 1 + 1, 0, none⟩) d1 (Ne.symm n3) (.int .i64 1)
    have hk9 := ((((((Keep.refl (fun q => q = w.heap.size + 1 ∨ q = w.heap.size + 1 + 1) w4).set (p := ⟨w.heap.size + 1, 0, none⟩) (.inr (.inl rfl)) (.int .i64 0)).set (p := ⟨w.heap.size + 1, 1, none⟩) (.inr (.inl rfl)) (.int .i64 0)).set (p := ⟨w.heap.size + 1, 2, none⟩) (.inr (.inl rfl)) (.slice none 0 0)).set (p := ⟨w.heap.size + 1, 3, none⟩) (.inr (.inl rfl)) (.slice none 0 0)).set (p := ⟨w.heap.size + 1 + 1, 0, none⟩) (.inr (.inr rfl)) (.int .i64 1)).below H4.out.below.size (B := w.heap.size) (fun q hq hp => by omega)
    refine ⟨_, eval_results rfl rfl d2 e2, ⟨none, 0, none, 0, ?_, ?_⟩, H4.out.below.trans hk9⟩
    · rw [HR.out]; rfl
    · rw [HR.out]; exact ResC.none _
  | true =>
    obtain ⟨hl, hb, hd, hn, hn4⟩ := evRight_ok hRt
    have hr := H0.out.2.2.2.2.2
    unfold evalR at hr
    rw [if_pos hRt] at hr
    have HR := Aside0.mk (And.intro hr (And.intro hl (And.intro hb (And.intro hd (And.intro hn hn4)))))
    clear hr hRt hl hb hd hn hn4
    have y0 := blk_cell H4.out.c0 0
    have y1 := blk_cell H4.out.c0 1
    have hmax := max_most most
    obtain ⟨n, hn⟩ : ∃ n, n = most.toNat := ⟨_, rfl⟩
    have HN := Aside0.mk hn
    rw [← hn] at hmax
    clear hn
    obtain ⟨wb, hwb⟩ : ∃ wb, wb = w4.heap.size := ⟨_, rfl⟩
    obtain ⟨W5, hW5⟩ : ∃ W5, W5 = (w4.alloc (.cells #[.slice A l.length c, .int .i64 b, .int .i64 d, .int .i64 n, .int .i64 0, .int .i64 0, .slice none 0 0, .slice none 0 0] 111)).alloc (.cells #[.pointer (some ⟨wb, 0, none⟩)] 109) := ⟨_, rfl⟩
    have hsz : (w4.alloc (.cells #[.slice A l.length c, .int .i64 b, .int .i64 d, .int .i64 n, .int .i64 0, .int .i64 0, .slice none 0 0, .slice none 0 0] 111)).heap.size = wb + 1 := by rw [hwb]; exact Array.size_push _
    have hn5 : W5.heap[wb]? = some (.cells #[.slice A l.length c, .int .i64 b, .int .i64 d, .int .i64 n, .int .i64 0, .int .i64 0, .slice none 0 0, .slice none 0 0] 111 (0, 0)) := by rw [hW5]; exact blk_alloc (by rw [hwb]; exact alloc_blk w4 _) _
    have hp5 : W5.heap[wb + 1]? = some (.cells #[.pointer (some ⟨wb, 0, none⟩)] 109 (0, 0)) := by
      rw [hW5]
      have := alloc_blk (w4.alloc (.cells #[.slice A l.length c, .int .i64 b, .int .i64 d, .int .i64 n, .int .i64 0, .int .i64 0, .slice none 0 0, .slice none 0 0] 111)) (.cells #[.pointer (some ⟨wb, 0, none⟩)] 109)
      rwa [hsz] at this
    have hb5 : Below w4.heap.size w4 W5 := by
      have b1 := (Below.refl w4.heap.size w4).alloc (Nat.le_refl _) (.cells #[.slice A l.length c, .int .i64 b, .int .i64 d, .int .i64 n, .int .i64 0, .int .i64 0, .slice none 0 0, .slice none 0 0] 111)
      rw [hW5]; exact b1.alloc b1.size _
    have HWB := Aside0.mk (And.intro hwb hW5)
    have H5 := Aside0.mk (And.intro hn5 (And.intro hp5 hb5))
    clear hsz hn5 hp5 hb5 hwb hW5
    go_wp2_with fail
    rw [← HWB.out.1, ← HWB.out.2]
    have ES5 := Aside0.mk (show ∀ {w' : World}, Below W5.heap.size W5 w' → ES ⟨w4, wb, wb, A, c, b, d⟩ l ⟨n, [], []⟩ [] (.slice none 0 0) (.slice none 0 0) w' from fun hb => ⟨⟨(hb.block _ (blk_lt H5.out.1)).trans H5.out.1, Kd.R_nil _ _ _ _ _, Kd.R_nil _ _ _ _ _, ⟨rfl, fun j h1 => absurd h1 (Nat.not_lt_zero _)⟩, Nat.le_refl _⟩, H5.out.2.2.trans (hb.mono H5.out.2.2.size), Kd.C_below H0.out.1 H4.out.below, by show w4.heap.size ≤ wb; rw [HWB.out.1]; exact Nat.le_refl _⟩)
    have t10 := blk_cell H5.out.2.1 0
    have HT := Aside0.mk t10
    clear t10
    refine wp_region_seq2 (fun w' => w'.heap[wb + 1]? = W5.heap[wb + 1]?) [] [.take 0, .take 1, .take 2, .op 3, .op 4, .op 5, .op 6, .op 7, .op 8] (by kernel_rfl) (by kernel_rfl) rfl (by kernel_rfl) (panic_put2 rfl (by kernel_rfl)) ?_
    have hs : W5.drew.heap[wb + 1]? = W5.heap[wb + 1]? := rfl
    repeat (
      (first
        | (refine runSeq2_take (v := ?_) (by rfl) (by rfl) (fun w' hS => ?_) hs ?_
           rotate_left
           · (have t10 := blk_cell (hS.trans H5.out.2.1) 0; go_simp; exact rfl))
        | refine runSeq2_skip (by rfl) (by rfl) hs ?_)
      (try simp only [Act.put, List.setIfInBounds_toArray, List.set_cons_zero, List.set_cons_succ]))
    refine runSeq2_op (by rfl) (by rfl) (fun K hK => ?_)
    go_simp
    refine hK _ _ hs ?_
    clear hK K
    have hbeg := begin_all (c := ⟨w4, wb, wb, A, c, b, d⟩) (M := n + 1) HR.out.2.1 (by have := H0.out.2.2.2.2.1; have := HN.out; omega) (by have := HR.out.2.2.2.1; show d ≤ 900; omega) (by have := HR.out.2.2.1; show 0 ≤ b ∧ b ≤ 1000000; omega) (n + 1) ⟨n, [], []⟩ [] (.slice none 0 0) (.slice none 0 0) W5.drew 0 none 0 [] Aa ca args noHands (ES5.out (Below.refl _ _).drew) ⟨by show 0 + n ≤ n + 1; omega, by show 0 + n ≤ n + 1; omega, fun e he => by cases he⟩ (by show 0 + 1 + n ≤ n + 1; omega) (by have := HR.out.2.1.len; omega) (PathAt.nil _) (Nat.le_refl _) (fun _ => rfl) (by have := HR.out.2.2.2.1.1; show ((0 : Nat) : Int) ≤ d; omega) (by have := HR.out.2.2.2.2.2; omega) (Kd.C_below (Kd.C_below H0.out.2.2.1 (H4.out.below.trans (H5.out.2.2.mono H4.out.below.size))) ((Below.refl _ _).drew)) H0.out.2.2.2.1 rfl (by show n < n + 1; omega)
    have HBG := Aside0.mk hbeg
    clear hbeg
    refine runSeq2_op (by rfl) (by rfl) (fun K hK => ?_)
    go_simp
    refine HBG.out.mono ?_
    clear HBG
    intro e w6 hpost
    obtain ⟨q, hq⟩ : ∃ q, q = beginP l b d (n + 1) ⟨n, [], []⟩ ((0 : Nat) : Int) [] args noHands := ⟨_, rfl⟩
    have hq2 : r = endR q := by
      rw [HR.out.1]
      unfold evalP
      have hq' : beginP l b d (most.toNat + 1) ⟨most.toNat, [], []⟩ 0 [] args noHands = q := by rw [← HN.out, hq]; rfl
      rw [hq']
      obtain ⟨o, G⟩ := q
      cases o <;> rfl
    replace hpost : EndP ⟨w4, wb, wb, A, c, b, d⟩ l (PG wb (.slice none 0 0) (.slice none 0 0)) q.1 q.2 W5.drew e w6 := by rw [hq]; exact hpost
    have HQ := Aside0.mk hq2
    clear hq hq2
    obtain ⟨hend, hk6, ents, vt, vl, hE6, hq6⟩ := hpost
    have hpg : ∀ x, PG wb (.slice none 0 0) (.slice none 0 0) x → x = wb := by
      intro x hx
      rcases hx with hx | hx | hx
      · exact hx
      · cases hx
      · cases hx
    have hk6' : Keep (fun x => x = wb) W5.drew w6 := hk6.mono (fun x _ hx => hpg x hx)
    have hb6 : Below w4.heap.size w4 w6 := H5.out.2.2.drew.trans (hk6'.below H5.out.2.2.drew.size (fun x hx e => by rw [HWB.out.1] at e; omega))
    have hE9 := H4.out.keep (hb6.mono H4.out.size)
    have hp6 : w6.heap[wb + 1]? = some (.cells #[.pointer (some ⟨wb, 0, none⟩)] 109 (0, 0)) := hk6'.blk (show W5.drew.heap[wb + 1]? = _ from H5.out.2.1) (by omega)
    obtain ⟨At, ct, rfl⟩ := Kd.R_slice hE6.eg.told
    obtain ⟨Al, cl, rfl⟩ := Kd.R_slice hE6.eg.log
    have H6 := Aside0.mk (And.intro hE6 (And.intro hb6 (And.intro hE9 (And.intro hp6 hk6'))))
    have hnode := hE6.eg.node
    have HND := Aside0.mk hnode
    have y4 := blk_cell hnode 4
    have z4 := blk_frozen hnode 4
    obtain ⟨o, G⟩ := q
    clear hk6 hq6 hpg hk6' hb6 hE9 hE6 hnode hs
    cases o with
    | val v =>
      have he : e = .returned (.int .i64 v) := hend
      clear hend
      subst he
      refine hK _ _ (hp6.trans H5.out.2.1.symm) ?_
      clear hK K
      (try simp only [Act.put, List.setIfInBounds_toArray, List.set_cons_zero, List.set_cons_succ])
      refine runSeq2_op (by rfl) (by rfl) (fun K hK => ?_)
      go_simp
      refine hK _ _ (hp6.trans H5.out.2.1.symm) ?_
      clear hK K
      refine runSeq2_op (by rfl) (by rfl) (fun K hK => ?_)
      go_simp
      refine hK _ _ (hp6.trans H5.out.2.1.symm) ?_
      clear hK K
      refine runSeq2_op (by rfl) (by rfl) (fun K hK => ?_)
      go_simp
      refine hK _ _ (hp6.trans H5.out.2.1.symm) ?_
      clear hK K
      obtain ⟨W7, hW7⟩ : ∃ W7, W7 = w6.setCell ⟨wb, 4, none⟩ (.int .i64 v) := ⟨_, rfl⟩
      have hk7 : Keep (fun x => x = wb) w6 W7 := by rw [hW7]; exact (Keep.refl (fun x => x = wb) w6).set (p := ⟨wb, 4, none⟩) (.inr rfl) _
      have hp7 := hk7.blk hp6 (by omega)
      have hn7 := blk_set HND.out 4 (.int .i64 v)
      rw [← hW7] at hn7
      have HW7 := Aside0.mk hW7
      have hE7 := H6.out.2.2.1.keep ((hk7.below H6.out.2.1.size (fun x hx e => by rw [HWB.out.1] at e; omega)).mono H4.out.size)
      have H7 := Aside0.mk (And.intro hk7 (And.intro hp7 (And.intro hn7 hE7)))
      clear hW7 hp6
      refine runSeq2_op (by rfl) (by rfl) (fun K hK => ?_)
      go_simp
      rw [← HW7.out]
      refine hK _ _ (hp7.trans H5.out.2.1.symm) ?_
      clear hK K y4 z4
      refine runSeq2_nil ?_
      have p0 := blk_cell hp7 0
      have r4 := blk_cell hn7 4
      have r5 := blk_cell hn7 5
      have r6 := blk_cell hn7 6
      have r7 := blk_cell hn7 7
      have s0 := blk_cell hE7.c1 0
      have s1 := blk_cell hE7.c1 1
      have s2 := blk_cell hE7.c1 2
      have s3 := blk_cell hE7.c1 3
      have z0 := blk_frozen hE7.c1 0
      have z1 := blk_frozen hE7.c1 1
      have z2 := blk_frozen hE7.c1 2
      have z3 := blk_frozen hE7.c1 3
      have e0 := blk_cell hE7.c2 0
      have f0 := blk_frozen hE7.c2 0
      clear hk7 hp7 hn7 hE7
      go_wp2_with fail
      have n3 : w.heap.size + 1 + 1 ≠ w.heap.size + 1 := by omega
      have hnw : w.heap.size + 1 ≠ wb := by have h1 := H4.out.size; have h2 := HWB.out.1; omega
      have hnw2 : w.heap.size + 1 + 1 ≠ wb := by have h1 := H4.out.size; have h2 := HWB.out.1; omega
      obtain ⟨hk7, hp7, hn7, hE7⟩ := H7.out
      obtain ⟨hE6, hb6, hE9, hp6, hk6⟩ := H6.out
      have d1 := blk_set (blk_set (blk_set (blk_set hE7.c1 0 (.int .i64 v)) 1 (.int .i64 0)) 2 (.slice At G.told.length ct)) 3 (.slice Al ents.length cl)
      have e2 := blk_set (blk_farC (p := ⟨w.heap.size + 1, 3, none⟩) (blk_farC (p := ⟨w.heap.size + 1, 2, none⟩) (blk_farC (p := ⟨w.heap.size + 1, 1, none⟩) (blk_farC (p := ⟨w.heap.size + 1, 0, none⟩) hE7.c2 n3 (.int .i64 v)) n3 (.int .i64 0)) n3 (.slice At G.told.length ct)) n3 (.slice Al ents.length cl)) 0 (.int .i64 0)
      have d2 := blk_farC (p := ⟨w.heap.size + 1 + 1, 0, none⟩) d1 (Ne.symm n3) (.int .i64 0)
      have hk8 := hk7.mono (T := fun q => q = wb ∨ q = w.heap.size + 1 ∨ q = w.heap.size + 1 + 1) (fun q _ e => .inl e)
      have hk9 := ((((hk8.set (p := ⟨w.heap.size + 1, 0, none⟩) (.inr (.inr (.inl rfl))) (.int .i64 v)).set (p := ⟨w.heap.size + 1, 1, none⟩) (.inr (.inr (.inl rfl))) (.int .i64 0)).set (p := ⟨w.heap.size + 1, 2, none⟩) (.inr (.inr (.inl rfl))) (.slice At G.told.length ct)).set (p := ⟨w.heap.size + 1, 3, none⟩) (.inr (.inr (.inl rfl))) (.slice Al ents.length cl)).set (p := ⟨w.heap.size + 1 + 1, 0, none⟩) (.inr (.inr (.inr rfl))) (.int .i64 0)
      have hrc := hE6.eg.resC hk9 (fun q hq => by
        rcases hq with rfl | rfl | rfl
        · exact ⟨_, _, hE6.eg.node, by decide, by decide, by decide⟩
        · exact ⟨_, _, hE9.c1, by decide, by decide, by decide⟩
        · exact ⟨_, _, hE9.c2, by decide, by decide, by decide⟩) v 0
      have hbw : Below w.heap.size w _ := (H4.out.below.trans (hb6.mono (by have := H4.out.below.size; omega))).trans (hk9.below (B := w.heap.size) (by have h1 := hE9.below.size; omega) (fun q hq hs => by have h1 := H4.out.size; have h2 := HWB.out.1; rcases hs with h3 | h3 | h3 <;> omega))
      refine leaves_cons (f := 37) (args := #[.pointer (some ⟨wb + 1, 0, none⟩), .pointer (some ⟨w.heap.size + 1, 0, none⟩), .pointer (some ⟨w.heap.size + 1 + 1, 0, none⟩)]) (by simp) (by simp [go_sem]) ?_
      refine (ecatch_idle _ _ _ _).mono ?_
      rintro e u' w2 ⟨rfl, rfl, rfl⟩
      refine ⟨_, eval_results rfl rfl d2 e2, ⟨At, ct, Al, cl, ?_, ?_⟩, hbw⟩
      · rw [HQ.out]
        show _ = _
        rw [hrc.2.1]
        rfl
      · rw [HQ.out]; exact hrc.2.2
    | fail why =>
      have he : e = .panicked [{ v := failV why, recovered := false }] := hend
      clear hend
      subst he
      refine leaves_cons (f := 37) (args := #[.pointer (some ⟨wb + 1, 0, none⟩), .pointer (some ⟨w.heap.size + 1, 0, none⟩), .pointer (some ⟨w.heap.size + 1 + 1, 0, none⟩)]) (by simp) (by simp [go_sem]) ?_
      obtain ⟨hE6, hb6, hE9, hp6, hk6⟩ := H6.out
      refine (ecatch_fail why hp6 HND.out hE9.c1 hE9.c2).mono ?_
      rintro e u' w9 ⟨rfl, rfl, hk9, d2, e2⟩
      have hrc := hE6.eg.resC hk9 (fun q hq => by
        rcases hq with rfl | rfl | rfl
        · exact ⟨_, _, hE6.eg.node, by decide, by decide, by decide⟩
        · exact ⟨_, _, hE9.c1, by decide, by decide, by decide⟩
        · exact ⟨_, _, hE9.c2, by decide, by decide, by decide⟩) 0 why
      have hbw : Below w.heap.size w _ := (H4.out.below.trans (hb6.mono (by have := H4.out.below.size; omega))).trans (hk9.below (B := w.heap.size) (by have h1 := hE9.below.size; omega) (fun q hq hs => by have h1 := H4.out.size; have h2 := HWB.out.1; rcases hs with h3 | h3 | h3 <;> omega))
      refine ⟨_, eval_results rfl rfl d2 e2, ⟨At, ct, Al, cl, ?_, ?_⟩, hbw⟩
      · rw [HQ.out]
        show _ = _
        rw [hrc.2.1]
        rfl
      · rw [HQ.out]; exact hrc.2.2
    | long =>
      have he : e = .panicked [{ v := longV, recovered := false }] := hend
      clear hend
      subst he
      refine leaves_cons (f := 37) (args := #[.pointer (some ⟨wb + 1, 0, none⟩), .pointer (some ⟨w.heap.size + 1, 0, none⟩), .pointer (some ⟨w.heap.size + 1 + 1, 0, none⟩)]) (by simp) (by simp [go_sem]) ?_
      obtain ⟨hE6, hb6, hE9, hp6, hk6⟩ := H6.out
      refine (ecatch_long hp6 hE9.c1 hE9.c2).mono ?_
      rintro e u' w9 ⟨rfl, rfl, hk9, d2, e2⟩
      have hbw : Below w.heap.size w _ := (H4.out.below.trans (hb6.mono (by have := H4.out.below.size; omega))).trans (hk9.below (B := w.heap.size) (by have h1 := hE9.below.size; omega) (fun q hq hs => by have h1 := H4.out.size; have h2 := HWB.out.1; rcases hs with h3 | h3 <;> omega))
      refine ⟨_, eval_results rfl rfl d2 e2, ⟨none, 0, none, 0, ?_, ?_⟩, hbw⟩
      · rw [HQ.out]; rfl
      · rw [HQ.out]; exact ResC.none _
end
end Go.Proofs.Ytbekjccehhaljaa.H

set_option linter.unusedVariables false
set_option linter.unusedSimpArgs false
namespace Go.Proofs.Ytbekjccehhaljaa.H
open Go.RowKit Go.Hay Go.Proofs.YtbekjccehhaljaaW.PrintWords Go.Proofs.YtbekjccehhaljaaW.PrintLast Go.Proofs.YtbekjccehhaljaaW.PrintMore
theorem eval_of (A : Option Addr) (c : Nat) (P : List S83) (Aa : Option Addr) (ca : Nat) (args : List Int) (b d most : Int) (w : World) (hC : k64.C w A (P.map ofF).length (P.map ofF)) (hc : P.length ≤ c) (hA : (Kd.int .i64).C w Aa args.length args) (hca : args.length ≤ ca) (hm : most ≤ 900000) {r : EvR} (hr : r = evalR (P.map ofF) args b d most.toNat) :
    Calls Try.prog 21 #[.slice A P.length c, .slice Aa args.length ca, .agg #[.int .i64 b, .int .i64 d], .int .i64 most] w (EvalPost w r) := by
  rw [hr]
  have := Eval_any (b := b) (d := d) (most := most) (c := c) hC (by rw [List.length_map]; exact hc) hA hca hm
  rwa [List.length_map] at this
/-- behind an evaluation whose result is stored at bx. -/
structure AfterE (w W : World) (bx : Nat) (rv rf : Int) (told : List Int) (log : List (List Int × Int)) (At : Option Addr) (ct : Nat) (Al : Option Addr) (cl : Nat) : Prop where
  below : Below w.heap.size w W
  box : W.heap[bx]? = some (.cells #[.int .i64 rv, .int .i64 rf, .slice At told.length ct, .slice Al log.length cl] 77 (0, 0))
  res : ResC W (rv, rf, told, log) At ct Al cl
  new : w.heap.size ≤ bx
/-- ways that meet again: the frame is found where the first one ends. -/
theorem with_act {G : Prop} {F : Nat → Option Addr → Nat → Option Addr → Nat → Option Addr → Nat → World → Prop} {K : Act → World → Prop} (act : Nat → Option Addr → Nat → Option Addr → Nat → Option Addr → Nat → Act)
    (H : (∀ bx A c At ct Al cl W, F bx A c At ct Al cl W → K (act bx A c At ct Al cl) W) → G) (h : ∀ bx A c At ct Al cl W, F bx A c At ct Al cl W → K (act bx A c At ct Al cl) W) : G := H h
def zRes : Obj := .cells #[.int .i64 0, .int .i64 0, .slice none 0 0, .slice none 0 0] 77
theorem after_store {w w4 : World} {bx : Nat} {rv rf : Int} {told : List Int} {log : List (List Int × Int)} {At : Option Addr} {ct : Nat} {Al : Option Addr} {cl : Nat} (hb : Below w.heap.size w w4) (hx : w4.heap[bx]? = some zRes) (hn : w.heap.size ≤ bx) (hr : ResC w4 (rv, rf, told, log) At ct Al cl) {W : World}
    (hW : W = (((w4.setCell ⟨bx, 0, none⟩ (.int .i64 rv)).setCell ⟨bx, 1, none⟩ (.int .i64 rf)).setCell ⟨bx, 2, none⟩ (.slice At told.length ct)).setCell ⟨bx, 3, none⟩ (.slice Al log.length cl)) : AfterE w W bx rv rf told log At ct Al cl := by
  have hk : Keep (fun q => q = bx) w4 W := by
    rw [hW]
    exact ((((Keep.refl (fun q => q = bx) w4).set (p := ⟨bx, 0, none⟩) (.inr rfl) _).set (p := ⟨bx, 1, none⟩) (.inr rfl) _).set (p := ⟨bx, 2, none⟩) (.inr rfl) _).set (p := ⟨bx, 3, none⟩) (.inr rfl) _
  refine ⟨hb.trans (hk.below (B := w.heap.size) hb.size (fun q hq e => by subst e; omega)), ?_, hr.step hk (fun q _ e => by subst e; exact ⟨_, _, hx, by decide, by decide, by decide⟩), hn⟩
  have := blk_set (blk_set (blk_set (blk_set hx 0 (.int .i64 rv)) 1 (.int .i64 rf)) 2 (.slice At told.length ct)) 3 (.slice Al log.length cl)
  rw [hW]
  exact this
end Go.Proofs.Ytbekjccehhaljaa.H

set_option linter.unusedVariables false
set_option linter.unusedSimpArgs false
namespace Go.Proofs.Ytbekjccehhaljaa.H
open Go.RowKit Go.Hay Go.Proofs.YtbekjccehhaljaaW.PrintWords Go.Proofs.YtbekjccehhaljaaW.PrintLast Go.Proofs.YtbekjccehhaljaaW.PrintMore
/-- nothing of it is told, begun or counted. -/
structure Quiet (T T' : Tu) : Prop where
  kids : T'.kids = T.kids
  ps : T'.ps = T.ps
  told : T'.told = T.told
  steps : T'.steps = T.steps
  hands : T'.hands = T.hands
  wait : T'.wait = T.wait ∨ syncBad T = false
theorem Quiet.refl (T : Tu) : Quiet T T := ⟨rfl, rfl, rfl, rfl, rfl, .inl rfl⟩
inductive StepC (l : List S64) (depth : Int) (rec : Gu → List Int → List S61 → Tu → RU) (path : List Int) (x : S61) (T : Tu) (G : Gu) : SU → Prop
  | quiet (T' : Tu) (h : Quiet T T') : StepC l depth rec path x T G (.go T' G)
  | emit (T' : Tu) (n : Int) (h1 : T'.kids = T.kids) (h2 : T'.ps = T.ps ++ [⟨false, n⟩]) (h3 : T'.told = T.told + 1) (h4 : T'.steps = T.steps) (h5 : T'.hands = T.hands) (h6 : T'.wait = T.wait) : StepC l depth rec path x T G (.go T' G)
  | stop (v f : Int) (T' : Tu) (h : Quiet T T') (hv : f = 0 ∨ v = 0) (hf : f ≠ 0 ∨ syncBad T = false ∨ (x.f0 = 16 ∧ f = x.f4)) : StepC l depth rec path x T G (.stop v f T' G)
  | long : StepC l depth rec path x T G .long
  | kid (v f r : Int) (T2 T' : Tu) (G2 : Gu) (e : Nat) (hop : x.f0 = 11 ∨ x.f0 = 13) (hd : (path.length : Int) ≠ depth) (hr : rec G (path ++ [(T.kids.length : Int)]) (rd_T64 l x.f3).f1 (newTu (argsU l x T) T.hands) = some (v, f, T2, G2))
      (h1 : T'.kids = T.kids ++ [(mkNode T2 v f, r)]) (h2 : T'.ps = T.ps ++ [⟨true, (T.kids.length : Int)⟩]) (h3 : T'.told = T.told) (h4 : T'.steps = T.steps) (h6 : T'.wait = T.wait) (he : e ≤ 1) :
      StepC l depth rec path x T G (.go T' { noteU (path ++ [(T.kids.length : Int)]) T2 G2 with cells := G2.cells + e })
theorem stepU_c (l : List S64) (depth : Int) (rec : Gu → List Int → List S61 → Tu → RU) (path : List Int) (x : S61) (T : Tu) (G : Gu) : StepC l depth rec path x T G (stepU l depth rec path x T G) := by
  unfold stepU
  refine ite_i (fun e => ?_) (fun n1 => ite_i (fun e => ?_) (fun n2 => ite_i (fun e => ?_) (fun n8 => ite_i (fun e => ?_) (fun n9 => ite_i (fun e => ?_) (fun n10 => ite_i (fun e => ?_) (fun n11 => ite_i (fun e => ?_) (fun n12 => ite_i (fun e => ?_) (fun n14 => ite_i (fun e => ?_) (fun n15 => ite_i (fun e => ?_) (fun n16 => ?_))))))))))
  · exact .quiet _ ⟨rfl, rfl, rfl, rfl, rfl, .inl rfl⟩
  · exact .quiet _ ⟨rfl, rfl, rfl, rfl, rfl, .inl rfl⟩
  · cases reckonU x.f0 (uR T x.f2) (uR T x.f3) with
    | some n => exact .quiet _ ⟨rfl, rfl, rfl, rfl, rfl, .inl rfl⟩
    | none => exact .stop _ _ _ (Quiet.refl T) (.inr rfl) (.inl (by decide))
  · exact .quiet _ ⟨rfl, rfl, rfl, rfl, rfl, .inl rfl⟩
  · exact .quiet _ (ite_i (fun _ => ⟨rfl, rfl, rfl, rfl, rfl, .inl rfl⟩) (fun _ => Quiet.refl T))
  · refine ite_i (fun _ => .stop _ _ _ (Quiet.refl T) (.inr rfl) (.inl (by decide))) (fun hd => ?_)
    cases hq : rec G (path ++ [(T.kids.length : Int)]) (rd_T64 l x.f3).f1 (newTu (argsU l x T) T.hands) with
    | none => exact .long
    | some r =>
      obtain ⟨v, f, T2, G2⟩ := r
      show StepC l depth rec path x T G (kidGo x T (mkNode T2 v f) (noteU (path ++ [(T.kids.length : Int)]) T2 G2))
      unfold kidGo
      refine ite_i (fun e11 => ?_) (fun e13 => ?_)
      · exact .kid v f x.f1 T2 _ G2 0 e hd hq rfl rfl rfl rfl rfl (by omega)
      · exact .kid v f (-1) T2 _ G2 1 e hd hq rfl rfl rfl rfl rfl (by omega)
  · exact ite_i (fun _ => .stop _ _ _ (Quiet.refl T) (.inr rfl) (.inl (by decide))) (fun hs => .quiet _ ⟨rfl, rfl, rfl, rfl, rfl, .inr (by simpa using hs)⟩)
  · cases uH T x.f2 with
    | nil => exact .stop _ _ _ (Quiet.refl T) (.inr rfl) (.inl (by decide))
    | node ps ks v f => exact ite_i (fun _ => .stop _ _ _ (Quiet.refl T) (.inr rfl) (.inl (by decide))) (fun _ => .quiet _ ⟨rfl, rfl, rfl, rfl, rfl, .inl rfl⟩)
  · exact .emit _ _ rfl rfl rfl rfl rfl rfl
  · exact .stop _ _ _ (Quiet.refl T) (.inr rfl) (.inr (.inr ⟨e, rfl⟩))
  · exact ite_i (fun _ => .stop _ _ _ (Quiet.refl T) (.inr rfl) (.inl (by decide))) (fun hs => .stop _ _ _ ⟨rfl, rfl, rfl, rfl, rfl, .inr (by simpa using hs)⟩ (.inl rfl) (.inr (.inl (by simpa using hs))))
end Go.Proofs.Ytbekjccehhaljaa.H

set_option linter.unusedVariables false
set_option linter.unusedSimpArgs false
namespace Go.Proofs.Ytbekjccehhaljaa.H
open Go.RowKit Go.Hay Go.Proofs.YtbekjccehhaljaaW.PrintWords Go.Proofs.YtbekjccehhaljaaW.PrintLast Go.Proofs.YtbekjccehhaljaaW.PrintMore
mutual
def nodesT : Tr → Int
  | .nil => 0
  | .node ps ks v f => 1 + nodesTs ks
def nodesTs : List Tr → Int
  | [] => 0
  | k :: r => nodesT k + nodesTs r
end
mutual
def numsT : Tr → Int
  | .nil => 0
  | .node ps ks v f => ((ps.length : Int) - (ks.length : Int)) + numsTs ks
def numsTs : List Tr → Int
  | [] => 0
  | k :: r => numsT k + numsTs r
end
theorem metP_len : ∀ {l : List Pc} {m r : Int}, metP m l = some r → r ≤ m + (l.length : Int)
  | [], m, r, h => by rw [metP] at h; cases h; simp
  | p :: l, m, r, h => by
    rw [metP] at h
    rw [List.length_cons]
    by_cases h1 : p.f0 = true
    · rw [if_pos h1] at h
      by_cases h2 : p.f1 = m
      · rw [if_pos h2] at h; have := metP_len h; omega
      · rw [if_neg h2] at h; cases h
    · rw [if_neg h1] at h; have := metP_len h; omega
end Go.Proofs.Ytbekjccehhaljaa.H

set_option linter.unusedVariables false
set_option linter.unusedSimpArgs false
namespace Go.Proofs.Ytbekjccehhaljaa.H
open Go.RowKit Go.Hay Go.Proofs.YtbekjccehhaljaaW.PrintWords Go.Proofs.YtbekjccehhaljaaW.PrintLast Go.Proofs.YtbekjccehhaljaaW.PrintMore
theorem nodesTs_app (a b : List Tr) : nodesTs (a ++ b) = nodesTs a + nodesTs b := by
  induction a with
  | nil => simp [nodesTs]
  | cons x a ih => simp only [List.cons_append, nodesTs, ih]; omega
theorem numsTs_app (a b : List Tr) : numsTs (a ++ b) = numsTs a + numsTs b := by
  induction a with
  | nil => simp [numsTs]
  | cons x a ih => simp only [List.cons_append, numsTs, ih]; omega
theorem metP_app (p : Pc) : ∀ (l : List Pc) (m : Int), metP m (l ++ [p]) = (metP m l).bind (fun r => metP r [p])
  | [], m => rfl
  | q :: l, m => by
    rw [List.cons_append, metP, metP]
    by_cases h1 : q.f0 = true
    · rw [if_pos h1, if_pos h1]
      by_cases h2 : q.f1 = m
      · rw [if_pos h2, if_pos h2]; exact metP_app p l _
      · rw [if_neg h2, if_neg h2]; rfl
    · rw [if_neg h1, if_neg h1]; exact metP_app p l _
theorem rightTs_of : ∀ {ks : List Tr} {d : Int}, (∀ k ∈ ks, rightT k d = true) → rightTs ks d = true
  | [], d, _ => rfl
  | k :: r, d, h => by rw [rightTs, h k (List.mem_cons_self ..), rightTs_of (fun x hx => h x (List.mem_cons_of_mem _ hx))]; rfl
/-- what stays right within a task that began at G0. -/
structure NeedI (depth : Int) (path : List Int) (G0 : Gu) (T : Tu) (G : Gu) : Prop where
  met : metP 0 T.ps = some (T.kids.length : Int)
  right : ∀ k ∈ T.kids, rightT k.1 ((path.length : Int) + 1) = true
  pl : T.ps.length = T.kids.length + T.told
  path_ : (path.length : Int) ≤ depth
  frames : (G.frames : Int) = G0.frames + nodesTs (T.kids.map (·.1))
  cells : (G.cells : Int) ≤ G0.cells + nodesTs (T.kids.map (·.1))
  chl : (G.chunks : Int) - G0.chunks ≤ numsTs (T.kids.map (·.1))
  chh : numsTs (T.kids.map (·.1)) ≤ 4 * ((G.chunks : Int) - G0.chunks)
  left : G.left + G.steps + T.steps = G0.left + G0.steps
  steps : (G.frames : Int) - G0.frames ≤ (G.steps : Int) - G0.steps
theorem NeedI.quiet {depth : Int} {path : List Int} {G0 G : Gu} {T T' : Tu} (h : NeedI depth path G0 T G) (q : Quiet T T') : NeedI depth path G0 T' G :=
  ⟨by rw [q.ps, q.kids]; exact h.met, by rw [q.kids]; exact h.right, by rw [q.ps, q.kids, q.told]; exact h.pl, h.path_, by rw [q.kids]; exact h.frames, by rw [q.kids]; exact h.cells, by rw [q.kids]; exact h.chl, by rw [q.kids]; exact h.chh, by rw [q.steps]; exact h.left, h.steps⟩
theorem NeedI.start {depth : Int} {path : List Int} (G : Gu) (args : List Int) (hands : List Tr) (hp : (path.length : Int) ≤ depth) : NeedI depth path G (newTu args hands) G :=
  ⟨rfl, (fun k hk => by cases hk), rfl, hp, by simp [newTu, nodesTs], by simp [newTu, nodesTs], by simp [newTu, numsTs], by simp [newTu, numsTs], rfl, by omega⟩
/-- the node that a task comes to, and what is noted. -/
structure NeedE (d : Int) (G0 : Gu) (t : Tr) (G : Gu) : Prop where
  right : rightT t d = true
  frames : (G.frames : Int) = G0.frames + nodesT t
  cells : (G.cells : Int) + 1 ≤ G0.cells + nodesT t
  chl : (G.chunks : Int) - G0.chunks ≤ numsT t
  chh : numsT t ≤ 4 * ((G.chunks : Int) - G0.chunks)
  left : G.left + G.steps = G0.left + G0.steps
  steps : (G.frames : Int) - G0.frames ≤ (G.steps : Int) - G0.steps
theorem NeedI.fin {depth : Int} {path p2 : List Int} {G0 G : Gu} {T : Tu} (hd30 : depth ≤ 30) (h : NeedI depth path G0 T G) (h1 : 1 ≤ T.steps) {v f : Int} (hv : f = 0 ∨ v = 0) : NeedE (path.length : Int) G0 (mkNode T v f) (noteU p2 T G) := by
  have hm := h.met
  have hp := h.path_
  have hpl := h.pl
  have e1 : nodesT (mkNode T v f) = 1 + nodesTs (T.kids.map (·.1)) := rfl
  have e2 : numsT (mkNode T v f) = ((T.ps.length : Int) - ((T.kids.map (·.1)).length : Int)) + numsTs (T.kids.map (·.1)) := rfl
  rw [List.length_map] at e2
  have ht : numsT (mkNode T v f) = T.told + numsTs (T.kids.map (·.1)) := by rw [e2]; omega
  have a1 := h.frames
  have a2 := h.cells
  have a3 := h.chl
  have a4 := h.chh
  have a5 := h.left
  have a6 := h.steps
  refine ⟨?_, ?_, ?_, ?_, ?_, ?_, ?_⟩
  · show rightT (.node T.ps (T.kids.map (·.1)) v f) (path.length : Int) = true
    rw [rightT, if_neg (by rintro (h | ⟨h3, h4⟩); · omega
                           · rcases hv with h | h <;> contradiction), hm]
    show (if (T.kids.length : Int) = ((T.kids.map (·.1)).length : Int) then _ else _) = true
    rw [List.length_map, if_pos rfl]
    exact rightTs_of (fun k hk => by
      obtain ⟨q, hq, rfl⟩ := List.mem_map.1 hk
      exact h.right q hq)
  · show ((G.frames + 1 : Nat) : Int) = _; omega
  · show (G.cells : Int) + 1 ≤ _; omega
  · show ((G.chunks + (T.told + 3) / 4 : Nat) : Int) - G0.chunks ≤ _; omega
  · show _ ≤ 4 * (((G.chunks + (T.told + 3) / 4 : Nat) : Int) - G0.chunks); omega
  · show G.left + (G.steps + T.steps) = _; omega
  · show ((G.frames + 1 : Nat) : Int) - G0.frames ≤ ((G.steps + T.steps : Nat) : Int) - G0.steps; omega
def RunN (budget depth : Int) (rec : Gu → List Int → List S61 → Tu → RU) : Prop :=
  ∀ (G0 G : Gu) (path : List Int) (code : List S61) (T : Tu), NeedI depth path G0 T G → ∀ v f T' G', rec G path code T = some (v, f, T', G') → NeedI depth path G0 T' G' ∧ (f = 0 ∨ v = 0) ∧ 1 ≤ T'.steps
theorem NeedI.tick {depth : Int} {path : List Int} {G0 G : Gu} {T : Tu} (h : NeedI depth path G0 T G) (h2 : G.left ≠ 0) : NeedI depth path G0 (tickT T) (tickG G) :=
  ⟨h.met, h.right, h.pl, h.path_, h.frames, h.cells, h.chl, h.chh, by have := h.left; show G.left - 1 + G.steps + (T.steps + 1) = _; omega, h.steps⟩
def NeedR (depth : Int) (path : List Int) (G0 : Gu) (s : Nat) : SU → Prop
  | .go T' G' => NeedI depth path G0 T' G'
  | .stop v f T' G' => NeedI depth path G0 T' G' ∧ (f = 0 ∨ v = 0) ∧ T'.steps = s
  | .long => True
theorem need_step {l : List S64} {budget depth : Int} (hd30 : depth ≤ 30) {rec : Gu → List Int → List S61 → Tu → RU} (hrec : RunN budget depth rec) {path : List Int} {x : S61} {T1 : Tu} {G0 G1 : Gu} {r : SU} (hst : StepC l depth rec path x T1 G1 r) (ht : NeedI depth path G0 T1 G1) : NeedR depth path G0 T1.steps r := by
  cases hst with
  | quiet T2 q => exact ht.quiet q
  | emit T2 n e1 e2 e3 e4 _ _ =>
    refine ⟨?_, by rw [e1]; exact ht.right, by rw [e1, e2, e3, List.length_append]; have := ht.pl; simp; omega, ht.path_, by rw [e1]; exact ht.frames, by rw [e1]; exact ht.cells, by rw [e1]; exact ht.chl, by rw [e1]; exact ht.chh, by rw [e4]; exact ht.left, ht.steps⟩
    rw [e1, e2, metP_app, ht.met]
    rfl
  | stop v2 f2 T2 q hv _ => exact ⟨ht.quiet q, hv, q.steps⟩
  | long => trivial
  | kid v2 f2 r T2 T3 G2 c hop hd hr e1 e2 e3 e4 _ he =>
    have hp : ((path ++ [(T1.kids.length : Int)]).length : Int) = (path.length : Int) + 1 := by rw [List.length_append]; simp
    have hpd := ht.path_
    obtain ⟨a1, a2, a3⟩ := hrec G1 G1 _ _ _ (NeedI.start G1 _ _ (by rw [hp]; omega)) v2 f2 T2 G2 hr
    have hE := a1.fin (p2 := path ++ [(T1.kids.length : Int)]) hd30 a3 a2
    rw [hp] at hE
    obtain ⟨NG, hNG⟩ : ∃ NG, NG = noteU (path ++ [(T1.kids.length : Int)]) T2 G2 := ⟨_, rfl⟩
    have hc0 : NG.cells = G2.cells := by rw [hNG]; rfl
    rw [← hNG] at hE ⊢
    have e5 : T3.kids.map (·.1) = T1.kids.map (·.1) ++ [mkNode T2 v2 f2] := by rw [e1, List.map_append]; rfl
    have n1 : nodesTs (T3.kids.map (·.1)) = nodesTs (T1.kids.map (·.1)) + nodesT (mkNode T2 v2 f2) := by rw [e5, nodesTs_app]; simp [nodesTs]
    have n2 : numsTs (T3.kids.map (·.1)) = numsTs (T1.kids.map (·.1)) + numsT (mkNode T2 v2 f2) := by rw [e5, numsTs_app]; simp [numsTs]
    have b1 := ht.frames
    have b2 := ht.cells
    have b3 := ht.chl
    have b4 := ht.chh
    have b5 := ht.left
    have b6 := ht.steps
    have c1 := hE.frames
    have c2 := hE.cells
    have c3 := hE.chl
    have c4 := hE.chh
    have c5 := hE.left
    have c6 := hE.steps
    refine ⟨?_, ?_, ?_, ht.path_, ?_, ?_, ?_, ?_, ?_, ?_⟩
    · rw [e1, e2, metP_app, ht.met, List.length_append]
      show metP _ _ = _
      rw [metP, if_pos rfl, if_pos rfl, metP]
      simp
    · intro k hk
      rw [e1] at hk
      rcases List.mem_append.1 hk with hk | hk
      · exact ht.right k hk
      · rw [List.mem_singleton.1 hk]; exact hE.right
    · rw [e1, e2, e3, List.length_append, List.length_append]; have := ht.pl; simp; omega
    · show (NG.frames : Int) = _; omega
    · show ((G2.cells + c : Nat) : Int) ≤ _; omega
    · show (NG.chunks : Int) - _ ≤ _; omega
    · show _ ≤ 4 * ((NG.chunks : Int) - _); omega
    · show NG.left + NG.steps + T3.steps = _; omega
    · show (NG.frames : Int) - _ ≤ (NG.steps : Int) - _; omega
theorem runU_need (l : List S64) {budget depth : Int} (hb : 1 ≤ budget) (hd30 : depth ≤ 30) : ∀ k, RunN budget depth (runU l budget depth k) := by
  intro k
  induction k with
  | zero => intro G0 G path code T h v f T' G' e; cases e
  | succ k ih =>
    intro G0 G path code T h v f T' G' e
    rw [runU] at e
    by_cases h1 : (T.steps : Int) = budget
    · rw [if_pos h1] at e; cases e; exact ⟨h, .inr rfl, by omega⟩
    rw [if_neg h1] at e
    by_cases h2 : G.left = 0
    · rw [if_pos h2] at e; cases e
    rw [if_neg h2] at e
    have hst := need_step hd30 ih (stepU_c l depth (runU l budget depth k) path (rd_T61 code T.at_) (tickT T) (tickG G)) (h.tick h2)
    have hts : (tickT T).steps = T.steps + 1 := rfl
    generalize stepU l depth (runU l budget depth k) path (rd_T61 code T.at_) (tickT T) (tickG G) = r at hst e
    cases r with
    | go T2 G2 =>
      exact ih G0 G2 path code T2 hst v f T' G' e
    | stop v2 f2 T2 G2 =>
      cases e
      exact ⟨hst.1, hst.2.1, by rw [hst.2.2, hts]; omega⟩
    | long => cases e
/-- an unfolding's blocks. -/
theorem unfoldP_need {l : List S64} {args : List Int} {b d : Int} (hl : POk l) (hb : 1 ≤ b) (hd : 0 ≤ d ∧ d ≤ 30) (ha : args.length ≤ 8) {most : Nat} {t : Tr} {G : Gu} (h : unfoldP l args b d most = some (t, G)) :
    NeedE 0 ⟨most, [], 0, 0, 0, 0⟩ t G ∧ GUI (most + 1) b G := by
  unfold unfoldP beginU at h
  cases hq : runU l b d (most + 1) ⟨most, [], 0, 0, 0, 0⟩ [] (rd_T64 l 0).f1 (newTu args noHandsU) with
  | none => rw [hq] at h; cases h
  | some r =>
    obtain ⟨v, f, T, G1⟩ := r
    rw [hq] at h
    obtain ⟨a1, a2, a3⟩ := runU_need l hb hd.2 (most + 1) _ _ _ _ _ (NeedI.start (depth := d) (path := []) _ args noHandsU (by simpa using hd.1)) v f T G1 hq
    have hE := a1.fin (p2 := []) hd.2 a3 a2
    have hl1 := hl.len
    have hrd : rd_T64 l 0 = l[0] := by simp [rd_T64, show 0 < l.length by omega]
    rw [hrd] at hq
    obtain ⟨g1, g2, g3, g4⟩ := runU_ok hl (by omega) (most + 1) (most + 1) ⟨most, [], 0, 0, 0, 0⟩ [] 0 (by omega) _ ⟨by show 0 + most ≤ most + 1; omega, rfl, Nat.le_refl _, by show ((0 : Nat) : Int) ≤ b * ((0 : Nat) : Int); simp, by show ((0 : Nat) : Int) ≤ b * ((0 : Nat) : Int); simp, fun e he => by cases he⟩ (by show 0 + 1 + most ≤ most + 1; omega) (new_inv hl (by omega) 0 (by omega) (by simpa using hd.1) args ha noHandsU rfl) v f T G1 hq
    have hn := note_inv (p2 := []) (by omega) g1 g2 g4
    cases h
    exact ⟨hE, hn⟩
/-- in numbers. -/
theorem unfoldP_need3 {l : List S64} {args : List Int} {b d : Int} {t : Tr} {G : Gu} (h : unfoldP l args b d 3000 = some (t, G)) (hl : POk l) (hb : 1 ≤ b ∧ b ≤ 10000) (hd : 0 ≤ d ∧ d ≤ 30) (ha : args.length ≤ 4) :
    rightT t 0 = true ∧ nodesT t = G.frames ∧ G.log.length = G.frames ∧ G.cells < G.frames ∧ numsT t ≤ 4 * (G.chunks : Int) ∧ (G.chunks : Int) ≤ numsT t ∧ G.steps ≤ 3000 ∧ G.frames ≤ G.steps ∧ G.frames ≤ 3001 ∧ (G.chunks : Int) ≤ 100000000 := by
  obtain ⟨hE, hG⟩ := unfoldP_need hl hb.1 hd (by omega) h
  have a1 : (G.frames : Int) = ((0 : Nat) : Int) + nodesT t := hE.frames
  have a2 : (G.cells : Int) + 1 ≤ ((0 : Nat) : Int) + nodesT t := hE.cells
  have a3 : (G.chunks : Int) - ((0 : Nat) : Int) ≤ numsT t := hE.chl
  have a4 : numsT t ≤ 4 * ((G.chunks : Int) - ((0 : Nat) : Int)) := hE.chh
  have a5 : G.left + G.steps = 3000 + 0 := hE.left
  have a6 : (G.frames : Int) - ((0 : Nat) : Int) ≤ (G.steps : Int) - ((0 : Nat) : Int) := hE.steps
  have b1 := hG.frames
  have b2 := hG.log
  have b3 := hG.chunks
  have hm : b * (G.log.length : Int) ≤ 10000 * 3001 := Int.mul_le_mul hb.2 (by omega) (by omega) (by omega)
  exact ⟨hE.right, by omega, b1.symm, by omega, by omega, by omega, by omega, by omega, by omega, by omega⟩
end Go.Proofs.Ytbekjccehhaljaa.H

set_option linter.unusedVariables false
set_option linter.unusedSimpArgs false
namespace Go.Proofs.Ytbekjccehhaljaa.H
open Go.RowKit Go.Hay Go.Proofs.YtbekjccehhaljaaW.PrintWords Go.Proofs.YtbekjccehhaljaaW.PrintLast Go.Proofs.YtbekjccehhaljaaW.PrintMore
/-! ### fails' numbers -/
theorem instrE_16 {l : List S64} {lc : Nat} {x : S61} (h : instrE lc l x = none) (e : x.f0 = 16) : 16 ≤ x.f4 := by
  obtain ⟨a, b, c, k, is, hsh⟩ : ∃ a b c k is, shapeP x.f0 = (a, b, c, k, is) := ⟨_, _, _, _, _, rfl⟩
  rw [instrE_eq hsh] at h
  rw [e] at hsh
  simp [shapeP] at hsh
  obtain ⟨rfl, rfl, rfl, rfl, rfl⟩ := hsh
  by_cases h1 : x.f1 = 0
  · by_cases h2 : x.f2 = 0
    · by_cases h3 : x.f3 = 0
      · simp only [h1, h2, h3] at h
        simp at h
        have hk : fieldE l.length lc x.f4 6 = none := by first | exact h.2.2.2.1 | exact h.2.2.1 | exact h.2.1 | exact h.1
        exact ((fieldE_none hk).2.2.2.2.1 rfl).1
      · simp [h1, h2, h3] at h
    · simp [h1, h2] at h
  · simp [h1] at h
def K16 (l : List S64) : Prop := ∀ f (h : f < l.length) k (hk : k < l[f].f1.length), l[f].f1[k].f0 = 16 → 16 ≤ l[f].f1[k].f4
theorem check_16 {l : List S64} (h : (checkP l).2.2 = 0) : K16 l := by
  unfold checkP at h
  split at h
  · cases hf : funcsE l 0 l with
    | some e => rw [hf] at h; exact absurd h (funcsE_code hf)
    | none =>
      intro f hfl k hk e
      have h1 := funcsE_none hf f hfl
      unfold funcE at h1
      split at h1
      · split at h1
        · rw [Option.or_eq_none_iff] at h1
          exact instrE_16 (instrsE_none h1.1 k hk) e
        · cases h1
      · cases h1
  · cases h
theorem evRight_16 {l : List S64} {n : Nat} {b d : Int} (h : evRight l n b d = true) : K16 l := by
  unfold evRight at h
  split at h
  · rename_i hc; exact check_16 hc
  · exact absurd h (by decide)
/-! ### walking pieces -/
abbrev WR := List Int × Int × Option (List Int)
theorem preT_pre (a b : List Int) (r : WR) : preT a (preT b r) = preT (a ++ b) r := by simp [preT]
theorem walkPs_ok_app (qs : List Pc) (W : List WR) : ∀ ps : List Pc, (walkPs ps W).2.1 = 0 → walkPs (ps ++ qs) W = preT (walkPs ps W).1 (walkPs qs W)
  | [], _ => rfl
  | p :: ps, h => by
    rw [List.cons_append, walkPs, walkPs]
    rw [walkPs] at h
    by_cases hp : p.f0 = true
    · rw [if_pos hp] at h ⊢
      rw [if_pos hp]
      by_cases hk : (W.getD p.f1.toNat ([], 0, none)).2.1 = 0
      · rw [if_pos hk] at h ⊢
        rw [if_pos hk, walkPs_ok_app qs W ps h, preT_pre]
        rfl
      · rw [if_neg hk] at h
        exact absurd h hk
    · rw [if_neg hp] at h ⊢
      rw [if_neg hp, walkPs_ok_app qs W ps h, preT_pre]
      rfl
theorem walkPs_bad_app (qs : List Pc) (W : List WR) : ∀ ps : List Pc, (walkPs ps W).2.1 ≠ 0 → walkPs (ps ++ qs) W = walkPs ps W
  | [], h => absurd rfl h
  | p :: ps, h => by
    rw [List.cons_append, walkPs, walkPs]
    rw [walkPs] at h
    by_cases hp : p.f0 = true
    · rw [if_pos hp] at h ⊢
      rw [if_pos hp]
      by_cases hk : (W.getD p.f1.toNat ([], 0, none)).2.1 = 0
      · rw [if_pos hk] at h ⊢
        rw [if_pos hk, walkPs_bad_app qs W ps h]
      · rw [if_neg hk, if_neg hk]
    · rw [if_neg hp] at h ⊢
      rw [if_neg hp, walkPs_bad_app qs W ps h]
theorem walkPs_more (W X : List WR) : ∀ ps : List Pc, (∀ p ∈ ps, p.f0 = true → 0 ≤ p.f1 ∧ p.f1 < (W.length : Int)) → walkPs ps (W ++ X) = walkPs ps W
  | [], _ => rfl
  | p :: ps, h => by
    rw [walkPs, walkPs, walkPs_more W X ps (fun q hq => h q (List.mem_cons_of_mem _ hq))]
    by_cases hp : p.f0 = true
    · have h1 := h p (List.mem_cons_self ..) hp
      have e : (W ++ X).getD p.f1.toNat ([], 0, none) = W.getD p.f1.toNat ([], 0, none) := by
        rw [List.getD_eq_getElem?_getD, List.getD_eq_getElem?_getD, List.getElem?_append_left (by omega)]
      rw [e]
    · rw [if_neg hp, if_neg hp]
theorem metP_lt : ∀ {ps : List Pc} {m r : Int}, metP m ps = some r → ∀ p ∈ ps, p.f0 = true → m ≤ p.f1 ∧ p.f1 < r
  | [], m, r, _ => fun p hp => by cases hp
  | q :: ps, m, r, h => by
    intro p hp hf
    rw [metP] at h
    by_cases h1 : q.f0 = true
    · rw [if_pos h1] at h
      by_cases h2 : q.f1 = m
      · rw [if_pos h2] at h
        have hle := metP_le h
        rcases List.mem_cons.1 hp with rfl | hp
        · omega
        · have := metP_lt h p hp hf; omega
      · rw [if_neg h2] at h; cases h
    · rw [if_neg h1] at h
      rcases List.mem_cons.1 hp with rfl | hp
      · exact absurd hf h1
      · exact metP_lt h p hp hf
theorem walkKs_app (b : List Tr) (path : List Int) : ∀ (a : List Tr) (i : Nat), walkKs (a ++ b) path i = walkKs a path i ++ walkKs b path (i + a.length)
  | [], i => rfl
  | k :: a, i => by
    rw [List.cons_append, walkKs, walkKs, walkKs_app b path a (i + 1), List.cons_append, List.length_cons, show i + 1 + a.length = i + (a.length + 1) by omega]
theorem walkKs_length (path : List Int) : ∀ (a : List Tr) (i : Nat), (walkKs a path i).length = a.length
  | [], i => rfl
  | k :: a, i => by rw [walkKs, List.length_cons, List.length_cons, walkKs_length path a (i + 1)]
/-- what is told so far. -/
def toldT (path : List Int) (T : Tu) : WR := walkPs T.ps (walkKs (T.kids.map (·.1)) path 0)
theorem toldT_quiet {path : List Int} {T T' : Tu} (q : Quiet T T') : toldT path T' = toldT path T := by unfold toldT; rw [q.ps, q.kids]
theorem toldT_emit {path : List Int} {T T' : Tu} {n : Int} (e1 : T'.kids = T.kids) (e2 : T'.ps = T.ps ++ [⟨false, n⟩]) (h : (toldT path T).2.1 = 0) : toldT path T' = ((toldT path T).1 ++ [n], 0, none) := by
  unfold toldT at h ⊢
  rw [e1, e2, walkPs_ok_app _ _ _ h]
  rfl
theorem toldT_kid {path : List Int} {T T' : Tu} {t : Tr} {r : Int} (hm : metP 0 T.ps = some (T.kids.length : Int)) (e1 : T'.kids = T.kids ++ [(t, r)]) (e2 : T'.ps = T.ps ++ [⟨true, (T.kids.length : Int)⟩]) :
    ((toldT path T).2.1 = 0 → toldT path T' = preT (toldT path T).1 (if (walkT t (path ++ [(T.kids.length : Int)])).2.1 = 0 then ((walkT t (path ++ [(T.kids.length : Int)])).1, 0, none) else walkT t (path ++ [(T.kids.length : Int)]))) ∧ ((toldT path T).2.1 ≠ 0 → toldT path T' = toldT path T) := by
  have hk : walkKs (T'.kids.map (·.1)) path 0 = walkKs (T.kids.map (·.1)) path 0 ++ [walkT t (path ++ [(T.kids.length : Int)])] := by
    rw [e1, List.map_append, walkKs_app, List.length_map, Nat.zero_add]; rfl
  have hlt : ∀ p ∈ T.ps, p.f0 = true → 0 ≤ p.f1 ∧ p.f1 < ((walkKs (T.kids.map (·.1)) path 0).length : Int) := by
    intro p hp hf
    rw [walkKs_length, List.length_map]
    exact metP_lt hm p hp hf
  have hmore := walkPs_more (walkKs (T.kids.map (·.1)) path 0) [walkT t (path ++ [(T.kids.length : Int)])] T.ps hlt
  unfold toldT
  rw [e2, hk]
  refine ⟨fun h => ?_, fun h => ?_⟩
  · rw [walkPs_ok_app _ _ _ (by rw [hmore]; exact h), hmore]
    have e : (walkKs (T.kids.map (·.1)) path 0 ++ [walkT t (path ++ [(T.kids.length : Int)])]).getD (T.kids.length : Int).toNat ([], 0, none) = walkT t (path ++ [(T.kids.length : Int)]) := by
      rw [List.getD_eq_getElem?_getD, Int.toNat_natCast, List.getElem?_append_right (by rw [walkKs_length, List.length_map]; exact Nat.le_refl _), walkKs_length, List.length_map, Nat.sub_self]; rfl
    rw [walkPs, if_pos rfl, e]
    by_cases hz : (walkT t (path ++ [(T.kids.length : Int)])).2.1 = 0
    · rw [if_pos hz, if_pos hz]
      show preT _ (preT _ ([], 0, none)) = _
      simp [preT]
    · rw [if_neg hz, if_neg hz]
  · rw [walkPs_bad_app _ _ _ (by rw [hmore]; exact h), hmore]
theorem walkT_node {path : List Int} {T : Tu} (v f : Int) : walkT (mkNode T v f) path = if (toldT path T).2.1 = 0 then ((toldT path T).1, f, if f = 0 then none else some path) else toldT path T := by
  unfold mkNode toldT
  rw [walkT]
/-! ### tasks beside each other -/
def hOf : Tr → Bool × Int
  | .nil => (false, 0)
  | .node _ _ v _ => (true, v)
def wOf (k : Tr × Int) : Option (Int × Int) := if 0 ≤ k.2 then some (k.2, nv k.1) else none
/-- the evaluation's task beside an unfolding's. -/
def toE (T : Tu) : Ts := ⟨T.regs, T.hands.map hOf, (T.kids.drop T.wait).filterMap wOf, T.kids.length, T.at_⟩
theorem hd_toE (T : Tu) (i : Int) : hd (toE T) i = hOf (uH T i) := by
  unfold hd uH toE
  show (T.hands.map hOf).getD i.toNat (false, 0) = hOf (T.hands.getD i.toNat .nil)
  rw [List.getD_eq_getElem?_getD, List.getD_eq_getElem?_getD, List.getElem?_map]
  cases T.hands[i.toNat]? <;> rfl
theorem putK_fold : ∀ (ks : List (Tr × Int)) (r : List Int), (ks.filterMap wOf).foldl (fun r s => r.set s.1.toNat s.2) r = ks.foldl putK r
  | [], r => rfl
  | k :: ks, r => by
    rw [List.foldl_cons, ← putK_fold ks (putK r k), List.filterMap_cons]
    unfold wOf putK
    by_cases h : 0 ≤ k.2
    · rw [if_pos h, if_pos h]; rfl
    · rw [if_neg h, if_neg h]
theorem toE_sync (T : Tu) : syncP (toE T) = toE (syncU T) := by
  unfold syncP toE syncU
  simp only [putK_fold, List.drop_length, List.filterMap_nil]
/-- no kid failed, and what was handed did not. -/
structure HS (path : List Int) (T : Tu) : Prop where
  kids : ∀ k ∈ T.kids, nf k.1 = 0
  hands : ∀ t ∈ T.hands, nf t = 0
  told : (toldT path T).2.1 = 0
theorem HS.bad {path : List Int} {T : Tu} (h : HS path T) : syncBad T = false := by
  unfold syncBad
  rw [List.any_eq_false]
  intro k hk
  have := h.kids k (List.mem_of_mem_drop hk)
  simp [this]
theorem HS.quiet {path : List Int} {T T' : Tu} (h : HS path T) (q : Quiet T T') : HS path T' :=
  ⟨by rw [q.kids]; exact h.kids, by rw [q.hands]; exact h.hands, by rw [toldT_quiet q]; exact h.told⟩
/-- an instruction that concerns the task alone, on both sides. -/
theorem sim_simple {l : List S64} {depth : Int} {rec : Gu → List Int → List S61 → Tu → RU} {path : List Int} {x : S61} {T : Tu} {G : Gu} (hs : HS path T) (hop : 1 ≤ x.f0 ∧ x.f0 ≤ 17) (h3 : ¬ (x.f0 = 11 ∨ x.f0 = 13)) (h15 : x.f0 ≠ 15) (h17 : x.f0 ≠ 17) (h16 : x.f0 = 16 → 16 ≤ x.f4) :
    (∃ T', stepU l depth rec path x T G = .go T' G ∧ simple x (toE T) = .go (toE T') ∧ Quiet T T') ∨ (∃ f, f ≠ 0 ∧ stepU l depth rec path x T G = .stop 0 f T G ∧ simple x (toE T) = .stop f) := by
  have hset : ∀ i v, Quiet T (uSet T i v) := fun i v => ⟨rfl, rfl, rfl, rfl, rfl, .inl rfl⟩
  have hcases : x.f0 = 1 ∨ x.f0 = 2 ∨ x.f0 = 3 ∨ x.f0 = 4 ∨ x.f0 = 5 ∨ x.f0 = 6 ∨ x.f0 = 7 ∨ x.f0 = 8 ∨ x.f0 = 9 ∨ x.f0 = 10 ∨ x.f0 = 12 ∨ x.f0 = 14 ∨ x.f0 = 16 := by omega
  rcases hcases with e | e | e | e | e | e | e | e | e | e | e | e | e
  · exact .inl ⟨uSet T x.f1 x.f4, by simp [stepU, e], by simp [simple, e]; rfl, hset _ _⟩
  · exact .inl ⟨uSet T x.f1 (uR T x.f2), by simp [stepU, e], by simp [simple, e]; rfl, hset _ _⟩
  · exact .inl ⟨uSet T x.f1 (wrap64 (uR T x.f2 + uR T x.f3)), by simp [stepU, reckonU, e], by simp [simple, e]; rfl, hset _ _⟩
  · exact .inl ⟨uSet T x.f1 (wrap64 (uR T x.f2 - uR T x.f3)), by simp [stepU, reckonU, e], by simp [simple, e]; rfl, hset _ _⟩
  · exact .inl ⟨uSet T x.f1 (wrap64 (uR T x.f2 * uR T x.f3)), by simp [stepU, reckonU, e], by simp [simple, e]; rfl, hset _ _⟩
  · by_cases hz : uR T x.f3 = 0
    · have hz' : rg (toE T) x.f3 = 0 := hz
      exact .inr ⟨1, by decide, by simp [stepU, reckonU, e, hz], by simp [simple, e, hz']⟩
    · have hz' : rg (toE T) x.f3 ≠ 0 := hz
      exact .inl ⟨uSet T x.f1 (wrap64 ((uR T x.f2).tdiv (uR T x.f3))), by simp [stepU, reckonU, e, hz], by simp [simple, e, hz']; rfl, hset _ _⟩
  · exact .inl ⟨uSet T x.f1 (lessV (uR T x.f2) (uR T x.f3)), by simp [stepU, reckonU, e], by simp [simple, e]; rfl, hset _ _⟩
  · exact .inl ⟨uSet T x.f1 (sameV (uR T x.f2) (uR T x.f3)), by simp [stepU, reckonU, e], by simp [simple, e]; rfl, hset _ _⟩
  · exact .inl ⟨{ T with at_ := x.f4 }, by simp [stepU, e], by simp [simple, e]; rfl, ⟨rfl, rfl, rfl, rfl, rfl, .inl rfl⟩⟩
  · by_cases hz : uR T x.f1 = 0
    · have hz' : rg (toE T) x.f1 = 0 := hz
      exact .inl ⟨{ T with at_ := x.f4 }, by simp [stepU, e, hz], by simp [simple, e, hz']; rfl, ⟨rfl, rfl, rfl, rfl, rfl, .inl rfl⟩⟩
    · have hz' : rg (toE T) x.f1 ≠ 0 := hz
      exact .inl ⟨T, by simp [stepU, e, hz], by simp [simple, e, hz'], Quiet.refl T⟩
  · have hb := hs.bad
    exact .inl ⟨syncU T, by simp [stepU, e, hb], by simp [simple, e, toE_sync], ⟨rfl, rfl, rfl, rfl, rfl, .inr hb⟩⟩
  · have hh := hd_toE T x.f2
    cases hu : uH T x.f2 with
    | nil =>
      rw [hu] at hh
      have h1 : (hd (toE T) x.f2).1 = false := by rw [hh]; rfl
      exact .inr ⟨2, by decide, by simp [stepU, e, hu], by simp [simple, e, h1]⟩
    | node ps ks v f =>
      rw [hu] at hh
      have h1 : (hd (toE T) x.f2).1 = true := by rw [hh]; rfl
      have h2 : (hd (toE T) x.f2).2 = v := by rw [hh]; rfl
      have hf : f = 0 := by
        have hm : uH T x.f2 ∈ T.hands := by
          unfold uH at hu ⊢
          rw [List.getD_eq_getElem?_getD] at hu ⊢
          cases hq : T.hands[x.f2.toNat]? with
          | none => rw [hq] at hu; cases hu
          | some t => exact List.mem_of_getElem? hq
        have := hs.hands _ hm
        rw [hu] at this
        exact this
      exact .inl ⟨uSet T x.f1 v, by simp [stepU, e, hu, hf], by simp [simple, e, h1, h2]; rfl, hset _ _⟩
  · exact .inr ⟨x.f4, by have := h16 e; omega, by simp [stepU, e], by simp [simple, e]⟩
end Go.Proofs.Ytbekjccehhaljaa.H

set_option linter.unusedVariables false
set_option linter.unusedSimpArgs false
namespace Go.Proofs.Ytbekjccehhaljaa.H
open Go.RowKit Go.Hay Go.Proofs.YtbekjccehhaljaaW.PrintWords Go.Proofs.YtbekjccehhaljaaW.PrintLast Go.Proofs.YtbekjccehhaljaaW.PrintMore
/-- a kid failed that is not waited for yet. -/
structure Sick (path : List Int) (T : Tu) : Prop where
  bad : syncBad T = true
  told : (toldT path T).2.1 ≠ 0
theorem Sick.quiet {path : List Int} {T T' : Tu} (h : Sick path T) (q : Quiet T T') : Sick path T' := by
  refine ⟨?_, by rw [toldT_quiet q]; exact h.told⟩
  rcases q.wait with hw | hw
  · unfold syncBad; rw [q.kids, hw]; exact h.bad
  · rw [h.bad] at hw; cases hw
theorem at_code {l : List S64} {f : Nat} (hf : f < l.length) {a : Int} (h0 : 0 ≤ a) (h1 : a < l[f].f1.length) (h16 : K16 l) : (rd_T61 l[f].f1 a).f0 = 16 → 16 ≤ (rd_T61 l[f].f1 a).f4 := by
  have e : rd_T61 l[f].f1 a = l[f].f1[a.toNat]'(by omega) := by simp [rd_T61, show a.toNat < l[f].f1.length by omega]
  rw [e]
  exact h16 f hf a.toNat (by omega)
section
variable {l : List S64} (hl : POk l) (h16 : K16 l) {budget depth : Int} (hb : 1 ≤ budget) (hd30 : depth ≤ 30)
include hl h16 hb hd30
/-- behind a kid that failed nothing changes what merging meets, and the task fails. -/
theorem sick_run : ∀ (k M : Nat) (G G0 : Gu) (path : List Int) (f : Nat) (hf : f < l.length) (T : Tu), GUI M budget G → G.log.length + 1 + G.left ≤ M → TUI l[f].f1 depth budget path T → NeedI depth path G0 T G → Sick path T →
    ∀ v f' T' G', runU l budget depth k G path l[f].f1 T = some (v, f', T', G') → toldT path T' = toldT path T ∧ f' ≠ 0 := by
  intro k
  induction k with
  | zero => intro M G G0 path f hf T hg hleft ht hn hs v f' T' G' e; cases e
  | succ k ih =>
    intro M G G0 path f hf T hg hleft ht hn hs v f' T' G' e
    rw [runU] at e
    by_cases h1 : (T.steps : Int) = budget
    · rw [if_pos h1] at e; cases e; exact ⟨rfl, by decide⟩
    rw [if_neg h1] at e
    by_cases h2 : G.left = 0
    · rw [if_pos h2] at e; cases e
    rw [if_neg h2] at e
    have hna := nextU_at hl f hf ht.at_.1 ht.at_.2
    have hx16 := at_code hf ht.at_.1 ht.at_.2 h16
    have htk := tick_inv ht.toTU0 h1
    have htg := tickG_inv hg hleft h2
    have hsi := stepU_inv hl (by omega) (runU_ok hl (by omega) k) hna.1 htg.1 htg.2 htk.1 htk.2 hna.2
    have hsc := stepU_c l depth (runU l budget depth k) path (rd_T61 l[f].f1 T.at_) (tickT T) (tickG G)
    have hsn := need_step hd30 (runU_need l hb hd30 k) hsc (hn.tick h2)
    have hs1 : Sick path (tickT T) := ⟨hs.bad, hs.told⟩
    have hmet : metP 0 (tickT T).ps = some ((tickT T).kids.length : Int) := hn.met
    have hwt : (tickT T).wait ≤ (tickT T).kids.length := ht.wait
    have e0 : toldT path (tickT T) = toldT path T := rfl
    rw [← e0]
    generalize rd_T61 l[f].f1 T.at_ = x at hna hx16 hsi hsc hsn e
    generalize stepU l depth (runU l budget depth k) path x (tickT T) (tickG G) = r at hsi hsc hsn e
    generalize tickT T = T1 at *
    generalize tickG G = G1 at *
    cases hsc with
    | quiet T2 q =>
      obtain ⟨a1, a2, a3, a4⟩ := hsi
      have := ih M _ G0 path f hf T2 a1 a2 a4 hsn (hs1.quiet q) v f' T' G' e
      rw [toldT_quiet q] at this
      exact this
    | emit T2 n e1 e2 e3 e4 e5 e6 =>
      obtain ⟨a1, a2, a3, a4⟩ := hsi
      have ht2 : toldT path T2 = toldT path T1 := by
        have := hs1.told
        unfold toldT at this ⊢
        rw [e1, e2, walkPs_bad_app _ _ _ this]
      have := ih M _ G0 path f hf T2 a1 a2 a4 hsn ⟨by unfold syncBad; rw [e1, e6]; exact hs1.bad, by rw [ht2]; exact hs1.told⟩ v f' T' G' e
      rw [ht2] at this
      exact this
    | stop v2 f2 T2 q hv hf2 =>
      cases e
      refine ⟨toldT_quiet q, ?_⟩
      rcases hf2 with h | h | ⟨h, h'⟩
      · exact h
      · rw [hs1.bad] at h; cases h
      · have := hx16 h; omega
    | long => cases e
    | kid v2 f2 r T2 T3 G2 c hop hd hr e1 e2 e3 e4 e6 he =>
      obtain ⟨a1, a2, a3, a4⟩ := hsi
      have ht2 : toldT path T3 = toldT path T1 := (toldT_kid hmet e1 e2).2 hs1.told
      have := ih M _ G0 path f hf T3 a1 a2 a4 hsn ⟨by
        unfold syncBad
        rw [e1, e6, List.drop_append_of_le_length hwt, List.any_append]
        have := hs1.bad
        unfold syncBad at this
        rw [this]; rfl, by rw [ht2]; exact hs1.told⟩ v f' T' G' e
      rw [ht2] at this
      exact this
/-- how an evaluation's run ends beside an unfolding's. -/
structure SimP (path : List Int) (told0 : List Int) (me : Nat) (Ge : Gs) (v f : Int) (T : Tu) (Gu' : Gu) (o : Out) (Ge' : Gs) : Prop where
  len : Ge.log.length ≤ Ge'.log.length
  old : ∀ j, j < Ge.log.length → j ≠ me → Ge'.log.getD j ([], 0) = Ge.log.getD j ([], 0)
  told : Ge'.told = told0 ++ (walkT (mkNode T v f) path).1
  fin : ((walkT (mkNode T v f) path).2.1 = 0 ∧ f = 0 ∧ o = .val v ∧ Ge'.left = Gu'.left) ∨ ((walkT (mkNode T v f) path).2.1 ≠ 0 ∧ f ≠ 0 ∧ o = .fail (walkT (mkNode T v f) path).2.1)
/-- the states beside each other. -/
structure SimR (path : List Int) (told0 : List Int) (me : Nat) (T : Tu) (G : Gu) (Ge : Gs) : Prop where
  hs : HS path T
  left : Ge.left = G.left
  mel : me < Ge.log.length
  steps : (Ge.log.getD me ([], 0)).2 = (T.steps : Int)
  told : Ge.told = told0 ++ (toldT path T).1
omit hl h16 hb hd30 in
theorem bump_at (log : List (List Int × Int)) {me : Nat} (hme : me < log.length) : (bump log me).length = log.length ∧ ((bump log me).getD me ([], 0)).2 = (log.getD me ([], 0)).2 + 1 ∧ ∀ j, j ≠ me → (bump log me).getD j ([], 0) = log.getD j ([], 0) := by
  unfold bump
  refine ⟨List.length_set .., ?_, fun j hj => ?_⟩
  · rw [List.getD_eq_getElem?_getD, List.getElem?_set_self hme]; rfl
  · rw [List.getD_eq_getElem?_getD, List.getElem?_set_ne (Ne.symm hj), ← List.getD_eq_getElem?_getD]
omit hl h16 hb hd30 in
/-- a kid is noted, on both sides. -/
theorem kid_both {rec : Gu → List Int → List S61 → Tu → RU} {path : List Int} {x : S61} {T1 T2 : Tu} {G1 G2 : Gu} {v2 f2 : Int} (h3 : x.f0 = 11 ∨ x.f0 = 13) (h4 : (path.length : Int) ≠ depth) (hx : x.f0 = 11 → 0 ≤ x.f1) (hw : T1.wait ≤ T1.kids.length)
    (hq : rec G1 (path ++ [(T1.kids.length : Int)]) (rd_T64 l x.f3).f1 (newTu (argsU l x T1) T1.hands) = some (v2, f2, T2, G2)) :
    ∃ T3 G3 r, stepU l depth rec path x T1 G1 = .go T3 G3 ∧ T3.kids = T1.kids ++ [(mkNode T2 v2 f2, r)] ∧ T3.ps = T1.ps ++ [⟨true, (T1.kids.length : Int)⟩] ∧ T3.steps = T1.steps ∧ T3.wait = T1.wait ∧ (∀ h ∈ T3.hands, h ∈ T1.hands ∨ h = mkNode T2 v2 f2) ∧ G3.left = G2.left ∧
      (if x.f0 = 11 then { (toE T1) with kids := (toE T1).kids + 1, wait := (toE T1).wait ++ [(x.f1, v2)] } else { (toE T1) with kids := (toE T1).kids + 1, hands := (toE T1).hands.set x.f1.toNat (true, v2) } : Ts) = toE T3 := by
  have e9 : stepU l depth rec path x T1 G1 = kidGo x T1 (mkNode T2 v2 f2) (noteU (path ++ [(T1.kids.length : Int)]) T2 G2) := by
    rcases h3 with h | h <;> simp [stepU, h, h4, hq]
  rw [e9]
  unfold kidGo
  by_cases h11 : x.f0 = 11
  · rw [if_pos h11, if_pos h11]
    refine ⟨_, _, x.f1, rfl, rfl, rfl, rfl, rfl, fun h hh => .inl hh, rfl, ?_⟩
    unfold toE
    simp only [List.drop_append_of_le_length hw, List.filterMap_append, List.length_append]
    congr 1
    show _ ++ [(x.f1, v2)] = _ ++ [(mkNode T2 v2 f2, x.f1)].filterMap wOf
    rw [List.filterMap_cons]
    unfold wOf
    rw [if_pos (show 0 ≤ ((mkNode T2 v2 f2, x.f1) : Tr × Int).2 from hx h11)]
    rfl
  · rw [if_neg h11, if_neg h11]
    refine ⟨_, _, -1, rfl, rfl, rfl, rfl, rfl, fun h hh => ?_, rfl, ?_⟩
    · exact (List.mem_or_eq_of_mem_set hh)
    · unfold toE
      simp only [List.drop_append_of_le_length hw, List.filterMap_append, List.length_append, List.map_set]
      congr 1
      show _ = _ ++ [(mkNode T2 v2 f2, (-1 : Int))].filterMap wOf
      rw [List.filterMap_cons]
      unfold wOf
      rw [if_neg (show ¬ (0 : Int) ≤ ((mkNode T2 v2 f2, (-1 : Int)) : Tr × Int).2 by show ¬ (0 : Int) ≤ -1; decide)]
      simp
theorem sim_run : ∀ (k M : Nat) (G G0 : Gu) (Ge : Gs) (path told0 : List Int) (f : Nat) (hf : f < l.length) (me : Nat) (T : Tu), GUI M budget G → G.log.length + 1 + G.left ≤ M → TUI l[f].f1 depth budget path T → NeedI depth path G0 T G → SimR path told0 me T G Ge →
    ∀ v f' T' G', runU l budget depth k G path l[f].f1 T = some (v, f', T', G') → ∃ o Ge', runP l budget depth k Ge path l[f].f1 me (toE T) = (o, Ge') ∧ SimP path told0 me Ge v f' T' G' o Ge' := by
  intro k
  induction k with
  | zero => intro M G G0 Ge path told0 f hf me T hg hleft ht hn hr v f' T' G' e; cases e
  | succ k ih =>
    intro M G G0 Ge path told0 f hf me T hg hleft ht hn hr v f' T' G' e
    rw [runU] at e
    rw [runP]
    by_cases h1 : (T.steps : Int) = budget
    · rw [if_pos h1] at e
      rw [if_pos (hr.steps.trans h1)]
      cases e
      refine ⟨_, _, rfl, Nat.le_refl _, fun j _ _ => rfl, ?_, .inr ?_⟩
      · rw [walkT_node, if_pos hr.hs.told]; exact hr.told
      · rw [walkT_node, if_pos hr.hs.told]; exact ⟨by show (3 : Int) ≠ 0; decide, by decide, rfl⟩
    rw [if_neg h1] at e
    rw [if_neg (fun h => h1 (hr.steps.symm.trans h))]
    by_cases h2 : G.left = 0
    · rw [if_pos h2] at e; cases e
    rw [if_neg h2] at e
    rw [if_neg (by rw [hr.left]; exact h2)]
    have hna := nextU_at hl f hf ht.at_.1 ht.at_.2
    have hx16 := at_code hf ht.at_.1 ht.at_.2 h16
    have htk := tick_inv ht.toTU0 h1
    have htg := tickG_inv hg hleft h2
    have hsi := stepU_inv hl (by omega) (runU_ok hl (by omega) k) hna.1 htg.1 htg.2 htk.1 htk.2 hna.2
    have hsn := need_step hd30 (runU_need l hb hd30 k) (stepU_c l depth (runU l budget depth k) path (rd_T61 l[f].f1 T.at_) (tickT T) (tickG G)) (hn.tick h2)
    have hmet : metP 0 (tickT T).ps = some ((tickT T).kids.length : Int) := hn.met
    obtain ⟨hb1, hb2, hb3⟩ := bump_at Ge.log hr.mel
    have hr1 : SimR path told0 me (tickT T) (tickG G) { Ge with left := Ge.left - 1, log := bump Ge.log me } := ⟨⟨hr.hs.kids, hr.hs.hands, hr.hs.told⟩, by show Ge.left - 1 = G.left - 1; rw [hr.left], by show me < (bump Ge.log me).length; rw [hb1]; exact hr.mel, by show ((bump Ge.log me).getD me ([], 0)).2 = ((T.steps + 1 : Nat) : Int); rw [hb2, hr.steps]; rfl, hr.told⟩
    have htE : ({ (toE T) with at_ := (toE T).at_ + 1 } : Ts) = toE (tickT T) := rfl
    have hatE : (toE T).at_ = T.at_ := rfl
    rw [htE, hatE]
    -- what comes behind is said of the next state
    have hpost : ∀ {o : Out} {Ge' : Gs}, SimP path told0 me { Ge with left := Ge.left - 1, log := bump Ge.log me } v f' T' G' o Ge' → SimP path told0 me Ge v f' T' G' o Ge' := fun h =>
      ⟨by have := h.len; rw [show ({ Ge with left := Ge.left - 1, log := bump Ge.log me } : Gs).log.length = Ge.log.length from hb1] at this; exact this,
       fun j hj hne => (h.old j (by show j < (bump Ge.log me).length; rw [hb1]; exact hj) hne).trans (hb3 j hne), h.told, h.fin⟩
    suffices hmain : ∃ o Ge', (if (rd_T61 l[f].f1 T.at_).f0 = 17 then (.val (rg (syncP (toE (tickT T))) (rd_T61 l[f].f1 T.at_).f1), { Ge with left := Ge.left - 1, log := bump Ge.log me })
      else match stepP l depth (runP l budget depth k) path (rd_T61 l[f].f1 T.at_) (toE (tickT T)) { Ge with left := Ge.left - 1, log := bump Ge.log me } with
        | .go T' G' => runP l budget depth k G' path l[f].f1 me T'
        | .stop o G' => (o, G') : Out × Gs) = (o, Ge') ∧ SimP path told0 me { Ge with left := Ge.left - 1, log := bump Ge.log me } v f' T' G' o Ge' by
      obtain ⟨o, Ge', q1, q2⟩ := hmain
      exact ⟨o, Ge', q1, hpost q2⟩
    clear hpost hb1 hb2 hb3 htE hatE hr
    generalize ({ Ge with left := Ge.left - 1, log := bump Ge.log me } : Gs) = Ge1 at *
    have hop := hna.1.op
    generalize rd_T61 l[f].f1 T.at_ = x at *
    have hTU := htk.1
    have hG1 := htg
    generalize tickT T = T1 at *
    generalize tickG G = G1 at *
    clear htk htg ht hg hleft hn h1 h2
    by_cases h17 : x.f0 = 17
    · rw [if_pos h17]
      have e9 : stepU l depth (runU l budget depth k) path x T1 G1 = .stop (uR (syncU T1) x.f1) 0 (syncU T1) G1 := by simp [stepU, h17, hr1.hs.bad]
      rw [e9] at e
      cases e
      have hq : toldT path (syncU T1) = toldT path T1 := rfl
      refine ⟨_, _, rfl, Nat.le_refl _, fun j _ _ => rfl, ?_, .inl ?_⟩
      · rw [walkT_node, hq, if_pos hr1.hs.told]; exact hr1.told
      · rw [walkT_node, hq, if_pos hr1.hs.told]
        exact ⟨rfl, rfl, by rw [toE_sync]; rfl, hr1.left⟩
    rw [if_neg h17]
    by_cases h3 : x.f0 = 11 ∨ x.f0 = 13
    · have hkp : (toE T1).kids = T1.kids.length := rfl
      by_cases h4 : (path.length : Int) = depth
      · have e9 : stepU l depth (runU l budget depth k) path x T1 G1 = .stop 0 4 T1 G1 := by rcases h3 with h | h <;> simp [stepU, h, h4]
        have e8 : stepP l depth (runP l budget depth k) path x (toE T1) Ge1 = .stop (.fail 4) Ge1 := by unfold stepP; rw [if_pos h3, if_pos h4]
        rw [e9] at e
        rw [e8]
        cases e
        refine ⟨_, _, rfl, Nat.le_refl _, fun j _ _ => rfl, ?_, .inr ?_⟩
        · rw [walkT_node, if_pos hr1.hs.told]; exact hr1.told
        · rw [walkT_node, if_pos hr1.hs.told]; exact ⟨by show (4 : Int) ≠ 0; decide, by decide, rfl⟩
      have hcf := hna.1.cf h3
      obtain ⟨fn, hfn⟩ : ∃ fn : Nat, x.f3 = fn := ⟨x.f3.toNat, by omega⟩
      have hfl : fn < l.length := by omega
      have hrd : rd_T64 l x.f3 = l[fn] := by rw [hfn]; simp [rd_T64, hfl]
      have hpl : (path.length : Int) ≤ depth := hTU.path_
      obtain ⟨kp, hkpe⟩ : ∃ kp, kp = path ++ [(T1.kids.length : Int)] := ⟨_, rfl⟩
      have hkl : (kp.length : Int) = (path.length : Int) + 1 := by rw [hkpe, List.length_append]; simp
      cases hq : runU l budget depth k G1 (path ++ [(T1.kids.length : Int)]) (rd_T64 l x.f3).f1 (newTu (argsU l x T1) T1.hands) with
      | none =>
        have e9 : stepU l depth (runU l budget depth k) path x T1 G1 = .long := by rcases h3 with h | h <;> simp [stepU, h, h4, hq]
        rw [e9] at e
        cases e
      | some r2 =>
        obtain ⟨v2, f2, T2, G2⟩ := r2
        have hx11 : x.f0 = 11 → 0 ≤ x.f1 := fun h => (hna.1.a (by omega) (by omega) (by omega) (by omega)).1
        obtain ⟨T3, G3, rg3, e9, k1, k2, k3, k4, k5, k6, k7⟩ := kid_both (l := l) (depth := depth) (rec := runU l budget depth k) h3 h4 hx11 hTU.wait hq
        rw [e9] at e hsi hsn
        obtain ⟨a1, a2, a3, a4⟩ := hsi
        rw [hrd] at hq
        have hni := new_inv hl (by omega : (0 : Int) ≤ budget) fn hfl (path := path ++ [(T1.kids.length : Int)]) (depth := depth) (by rw [← hkpe, hkl]; omega) (argsU l x T1) (argsU_len l x T1 hTU.rl) T1.hands hTU.hl
        have hGe : ∀ j, j < Ge1.log.length → (Ge1.log ++ [(path ++ [(T1.kids.length : Int)], (0 : Int))]).getD j ([], 0) = Ge1.log.getD j ([], 0) := fun j hj => by
          rw [List.getD_eq_getElem?_getD, List.getElem?_append_left hj, ← List.getD_eq_getElem?_getD]
        obtain ⟨o2, Ge2, q1, q2⟩ := ih (M - 1) G1 G1 { Ge1 with log := Ge1.log ++ [(path ++ [(T1.kids.length : Int)], 0)] } (path ++ [(T1.kids.length : Int)]) Ge1.told fn hfl Ge1.log.length (newTu (argsU l x T1) T1.hands) ⟨by have := hG1.1.log; have := hG1.2; omega, hG1.1.frames, hG1.1.cells, hG1.1.steps, hG1.1.chunks, hG1.1.each⟩ (by have := hG1.2; omega) hni
          (NeedI.start G1 _ _ (by rw [← hkpe, hkl]; omega)) ⟨⟨fun k hk => (by cases hk), hr1.hs.hands, rfl⟩, hr1.left, by show Ge1.log.length < (Ge1.log ++ [_]).length; rw [List.length_append]; simp, by
            show ((Ge1.log ++ [(path ++ [(T1.kids.length : Int)], (0 : Int))]).getD Ge1.log.length ([], 0)).2 = ((0 : Nat) : Int)
            rw [List.getD_eq_getElem?_getD, List.getElem?_append_right (Nat.le_refl _)]; simp, by show Ge1.told = Ge1.told ++ []; rw [List.append_nil]⟩ v2 f2 T2 G2 hq
        have hlen2 : Ge1.log.length + 1 ≤ Ge2.log.length := by have := q2.len; have e5 : ({ Ge1 with log := Ge1.log ++ [(path ++ [(T1.kids.length : Int)], 0)] } : Gs).log.length = Ge1.log.length + 1 := List.length_append; omega
        have hold2 : ∀ j, j < Ge1.log.length → Ge2.log.getD j ([], 0) = Ge1.log.getD j ([], 0) := fun j hj => (q2.old j (by show j < (Ge1.log ++ [_]).length; rw [List.length_append]; omega) (by omega)).trans (hGe j hj)
        have htk := (toldT_kid hmet k1 k2).1 hr1.hs.told
        have hq1 : runP l budget depth k { Ge1 with log := Ge1.log ++ [(path ++ [((toE T1).kids : Int)], 0)] } (path ++ [((toE T1).kids : Int)]) (rd_T64 l x.f3).f1 Ge1.log.length (newTask (argsOf l x (toE T1)) (toE T1).hands) = (o2, Ge2) := by rw [hrd]; exact q1
        have hnd : ∀ r, walkT (mkNode T2 v2 f2) (path ++ [(T1.kids.length : Int)]) = r → (if r.2.1 = 0 then toldT path T3 = preT (toldT path T1).1 (r.1, 0, none) else toldT path T3 = preT (toldT path T1).1 r) := by
          intro r hr
          rw [hr] at htk
          by_cases hz : r.2.1 = 0
          · rw [if_pos hz] at htk ⊢; exact htk
          · rw [if_neg hz] at htk ⊢; exact htk
        obtain ⟨rk, hrk⟩ : ∃ rk, rk = walkT (mkNode T2 v2 f2) (path ++ [(T1.kids.length : Int)]) := ⟨_, rfl⟩
        have hnd := hnd rk hrk.symm
        obtain ⟨_, _, qt, qf⟩ := q2
        rw [← hrk] at qt qf
        rcases qf with ⟨z1, z2, z3, z4⟩ | ⟨z1, z2, z3⟩
        · subst z3
          rw [if_pos z1] at hnd
          have e8 : stepP l depth (runP l budget depth k) path x (toE T1) Ge1 = .go (toE T3) Ge2 := by
            unfold stepP; rw [if_pos h3, if_neg h4, hq1]; show SR.go _ _ = _; rw [k7]
          rw [e8]
          have hs3 : HS path T3 := ⟨fun k hk => by
            rw [k1] at hk
            rcases List.mem_append.1 hk with hk | hk
            · exact hr1.hs.kids k hk
            · rw [List.mem_singleton.1 hk]; exact z2, fun h hh => (k5 h hh).elim (hr1.hs.hands h) (fun e => by rw [e]; exact z2), by rw [hnd]; rfl⟩
          obtain ⟨o, Ge', w1, w2⟩ := ih M G3 G0 Ge2 path told0 f hf me T3 a1 a2 a4 hsn ⟨hs3, by rw [k6]; exact z4, by have := hr1.mel; omega, by rw [hold2 me hr1.mel, k3]; exact hr1.steps, by rw [hnd, qt, hr1.told]; show _ = told0 ++ ((toldT path T1).1 ++ rk.1); rw [List.append_assoc]⟩ v f' T' G' e
          exact ⟨o, Ge', w1, by have := w2.len; omega, fun j hj hne => (w2.old j (by omega) hne).trans (hold2 j hj), w2.told, w2.fin⟩
        · subst z3
          rw [if_neg z1] at hnd
          have e8 : stepP l depth (runP l budget depth k) path x (toE T1) Ge1 = .stop (.fail rk.2.1) Ge2 := by
            unfold stepP; rw [if_pos h3, if_neg h4, hq1]
          rw [e8]
          have hsick : Sick path T3 := ⟨by
            unfold syncBad
            rw [k1, k4, List.drop_append_of_le_length hTU.wait, List.any_append]
            have : ([(mkNode T2 v2 f2, rg3)].any fun k => decide (nf k.1 ≠ 0)) = true := by
              rw [List.any_cons, show nf ((mkNode T2 v2 f2, rg3) : Tr × Int).1 = f2 from rfl]; simp [z2]
            rw [this, Bool.or_true], by rw [hnd]; exact z1⟩
          obtain ⟨y1, y2⟩ := sick_run hl h16 hb hd30 k M G3 G0 path f hf T3 a1 a2 a4 hsn hsick v f' T' G' e
          have hwn : walkT (mkNode T' v f') path = preT (toldT path T1).1 rk := by
            rw [walkT_node, y1, hnd, if_neg (show ¬ (preT (toldT path T1).1 rk).2.1 = 0 from z1)]
          refine ⟨_, _, rfl, by omega, fun j hj _ => hold2 j hj, ?_, .inr ?_⟩
          · rw [hwn, qt, hr1.told]; show _ = told0 ++ ((toldT path T1).1 ++ rk.1); rw [List.append_assoc]
          · rw [hwn]; exact ⟨z1, y2, rfl⟩
    · by_cases h15 : x.f0 = 15
      · have e9 : stepU l depth (runU l budget depth k) path x T1 G1 = .go { T1 with ps := T1.ps ++ [⟨false, uR T1 x.f1⟩], told := T1.told + 1 } G1 := by simp [stepU, h15]
        have e8 : stepP l depth (runP l budget depth k) path x (toE T1) Ge1 = .go (toE T1) { Ge1 with told := Ge1.told ++ [rg (toE T1) x.f1] } := by unfold stepP; rw [if_neg h3, if_pos h15]
        rw [e9] at e hsi hsn
        rw [e8]
        obtain ⟨a1, a2, a3, a4⟩ := hsi
        have htl := toldT_emit (path := path) (T := T1) (T' := { T1 with ps := T1.ps ++ [⟨false, uR T1 x.f1⟩], told := T1.told + 1 }) rfl rfl hr1.hs.told
        obtain ⟨o, Ge', q1, q2⟩ := ih M G1 G0 { Ge1 with told := Ge1.told ++ [rg (toE T1) x.f1] } path told0 f hf me _ a1 a2 a4 hsn ⟨⟨hr1.hs.kids, hr1.hs.hands, by rw [htl]⟩, hr1.left, hr1.mel, hr1.steps, by rw [htl]; show Ge1.told ++ [uR T1 x.f1] = _; rw [hr1.told, List.append_assoc]⟩ v f' T' G' e
        exact ⟨o, Ge', q1, q2.len, q2.old, q2.told, q2.fin⟩
      · rcases sim_simple (l := l) (depth := depth) (rec := runU l budget depth k) (G := G1) hr1.hs hop h3 h15 h17 hx16 with ⟨T2, e9, e8, q⟩ | ⟨w, hw, e9, e8⟩
        · have e7 : stepP l depth (runP l budget depth k) path x (toE T1) Ge1 = .go (toE T2) Ge1 := by unfold stepP; rw [if_neg h3, if_neg h15, e8]
          rw [e9] at e hsi hsn
          rw [e7]
          obtain ⟨a1, a2, a3, a4⟩ := hsi
          obtain ⟨o, Ge', q1, q2⟩ := ih M G1 G0 Ge1 path told0 f hf me T2 a1 a2 a4 hsn ⟨hr1.hs.quiet q, hr1.left, hr1.mel, by rw [q.steps]; exact hr1.steps, by rw [toldT_quiet q]; exact hr1.told⟩ v f' T' G' e
          exact ⟨o, Ge', q1, q2⟩
        · have e7 : stepP l depth (runP l budget depth k) path x (toE T1) Ge1 = .stop (.fail w) Ge1 := by unfold stepP; rw [if_neg h3, if_neg h15, e8]
          rw [e9] at e
          rw [e7]
          cases e
          refine ⟨_, _, rfl, Nat.le_refl _, fun j _ _ => rfl, ?_, .inr ?_⟩
          · rw [walkT_node, if_pos hr1.hs.told]; exact hr1.told
          · rw [walkT_node, if_pos hr1.hs.told]; exact ⟨hw, hw, rfl⟩
end
/-- THE UNFOLDING, MERGED, IS WHAT IS EVALUATED. -/
theorem unfold_merges {l : List S64} {args : List Int} {b d : Int} {most : Nat} {t : Tr} {G : Gu} (hr : evRight l args.length b d = true) (h : unfoldP l args b d most = some (t, G)) :
    ∃ v f told log, evalP l args b d most = some (v, f, told, log) ∧ rightT t 0 = true ∧ walkT t [] = (told, f, (walkT t []).2.2) ∧ v = (if f = 0 then nv t else 0) := by
  obtain ⟨hl, hb, hd, hn, hn4⟩ := evRight_ok hr
  have h16 := evRight_16 hr
  have hrt := (unfoldP_need hl hb.1 hd (by omega) h).1.right
  unfold unfoldP beginU at h
  have hl1 := hl.len
  have hrd : rd_T64 l 0 = l[0] := by simp [rd_T64, show 0 < l.length by omega]
  rw [hrd] at h
  cases hq : runU l b d (most + 1) ⟨most, [], 0, 0, 0, 0⟩ [] l[0].f1 (newTu args noHandsU) with
  | none => rw [hq] at h; cases h
  | some r =>
    obtain ⟨v, f, T, G1⟩ := r
    rw [hq] at h
    cases h
    obtain ⟨o, Ge', q1, q2⟩ := sim_run hl h16 hb.1 hd.2 (most + 1) (most + 1) ⟨most, [], 0, 0, 0, 0⟩ ⟨most, [], 0, 0, 0, 0⟩ ⟨most, [], [([], 0)]⟩ [] [] 0 (by omega) 0 (newTu args noHandsU) ⟨by show 0 + most ≤ most + 1; omega, rfl, Nat.le_refl _, by show ((0 : Nat) : Int) ≤ b * ((0 : Nat) : Int); simp, by show ((0 : Nat) : Int) ≤ b * ((0 : Nat) : Int); simp, fun e he => by cases he⟩ (by show 0 + 1 + most ≤ most + 1; omega) (new_inv hl (by omega) 0 (by omega) (by simpa using hd.1) args (by omega) noHandsU rfl) (NeedI.start _ _ _ (by simpa using hd.1)) ⟨⟨fun k hk => (by cases hk), fun t ht => (by simp [newTu, noHandsU] at ht; rw [ht]; rfl), rfl⟩, rfl, Nat.zero_lt_one, rfl, rfl⟩ v f T G1 hq
    have he : evalP l args b d most = match (o, Ge') with
        | (.val v, G) => some (v, 0, G.told, G.log)
        | (.fail why, G) => some (0, why, G.told, G.log)
        | (.long, _) => none := by
      unfold evalP beginP
      rw [hrd]
      have q1 : runP l b d (most + 1) ⟨most, [], [] ++ [([], 0)]⟩ [] l[0].f1 0 (newTask args noHands) = (o, Ge') := q1
      show (match runP l b d (most + 1) ⟨most, [], [] ++ [([], 0)]⟩ [] l[0].f1 0 (newTask args noHands) with
        | (.val v, G) => some (v, 0, G.told, G.log)
        | (.fail why, G) => some (0, why, G.told, G.log)
        | (.long, _) => none) = _
      rw [q1]
    have qt : Ge'.told = [] ++ (walkT (mkNode T v f) []).1 := q2.told
    rw [List.nil_append] at qt
    rcases q2.fin with ⟨z1, z2, z3, z4⟩ | ⟨z1, z2, z3⟩
    · subst z3
      refine ⟨v, 0, Ge'.told, Ge'.log, he, hrt, ?_, rfl⟩
      rw [qt]
      exact Prod.ext rfl (Prod.ext z1 rfl)
    · subst z3
      refine ⟨0, _, Ge'.told, Ge'.log, he, hrt, ?_, by rw [if_neg z1]⟩
      rw [qt]
end Go.Proofs.Ytbekjccehhaljaa.H

set_option linter.unusedVariables false
set_option linter.unusedSimpArgs false
namespace Go.Proofs.Ytbekjccehhaljaa.H
open Go.RowKit Go.Hay Go.Proofs.YtbekjccehhaljaaW.PrintWords Go.Proofs.YtbekjccehhaljaaW.PrintLast Go.Proofs.YtbekjccehhaljaaW.PrintMore
def sumL : List WR → Int
  | [] => 0
  | r :: l => (r.1.length : Int) + sumL l
theorem sumL_pos : ∀ l : List WR, 0 ≤ sumL l
  | [] => Int.le_refl _
  | r :: l => by have := sumL_pos l; rw [sumL]; omega
theorem walkPs_len (W : List WR) : ∀ (ps : List Pc) (m : Nat), metP (m : Int) ps = some (W.length : Int) → ((walkPs ps W).1.length : Int) ≤ (ps.length : Int) - ((W.length : Int) - m) + sumL (W.drop m)
  | [], m, h => by
    rw [metP] at h
    injection h with h
    have := sumL_pos (W.drop m)
    show ((0 : Nat) : Int) ≤ ((0 : Nat) : Int) - _ + _
    omega
  | p :: ps, m, h => by
    have hl := metP_len h
    rw [metP] at h
    rw [walkPs]
    rw [List.length_cons] at hl ⊢
    by_cases hp : p.f0 = true
    · rw [if_pos hp] at h ⊢
      by_cases h1 : p.f1 = (m : Int)
      · rw [if_pos h1] at h
        have hle := metP_le h
        have hlt : m < W.length := by omega
        have ih := walkPs_len W ps (m + 1) (by rw [← h]; rfl)
        have e : W.getD p.f1.toNat ([], 0, none) = W[m] := by rw [h1, Int.toNat_natCast, List.getD_eq_getElem?_getD, List.getElem?_eq_getElem hlt]; rfl
        rw [List.drop_eq_getElem_cons hlt, sumL, e]
        have hs := sumL_pos (W.drop (m + 1))
        split
        · simp only [preT, List.length_append]; omega
        · omega
      · rw [if_neg h1] at h; cases h
    · rw [if_neg hp] at h ⊢
      have ih := walkPs_len W ps m h
      simp only [preT, List.length_append, List.length_singleton]
      omega
mutual
theorem walkT_len : ∀ (t : Tr) (path : List Int) (d : Int), rightT t d = true → ((walkT t path).1.length : Int) ≤ numsT t
  | .nil, path, d, h => by rw [rightT] at h; cases h
  | .node ps ks v f, path, d, h => by
    obtain ⟨_, _, h3, h4⟩ := right_inv h
    have h1 := walkKs_len ks path 0 (d + 1) h4
    have h2 := walkPs_len (walkKs ks path 0) ps 0 (by rw [walkKs_length]; exact h3)
    rw [walkKs_length, List.drop_zero] at h2
    rw [numsT, walkT]
    have e : ∀ c : Prop, [Decidable c] → (if c then (((walkPs ps (walkKs ks path 0)).1, f, if f = 0 then none else some path) : WR) else walkPs ps (walkKs ks path 0)).1 = (walkPs ps (walkKs ks path 0)).1 := fun c _ => by split <;> rfl
    rw [e]
    omega
theorem walkKs_len : ∀ (ks : List Tr) (path : List Int) (i : Nat) (d : Int), rightTs ks d = true → sumL (walkKs ks path i) ≤ numsTs ks
  | [], path, i, d, h => by rw [walkKs, sumL, numsTs]; exact Int.le_refl _
  | k :: r, path, i, d, h => by
    rw [rightTs, Bool.and_eq_true] at h
    have h1 := walkT_len k (path ++ [(i : Int)]) d h.1
    have h2 := walkKs_len r path (i + 1) d h.2
    rw [walkKs, sumL, numsTs]
    omega
end
end Go.Proofs.Ytbekjccehhaljaa.H

-- made by this session's gen.py over the kit's print.py; not trusted: Lean checks it
namespace Go.Proofs.Ytbekjccehhaljaa.H
open Go.RowKit Go.Proofs.YtbekjccehhaljaaW.PrintWords Go.Proofs.YtbekjccehhaljaaW.PrintLast Go.Proofs.YtbekjccehhaljaaW.PrintMore
attribute [local go_sem] max2_int min2_int max_two min_two max_three min_three max_four min_four   -- for this text's walks alone
set_option linter.unusedVariables false
set_option linter.unusedSimpArgs false

/-! ### haymowlaw08_numbers: function 22 -/
def haymowlaw08_numbers.l0 : Nat → List Int → List Int → Int → Option (Bool)
  | 0, _, _, _ => none
  | k + 1, x0, x1, x5 => if x5 < (x0.length : Int) then (if 0 ≤ x5 then (if x5 < (x1.length : Int) then (if (rd x0 x5) = (rd x1 x5) then (haymowlaw08_numbers.l0 k x0 x1 (wrap64 (x5 + 1))) else (some false)) else (none)) else (none)) else (some true)
def haymowlaw08_numbers.f (k : Nat) (l0 : List Int) (l1 : List Int) : Option (Bool) := if (l0.length : Int) = (l1.length : Int) then (haymowlaw08_numbers.l0 k l0 l1 0) else (some false)
theorem haymowlaw08_numbers.mono_l : ∀ k, (∀ y0 y1 y2, LeO (haymowlaw08_numbers.l0 k y0 y1 y2) (haymowlaw08_numbers.l0 (k + 1) y0 y1 y2))
  | 0 => fun _ _ _ r h => by simp [haymowlaw08_numbers.l0] at h
  | k + 1 => by
    have ih0 := haymowlaw08_numbers.mono_l k
    · intro y0 y1 y2
      unfold haymowlaw08_numbers.l0
      repeat' first
      | (with_reducible exact ih0 _ _ _)
      | (with_reducible exact LeO.refl _)
      | (with_reducible exact LeO.none _)
      | (with_reducible refine LeO.ite ?_ ?_)
      | (with_reducible refine LeO.bind ?_ (fun _ => ?_))
      | exact ih0 _ _ _
      | exact LeO.none _
      | refine LeO.ite ?_ ?_
      | refine LeO.bind ?_ (fun _ => ?_)
theorem haymowlaw08_numbers.mono : ∀ a0 a1 k, LeO (haymowlaw08_numbers.f k a0 a1) (haymowlaw08_numbers.f (k + 1) a0 a1) := by
  intro a0 a1 k
  have ih0 := haymowlaw08_numbers.mono_l k
  unfold haymowlaw08_numbers.f
  repeat' first
      | (with_reducible exact ih0 _ _ _)
      | (with_reducible exact LeO.refl _)
      | (with_reducible exact LeO.none _)
      | (with_reducible refine LeO.ite ?_ ?_)
      | (with_reducible refine LeO.bind ?_ (fun _ => ?_))
      | exact ih0 _ _ _
      | exact LeO.none _
      | refine LeO.ite ?_ ?_
      | refine LeO.bind ?_ (fun _ => ?_)
set_option maxHeartbeats 8000000 in
set_option maxRecDepth 100000 in
theorem haymowlaw08_numbers.calls (k : Nat) (A0 : Option Addr) (c0 : Nat) (l0 : List Int) (A1 : Option Addr) (c1 : Nat) (l1 : List Int) (r : Bool) (w : World) (hr0 : Kd.C (Kd.int .i64) w A0 l0.length l0) (hc0 : l0.length ≤ c0) (hr1 : Kd.C (Kd.int .i64) w A1 l1.length l1) (hc1 : l1.length ≤ c1) (h : haymowlaw08_numbers.f k l0 l1 = some r) :
    Calls Try.prog 22 #[.slice A0 l0.length c0, .slice A1 l1.length c1] w fun e w' => e = .returned (.bool r) ∧ Drawn0 w w' := by
  have HR0 := Aside0.mk hr0
  have HC0 := Aside0.mk hc0
  clear hr0 hc0
  have HR1 := Aside0.mk hr1
  have HC1 := Aside0.mk hc1
  clear hr1 hc1
  have H : (if (l0.length : Int) = (l1.length : Int) then (haymowlaw08_numbers.l0 k l0 l1 0) else (some false)) = some r := h
  clear h
  by_cases c3 : (l0.length : Int) = (l1.length : Int)
  · rw [if_pos c3] at H
    have c3b0 : ((l0.length : Int) == (l1.length : Int)) = true := beq_iff_eq.mpr c3
    have c3b1 : ((l0.length : Int) != (l1.length : Int)) = false := bne_eq_false_iff_eq.mpr c3
    have c3b2 : (l0.length == l1.length) = true := by first | simpa using c3 | (simp at c3 ⊢; omega)
    clear c3
    have H' := Aside0.mk H
    clear H
    go_enter Try.func22, Try.ntmps22
    go_wp2
    repeat (go_quiet (fail); try go_wp2)
    go_loopg [5] k (fun kq v5 w' => ∃ (x5_1 : Int), v5 = .int .i64 x5_1 ∧ Aside0 (haymowlaw08_numbers.l0 kq l0 l1 x5_1 = some r) ∧ Aside0 (kq ≤ k) ∧ Drawn0 w w')
    case atStart => exact ⟨(0), (by first | rfl | (simp; done) | (simp [*]; done)), H', ⟨Nat.le_refl _⟩, by repeat (first | exact Drawn0.refl _ | apply Drawn0.step)⟩
    case round =>
      clear H'
      try clear c1
      try clear c2
      try clear p2
      try clear c3
      try clear c3b0
      try clear c3b1
      try clear c3b2
      obtain ⟨x5_1, rfl, HA, HK1, ⟨m1, rfl⟩⟩ := hrel
      cases gk with
      | zero => exact absurd HA.out (by simp [haymowlaw08_numbers.l0])
      | succ k1 =>
        have H := HA.out
        clear HA
        simp only [haymowlaw08_numbers.l0] at H
        by_cases c4 : x5_1 < (l0.length : Int)
        · rw [if_pos c4] at H
          have c4b0 : decide (x5_1 < (l0.length : Int)) = true := decide_eq_true c4
          clear c4
          by_cases c5 : 0 ≤ x5_1
          · rw [if_pos c5] at H
            have c5b0 : decide (0 ≤ x5_1) = true := decide_eq_true c5
            clear c5
            by_cases c6 : x5_1 < (l1.length : Int)
            · rw [if_pos c6] at H
              have c6b0 : decide (x5_1 < (l1.length : Int)) = true := decide_eq_true c6
              clear c6
              by_cases c7 : (rd l0 x5_1) = (rd l1 x5_1)
              · rw [if_pos c7] at H
                have c7b0 : ((rd l0 x5_1) == (rd l1 x5_1)) = true := beq_iff_eq.mpr c7
                have c7b1 : ((rd l0 x5_1) != (rd l1 x5_1)) = false := bne_eq_false_iff_eq.mpr c7
                clear c7
                have H' := Aside0.mk H
                clear H
                have p192 : 0 ≤ (x5_1 : Int) := of_decide_eq_true (by first | (with_reducible assumption) | assumption)
                have q192 : x5_1 < (l0.length : Int) := of_decide_eq_true (by first | (with_reducible assumption) | assumption)
                obtain ⟨ad192, e192, hx192_0⟩ := Kd.at_int HR0.out x5_1 p192 q192
                cases e192
                replace p192 := eq_true p192
                replace q192 := eq_true q192
                have p193 : 0 ≤ (x5_1 : Int) := of_decide_eq_true (by first | (with_reducible assumption) | assumption)
                have q193 : x5_1 < (l1.length : Int) := of_decide_eq_true (by first | (with_reducible assumption) | assumption)
                obtain ⟨ad193, e193, hx193_0⟩ := Kd.at_int HR1.out x5_1 p193 q193
                cases e193
                replace p193 := eq_true p193
                replace q193 := eq_true q193
                go_wp2
                repeat (go_quiet (fail); try go_wp2)
                go_roundg k1
                case measure => have := HK1.out; omega
                case rel => exact ⟨(wrap64 (x5_1 + 1)), (by first | rfl | (simp; done) | (simp [*]; done)), H', ⟨by have := HK1.out; omega⟩, by repeat (first | exact Drawn0.refl _ | apply Drawn0.step)⟩
              · rw [if_neg c7] at H
                have c7b0 : ((rd l0 x5_1) == (rd l1 x5_1)) = false := beq_eq_false_iff_ne.mpr c7
                have c7b1 : ((rd l0 x5_1) != (rd l1 x5_1)) = true := bne_iff_ne.mpr c7
                obtain rfl := Option.some.inj H
                have p192 : 0 ≤ (x5_1 : Int) := of_decide_eq_true (by first | (with_reducible assumption) | assumption)
                have q192 : x5_1 < (l0.length : Int) := of_decide_eq_true (by first | (with_reducible assumption) | assumption)
                obtain ⟨ad192, e192, hx192_0⟩ := Kd.at_int HR0.out x5_1 p192 q192
                cases e192
                replace p192 := eq_true p192
                replace q192 := eq_true q192
                have p193 : 0 ≤ (x5_1 : Int) := of_decide_eq_true (by first | (with_reducible assumption) | assumption)
                have q193 : x5_1 < (l1.length : Int) := of_decide_eq_true (by first | (with_reducible assumption) | assumption)
                obtain ⟨ad193, e193, hx193_0⟩ := Kd.at_int HR1.out x5_1 p193 q193
                cases e193
                replace p193 := eq_true p193
                replace q193 := eq_true q193
                go_wp2
                repeat (go_quiet (fail); try go_wp2)
                go_ret
                exact ⟨by first | rfl | (simp; done) | (simp [*]; done), by repeat (first | exact Drawn0.refl _ | apply Drawn0.step)⟩
            · rw [if_neg c6] at H
              exact absurd H (by simp)
          · rw [if_neg c5] at H
            exact absurd H (by simp)
        · rw [if_neg c4] at H
          have c4b0 : decide (x5_1 < (l0.length : Int)) = false := decide_eq_false c4
          clear c4
          obtain rfl := Option.some.inj H
          go_wp2
          repeat (go_quiet (fail); try go_wp2)
          go_ret
          exact ⟨by first | rfl | (simp; done) | (simp [*]; done), by repeat (first | exact Drawn0.refl _ | apply Drawn0.step)⟩
  · rw [if_neg c3] at H
    have c3b0 : ((l0.length : Int) == (l1.length : Int)) = false := beq_eq_false_iff_ne.mpr c3
    have c3b1 : ((l0.length : Int) != (l1.length : Int)) = true := bne_iff_ne.mpr c3
    have c3b2 : (l0.length == l1.length) = false := by first | simpa using c3 | (simp at c3 ⊢; omega)
    obtain rfl := Option.some.inj H
    go_enter Try.func22, Try.ntmps22
    go_wp2
    repeat (go_quiet (fail); try go_wp2)
    go_ret
    exact ⟨by first | rfl | (simp; done) | (simp [*]; done), by repeat (first | exact Drawn0.refl _ | apply Drawn0.step)⟩

end Go.Proofs.Ytbekjccehhaljaa.H

set_option linter.unusedVariables false
set_option linter.unusedSimpArgs false
namespace Go.Proofs.Ytbekjccehhaljaa.H
open Go.RowKit Go.Hay Go.Proofs.YtbekjccehhaljaaW.PrintWords Go.Proofs.YtbekjccehhaljaaW.PrintLast Go.Proofs.YtbekjccehhaljaaW.PrintMore
theorem num_loop (x y : List Int) (hl : x.length = y.length) (hx : x.length ≤ 9223372036854775807) : ∀ (n i : Nat), x.length - i = n → i ≤ x.length → Ev (fun k => haymowlaw08_numbers.l0 k x y i) (decide (x.drop i = y.drop i))
  | 0, i, hn, hi => by
    obtain rfl : i = x.length := by omega
    refine Ev.step (f := fun _ => some _) (fun k => ?_) (Ev.now _)
    rw [haymowlaw08_numbers.l0, if_neg (by omega), List.drop_length, List.drop_eq_nil_of_le (by omega)]
    rfl
  | n + 1, i, hn, hi => by
    have hlt : i < x.length := by omega
    have hly : i < y.length := by omega
    have e1 : rd x (i : Int) = x[i] := by simp [rd, hlt]
    have e2 : rd y (i : Int) = y[i] := by simp [rd, hly]
    rw [drop_cons hlt, drop_cons hly]
    by_cases h : x[i] = y[i]
    · have ih := num_loop x y hl hx n (i + 1) (by omega) (by omega)
      have e : decide (x[i] :: x.drop (i + 1) = y[i] :: y.drop (i + 1)) = decide (x.drop (i + 1) = y.drop (i + 1)) := decide_eq_decide.2 ⟨fun e => (List.cons.inj e).2, fun e => by rw [h, e]⟩
      rw [e]
      refine Ev.step (fun k => ?_) ih
      rw [haymowlaw08_numbers.l0, if_pos (by omega), if_pos (by omega), if_pos (by omega), e1, e2, if_pos h, wrap_id (x := (i : Int) + 1) (by omega) (by omega)]
      rfl
    · refine Ev.step (f := fun _ => some false) (fun k => ?_) (by rw [decide_eq_false (by intro e; injection e with e1 _; exact h e1)]; exact Ev.now _)
      rw [haymowlaw08_numbers.l0, if_pos (by omega), if_pos (by omega), if_pos (by omega), e1, e2, if_neg h]
theorem num_ev (x y : List Int) (hx : x.length ≤ 9223372036854775807) : Ev (fun k => haymowlaw08_numbers.f k x y) (decide (x = y)) := by
  by_cases h : x.length = y.length
  · refine Ev.congr (fun k => ?_) (num_loop x y h hx x.length 0 rfl (Nat.zero_le _))
    unfold haymowlaw08_numbers.f
    rw [if_pos (by omega)]
    rfl
  · rw [decide_eq_false (fun e => h (by rw [e]))]
    exact Ev.congr (fun k => by unfold haymowlaw08_numbers.f; rw [if_neg (by omega)]) (Ev.now _)
theorem num_is {r : Bool} (A0 : Option Addr) (c0 : Nat) (l0 : List Int) (A1 : Option Addr) (c1 : Nat) (l1 : List Int) (w : World) (hr : decide (l0 = l1) = r) (h0 : (Kd.int .i64).C w A0 l0.length l0) (hc0 : l0.length ≤ c0) (h1 : (Kd.int .i64).C w A1 l1.length l1) (hc1 : l1.length ≤ c1) (hx : l0.length ≤ 9223372036854775807) :
    Calls Try.prog 22 #[.slice A0 l0.length c0, .slice A1 l1.length c1] w fun e w' => e = .returned (.bool r) ∧ Drawn0 w w' := by
  obtain ⟨K, hK⟩ := num_ev l0 l1 hx
  rw [hr] at hK
  exact haymowlaw08_numbers.calls K A0 c0 l0 A1 c1 l1 r w h0 hc0 h1 hc1 (hK K (Nat.le_refl _))
end Go.Proofs.Ytbekjccehhaljaa.H

set_option linter.unusedVariables false
set_option linter.unusedSimpArgs false
namespace Go.Proofs.Ytbekjccehhaljaa.H
open Go.RowKit Go.Hay Go.Proofs.YtbekjccehhaljaaW.PrintWords Go.Proofs.YtbekjccehhaljaaW.PrintLast Go.Proofs.YtbekjccehhaljaaW.PrintMore
set_option maxRecDepth 100000 in
set_option maxHeartbeats 8000000 in
theorem merges_walk (Ap : Option Addr) (cp : Nat) (P : List S83) (Aa : Option Addr) (ca : Nat) (args : List Int) (b d : Int) (w : World) (hP : k83.C w Ap P.length P) (hcp : P.length ≤ cp) (hA : (Kd.int .i64).C w Aa args.length args) (hca : args.length ≤ ca) :
    Calls Try.prog 6 #[.agg #[.slice Ap P.length cp, .slice Aa args.length ca, .int .i64 b, .int .i64 d]] w fun e w' => e = .returned (.bool true) ∧ Below w.heap.size w w' := by
  obtain ⟨W1, hW1⟩ : ∃ W1, W1 = w.alloc (.cells #[.slice Ap P.length cp, .slice Aa args.length ca, .int .i64 b, .int .i64 d] 25) := ⟨_, rfl⟩
  have hb1 : Below w.heap.size w W1 := by rw [hW1]; exact (Below.refl w.heap.size w).alloc (Nat.le_refl _) _
  have hx1 : W1.heap[w.heap.size]? = some (.cells #[.slice Ap P.length cp, .slice Aa args.length ca, .int .i64 b, .int .i64 d] 25 (0, 0)) := by rw [hW1]; exact alloc_blk w _
  obtain ⟨lb, hlb, hlight⟩ := light_any Ap cp P W1 (Kd.C_below hP hb1) hcp
  have H0 := Aside0.mk (And.intro hP (And.intro hcp (And.intro hA (And.intro hca (And.intro hb1 hx1)))))
  have HL := Aside0.mk hlight
  have HLB := Aside0.mk hlb
  have HW1 := Aside0.mk hW1
  have x0 := blk_cell hx1 0
  have x1 := blk_cell hx1 1
  clear hP hcp hA hca hb1 hx1 hlight hlb hW1
  go_enter Try.func6, Try.ntmps6
  go_upto_region 1 with (fail)
  rw [← HW1.out]
  go_wp2_with fail
  refine HL.out.mono ?_
  rintro e w2 ⟨rfl, hb2⟩
  have HB2 := Aside0.mk (H0.out.2.2.2.2.1.trans (hb2.mono H0.out.2.2.2.2.1.size))
  have hx2 := (hb2.block _ (blk_lt H0.out.2.2.2.2.2)).trans H0.out.2.2.2.2.2
  have HX2 := Aside0.mk hx2
  have HLW := Aside0.mk hb2
  clear x0 x1 hb2 HW1
  have x0 := blk_cell hx2 0
  have x1 := blk_cell hx2 1
  clear hx2
  cases lb with
  | false =>
    clear HL HLB
    go_wp2_with fail
    go_ret
    exact ⟨rfl, HB2.out⟩
  | true =>
    obtain ⟨hl20, hl70⟩ := HLB.out rfl
    have HLL := Aside0.mk (And.intro hl20 hl70)
    clear HL HLB hl20 hl70
    by_cases hn : 20 < args.length
    · have hn2 : ((args.length : Int) > 20) = True := eq_true (by omega)
      clear hn
      go_wp2_with fail
      go_ret
      exact ⟨rfl, HB2.out⟩
    · have hn2 : ((args.length : Int) > 20) = False := eq_false (by omega)
      have HN := Aside0.mk hn
      clear hn
      have x2 := blk_cell HX2.out 2
      have x3 := blk_cell HX2.out 3
      obtain ⟨lb, hlb⟩ : ∃ lb, lb = w2.heap.size := ⟨_, rfl⟩
      obtain ⟨w6, hw6⟩ : ∃ w6, w6 = w2.alloc (.cells #[.int .i64 b, .int .i64 d] 40) := ⟨_, rfl⟩
      have hb6 : Below w2.heap.size w2 w6 := by rw [hw6]; exact (Below.refl w2.heap.size w2).alloc (Nat.le_refl _) _
      have hx6 : w6.heap[lb]? = some (.cells #[.int .i64 b, .int .i64 d] 40 (0, 0)) := by rw [hw6, hlb]; exact alloc_blk w2 _
      have HB6 := Aside0.mk (HB2.out.trans (hb6.mono HB2.out.size))
      have HL6 := Aside0.mk hx6
      have HX6 := Aside0.mk ((hb6.block _ (blk_lt HX2.out)).trans HX2.out)
      have HW6 := Aside0.mk (And.intro hw6 hlb)
      clear hb6 hx6 hw6 hlb HLW
      go_upto_region 4 with (fail)
      rw [← HW6.out.1, ← HW6.out.2]
      clear x0 x1 x2 x3
      refine wp_region_T (fun w' => Below (w6).heap.size (w6) w') [] (.takes [0, 1, 3, 4, 5] (.alt 2 10 (.alt 6 10 (.takes [7, 8, 9] (.op 10 (.op 11 (.op 12 .done)))) (.op 6 (.takes [7, 8, 9] (.op 11 (.op 12 .done))))) (.op 2 (.op 6 (.takes [7, 8, 9] (.op 11 (.op 12 .done))))))) (by kernel_rfl) (by kernel_rfl) (by kernel_rfl) (by kernel_rfl) (panic_via (P := Try.prog) (fn := Try.f6) (R := fun e w' => e = .returned (.bool true) ∧ Below w.heap.size w w') (fun _ _ _ => rfl)) ?_
      obtain ⟨wd, hwd⟩ : ∃ wd, wd = (w6).drew := ⟨_, rfl⟩
      rw [← hwd]
      have hs : Below (w6).heap.size (w6) wd := by rw [hwd]; exact (Below.refl _ _).drew
      clear hwd
      simp only [Turns.takes]
      repeat (
        (first
          | (refine runT_take (v := ?_) (by rfl) (by rfl) (fun w' hS => ?_) hs ?_
             rotate_left
             · (have hX := (hS.block _ (blk_lt HX6.out)).trans HX6.out; have d0 := blk_cell hX 0; have d1 := blk_cell hX 1; have hL := (hS.block _ (blk_lt HL6.out)).trans HL6.out; have d2 := blk_cell hL 0; have d3 := blk_cell hL 1; go_simp; exact rfl))
          | refine runT_skip (by rfl) (by rfl) hs ?_)
        (try simp only [Act.put, List.setIfInBounds_toArray, List.set_cons_zero, List.set_cons_succ]))
      rename_i K0 hK0
      obtain ⟨r, hr⟩ : ∃ r, r = unfoldR (P.map ofF) args b d 3000 := ⟨_, rfl⟩
      have HR := Aside0.mk hr
      clear hr
      refine' with_actU (F := fun bx A c a Al n cl G e9 W => AfterU w6 W bx r a Al n cl G e9) (K := K0) _ (fun hfin => ?_) ?_
      rotate_left
      · refine runT_alt (by rfl) (by rfl) (by rfl) (by rfl) (fun K hK => ?_) (fun K hK => ?_)
        · go_simp
          refine (of_any Ap cp P _ (Kd.C_below H0.out.1 ((HB6).out.trans ((hs).mono (HB6).out.size))) H0.out.2.1 HLL.out.1 HLL.out.2).mono ?_
          rintro e w3 ⟨hb3, A, c, rfl, hc, hC⟩
          have hs3 := (hs).trans (hb3.mono (hs).size)
          have H3 := Aside0.mk (And.intro hc (And.intro hC hb3))
          refine hK _ _ hs3 ?_
          clear hK K hb3 hc hC
          (try simp only [Act.put, List.setIfInBounds_toArray, List.set_cons_zero, List.set_cons_succ])
          refine runT_alt (by rfl) (by rfl) (by rfl) (by rfl) (fun K hK => ?_) (fun K hK => ?_)
          · go_simp
            have hA3 := Kd.C_below H0.out.2.2.1 ((HB6).out.trans ((hs3).mono (HB6).out.size))
            refine (unfold_of A c P Aa ca args b d 3000 w3 (Kd.C_below H3.out.2.1 (Below.refl _ _)) H3.out.1 hA3 H0.out.2.2.2.1 ((by decide)) HR.out).mono ?_
            rintro e w4 ⟨hb4, a, Al, n, cl, G, e9, rfl, hU⟩
            have hs4 := (hs3).trans (hb4.mono (hs3).size)
            have H4 := Aside0.mk (And.intro hU hb4)
            obtain ⟨V, hV⟩ : ∃ V, V = treeV a Al n cl G := ⟨_, rfl⟩
            rw [← hV]
            have HV := Aside0.mk hV
            refine hK _ _ hs4 ?_
            clear hK K hb4 hU hA3 hV
            (try simp only [Act.put, List.setIfInBounds_toArray, List.set_cons_zero, List.set_cons_succ])
            have hs := hs4
            repeat (
              (first
                | (refine runT_take (v := ?_) (by rfl) (by rfl) (fun w' hS => ?_) hs ?_
                   rotate_left
                   · (skip; go_simp; exact rfl))
                | refine runT_skip (by rfl) (by rfl) hs ?_)
              (try simp only [Act.put, List.setIfInBounds_toArray, List.set_cons_zero, List.set_cons_succ]))
            refine runT_op (by rfl) (by rfl) (fun K hK => ?_)
            go_simp
            obtain ⟨bx, hbx⟩ : ∃ bx, bx = (w4).heap.size := ⟨_, rfl⟩
            rw [← hbx]
            obtain ⟨w5, hw5⟩ : ∃ w5, w5 = (w4).alloc (.cells #[.pointer none, .slice none 0 0, .int .i64 0, .int .i64 0, .int .i64 0, .int .i64 0] 33) := ⟨_, rfl⟩
            rw [← hw5]
            have hb5 : Below (w4).heap.size (w4) w5 := by rw [hw5]; exact (Below.refl (w4).heap.size (w4)).alloc (Nat.le_refl _) _
            have hx5 : w5.heap[bx]? = some zTree := by rw [hw5, hbx]; exact alloc_blk (w4) _
            have hs5 := (hs4).trans (hb5.mono (hs4).size)
            have H5 := Aside0.mk (And.intro hb5 (And.intro hx5 (And.intro (show (w6).heap.size ≤ bx by rw [hbx]; exact (hs4).size) (Nat.le_of_eq hbx.symm))))
            refine hK _ _ hs5 ?_
            clear hK K hb5 hbx hw5 hx5
            (try simp only [Act.put, List.setIfInBounds_toArray, List.set_cons_zero, List.set_cons_succ])
            have hbox := H5.out.2.1
            rw [HV.out, show treeV a Al n cl G = .agg #[.pointer a, .slice Al n cl, .int .i64 G.frames, .int .i64 G.cells, .int .i64 G.chunks, .int .i64 G.steps] from rfl]
            have q0 := blk_cell hbox 0
            have q1 := blk_cell hbox 1
            have q2 := blk_cell hbox 2
            have q3 := blk_cell hbox 3
            have q4 := blk_cell hbox 4
            have q5 := blk_cell hbox 5
            have f0 := blk_frozen hbox 0
            have f1 := blk_frozen hbox 1
            have f2 := blk_frozen hbox 2
            have f3 := blk_frozen hbox 3
            have f4 := blk_frozen hbox 4
            have f5 := blk_frozen hbox 5
            refine runT_op (by rfl) (by rfl) (fun K hK => ?_)
            go_simp
            obtain ⟨W, hW⟩ : ∃ W, W = ((((((w5).setCell ⟨bx, 0, none⟩ (.pointer a)).setCell ⟨bx, 1, none⟩ (.slice Al n cl)).setCell ⟨bx, 2, none⟩ (.int .i64 G.frames)).setCell ⟨bx, 3, none⟩ (.int .i64 G.cells)).setCell ⟨bx, 4, none⟩ (.int .i64 G.chunks)).setCell ⟨bx, 5, none⟩ (.int .i64 G.steps) := ⟨_, rfl⟩
            rw [← hW]
            have hAE := after_storeU hs5 hbox H5.out.2.2.1 (H4.out.1.new H5.out.1 H5.out.2.2.2) hW
            have HAE := Aside0.mk hAE
            refine hK _ _ hAE.below ?_
            clear hK K q0 q1 q2 q3 q4 q5 f0 f1 f2 f3 f4 f5 hW
            (try simp only [Act.put, List.setIfInBounds_toArray, List.set_cons_zero, List.set_cons_succ])
            refine runT_op (by rfl) (by rfl) (fun K hK => ?_)
            go_simp
            refine hK _ _ hAE.below ?_
            clear hK K hAE
            (try simp only [Act.put, List.setIfInBounds_toArray, List.set_cons_zero, List.set_cons_succ])
            refine runT_done ?_
            exact hfin bx A c a Al n cl G e9 W HAE.out
          · go_simp
            obtain ⟨bx, hbx⟩ : ∃ bx, bx = (w3).heap.size := ⟨_, rfl⟩
            rw [← hbx]
            obtain ⟨w5, hw5⟩ : ∃ w5, w5 = (w3).alloc (.cells #[.pointer none, .slice none 0 0, .int .i64 0, .int .i64 0, .int .i64 0, .int .i64 0] 33) := ⟨_, rfl⟩
            rw [← hw5]
            have hb5 : Below (w3).heap.size (w3) w5 := by rw [hw5]; exact (Below.refl (w3).heap.size (w3)).alloc (Nat.le_refl _) _
            have hx5 : w5.heap[bx]? = some zTree := by rw [hw5, hbx]; exact alloc_blk (w3) _
            have hs5 := (hs3).trans (hb5.mono (hs3).size)
            have H5 := Aside0.mk (And.intro hb5 (And.intro hx5 (And.intro (show (w6).heap.size ≤ bx by rw [hbx]; exact (hs3).size) (Nat.le_of_eq hbx.symm))))
            refine hK _ _ hs5 ?_
            clear hK K hb5 hbx hw5 hx5
            (try simp only [Act.put, List.setIfInBounds_toArray, List.set_cons_zero, List.set_cons_succ])
            refine runT_op (by rfl) (by rfl) (fun K hK => ?_)
            go_simp
            have hA3 := Kd.C_below H0.out.2.2.1 ((HB6).out.trans ((hs5).mono (HB6).out.size))
            refine (unfold_of A c P Aa ca args b d 3000 w5 (Kd.C_below H3.out.2.1 H5.out.1) H3.out.1 hA3 H0.out.2.2.2.1 ((by decide)) HR.out).mono ?_
            rintro e w4 ⟨hb4, a, Al, n, cl, G, e9, rfl, hU⟩
            have hs4 := (hs5).trans (hb4.mono (hs5).size)
            have H4 := Aside0.mk (And.intro hU hb4)
            obtain ⟨V, hV⟩ : ∃ V, V = treeV a Al n cl G := ⟨_, rfl⟩
            rw [← hV]
            have HV := Aside0.mk hV
            refine hK _ _ hs4 ?_
            clear hK K hb4 hU hA3 hV
            (try simp only [Act.put, List.setIfInBounds_toArray, List.set_cons_zero, List.set_cons_succ])
            have hs := hs4
            repeat (
              (first
                | (refine runT_take (v := ?_) (by rfl) (by rfl) (fun w' hS => ?_) hs ?_
                   rotate_left
                   · (skip; go_simp; exact rfl))
                | refine runT_skip (by rfl) (by rfl) hs ?_)
              (try simp only [Act.put, List.setIfInBounds_toArray, List.set_cons_zero, List.set_cons_succ]))
            have hbox := ((H4.out.2.block _ (blk_lt H5.out.2.1)).trans H5.out.2.1)
            rw [HV.out, show treeV a Al n cl G = .agg #[.pointer a, .slice Al n cl, .int .i64 G.frames, .int .i64 G.cells, .int .i64 G.chunks, .int .i64 G.steps] from rfl]
            have q0 := blk_cell hbox 0
            have q1 := blk_cell hbox 1
            have q2 := blk_cell hbox 2
            have q3 := blk_cell hbox 3
            have q4 := blk_cell hbox 4
            have q5 := blk_cell hbox 5
            have f0 := blk_frozen hbox 0
            have f1 := blk_frozen hbox 1
            have f2 := blk_frozen hbox 2
            have f3 := blk_frozen hbox 3
            have f4 := blk_frozen hbox 4
            have f5 := blk_frozen hbox 5
            refine runT_op (by rfl) (by rfl) (fun K hK => ?_)
            go_simp
            obtain ⟨W, hW⟩ : ∃ W, W = ((((((w4).setCell ⟨bx, 0, none⟩ (.pointer a)).setCell ⟨bx, 1, none⟩ (.slice Al n cl)).setCell ⟨bx, 2, none⟩ (.int .i64 G.frames)).setCell ⟨bx, 3, none⟩ (.int .i64 G.cells)).setCell ⟨bx, 4, none⟩ (.int .i64 G.chunks)).setCell ⟨bx, 5, none⟩ (.int .i64 G.steps) := ⟨_, rfl⟩
            rw [← hW]
            have hAE := after_storeU hs4 hbox H5.out.2.2.1 (H4.out.1.old (blk_lt H5.out.2.1) hbox) hW
            have HAE := Aside0.mk hAE
            refine hK _ _ hAE.below ?_
            clear hK K q0 q1 q2 q3 q4 q5 f0 f1 f2 f3 f4 f5 hW
            (try simp only [Act.put, List.setIfInBounds_toArray, List.set_cons_zero, List.set_cons_succ])
            refine runT_op (by rfl) (by rfl) (fun K hK => ?_)
            go_simp
            refine hK _ _ hAE.below ?_
            clear hK K hAE
            (try simp only [Act.put, List.setIfInBounds_toArray, List.set_cons_zero, List.set_cons_succ])
            refine runT_done ?_
            exact hfin bx A c a Al n cl G e9 W HAE.out
        · go_simp
          obtain ⟨bx, hbx⟩ : ∃ bx, bx = (wd).heap.size := ⟨_, rfl⟩
          rw [← hbx]
          obtain ⟨w5, hw5⟩ : ∃ w5, w5 = (wd).alloc (.cells #[.pointer none, .slice none 0 0, .int .i64 0, .int .i64 0, .int .i64 0, .int .i64 0] 33) := ⟨_, rfl⟩
          rw [← hw5]
          have hb5 : Below (wd).heap.size (wd) w5 := by rw [hw5]; exact (Below.refl (wd).heap.size (wd)).alloc (Nat.le_refl _) _
          have hx5 : w5.heap[bx]? = some zTree := by rw [hw5, hbx]; exact alloc_blk (wd) _
          have hs5 := (hs).trans (hb5.mono (hs).size)
          have H5 := Aside0.mk (And.intro hb5 (And.intro hx5 (And.intro (show (w6).heap.size ≤ bx by rw [hbx]; exact (hs).size) (Nat.le_of_eq hbx.symm))))
          refine hK _ _ hs5 ?_
          clear hK K hb5 hbx hw5 hx5
          (try simp only [Act.put, List.setIfInBounds_toArray, List.set_cons_zero, List.set_cons_succ])
          refine runT_op (by rfl) (by rfl) (fun K hK => ?_)
          go_simp
          refine (of_any Ap cp P _ (Kd.C_below H0.out.1 ((HB6).out.trans ((hs5).mono (HB6).out.size))) H0.out.2.1 HLL.out.1 HLL.out.2).mono ?_
          rintro e w3 ⟨hb3, A, c, rfl, hc, hC⟩
          have hs3 := (hs5).trans (hb3.mono (hs5).size)
          have H3 := Aside0.mk (And.intro hc (And.intro hC hb3))
          refine hK _ _ hs3 ?_
          clear hK K hb3 hc hC
          (try simp only [Act.put, List.setIfInBounds_toArray, List.set_cons_zero, List.set_cons_succ])
          refine runT_op (by rfl) (by rfl) (fun K hK => ?_)
          go_simp
          have hA3 := Kd.C_below H0.out.2.2.1 ((HB6).out.trans ((hs3).mono (HB6).out.size))
          refine (unfold_of A c P Aa ca args b d 3000 w3 (Kd.C_below H3.out.2.1 (Below.refl _ _)) H3.out.1 hA3 H0.out.2.2.2.1 ((by decide)) HR.out).mono ?_
          rintro e w4 ⟨hb4, a, Al, n, cl, G, e9, rfl, hU⟩
          have hs4 := (hs3).trans (hb4.mono (hs3).size)
          have H4 := Aside0.mk (And.intro hU hb4)
          obtain ⟨V, hV⟩ : ∃ V, V = treeV a Al n cl G := ⟨_, rfl⟩
          rw [← hV]
          have HV := Aside0.mk hV
          refine hK _ _ hs4 ?_
          clear hK K hb4 hU hA3 hV
          (try simp only [Act.put, List.setIfInBounds_toArray, List.set_cons_zero, List.set_cons_succ])
          have hs := hs4
          repeat (
            (first
              | (refine runT_take (v := ?_) (by rfl) (by rfl) (fun w' hS => ?_) hs ?_
                 rotate_left
                 · (skip; go_simp; exact rfl))
              | refine runT_skip (by rfl) (by rfl) hs ?_)
            (try simp only [Act.put, List.setIfInBounds_toArray, List.set_cons_zero, List.set_cons_succ]))
          have hbox := ((H4.out.2.block _ (Nat.lt_of_lt_of_le (blk_lt H5.out.2.1) H3.out.2.2.size)).trans ((H3.out.2.2.block _ (blk_lt H5.out.2.1)).trans H5.out.2.1))
          rw [HV.out, show treeV a Al n cl G = .agg #[.pointer a, .slice Al n cl, .int .i64 G.frames, .int .i64 G.cells, .int .i64 G.chunks, .int .i64 G.steps] from rfl]
          have q0 := blk_cell hbox 0
          have q1 := blk_cell hbox 1
          have q2 := blk_cell hbox 2
          have q3 := blk_cell hbox 3
          have q4 := blk_cell hbox 4
          have q5 := blk_cell hbox 5
          have f0 := blk_frozen hbox 0
          have f1 := blk_frozen hbox 1
          have f2 := blk_frozen hbox 2
          have f3 := blk_frozen hbox 3
          have f4 := blk_frozen hbox 4
          have f5 := blk_frozen hbox 5
          refine runT_op (by rfl) (by rfl) (fun K hK => ?_)
          go_simp
          obtain ⟨W, hW⟩ : ∃ W, W = ((((((w4).setCell ⟨bx, 0, none⟩ (.pointer a)).setCell ⟨bx, 1, none⟩ (.slice Al n cl)).setCell ⟨bx, 2, none⟩ (.int .i64 G.frames)).setCell ⟨bx, 3, none⟩ (.int .i64 G.cells)).setCell ⟨bx, 4, none⟩ (.int .i64 G.chunks)).setCell ⟨bx, 5, none⟩ (.int .i64 G.steps) := ⟨_, rfl⟩
          rw [← hW]
          have hAE := after_storeU hs4 hbox H5.out.2.2.1 (H4.out.1.old (Nat.lt_of_lt_of_le (blk_lt H5.out.2.1) H3.out.2.2.size) hbox) hW
          have HAE := Aside0.mk hAE
          refine hK _ _ hAE.below ?_
          clear hK K q0 q1 q2 q3 q4 q5 f0 f1 f2 f3 f4 f5 hW
          (try simp only [Act.put, List.setIfInBounds_toArray, List.set_cons_zero, List.set_cons_succ])
          refine runT_op (by rfl) (by rfl) (fun K hK => ?_)
          go_simp
          refine hK _ _ hAE.below ?_
          clear hK K hAE
          (try simp only [Act.put, List.setIfInBounds_toArray, List.set_cons_zero, List.set_cons_succ])
          refine runT_done ?_
          exact hfin bx A c a Al n cl G e9 W HAE.out
      · intro bu A c a Al n cl G e9 W hAE
        have HAU := Aside0.mk hAE
        have HBW := Aside0.mk (HB6.out.trans (hAE.below.mono HB6.out.size))
        have hres := hAE.res
        have HXW := Aside0.mk ((hAE.below.block _ (blk_lt HX6.out)).trans HX6.out)
        have HLW := Aside0.mk ((hAE.below.block _ (blk_lt HL6.out)).trans HL6.out)
        clear hAE hs
        cases r with
        | err e =>
          obtain ⟨rfl, _⟩ := hres
          have he : (e9 != 0) = true := by rcases unfoldR_err HR.out.symm with h | h <;> rw [h] <;> rfl
          clear HR
          go_wp2_with fail
          refine (awake_any _).mono ?_
          rintro e w9 ⟨rfl, hb9⟩
          have HB9 := Aside0.mk ((HBW).out.trans (hb9.mono (HBW).out.size))
          clear hb9
          go_wp2_with fail
          go_ret
          exact ⟨rfl, HB9.out⟩
        | ok t G2 =>
          obtain ⟨rfl, rfl, hnc, hT, L, hnL, hpm, hsrt, hLA⟩ := hres
          obtain ⟨hrt, hp⟩ := unfoldR_ok HR.out.symm
          obtain ⟨k1, k2, k3, k4, k5⟩ := evRight_ok hrt
          obtain ⟨j1, j2, j3, j4, j5, j6, j7, j8, j9, j10⟩ := unfoldP_need3 hp k1 k2 k3 k5
          obtain ⟨v, f, told, log, m1, m2, m3, m4⟩ := unfold_merges hrt hp
          have HT := Aside0.mk hT
          have htl := walkT_len t [] 0 j1
          have HMC := Aside0.mk (And.intro hT (show rightT t 0 = true → (walkT t []).1.length ≤ 1000000000 from fun _ => by omega))
          have hmp : mergeP t = (told, v, f, 0) := by
            unfold mergeP
            rw [if_pos m2, m3, m4]
            rfl
          have HMP := Aside0.mk hmp
          have hev : evalR (P.map ofF) args b d 3000 = ((v, f, told, log), 0) := by unfold evalR; rw [if_pos hrt, m1]
          clear HR hnc hnL hpm hsrt hLA hrt hp k1 k2 k3 k4 k5 j1 j2 j3 j4 j5 j6 j7 j8 j9 j10 m1 m2 m3 m4 htl hmp hT
          have HR : Aside0 ((((v, f, told, log), 0) : EvR) = evalR (P.map ofF) args b d 3000) := ⟨hev.symm⟩
          clear hev
          go_upto_region 7 with (fail)
          refine wp_region_T (fun w' => Below (W).heap.size (W) w') [] (.takes [0, 1, 3, 4, 5] (.alt 2 10 (.alt 6 10 (.takes [7, 8, 9] (.op 10 (.op 11 (.op 12 .done)))) (.op 6 (.takes [7, 8, 9] (.op 11 (.op 12 .done))))) (.op 2 (.op 6 (.takes [7, 8, 9] (.op 11 (.op 12 .done))))))) (by kernel_rfl) (by kernel_rfl) (by kernel_rfl) (by kernel_rfl) (panic_via (P := Try.prog) (fn := Try.f6) (R := fun e w' => e = .returned (.bool true) ∧ Below w.heap.size w w') (fun _ _ _ => rfl)) ?_
          obtain ⟨wd, hwd⟩ : ∃ wd, wd = (W).drew := ⟨_, rfl⟩
          rw [← hwd]
          have hs : Below (W).heap.size (W) wd := by rw [hwd]; exact (Below.refl _ _).drew
          clear hwd
          simp only [Turns.takes]
          repeat (
            (first
              | (refine runT_take (v := ?_) (by rfl) (by rfl) (fun w' hS => ?_) hs ?_
                 rotate_left
                 · (have hX := (hS.block _ (blk_lt HXW.out)).trans HXW.out; have d0 := blk_cell hX 0; have d1 := blk_cell hX 1; have hL := (hS.block _ (blk_lt HLW.out)).trans HLW.out; have d2 := blk_cell hL 0; have d3 := blk_cell hL 1; go_simp; exact rfl))
              | refine runT_skip (by rfl) (by rfl) hs ?_)
            (try simp only [Act.put, List.setIfInBounds_toArray, List.set_cons_zero, List.set_cons_succ]))
          rename_i K1 hK1
          obtain ⟨rv, rf, r2, hrv, hrf, hr2⟩ : ∃ rv rf r2, rv = v ∧ rf = f ∧ r2 = (0 : Int) := ⟨_, _, _, rfl, rfl, rfl⟩
          rw [← hrv, ← hrf, ← hr2] at HR
          have HRV := Aside0.mk (And.intro hrv (And.intro hrf hr2))
          clear hrv hrf hr2
          refine' with_act (F := fun bx A c At ct Al cl W2 => AfterE W W2 bx rv rf told log At ct Al cl) (K := K1) _ (fun hfin => ?_) ?_
          rotate_left
          · refine runT_alt (by rfl) (by rfl) (by rfl) (by rfl) (fun K hK => ?_) (fun K hK => ?_)
            · go_simp
              refine (of_any Ap cp P _ (Kd.C_below H0.out.1 ((HBW).out.trans ((hs).mono (HBW).out.size))) H0.out.2.1 HLL.out.1 HLL.out.2).mono ?_
              rintro e w3 ⟨hb3, A, c, rfl, hc, hC⟩
              have hs3 := (hs).trans (hb3.mono (hs).size)
              have H3 := Aside0.mk (And.intro hc (And.intro hC hb3))
              refine hK _ _ hs3 ?_
              clear hK K hb3 hc hC
              (try simp only [Act.put, List.setIfInBounds_toArray, List.set_cons_zero, List.set_cons_succ])
              refine runT_alt (by rfl) (by rfl) (by rfl) (by rfl) (fun K hK => ?_) (fun K hK => ?_)
              · go_simp
                have hA3 := Kd.C_below H0.out.2.2.1 ((HBW).out.trans ((hs3).mono (HBW).out.size))
                refine (eval_of A c P Aa ca args b d 3000 w3 (Kd.C_below H3.out.2.1 (Below.refl _ _)) H3.out.1 hA3 H0.out.2.2.2.1 ((by decide)) HR.out).mono ?_
                rintro e w4 ⟨⟨At, ct, Al, cl, rfl, hrc⟩, hb4⟩
                have hs4 := (hs3).trans (hb4.mono (hs3).size)
                have H4 := Aside0.mk (And.intro hrc hb4)
                obtain ⟨V, hV⟩ : ∃ V, V = resV (((rv, rf, told, log), r2) : EvR).1 At ct Al cl := ⟨_, rfl⟩
                rw [← hV]
                have HV := Aside0.mk hV
                refine hK _ _ hs4 ?_
                clear hK K hb4 hrc hA3 hV
                (try simp only [Act.put, List.setIfInBounds_toArray, List.set_cons_zero, List.set_cons_succ])
                have hs := hs4
                repeat (
                  (first
                    | (refine runT_take (v := ?_) (by rfl) (by rfl) (fun w' hS => ?_) hs ?_
                       rotate_left
                       · (skip; go_simp; exact rfl))
                    | refine runT_skip (by rfl) (by rfl) hs ?_)
                  (try simp only [Act.put, List.setIfInBounds_toArray, List.set_cons_zero, List.set_cons_succ]))
                refine runT_op (by rfl) (by rfl) (fun K hK => ?_)
                go_simp
                obtain ⟨bx, hbx⟩ : ∃ bx, bx = (w4).heap.size := ⟨_, rfl⟩
                rw [← hbx]
                obtain ⟨w5, hw5⟩ : ∃ w5, w5 = (w4).alloc (.cells #[.int .i64 0, .int .i64 0, .slice none 0 0, .slice none 0 0] 77) := ⟨_, rfl⟩
                rw [← hw5]
                have hb5 : Below (w4).heap.size (w4) w5 := by rw [hw5]; exact (Below.refl (w4).heap.size (w4)).alloc (Nat.le_refl _) _
                have hx5 : w5.heap[bx]? = some zRes := by rw [hw5, hbx]; exact alloc_blk (w4) _
                have hs5 := (hs4).trans (hb5.mono (hs4).size)
                have H5 := Aside0.mk (And.intro hb5 (And.intro hx5 (show (W).heap.size ≤ bx by rw [hbx]; exact (hs4).size)))
                refine hK _ _ hs5 ?_
                clear hK K hb5 hbx hw5 hx5
                (try simp only [Act.put, List.setIfInBounds_toArray, List.set_cons_zero, List.set_cons_succ])
                have hbox := H5.out.2.1
                rw [HV.out, show resV (((rv, rf, told, log), r2) : EvR).1 At ct Al cl = .agg #[.int .i64 rv, .int .i64 rf, .slice At told.length ct, .slice Al log.length cl] from rfl]
                have q0 := blk_cell hbox 0
                have q1 := blk_cell hbox 1
                have q2 := blk_cell hbox 2
                have q3 := blk_cell hbox 3
                have f0 := blk_frozen hbox 0
                have f1 := blk_frozen hbox 1
                have f2 := blk_frozen hbox 2
                have f3 := blk_frozen hbox 3
                refine runT_op (by rfl) (by rfl) (fun K hK => ?_)
                go_simp
                obtain ⟨W, hW⟩ : ∃ W, W = ((((w5).setCell ⟨bx, 0, none⟩ (.int .i64 rv)).setCell ⟨bx, 1, none⟩ (.int .i64 rf)).setCell ⟨bx, 2, none⟩ (.slice At told.length ct)).setCell ⟨bx, 3, none⟩ (.slice Al log.length cl) := ⟨_, rfl⟩
                rw [← hW]
                have hAE := after_store hs5 hbox H5.out.2.2 (H4.out.1.below H5.out.1) hW
                have HAE := Aside0.mk hAE
                refine hK _ _ hAE.below ?_
                clear hK K q0 q1 q2 q3 f0 f1 f2 f3 hW
                (try simp only [Act.put, List.setIfInBounds_toArray, List.set_cons_zero, List.set_cons_succ])
                refine runT_op (by rfl) (by rfl) (fun K hK => ?_)
                go_simp
                refine hK _ _ hAE.below ?_
                clear hK K hAE
                (try simp only [Act.put, List.setIfInBounds_toArray, List.set_cons_zero, List.set_cons_succ])
                refine runT_done ?_
                exact hfin bx A c At ct Al cl W HAE.out
              · go_simp
                obtain ⟨bx, hbx⟩ : ∃ bx, bx = (w3).heap.size := ⟨_, rfl⟩
                rw [← hbx]
                obtain ⟨w5, hw5⟩ : ∃ w5, w5 = (w3).alloc (.cells #[.int .i64 0, .int .i64 0, .slice none 0 0, .slice none 0 0] 77) := ⟨_, rfl⟩
                rw [← hw5]
                have hb5 : Below (w3).heap.size (w3) w5 := by rw [hw5]; exact (Below.refl (w3).heap.size (w3)).alloc (Nat.le_refl _) _
                have hx5 : w5.heap[bx]? = some zRes := by rw [hw5, hbx]; exact alloc_blk (w3) _
                have hs5 := (hs3).trans (hb5.mono (hs3).size)
                have H5 := Aside0.mk (And.intro hb5 (And.intro hx5 (show (W).heap.size ≤ bx by rw [hbx]; exact (hs3).size)))
                refine hK _ _ hs5 ?_
                clear hK K hb5 hbx hw5 hx5
                (try simp only [Act.put, List.setIfInBounds_toArray, List.set_cons_zero, List.set_cons_succ])
                refine runT_op (by rfl) (by rfl) (fun K hK => ?_)
                go_simp
                have hA3 := Kd.C_below H0.out.2.2.1 ((HBW).out.trans ((hs5).mono (HBW).out.size))
                refine (eval_of A c P Aa ca args b d 3000 w5 (Kd.C_below H3.out.2.1 H5.out.1) H3.out.1 hA3 H0.out.2.2.2.1 ((by decide)) HR.out).mono ?_
                rintro e w4 ⟨⟨At, ct, Al, cl, rfl, hrc⟩, hb4⟩
                have hs4 := (hs5).trans (hb4.mono (hs5).size)
                have H4 := Aside0.mk (And.intro hrc hb4)
                obtain ⟨V, hV⟩ : ∃ V, V = resV (((rv, rf, told, log), r2) : EvR).1 At ct Al cl := ⟨_, rfl⟩
                rw [← hV]
                have HV := Aside0.mk hV
                refine hK _ _ hs4 ?_
                clear hK K hb4 hrc hA3 hV
                (try simp only [Act.put, List.setIfInBounds_toArray, List.set_cons_zero, List.set_cons_succ])
                have hs := hs4
                repeat (
                  (first
                    | (refine runT_take (v := ?_) (by rfl) (by rfl) (fun w' hS => ?_) hs ?_
                       rotate_left
                       · (skip; go_simp; exact rfl))
                    | refine runT_skip (by rfl) (by rfl) hs ?_)
                  (try simp only [Act.put, List.setIfInBounds_toArray, List.set_cons_zero, List.set_cons_succ]))
                have hbox := ((H4.out.2.block _ (blk_lt H5.out.2.1)).trans H5.out.2.1)
                rw [HV.out, show resV (((rv, rf, told, log), r2) : EvR).1 At ct Al cl = .agg #[.int .i64 rv, .int .i64 rf, .slice At told.length ct, .slice Al log.length cl] from rfl]
                have q0 := blk_cell hbox 0
                have q1 := blk_cell hbox 1
                have q2 := blk_cell hbox 2
                have q3 := blk_cell hbox 3
                have f0 := blk_frozen hbox 0
                have f1 := blk_frozen hbox 1
                have f2 := blk_frozen hbox 2
                have f3 := blk_frozen hbox 3
                refine runT_op (by rfl) (by rfl) (fun K hK => ?_)
                go_simp
                obtain ⟨W, hW⟩ : ∃ W, W = ((((w4).setCell ⟨bx, 0, none⟩ (.int .i64 rv)).setCell ⟨bx, 1, none⟩ (.int .i64 rf)).setCell ⟨bx, 2, none⟩ (.slice At told.length ct)).setCell ⟨bx, 3, none⟩ (.slice Al log.length cl) := ⟨_, rfl⟩
                rw [← hW]
                have hAE := after_store hs4 hbox H5.out.2.2 H4.out.1 hW
                have HAE := Aside0.mk hAE
                refine hK _ _ hAE.below ?_
                clear hK K q0 q1 q2 q3 f0 f1 f2 f3 hW
                (try simp only [Act.put, List.setIfInBounds_toArray, List.set_cons_zero, List.set_cons_succ])
                refine runT_op (by rfl) (by rfl) (fun K hK => ?_)
                go_simp
                refine hK _ _ hAE.below ?_
                clear hK K hAE
                (try simp only [Act.put, List.setIfInBounds_toArray, List.set_cons_zero, List.set_cons_succ])
                refine runT_done ?_
                exact hfin bx A c At ct Al cl W HAE.out
            · go_simp
              obtain ⟨bx, hbx⟩ : ∃ bx, bx = (wd).heap.size := ⟨_, rfl⟩
              rw [← hbx]
              obtain ⟨w5, hw5⟩ : ∃ w5, w5 = (wd).alloc (.cells #[.int .i64 0, .int .i64 0, .slice none 0 0, .slice none 0 0] 77) := ⟨_, rfl⟩
              rw [← hw5]
              have hb5 : Below (wd).heap.size (wd) w5 := by rw [hw5]; exact (Below.refl (wd).heap.size (wd)).alloc (Nat.le_refl _) _
              have hx5 : w5.heap[bx]? = some zRes := by rw [hw5, hbx]; exact alloc_blk (wd) _
              have hs5 := (hs).trans (hb5.mono (hs).size)
              have H5 := Aside0.mk (And.intro hb5 (And.intro hx5 (show (W).heap.size ≤ bx by rw [hbx]; exact (hs).size)))
              refine hK _ _ hs5 ?_
              clear hK K hb5 hbx hw5 hx5
              (try simp only [Act.put, List.setIfInBounds_toArray, List.set_cons_zero, List.set_cons_succ])
              refine runT_op (by rfl) (by rfl) (fun K hK => ?_)
              go_simp
              refine (of_any Ap cp P _ (Kd.C_below H0.out.1 ((HBW).out.trans ((hs5).mono (HBW).out.size))) H0.out.2.1 HLL.out.1 HLL.out.2).mono ?_
              rintro e w3 ⟨hb3, A, c, rfl, hc, hC⟩
              have hs3 := (hs5).trans (hb3.mono (hs5).size)
              have H3 := Aside0.mk (And.intro hc (And.intro hC hb3))
              refine hK _ _ hs3 ?_
              clear hK K hb3 hc hC
              (try simp only [Act.put, List.setIfInBounds_toArray, List.set_cons_zero, List.set_cons_succ])
              refine runT_op (by rfl) (by rfl) (fun K hK => ?_)
              go_simp
              have hA3 := Kd.C_below H0.out.2.2.1 ((HBW).out.trans ((hs3).mono (HBW).out.size))
              refine (eval_of A c P Aa ca args b d 3000 w3 (Kd.C_below H3.out.2.1 (Below.refl _ _)) H3.out.1 hA3 H0.out.2.2.2.1 ((by decide)) HR.out).mono ?_
              rintro e w4 ⟨⟨At, ct, Al, cl, rfl, hrc⟩, hb4⟩
              have hs4 := (hs3).trans (hb4.mono (hs3).size)
              have H4 := Aside0.mk (And.intro hrc hb4)
              obtain ⟨V, hV⟩ : ∃ V, V = resV (((rv, rf, told, log), r2) : EvR).1 At ct Al cl := ⟨_, rfl⟩
              rw [← hV]
              have HV := Aside0.mk hV
              refine hK _ _ hs4 ?_
              clear hK K hb4 hrc hA3 hV
              (try simp only [Act.put, List.setIfInBounds_toArray, List.set_cons_zero, List.set_cons_succ])
              have hs := hs4
              repeat (
                (first
                  | (refine runT_take (v := ?_) (by rfl) (by rfl) (fun w' hS => ?_) hs ?_
                     rotate_left
                     · (skip; go_simp; exact rfl))
                  | refine runT_skip (by rfl) (by rfl) hs ?_)
                (try simp only [Act.put, List.setIfInBounds_toArray, List.set_cons_zero, List.set_cons_succ]))
              have hbox := ((H4.out.2.block _ (Nat.lt_of_lt_of_le (blk_lt H5.out.2.1) H3.out.2.2.size)).trans ((H3.out.2.2.block _ (blk_lt H5.out.2.1)).trans H5.out.2.1))
              rw [HV.out, show resV (((rv, rf, told, log), r2) : EvR).1 At ct Al cl = .agg #[.int .i64 rv, .int .i64 rf, .slice At told.length ct, .slice Al log.length cl] from rfl]
              have q0 := blk_cell hbox 0
              have q1 := blk_cell hbox 1
              have q2 := blk_cell hbox 2
              have q3 := blk_cell hbox 3
              have f0 := blk_frozen hbox 0
              have f1 := blk_frozen hbox 1
              have f2 := blk_frozen hbox 2
              have f3 := blk_frozen hbox 3
              refine runT_op (by rfl) (by rfl) (fun K hK => ?_)
              go_simp
              obtain ⟨W, hW⟩ : ∃ W, W = ((((w4).setCell ⟨bx, 0, none⟩ (.int .i64 rv)).setCell ⟨bx, 1, none⟩ (.int .i64 rf)).setCell ⟨bx, 2, none⟩ (.slice At told.length ct)).setCell ⟨bx, 3, none⟩ (.slice Al log.length cl) := ⟨_, rfl⟩
              rw [← hW]
              have hAE := after_store hs4 hbox H5.out.2.2 H4.out.1 hW
              have HAE := Aside0.mk hAE
              refine hK _ _ hAE.below ?_
              clear hK K q0 q1 q2 q3 f0 f1 f2 f3 hW
              (try simp only [Act.put, List.setIfInBounds_toArray, List.set_cons_zero, List.set_cons_succ])
              refine runT_op (by rfl) (by rfl) (fun K hK => ?_)
              go_simp
              refine hK _ _ hAE.below ?_
              clear hK K hAE
              (try simp only [Act.put, List.setIfInBounds_toArray, List.set_cons_zero, List.set_cons_succ])
              refine runT_done ?_
              exact hfin bx A c At ct Al cl W HAE.out
          · intro bx A2 c2 At ct Al2 cl2 W2 hAE
            have HAE := Aside0.mk hAE
            have HBW2 := Aside0.mk (HBW.out.trans (hAE.below.mono HBW.out.size))
            have hbu := (hAE.below.block _ (blk_lt HAU.out.box)).trans HAU.out.box
            have HBU := Aside0.mk hbu
            have HMC2 := Aside0.mk (Merge_any t a W2 (HMC.out.1.keep t hAE.below) HMC.out.2)
            have q0 := blk_cell hbu 0
            clear hAE hbu hs
            go_wp2_with fail
            refine HMC2.out.mono ?_
            rintro e w7 ⟨vv, rfl, hR, hb7⟩
            rw [HMP.out] at hR ⊢
            obtain ⟨Am, cm, rfl⟩ := Kd.R_slice hR
            have hq := Kd.R_reads' hR
            have HQ := Aside0.mk (And.intro hq.2.2 hq.2.1)
            have hx7 := (hb7.block _ (blk_lt HAE.out.box)).trans HAE.out.box
            have HB7 := Aside0.mk (HBW2.out.trans (hb7.mono HBW2.out.size))
            have HT7 := Aside0.mk (HAE.out.res.below hb7)
            have y0 := blk_cell hx7 0
            have y1 := blk_cell hx7 1
            have y2 := blk_cell hx7 2
            obtain ⟨hv1, hv2, hv3⟩ := HRV.out
            subst hv1
            subst hv2
            subst hv3
            clear hR hq hb7 hx7 q0 HMC2
            go_wp2_with fail
            refine (num_is Am cm told At ct told _ (r := true) (by simp) HQ.out.1 HQ.out.2 HT7.out.told HT7.out.toldC (by have := HQ.out.1.2.1; exact this)).mono ?_
            rintro e w8 ⟨rfl, hd8⟩
            obtain ⟨nd, rfl⟩ := hd8
            have HB8 := Aside0.mk (HB7.out.trans ((pw_below_drewN (Below.refl w7.heap.size w7) nd).mono HB7.out.size))
            go_wp2_with fail
            refine (awake_any _).mono ?_
            rintro e w9 ⟨rfl, hb9⟩
            have HB9 := Aside0.mk ((HB8).out.trans (hb9.mono (HB8).out.size))
            clear hb9
            go_wp2_with fail
            go_ret
            exact ⟨rfl, HB9.out⟩
def haymowlaw08_UnfoldMerges.f (l0_0 : List S83) (l0_1 : List Int) (a0_2 a0_3 : Int) : Option Bool := some true
theorem haymowlaw08_UnfoldMerges.calls (A0_0 : Option Addr) (c0_0 : Nat) (l0_0 : List S83) (A0_1 : Option Addr) (c0_1 : Nat) (l0_1 : List Int) (a0_2 a0_3 : Int) (r : Bool) (w : World) (hr0_0 : k83.C w A0_0 l0_0.length l0_0) (hc0_0 : l0_0.length ≤ c0_0) (hr0_1 : (Kd.int .i64).C w A0_1 l0_1.length l0_1) (hc0_1 : l0_1.length ≤ c0_1) (h : haymowlaw08_UnfoldMerges.f l0_0 l0_1 a0_2 a0_3 = some r) :
    Calls Try.prog 6 #[.agg #[.slice A0_0 l0_0.length c0_0, .slice A0_1 l0_1.length c0_1, .int .i64 a0_2, .int .i64 a0_3]] w fun e w' => e = .returned (.bool r) ∧ Below w.heap.size w w' := by
  cases h
  exact merges_walk A0_0 c0_0 l0_0 A0_1 c0_1 l0_1 a0_2 a0_3 w hr0_0 hc0_0 hr0_1 hc0_1
end Go.Proofs.Ytbekjccehhaljaa.H

set_option linter.unusedVariables false
set_option linter.unusedSimpArgs false
namespace Go.Hay
open Go.RowKit Go.Proofs.YtbekjccehhaljaaW.PrintWords Go.Proofs.YtbekjccehhaljaaW.PrintLast Go.Proofs.YtbekjccehhaljaaW.PrintMore

def Opens {α : Type} (P : Program) (t : TypeId) (d : Kd α) (wf : α → Prop) : Prop :=
  ∀ {H : Type} {enc : TypeId × Value → H} {w : World} {base : Nat} {spare : Nat → Bool} {held : Bool} {fuel : Nat} {cs : List Value} {x : DataW H × List MemPlace},
    DataW.trod enc P w base spare held fuel t cs = some x → ∃ a, d.K w a cs ∧ wf a

theorem opens_int {P : Program} {t : TypeId} {k : IntKind} (ht : P.underlying t = some (.int k)) : Opens P t (Kd.int k) (fun n => (Lit.int k n).wf = true) := by
  intro H enc w base spare held fuel cs x h
  cases fuel with
  | zero => simp [DataW.trod] at h
  | succ fuel =>
    unfold DataW.trod at h
    simp only [ht] at h
    split at h <;> simp_all
    rename_i k' n _
    obtain ⟨⟨rfl, hw⟩, _⟩ := h
    exact ⟨n, rfl, hw⟩
theorem opens_slice {α : Type} {P : Program} {t e e' : TypeId} {d : Kd α} {wf : α → Prop} (ht : P.underlying t = some (.slice e)) (hc : P.cellsOf e = d.sz) (he : Opens P e d wf) : Opens P t (Kd.slice e' d) (fun l => ∀ a ∈ l, wf a) := by
  intro H enc w base spare held fuel cs x h
  rcases Deep.open_slice ht h with ⟨rfl, _⟩ | ⟨a, len, cap, m, n, D, Pl, rfl, hb, hl, hm, hmm, rfl, hx⟩
  · exact ⟨[], ⟨none, 0, rfl, Nat.le_refl _, Kd.C_nil d w⟩, by simp⟩
  · have hlm : len ≤ m := by rw [hmm]; split <;> omega
    have each : ∀ i, i < len → ∃ y : α × List Value, w.cells? base (a.add (i * P.cellsOf e)) (P.cellsOf e) = some y.2 ∧ d.K w y.1 y.2 ∧ wf y.1 := by
      intro i hi
      obtain ⟨cs', h1, h2⟩ := hx i (by omega)
      obtain ⟨y, h3, h4⟩ := he h2
      exact ⟨(y, cs'), h1, h3, h4⟩
    have : Nonempty (∀ i : Fin len, ∃ y : α × List Value, w.cells? base (a.add (i * P.cellsOf e)) (P.cellsOf e) = some y.2 ∧ d.K w y.1 y.2 ∧ wf y.1) := ⟨fun i => each i i.2⟩
    obtain ⟨g, hg⟩ := Classical.axiomOfChoice (fun i : Fin len => each i i.2)
    refine ⟨List.ofFn fun i => (g i).1, ⟨some a, cap, by simp, by simpa using hl, ?_⟩, ?_⟩
    · refine ⟨rfl, ?_, fun _ => ⟨a, rfl, fun j p hj => ?_⟩⟩
      · rw [List.length_ofFn]; unfold maxLen at hm; omega
      · obtain ⟨hlt, hj⟩ := List.getElem?_eq_some_iff.1 hj
        rw [List.length_ofFn] at hlt
        rw [List.getElem_ofFn] at hj
        subst hj
        obtain ⟨g1, g2, g3⟩ := hg ⟨j, hlt⟩
        obtain ⟨_, hcl, hcell⟩ := World.cells?_some g1
        refine ⟨_, d.K_len g2, g2, fun i u hu => ?_⟩
        have hi : i < P.cellsOf e := by
          have := (List.getElem?_eq_some_iff.1 hu).1
          omega
        have := hcell i hi
        rw [hu] at this
        rw [← this, hc]
        congr 1
        unfold Addr.add
        by_cases e1 : j * d.sz = 0 <;> by_cases e2 : i = 0 <;> simp [e1, e2] <;> omega
    · intro y hy
      obtain ⟨i, rfl⟩ := List.mem_ofFn.1 hy
      exact (hg i).2.2
def OpensAt {α : Type} (P : Program) (fs : List Field) (off : Nat) (d : Kd α) (wf : α → Prop) : Prop :=
  ∀ {H : Type} {enc : TypeId × Value → H} {w : World} {base : Nat} {spare : Nat → Bool} {held : Bool} {n : Nat} {cs : List Value} {xs : List (DataW H × List MemPlace)},
    xs.length = fs.length → (∀ (i : Nat) (f : Field), fs[i]? = some f → DataW.trod enc P w base spare held n f.type ((cs.drop f.offset).take (P.cellsOf f.type)) = xs[i]?) → ∃ a, d.K w a ((cs.drop off).take d.sz) ∧ wf a
theorem opens_last {α : Type} {P : Program} {f : Field} {off : Nat} {d : Kd α} {wf : α → Prop} (ho : f.offset = off) (hc : P.cellsOf f.type = d.sz) (he : Opens P f.type d wf) : OpensAt P [f] off d wf := by
  intro H enc w base spare held n cs xs hl h
  have h0 := h 0 f rfl
  rw [ho, hc, List.getElem?_eq_getElem (by rw [hl]; simp)] at h0
  exact he h0
theorem opens_cons {α β : Type} {P : Program} {f : Field} {fs : List Field} {off : Nat} {d : Kd α} {d2 : Kd β} {wf : α → Prop} {wf2 : β → Prop} (ho : f.offset = off) (hc : P.cellsOf f.type = d.sz) (he : Opens P f.type d wf)
    (hr : OpensAt P fs (off + d.sz) d2 wf2) : OpensAt P (f :: fs) off (Kd.pair d d2) (fun p => wf p.1 ∧ wf2 p.2) := by
  intro H enc w base spare held n cs xs hl h
  have h0 := h 0 f rfl
  rw [ho, hc, List.getElem?_eq_getElem (by rw [hl]; simp)] at h0
  obtain ⟨a, ha, hwa⟩ := he h0
  obtain ⟨b, hb, hwb⟩ := hr (n := n) (cs := cs) (xs := xs.drop 1) (by simp [hl]) (fun i g hg => by
    have := h (i + 1) g (by simpa using hg)
    rw [this]; simp [Nat.add_comm])
  refine ⟨(a, b), ⟨_, _, ?_, ha, hb⟩, hwa, hwb⟩
  show (cs.drop off).take (d.sz + d2.sz) = _
  rw [List.take_add, List.drop_drop]
theorem opens_struct {α : Type} {P : Program} {t : TypeId} {fs : Array Field} {d : Kd α} {wf : α → Prop} (ht : P.underlying t = some (.struct fs)) (hc : P.cellsOf t = d.sz) (h : OpensAt P fs.toList 0 d wf) : Opens P t d wf := by
  intro H enc w base spare held fuel cs x hx
  obtain ⟨xs, n, rfl, rfl, hlen, hxl, hall⟩ := DataW.trod_struct ht hx
  obtain ⟨a, ha, hwa⟩ := h (n := n) (cs := cs) (xs := xs) (by simpa using hxl) (fun i f hf => hall i f (by simpa using hf))
  refine ⟨a, ?_, hwa⟩
  rwa [List.drop_zero, List.take_of_length_le (by omega)] at ha
theorem opens_iso {α β : Type} {P : Program} {t : TypeId} {d : Kd α} {wf : α → Prop} (g : β → α) (f : α → β) (hf : ∀ a, g (f a) = a) (h : Opens P t d wf) : Opens P t (Kd.iso d g) (fun b => wf (g b)) := by
  intro H enc w base spare held fuel cs x hx
  obtain ⟨a, ha, hwa⟩ := h hx
  exact ⟨f a, by show d.K w (g (f a)) cs; rw [hf]; exact ha, by show wf (g (f a)); rw [hf]; exact hwa⟩
end Go.Hay

-- made by this session's gen.py: the row of the law haymow/haymowlaw08.UnfoldMerges; not trusted: Lean checks it
namespace Go.Proofs.Ytbekjccehhaljaa.unfoldMerges
open Go.ChangeShapes Go.WideShapes Go.ChangeAt Go.RowKit Go.Hay Go.Proofs.Ytbekjccehhaljaa.H Go.Proofs.YtbekjccehhaljaaW.PrintWords Go.Proofs.YtbekjccehhaljaaW.PrintLast Go.Proofs.YtbekjccehhaljaaW.PrintMore
open Go.ChangeMaps (open_string shut_string)
set_option linter.unusedVariables false
set_option linter.unusedSimpArgs false
theorem own : ownKnob Try.prog.godebug = none := by kernel_rfl
theorem laidOut : laidOutB Try.prog = true := by kernel_rfl
structure S25 where
  f0 : List (S83)
  f1 : List Int
  f2 : Int
  f3 : Int
def k25 : Kd S25 := Kd.iso (Kd.pair ((Kd.slice 83 k83)) (Kd.pair ((Kd.slice 2 (Kd.int .i64))) (Kd.pair ((Kd.int .i64)) ((Kd.int .i64))))) (fun x : S25 => (x.f0, x.f1, x.f2, x.f3))
theorem k25_open {w : World} {x : S25} {cs : List Value} (h : k25.K w x cs) : ∃ A0 c0 A1 c1, cs = [.slice A0 x.f0.length c0, .slice A1 x.f1.length c1, .int .i64 x.f2, .int .i64 x.f3] ∧ x.f0.length ≤ c0 ∧ Kd.C k83 w A0 x.f0.length x.f0 ∧ x.f1.length ≤ c1 ∧ Kd.C (Kd.int .i64) w A1 x.f1.length x.f1 := by
  obtain ⟨_, _, rfl, ⟨A0, c0, rfl, l0, g0⟩, ⟨_, _, rfl, ⟨A1, c1, rfl, l1, g1⟩, ⟨_, _, rfl, rfl, rfl⟩⟩⟩ := h
  exact ⟨A0, c0, A1, c1, rfl, l0, g0, l1, g1⟩
theorem opens3 : Opens Try.prog 3 (Kd.int .i64) (fun x => (Lit.int .i64 x).wf = true) := opens_int Try.underlying3
def wfT84 (x : S84) : Prop := ((Lit.int .i64 x.f0).wf = true ∧ (Lit.int .i64 x.f1).wf = true ∧ (Lit.int .i64 x.f2).wf = true ∧ (Lit.int .i64 x.f3).wf = true ∧ (Lit.int .i64 x.f4).wf = true)
theorem opens84 : Opens Try.prog 84 k84 wfT84 := opens_iso _ (fun y => (⟨y.1, y.2.1, y.2.2.1, y.2.2.2.1, y.2.2.2.2⟩ : S84)) (fun _ => rfl) (opens_struct Try.underlying84 (by kernel_rfl) (opens_cons rfl (by kernel_rfl) opens3 (opens_cons rfl (by kernel_rfl) opens3 (opens_cons rfl (by kernel_rfl) opens3 (opens_cons rfl (by kernel_rfl) opens3 (opens_last rfl (by kernel_rfl) opens3))))))
theorem opens81 : Opens Try.prog 81 (Kd.slice 84 k84) (fun x => (∀ y81 ∈ x, wfT84 y81)) := opens_slice (e := 84) Try.underlying81 (by kernel_rfl) opens84
def wfT83 (x : S83) : Prop := ((Lit.int .i64 x.f0).wf = true ∧ (∀ y81 ∈ x.f1, wfT84 y81))
theorem opens83 : Opens Try.prog 83 k83 wfT83 := opens_iso _ (fun y => (⟨y.1, y.2⟩ : S83)) (fun _ => rfl) (opens_struct Try.underlying83 (by kernel_rfl) (opens_cons rfl (by kernel_rfl) opens3 (opens_last rfl (by kernel_rfl) opens81)))
theorem opens22 : Opens Try.prog 22 (Kd.slice 83 k83) (fun x => (∀ y22 ∈ x, wfT83 y22)) := opens_slice (e := 83) Try.underlying22 (by kernel_rfl) opens83
theorem opens2 : Opens Try.prog 2 (Kd.int .i64) (fun x => (Lit.int .i64 x).wf = true) := opens_int Try.underlying2
theorem opens23 : Opens Try.prog 23 (Kd.slice 2 (Kd.int .i64)) (fun x => (∀ y23 ∈ x, (Lit.int .i64 y23).wf = true)) := opens_slice (e := 2) Try.underlying23 (by kernel_rfl) opens2
def wfT25 (x : S25) : Prop := ((∀ y22 ∈ x.f0, wfT83 y22) ∧ (∀ y23 ∈ x.f1, (Lit.int .i64 y23).wf = true) ∧ (Lit.int .i64 x.f2).wf = true ∧ (Lit.int .i64 x.f3).wf = true)
theorem opens25 : Opens Try.prog 25 k25 wfT25 := opens_iso _ (fun y => (⟨y.1, y.2.1, y.2.2.1, y.2.2.2⟩ : S25)) (fun _ => rfl) (opens_struct Try.underlying25 (by kernel_rfl) (opens_cons rfl (by kernel_rfl) opens22 (opens_cons rfl (by kernel_rfl) opens23 (opens_cons rfl (by kernel_rfl) opens3 (opens_last rfl (by kernel_rfl) opens3)))))
def Pure : Prop := ∀ (l0_0 : List (S83)) (l0_1 : List Int) (a0_2 : Int) (a0_3 : Int), wfT25 ⟨l0_0, l0_1, a0_2, a0_3⟩ → haymowlaw08_UnfoldMerges.f l0_0 l0_1 a0_2 a0_3 = some true
set_option maxRecDepth 100000 in
theorem lifted (PU : Pure) (os : Os) (started : os.Started) (H : Type) (enc : TypeId × Value → H) :
    ReturnsInHanded {} Try.checked os 6 .any (Rows.unfoldMergesSpec.pre6 enc Try.prog Try.f6 Rows.unfoldMergesRow.domain false) (Rows.unfoldMergesSpec.post enc Try.prog Try.f6 false true false false) := by
  refine returnsInHanded_of_change_sized (C := Try.checked) own started (by kernel_rfl) Try.func6
    (ChangeSpec.witness6 (enc := enc) (C := Try.checked) false ⟨#[], #[.agg #[.slice none 0 0, .slice none 0 0, .int .i64 0, .int .i64 0]], []⟩ 8 (by kernel_rfl) (by kernel_rfl) (by kernel_rfl) (by kernel_rfl)) ?_
  intro W base args ds gs before hval0 hW hcnd hsz0 _
  have hval : ∀ (j : Nat) t v, Try.f6.params[j]? = some t → args[j]? = some v → Value.okWide Try.prog W .any base t v := hval0
  have hW' := hW
  obtain ⟨p, q, hA0, hV, rfl, hfz, hnd⟩ := hW
  have hA : DataW.TrodAll enc Try.prog W 0 (fun _ => true) true Try.f6.params.toList args.toList ds p := hA0
  rw [Try.params6] at hA hval
  obtain ⟨v0, vs0, d0, ds0, p0, q0, hargs, rfl, rfl, h0, r0⟩ := trodAll_cons hA
  obtain ⟨rfl, rfl, rfl⟩ := trodAll_nil r0
  obtain rfl : args = #[v0] := by cases args; simp_all
  obtain ⟨rfl, rfl⟩ := trodVars_none hV
  obtain ⟨cs0, rfl, hz0⟩ := okWide_struct Try.underlying25 (hval 0 25 v0 rfl rfl)
  have k0 := h0
  have lt0 : ∀ x ∈ p0, x.block < W.heap.size := by obtain ⟨m, hm⟩ := k0; exact DataW.trod_lt m _ _ _ hm
  obtain ⟨fuel0, hf0⟩ := h0
  obtain ⟨x0, hK0, hwf0⟩ := opens25 hf0
  obtain ⟨A0_0, c0_0, A0_1, c0_1, hcs0, hc0_0, hC0_0, hc0_1, hC0_1⟩ := k25_open hK0
  obtain rfl : cs0 = #[.slice A0_0 x0.f0.length c0_0, .slice A0_1 x0.f1.length c0_1, .int .i64 x0.f2, .int .i64 x0.f3] := by cases cs0; simpa [Value.cells] using hcs0
  clear hA0 hval0 hsz0
  have hpure := PU x0.f0 x0.f1 x0.f2 x0.f3 hwf0
  refine (haymowlaw08_UnfoldMerges.calls _ _ x0.f0 _ _ x0.f1 x0.f2 x0.f3 true W hC0_0 hc0_0 hC0_1 hc0_1 hpure).mono fun e W' hpost => ?_
  obtain ⟨he, bel⟩ := hpost
  subst he
  exact ⟨_, rfl, _, _, _, [], _, [], hW', trodAll_mk1 (shut_bool Try.underlying4 _), (trodAll_cons_mk (Below.trod laidOut (by kernel_rfl) (of_decide_eq_true (by kernel_rfl)) k0 bel lt0) trodAll_mk0), rfl, bel.frame _, fun h => by cases h⟩
theorem over (PU : Pure) : Rows.unfoldMergesRow.holds Try.pinned (OpenSpec.ofChange Rows.unfoldMergesSpec) :=
  OpenClaim.holds_of_wide 6 Try.f6 rfl rfl rfl rfl rfl rfl rfl ⟨rfl, rfl, rfl, rfl, rfl⟩ rfl rfl rfl rfl rfl (by kernel_rfl) Try.func6 (by kernel_rfl)
    (of_decide_eq_true (by kernel_rfl)) (by unfold Func.isWrapper; first | (rw [if_pos (by decide +kernel)]; kernel_rfl) | (rw [if_neg (by decide +kernel)]; exact ⟨rfl, rfl⟩))
    (fun os started H enc _ => lifted PU os started H enc)
theorem said (PU : Pure) : Rows.UnfoldMergesSaid := over PU
end Go.Proofs.Ytbekjccehhaljaa.unfoldMerges

namespace Go.Proofs.Ytbekjccehhaljaa
open Go.RowKit
theorem unfoldMerges_holds : Rows.UnfoldMergesSaid := unfoldMerges.said (fun _ _ _ _ _ => rfl)
#print axioms unfoldMerges_holds
end Go.Proofs.Ytbekjccehhaljaa

