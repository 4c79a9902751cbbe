/- A program that begins no tasks is unfolded as it is evaluated: for every input. No condition. -/
import Derived.Test.YtbekjccehhaljaaZUnfoldAlone6
import Derived.OpenShut
import Derived.Deep.Slices
import Derived.ChangeArms
import Derived.WideShapes
import Derived.Test.YtbekjccehhaljaaRows
import Derived.WalkKit
import Derived.ProofKit
import Derived.ShutString
import Derived.ChangeOld
import Derived.Below
import Derived.SizedLaws
set_option linter.unusedVariables false
set_option linter.unusedSimpArgs false
namespace Go.Proofs.Ytbekjccehhaljaa.H
open Go.RowKit Go.Hay Go.Proofs.YtbekjccehhaljaaW.PrintWords Go.Proofs.YtbekjccehhaljaaW.PrintLast Go.Proofs.YtbekjccehhaljaaW.PrintMore
theorem max_most (most : Int) (ats : Array TypeId) (ty : TypeId) : Builtin.max_ ats ty #[.int .i64 most, .int .i64 0] = pure (.int .i64 (most.toNat : Int)) := by
  rw [max_two, max2_int]
  have e : (if most < 0 then (0 : Int) else most) = (most.toNat : Int) := by split <;> omega
  rw [e]
  rfl
/-- what Eval answers. -/
abbrev EvR := (Int × Int × List Int × List (List Int × Int)) × Int
def noR : Int × Int × List Int × List (List Int × Int) := (0, 0, [], [])
def evalR (l : List S64) (args : List Int) (b d : Int) (most : Nat) : EvR :=
  if evRight l args.length b d = true then match evalP l args b d most with
    | some r => (r, 0)
    | none => (noR, 3)
  else (noR, 1)
def endR (q : Out × Gs) : EvR :=
  match q with
  | (.val v, G) => ((v, 0, G.told, G.log), 0)
  | (.fail why, G) => ((0, why, G.told, G.log), 0)
  | (.long, _) => (noR, 3)
def entS (p : List Int × Int) : S54 := ⟨p.1, p.2⟩
/-- a result in memory. -/
structure ResR (w : World) (r : Int × Int × List Int × List (List Int × Int)) (At : Option Addr) (ct : Nat) (Al : Option Addr) (cl : Nat) : Prop where
  told : (Kd.int .i64).C w At r.2.2.1.length r.2.2.1
  toldC : r.2.2.1.length ≤ ct
  log : k54.C w Al r.2.2.2.length (r.2.2.2.map entS)
  logC : r.2.2.2.length ≤ cl
/-- a block of another kind than a result hangs on. -/
def Other (w : World) (q : Nat) : Prop := ∃ cs t, w.heap[q]? = some (.cells cs t (0, 0)) ∧ t ≠ 2 ∧ t ≠ 54 ∧ t ≠ 3
/-- and it stays, whatever is done to blocks of other kinds. -/
structure ResC (w : World) (r : Int × Int × List Int × List (List Int × Int)) (At : Option Addr) (ct : Nat) (Al : Option Addr) (cl : Nat) : Prop extends ResR w r At ct Al cl where
  keep : ∀ (S : Nat → Prop) (w1 : World), Keep S w w1 → (∀ q, q < w.heap.size → S q → Other w q) → ResR w1 r At ct Al cl
theorem keep_two {S T : Nat → Prop} {w w1 w2 : World} (h1 : Keep S w w1) (hS : ∀ q, q < w.heap.size → S q → Other w q) (h2 : Keep T w1 w2) (hT : ∀ q, q < w1.heap.size → T q → Other w1 q) :
    Keep (fun q => q < w.heap.size ∧ (S q ∨ T q)) w w2 ∧ ∀ q, (q < w.heap.size ∧ (S q ∨ T q)) → Other w q := by
  refine ⟨(h1.mono (fun q hq h => ⟨hq, .inl h⟩)).then (T := T) h2 (fun q hq h => ⟨hq, .inr h⟩), fun q hq => ?_⟩
  by_cases hs : S q
  · exact hS q hq.1 hs
  · rcases hq.2 with h | h
    · exact hS q hq.1 h
    · obtain ⟨cs, t, e, ht⟩ := hT q (Nat.lt_of_lt_of_le hq.1 h1.size) h
      exact ⟨cs, t, (h1.block q hq.1 hs).symm.trans e, ht⟩
theorem ResC.step {w w1 : World} {r : Int × Int × List Int × List (List Int × Int)} {At : Option Addr} {ct : Nat} {Al : Option Addr} {cl : Nat} (h : ResC w r At ct Al cl) {S : Nat → Prop} (hk : Keep S w w1) (hS : ∀ q, q < w.heap.size → S q → Other w q) : ResC w1 r At ct Al cl :=
  ⟨h.keep S w1 hk hS, fun T w2 hk2 hT => by
    obtain ⟨k, hq⟩ := keep_two hk hS hk2 hT
    exact h.keep _ w2 k (fun q _ hs => hq q hs)⟩
theorem ResC.below {w w1 : World} {r : Int × Int × List Int × List (List Int × Int)} {At : Option Addr} {ct : Nat} {Al : Option Addr} {cl : Nat} (h : ResC w r At ct Al cl) (hb : Below w.heap.size w w1) : ResC w1 r At ct Al cl :=
  h.step (Keep.of_below hb (fun _ => False)) (fun _ _ h => h.elim)
def resV (r : Int × Int × List Int × List (List Int × Int)) (At : Option Addr) (ct : Nat) (Al : Option Addr) (cl : Nat) : Value := .agg #[.int .i64 r.1, .int .i64 r.2.1, .slice At r.2.2.1.length ct, .slice Al r.2.2.2.length cl]
def EvalPost (w : World) (r : EvR) (e : Ending) (w' : World) : Prop :=
  (∃ At ct Al cl, e = .returned (.tuple #[resV r.1 At ct Al cl, .int .i64 r.2]) ∧ ResC w' r.1 At ct Al cl) ∧ Below w.heap.size w w'
theorem ResR.none (w : World) : ResR w noR Option.none 0 Option.none 0 := ⟨Kd.C_nil _ _, Nat.le_refl _, Kd.C_nil _ _, Nat.le_refl _⟩
theorem ResC.none (w : World) : ResC w noR Option.none 0 Option.none 0 := ⟨ResR.none w, fun _ w1 _ _ => ResR.none w1⟩
/-- the log of an evaluation, read. -/
theorem rows_logC {B : Nat} {Al : Option Addr} {log : List (List Int × Int)} {ents : List Ent} {n cl : Nat} {w : World} (hlog : kEnt.R 54 w B (fun _ => True) (.slice Al n cl) ents) (hok : EntsOk w ents log) : n = log.length ∧ n ≤ cl ∧ k54.C w Al log.length (log.map entS) := by
  have hq := Kd.R_reads' hlog
  have hl := hok.1
  refine ⟨hq.1.trans hl, by have := hq.2.1; omega, by simp, by have h4 := hq.2.2.2.1; rw [hl] at h4; exact h4, fun hp => ?_⟩
  obtain ⟨ad, e1, hc⟩ := hq.2.2.2.2 (by omega)
  refine ⟨ad, e1, fun j p hj => ?_⟩
  rw [List.getElem?_map] at hj
  have hjl : j < log.length := by
    by_cases hlt : j < log.length
    · exact hlt
    · rw [List.getElem?_eq_none (by omega)] at hj; cases hj
  have hje : j < ents.length := by omega
  rw [List.getElem?_eq_getElem hjl] at hj
  have hj : entS log[j] = p := Option.some.inj hj
  subst hj
  obtain ⟨cs, h1, h2, h3⟩ := hc j _ (List.getElem?_eq_getElem hje)
  refine ⟨cs, h1, ?_, h3⟩
  obtain rfl := kEnt_open h2
  obtain ⟨a1, a2, a3, a4, a5⟩ := hok.2 j hje hjl
  have hm := k54_mk w (entS log[j]) (A0 := ents[j].A) (c0 := ents[j].c) (by show log[j].1.length ≤ ents[j].c; omega) (a5.C a4)
  have e : [Value.slice ents[j].A (entS log[j]).f0.length ents[j].c, .int .i64 (entS log[j]).f1] = [.slice ents[j].A ents[j].n ents[j].c, .int .i64 ents[j].s] := by
    rw [a1, a2]; rfl
  rw [← e]
  exact hm
theorem EG.resR {B wb np cp : Nat} {Ap At Al : Option Addr} {budget depth : Int} {G : Gs} {ents : List Ent} {nt ct nl cl : Nat} {w w1 : World} {S : Nat → Prop} (h : EG B wb Ap np cp budget depth G ents (.slice At nt ct) (.slice Al nl cl) w) (hk : Keep S w w1) (hS : ∀ q, S q → ∃ cs t, w.heap[q]? = some (.cells cs t (0, 0)) ∧ t ≠ 2 ∧ t ≠ 54 ∧ t ≠ 3) (v f : Int) : nt = G.told.length ∧ nl = G.log.length ∧ ResR w1 (v, f, G.told, G.log) At ct Al cl := by
  have ht : (Kd.int .i64).R 2 w1 B (fun _ => True) (.slice At nt ct) G.told := nums_flat h.told (fun _ _ => trivial) (fun q hq => hk.block q (nums_own h.told q hq).2.2 (fun hs => by
    obtain ⟨cs, t, h1, h2, _⟩ := hS q hs
    obtain ⟨cs', h3⟩ := Kd.R_typed h.told q hq
    rw [h1] at h3; cases h3; exact h2 rfl))
  have hl : kEnt.R 54 w1 B (fun _ => True) (.slice Al nl cl) ents := R_flat kEnt_flat h.log (fun _ _ => trivial) (fun q hq => hk.block q (R_own h.log q hq).2.2 (fun hs => by
    obtain ⟨cs, t, h1, _, h2, _⟩ := hS q hs
    obtain ⟨cs', h3⟩ := Kd.R_typed h.log q hq
    rw [h1] at h3; cases h3; exact h2 rfl))
  have hok : EntsOk w1 ents G.log := h.ok.keep hk (fun q cs hq hs => by
    obtain ⟨cs', t, h1, _, _, h2⟩ := hS q hs
    rw [hq] at h1; cases h1; exact h2 rfl)
  have hq := Kd.R_reads' ht
  have hl := rows_logC hl hok
  refine ⟨hq.1, hl.1, hq.2.2, by have := hq.2.1; show G.told.length ≤ ct; omega, hl.2.2, by have := hl.2.1; show G.log.length ≤ cl; omega⟩
theorem EG.resC {B wb np cp : Nat} {Ap At Al : Option Addr} {budget depth : Int} {G : Gs} {ents : List Ent} {nt ct nl cl : Nat} {w w1 : World} {S : Nat → Prop} (h : EG B wb Ap np cp budget depth G ents (.slice At nt ct) (.slice Al nl cl) w) (hk : Keep S w w1) (hS : ∀ q, S q → ∃ cs t, w.heap[q]? = some (.cells cs t (0, 0)) ∧ t ≠ 2 ∧ t ≠ 54 ∧ t ≠ 3) (v f : Int) : nt = G.told.length ∧ nl = G.log.length ∧ ResC w1 (v, f, G.told, G.log) At ct Al cl := by
  obtain ⟨h1, h2, h3⟩ := h.resR hk hS v f
  refine ⟨h1, h2, h3, fun T w2 hk2 hT => ?_⟩
  obtain ⟨k, hq⟩ := keep_two hk (fun q _ hs => hS q hs) hk2 hT
  exact (h.resR k hq v f).2.2
structure EvW (w : World) (b d : Int) (W : World) : Prop where
  below : Below w.heap.size w W
  c0 : W.heap[w.heap.size]? = some (.cells #[.int .i64 b, .int .i64 d] 40 (0, 0))
  c1 : W.heap[w.heap.size + 1]? = some (.cells #[.int .i64 0, .int .i64 0, .slice none 0 0, .slice none 0 0] 77 (0, 0))
  c2 : W.heap[w.heap.size + 1 + 1]? = some (.cells #[.int .i64 0] 34 (0, 0))
theorem EvW.size {w W : World} {b d : Int} (h : EvW w b d W) : w.heap.size + 3 ≤ W.heap.size := by
  have := blk_lt h.c2; omega
theorem EvW.keep {w w' w'' : World} {b d : Int} (h : EvW w b d w') (k : Below (w.heap.size + 3) w' w'') : EvW w b d w'' :=
  ⟨h.below.trans (k.mono (by omega)), (k.block _ (by omega)).trans h.c0, (k.block _ (by omega)).trans h.c1, (k.block _ (by omega)).trans h.c2⟩
theorem EvW.start (w : World) (b d : Int) : EvW w b d (((w.alloc (.cells #[.int .i64 b, .int .i64 d] 40)).alloc (.cells #[.int .i64 0, .int .i64 0, .slice none 0 0, .slice none 0 0] 77)).alloc (.cells #[.int .i64 0] 34)) := by
  have e1 : (w.alloc (.cells #[.int .i64 b, .int .i64 d] 40)).heap.size = w.heap.size + 1 := Array.size_push _
  have e2 : ((w.alloc (.cells #[.int .i64 b, .int .i64 d] 40)).alloc (.cells #[.int .i64 0, .int .i64 0, .slice none 0 0, .slice none 0 0] 77)).heap.size = w.heap.size + 1 + 1 := by
    rw [← e1]; exact Array.size_push _
  have b1 := (Below.refl w.heap.size w).alloc (Nat.le_refl _) (.cells #[.int .i64 b, .int .i64 d] 40)
  have b2 := b1.alloc b1.size (.cells #[.int .i64 0, .int .i64 0, .slice none 0 0, .slice none 0 0] 77)
  refine ⟨b2.alloc b2.size _, blk_alloc (blk_alloc (alloc_blk w _) _) _, ?_, ?_⟩
  · have := alloc_blk (w.alloc (.cells #[.int .i64 b, .int .i64 d] 40)) (.cells #[.int .i64 0, .int .i64 0, .slice none 0 0, .slice none 0 0] 77)
    rw [e1] at this
    exact blk_alloc this _
  · have := alloc_blk ((w.alloc (.cells #[.int .i64 b, .int .i64 d] 40)).alloc (.cells #[.int .i64 0, .int .i64 0, .slice none 0 0, .slice none 0 0] 77)) (.cells #[.int .i64 0] 34)
    rw [e2] at this
    exact this
theorem eval_results {tmps : Array Value} {w : World} {h : Nat} {x0 x1 x2 x3 : Value} {e : Int} (t8 : tmps.getD 8 undef = .pointer (some ⟨h + 1, 0, none⟩)) (t9 : tmps.getD 9 undef = .pointer (some ⟨h + 1 + 1, 0, none⟩)) (c1 : w.heap[h + 1]? = some (.cells #[x0, x1, x2, x3] 77 (0, 0))) (c2 : w.heap[h + 1 + 1]? = some (.cells #[.int .i64 e] 34 (0, 0))) :
    (results Try.f21 tmps).run Try.prog w = .ok (.tuple #[.agg #[x0, x1, x2, x3], .int .i64 e]) w := by
  have q0 := blk_cell c1 0
  have q1 := blk_cell c1 1
  have q2 := blk_cell c1 2
  have q3 := blk_cell c1 3
  have p0 := blk_cell c2 0
  simp only [Array.getD_eq_getD_getElem?] at t8 t9
  simp [results, Try.results21, go_sem, t8, t9, q0, q1, q2, q3, p0]
section
variable {A Aa : Option Addr} {c ca : Nat} {l : List S64} {args : List Int} {b d most : Int} {w : World}
set_option maxRecDepth 100000 in
set_option maxHeartbeats 8000000 in
theorem Eval_any (hC : k64.C w A l.length l) (hc : l.length ≤ c) (hCa : (Kd.int .i64).C w Aa args.length args) (hca : args.length ≤ ca) (hmost : most ≤ 900000) :
    Calls Try.prog 21 #[.slice A l.length c, .slice Aa args.length ca, .agg #[.int .i64 b, .int .i64 d], .int .i64 most] w (EvalPost w (evalR l args b d most.toNat)) := by
  obtain ⟨r, hr⟩ : ∃ r, r = evalR l args b d most.toNat := ⟨_, rfl⟩
  rw [← hr]
  obtain ⟨W3, hW3⟩ : ∃ W3, W3 = ((w.alloc (.cells #[.int .i64 b, .int .i64 d] 40)).alloc (.cells #[.int .i64 0, .int .i64 0, .slice none 0 0, .slice none 0 0] 77)).alloc (.cells #[.int .i64 0] 34) := ⟨_, rfl⟩
  have hE3 : EvW w b d W3 := by rw [hW3]; exact EvW.start w b d
  have H0 := Aside0.mk (And.intro hC (And.intro hc (And.intro hCa (And.intro hca (And.intro hmost hr)))))
  have HW3 := Aside0.mk hW3
  have H3 := Aside0.mk hE3
  have y0 := blk_cell hE3.c0 0
  have y1 := blk_cell hE3.c0 1
  clear hW3 hC hc hCa hca hmost hr hE3
  go_enter_defers Try.func21, Try.ntmps21
  go_upto_region 1 with (fail)
  rw [← HW3.out]
  go_wp2_with fail
  refine (eval_Right.calls A c l Aa ca args b d _ W3 (Kd.C_below H0.out.1 H3.out.below) H0.out.2.1 (Kd.C_below H0.out.2.2.1 H3.out.below) H0.out.2.2.2.1 (evRight_f l args b d)).mono ?_
  rintro e w4 ⟨rfl, hb4⟩
  have hE4 := H3.out.keep (hb4.mono H3.out.size)
  have H4 := Aside0.mk hE4
  clear y0 y1 hE4 hb4
  cases hRt : evRight l args.length b d with
  | false =>
    have hr := H0.out.2.2.2.2.2
    unfold evalR at hr
    rw [if_neg (by rw [hRt]; decide)] at hr
    have HR := Aside0.mk hr
    have s0 := blk_cell H4.out.c1 0
    have s1 := blk_cell H4.out.c1 1
    have s2 := blk_cell H4.out.c1 2
    have s3 := blk_cell H4.out.c1 3
    have z0 := blk_frozen H4.out.c1 0
    have z1 := blk_frozen H4.out.c1 1
    have z2 := blk_frozen H4.out.c1 2
    have z3 := blk_frozen H4.out.c1 3
    have e0 := blk_cell H4.out.c2 0
    have f0 := blk_frozen H4.out.c2 0
    clear hr hRt
    go_wp2_with fail
    have n3 : w.heap.size + 1 + 1 ≠ w.heap.size + 1 := by omega
    have d1 := blk_set (blk_set (blk_set (blk_set H4.out.c1 0 (.int .i64 0)) 1 (.int .i64 0)) 2 (.slice none 0 0)) 3 (.slice none 0 0)
    have e2 := blk_set (blk_farC (p := ⟨w.heap.size + 1, 3, none⟩) (blk_farC (p := ⟨w.heap.size + 1, 2, none⟩) (blk_farC (p := ⟨w.heap.size + 1, 1, none⟩) (blk_farC (p := ⟨w.heap.size + 1, 0, none⟩) H4.out.c2 n3 (.int .i64 0)) n3 (.int .i64 0)) n3 (.slice none 0 0)) n3 (.slice none 0 0)) 0 (.int .i64 1)
    have d2 := blk_farC (p := ⟨w.heap.size + 1 + 1, 0, none⟩) d1 (Ne.symm n3) (.int .i64 1)
    have hk9 := ((((((Keep.refl (fun q => q = w.heap.size + 1 ∨ q = w.heap.size + 1 + 1) w4).set (p := ⟨w.heap.size + 1, 0, none⟩) (.inr (.inl rfl)) (.int .i64 0)).set (p := ⟨w.heap.size + 1, 1, none⟩) (.inr (.inl rfl)) (.int .i64 0)).set (p := ⟨w.heap.size + 1, 2, none⟩) (.inr (.inl rfl)) (.slice none 0 0)).set (p := ⟨w.heap.size + 1, 3, none⟩) (.inr (.inl rfl)) (.slice none 0 0)).set (p := ⟨w.heap.size + 1 + 1, 0, none⟩) (.inr (.inr rfl)) (.int .i64 1)).below H4.out.below.size (B := w.heap.size) (fun q hq hp => by omega)
    refine ⟨_, eval_results rfl rfl d2 e2, ⟨none, 0, none, 0, ?_, ?_⟩, H4.out.below.trans hk9⟩
    · rw [HR.out]; rfl
    · rw [HR.out]; exact ResC.none _
  | true =>
    obtain ⟨hl, hb, hd, hn, hn4⟩ := evRight_ok hRt
    have hr := H0.out.2.2.2.2.2
    unfold evalR at hr
    rw [if_pos hRt] at hr
    have HR := Aside0.mk (And.intro hr (And.intro hl (And.intro hb (And.intro hd (And.intro hn hn4)))))
    clear hr hRt hl hb hd hn hn4
    have y0 := blk_cell H4.out.c0 0
    have y1 := blk_cell H4.out.c0 1
    have hmax := max_most most
    obtain ⟨n, hn⟩ : ∃ n, n = most.toNat := ⟨_, rfl⟩
    have HN := Aside0.mk hn
    rw [← hn] at hmax
    clear hn
    obtain ⟨wb, hwb⟩ : ∃ wb, wb = w4.heap.size := ⟨_, rfl⟩
    obtain ⟨W5, hW5⟩ : ∃ W5, W5 = (w4.alloc (.cells #[.slice A l.length c, .int .i64 b, .int .i64 d, .int .i64 n, .int .i64 0, .int .i64 0, .slice none 0 0, .slice none 0 0] 111)).alloc (.cells #[.pointer (some ⟨wb, 0, none⟩)] 109) := ⟨_, rfl⟩
    have hsz : (w4.alloc (.cells #[.slice A l.length c, .int .i64 b, .int .i64 d, .int .i64 n, .int .i64 0, .int .i64 0, .slice none 0 0, .slice none 0 0] 111)).heap.size = wb + 1 := by rw [hwb]; exact Array.size_push _
    have hn5 : W5.heap[wb]? = some (.cells #[.slice A l.length c, .int .i64 b, .int .i64 d, .int .i64 n, .int .i64 0, .int .i64 0, .slice none 0 0, .slice none 0 0] 111 (0, 0)) := by rw [hW5]; exact blk_alloc (by rw [hwb]; exact alloc_blk w4 _) _
    have hp5 : W5.heap[wb + 1]? = some (.cells #[.pointer (some ⟨wb, 0, none⟩)] 109 (0, 0)) := by
      rw [hW5]
      have := alloc_blk (w4.alloc (.cells #[.slice A l.length c, .int .i64 b, .int .i64 d, .int .i64 n, .int .i64 0, .int .i64 0, .slice none 0 0, .slice none 0 0] 111)) (.cells #[.pointer (some ⟨wb, 0, none⟩)] 109)
      rwa [hsz] at this
    have hb5 : Below w4.heap.size w4 W5 := by
      have b1 := (Below.refl w4.heap.size w4).alloc (Nat.le_refl _) (.cells #[.slice A l.length c, .int .i64 b, .int .i64 d, .int .i64 n, .int .i64 0, .int .i64 0, .slice none 0 0, .slice none 0 0] 111)
      rw [hW5]; exact b1.alloc b1.size _
    have HWB := Aside0.mk (And.intro hwb hW5)
    have H5 := Aside0.mk (And.intro hn5 (And.intro hp5 hb5))
    clear hsz hn5 hp5 hb5 hwb hW5
    go_wp2_with fail
    rw [← HWB.out.1, ← HWB.out.2]
    have ES5 := Aside0.mk (show ∀ {w' : World}, Below W5.heap.size W5 w' → ES ⟨w4, wb, wb, A, c, b, d⟩ l ⟨n, [], []⟩ [] (.slice none 0 0) (.slice none 0 0) w' from fun hb => ⟨⟨(hb.block _ (blk_lt H5.out.1)).trans H5.out.1, Kd.R_nil _ _ _ _ _, Kd.R_nil _ _ _ _ _, ⟨rfl, fun j h1 => absurd h1 (Nat.not_lt_zero _)⟩, Nat.le_refl _⟩, H5.out.2.2.trans (hb.mono H5.out.2.2.size), Kd.C_below H0.out.1 H4.out.below, by show w4.heap.size ≤ wb; rw [HWB.out.1]; exact Nat.le_refl _⟩)
    have t10 := blk_cell H5.out.2.1 0
    have HT := Aside0.mk t10
    clear t10
    refine wp_region_seq2 (fun w' => w'.heap[wb + 1]? = W5.heap[wb + 1]?) [] [.take 0, .take 1, .take 2, .op 3, .op 4, .op 5, .op 6, .op 7, .op 8] (by kernel_rfl) (by kernel_rfl) rfl (by kernel_rfl) (panic_put2 rfl (by kernel_rfl)) ?_
    have hs : W5.drew.heap[wb + 1]? = W5.heap[wb + 1]? := rfl
    repeat (
      (first
        | (refine runSeq2_take (v := ?_) (by rfl) (by rfl) (fun w' hS => ?_) hs ?_
           rotate_left
           · (have t10 := blk_cell (hS.trans H5.out.2.1) 0; go_simp; exact rfl))
        | refine runSeq2_skip (by rfl) (by rfl) hs ?_)
      (try simp only [Act.put, List.setIfInBounds_toArray, List.set_cons_zero, List.set_cons_succ]))
    refine runSeq2_op (by rfl) (by rfl) (fun K hK => ?_)
    go_simp
    refine hK _ _ hs ?_
    clear hK K
    have hbeg := begin_all (c := ⟨w4, wb, wb, A, c, b, d⟩) (M := n + 1) HR.out.2.1 (by have := H0.out.2.2.2.2.1; have := HN.out; omega) (by have := HR.out.2.2.2.1; show d ≤ 900; omega) (by have := HR.out.2.2.1; show 0 ≤ b ∧ b ≤ 1000000; omega) (n + 1) ⟨n, [], []⟩ [] (.slice none 0 0) (.slice none 0 0) W5.drew 0 none 0 [] Aa ca args noHands (ES5.out (Below.refl _ _).drew) ⟨by show 0 + n ≤ n + 1; omega, by show 0 + n ≤ n + 1; omega, fun e he => by cases he⟩ (by show 0 + 1 + n ≤ n + 1; omega) (by have := HR.out.2.1.len; omega) (PathAt.nil _) (Nat.le_refl _) (fun _ => rfl) (by have := HR.out.2.2.2.1.1; show ((0 : Nat) : Int) ≤ d; omega) (by have := HR.out.2.2.2.2.2; omega) (Kd.C_below (Kd.C_below H0.out.2.2.1 (H4.out.below.trans (H5.out.2.2.mono H4.out.below.size))) ((Below.refl _ _).drew)) H0.out.2.2.2.1 rfl (by show n < n + 1; omega)
    have HBG := Aside0.mk hbeg
    clear hbeg
    refine runSeq2_op (by rfl) (by rfl) (fun K hK => ?_)
    go_simp
    refine HBG.out.mono ?_
    clear HBG
    intro e w6 hpost
    obtain ⟨q, hq⟩ : ∃ q, q = beginP l b d (n + 1) ⟨n, [], []⟩ ((0 : Nat) : Int) [] args noHands := ⟨_, rfl⟩
    have hq2 : r = endR q := by
      rw [HR.out.1]
      unfold evalP
      have hq' : beginP l b d (most.toNat + 1) ⟨most.toNat, [], []⟩ 0 [] args noHands = q := by rw [← HN.out, hq]; rfl
      rw [hq']
      obtain ⟨o, G⟩ := q
      cases o <;> rfl
    replace hpost : EndP ⟨w4, wb, wb, A, c, b, d⟩ l (PG wb (.slice none 0 0) (.slice none 0 0)) q.1 q.2 W5.drew e w6 := by rw [hq]; exact hpost
    have HQ := Aside0.mk hq2
    clear hq hq2
    obtain ⟨hend, hk6, ents, vt, vl, hE6, hq6⟩ := hpost
    have hpg : ∀ x, PG wb (.slice none 0 0) (.slice none 0 0) x → x = wb := by
      intro x hx
      rcases hx with hx | hx | hx
      · exact hx
      · cases hx
      · cases hx
    have hk6' : Keep (fun x => x = wb) W5.drew w6 := hk6.mono (fun x _ hx => hpg x hx)
    have hb6 : Below w4.heap.size w4 w6 := H5.out.2.2.drew.trans (hk6'.below H5.out.2.2.drew.size (fun x hx e => by rw [HWB.out.1] at e; omega))
    have hE9 := H4.out.keep (hb6.mono H4.out.size)
    have hp6 : w6.heap[wb + 1]? = some (.cells #[.pointer (some ⟨wb, 0, none⟩)] 109 (0, 0)) := hk6'.blk (show W5.drew.heap[wb + 1]? = _ from H5.out.2.1) (by omega)
    obtain ⟨At, ct, rfl⟩ := Kd.R_slice hE6.eg.told
    obtain ⟨Al, cl, rfl⟩ := Kd.R_slice hE6.eg.log
    have H6 := Aside0.mk (And.intro hE6 (And.intro hb6 (And.intro hE9 (And.intro hp6 hk6'))))
    have hnode := hE6.eg.node
    have HND := Aside0.mk hnode
    have y4 := blk_cell hnode 4
    have z4 := blk_frozen hnode 4
    obtain ⟨o, G⟩ := q
    clear hk6 hq6 hpg hk6' hb6 hE9 hE6 hnode hs
    cases o with
    | val v =>
      have he : e = .returned (.int .i64 v) := hend
      clear hend
      subst he
      refine hK _ _ (hp6.trans H5.out.2.1.symm) ?_
      clear hK K
      (try simp only [Act.put, List.setIfInBounds_toArray, List.set_cons_zero, List.set_cons_succ])
      refine runSeq2_op (by rfl) (by rfl) (fun K hK => ?_)
      go_simp
      refine hK _ _ (hp6.trans H5.out.2.1.symm) ?_
      clear hK K
      refine runSeq2_op (by rfl) (by rfl) (fun K hK => ?_)
      go_simp
      refine hK _ _ (hp6.trans H5.out.2.1.symm) ?_
      clear hK K
      refine runSeq2_op (by rfl) (by rfl) (fun K hK => ?_)
      go_simp
      refine hK _ _ (hp6.trans H5.out.2.1.symm) ?_
      clear hK K
      obtain ⟨W7, hW7⟩ : ∃ W7, W7 = w6.setCell ⟨wb, 4, none⟩ (.int .i64 v) := ⟨_, rfl⟩
      have hk7 : Keep (fun x => x = wb) w6 W7 := by rw [hW7]; exact (Keep.refl (fun x => x = wb) w6).set (p := ⟨wb, 4, none⟩) (.inr rfl) _
      have hp7 := hk7.blk hp6 (by omega)
      have hn7 := blk_set HND.out 4 (.int .i64 v)
      rw [← hW7] at hn7
      have HW7 := Aside0.mk hW7
      have hE7 := H6.out.2.2.1.keep ((hk7.below H6.out.2.1.size (fun x hx e => by rw [HWB.out.1] at e; omega)).mono H4.out.size)
      have H7 := Aside0.mk (And.intro hk7 (And.intro hp7 (And.intro hn7 hE7)))
      clear hW7 hp6
      refine runSeq2_op (by rfl) (by rfl) (fun K hK => ?_)
      go_simp
      rw [← HW7.out]
      refine hK _ _ (hp7.trans H5.out.2.1.symm) ?_
      clear hK K y4 z4
      refine runSeq2_nil ?_
      have p0 := blk_cell hp7 0
      have r4 := blk_cell hn7 4
      have r5 := blk_cell hn7 5
      have r6 := blk_cell hn7 6
      have r7 := blk_cell hn7 7
      have s0 := blk_cell hE7.c1 0
      have s1 := blk_cell hE7.c1 1
      have s2 := blk_cell hE7.c1 2
      have s3 := blk_cell hE7.c1 3
      have z0 := blk_frozen hE7.c1 0
      have z1 := blk_frozen hE7.c1 1
      have z2 := blk_frozen hE7.c1 2
      have z3 := blk_frozen hE7.c1 3
      have e0 := blk_cell hE7.c2 0
      have f0 := blk_frozen hE7.c2 0
      clear hk7 hp7 hn7 hE7
      go_wp2_with fail
      have n3 : w.heap.size + 1 + 1 ≠ w.heap.size + 1 := by omega
      have hnw : w.heap.size + 1 ≠ wb := by have h1 := H4.out.size; have h2 := HWB.out.1; omega
      have hnw2 : w.heap.size + 1 + 1 ≠ wb := by have h1 := H4.out.size; have h2 := HWB.out.1; omega
      obtain ⟨hk7, hp7, hn7, hE7⟩ := H7.out
      obtain ⟨hE6, hb6, hE9, hp6, hk6⟩ := H6.out
      have d1 := blk_set (blk_set (blk_set (blk_set hE7.c1 0 (.int .i64 v)) 1 (.int .i64 0)) 2 (.slice At G.told.length ct)) 3 (.slice Al ents.length cl)
      have e2 := blk_set (blk_farC (p := ⟨w.heap.size + 1, 3, none⟩) (blk_farC (p := ⟨w.heap.size + 1, 2, none⟩) (blk_farC (p := ⟨w.heap.size + 1, 1, none⟩) (blk_farC (p := ⟨w.heap.size + 1, 0, none⟩) hE7.c2 n3 (.int .i64 v)) n3 (.int .i64 0)) n3 (.slice At G.told.length ct)) n3 (.slice Al ents.length cl)) 0 (.int .i64 0)
      have d2 := blk_farC (p := ⟨w.heap.size + 1 + 1, 0, none⟩) d1 (Ne.symm n3) (.int .i64 0)
      have hk8 := hk7.mono (T := fun q => q = wb ∨ q = w.heap.size + 1 ∨ q = w.heap.size + 1 + 1) (fun q _ e => .inl e)
      have hk9 := ((((hk8.set (p := ⟨w.heap.size + 1, 0, none⟩) (.inr (.inr (.inl rfl))) (.int .i64 v)).set (p := ⟨w.heap.size + 1, 1, none⟩) (.inr (.inr (.inl rfl))) (.int .i64 0)).set (p := ⟨w.heap.size + 1, 2, none⟩) (.inr (.inr (.inl rfl))) (.slice At G.told.length ct)).set (p := ⟨w.heap.size + 1, 3, none⟩) (.inr (.inr (.inl rfl))) (.slice Al ents.length cl)).set (p := ⟨w.heap.size + 1 + 1, 0, none⟩) (.inr (.inr (.inr rfl))) (.int .i64 0)
      have hrc := hE6.eg.resC hk9 (fun q hq => by
        rcases hq with rfl | rfl | rfl
        · exact ⟨_, _, hE6.eg.node, by decide, by decide, by decide⟩
        · exact ⟨_, _, hE9.c1, by decide, by decide, by decide⟩
        · exact ⟨_, _, hE9.c2, by decide, by decide, by decide⟩) v 0
      have hbw : Below w.heap.size w _ := (H4.out.below.trans (hb6.mono (by have := H4.out.below.size; omega))).trans (hk9.below (B := w.heap.size) (by have h1 := hE9.below.size; omega) (fun q hq hs => by have h1 := H4.out.size; have h2 := HWB.out.1; rcases hs with h3 | h3 | h3 <;> omega))
      refine leaves_cons (f := 37) (args := #[.pointer (some ⟨wb + 1, 0, none⟩), .pointer (some ⟨w.heap.size + 1, 0, none⟩), .pointer (some ⟨w.heap.size + 1 + 1, 0, none⟩)]) (by simp) (by simp [go_sem]) ?_
      refine (ecatch_idle _ _ _ _).mono ?_
      rintro e u' w2 ⟨rfl, rfl, rfl⟩
      refine ⟨_, eval_results rfl rfl d2 e2, ⟨At, ct, Al, cl, ?_, ?_⟩, hbw⟩
      · rw [HQ.out]
        show _ = _
        rw [hrc.2.1]
        rfl
      · rw [HQ.out]; exact hrc.2.2
    | fail why =>
      have he : e = .panicked [{ v := failV why, recovered := false }] := hend
      clear hend
      subst he
      refine leaves_cons (f := 37) (args := #[.pointer (some ⟨wb + 1, 0, none⟩), .pointer (some ⟨w.heap.size + 1, 0, none⟩), .pointer (some ⟨w.heap.size + 1 + 1, 0, none⟩)]) (by simp) (by simp [go_sem]) ?_
      obtain ⟨hE6, hb6, hE9, hp6, hk6⟩ := H6.out
      refine (ecatch_fail why hp6 HND.out hE9.c1 hE9.c2).mono ?_
      rintro e u' w9 ⟨rfl, rfl, hk9, d2, e2⟩
      have hrc := hE6.eg.resC hk9 (fun q hq => by
        rcases hq with rfl | rfl | rfl
        · exact ⟨_, _, hE6.eg.node, by decide, by decide, by decide⟩
        · exact ⟨_, _, hE9.c1, by decide, by decide, by decide⟩
        · exact ⟨_, _, hE9.c2, by decide, by decide, by decide⟩) 0 why
      have hbw : Below w.heap.size w _ := (H4.out.below.trans (hb6.mono (by have := H4.out.below.size; omega))).trans (hk9.below (B := w.heap.size) (by have h1 := hE9.below.size; omega) (fun q hq hs => by have h1 := H4.out.size; have h2 := HWB.out.1; rcases hs with h3 | h3 | h3 <;> omega))
      refine ⟨_, eval_results rfl rfl d2 e2, ⟨At, ct, Al, cl, ?_, ?_⟩, hbw⟩
      · rw [HQ.out]
        show _ = _
        rw [hrc.2.1]
        rfl
      · rw [HQ.out]; exact hrc.2.2
    | long =>
      have he : e = .panicked [{ v := longV, recovered := false }] := hend
      clear hend
      subst he
      refine leaves_cons (f := 37) (args := #[.pointer (some ⟨wb + 1, 0, none⟩), .pointer (some ⟨w.heap.size + 1, 0, none⟩), .pointer (some ⟨w.heap.size + 1 + 1, 0, none⟩)]) (by simp) (by simp [go_sem]) ?_
      obtain ⟨hE6, hb6, hE9, hp6, hk6⟩ := H6.out
      refine (ecatch_long hp6 hE9.c1 hE9.c2).mono ?_
      rintro e u' w9 ⟨rfl, rfl, hk9, d2, e2⟩
      have hbw : Below w.heap.size w _ := (H4.out.below.trans (hb6.mono (by have := H4.out.below.size; omega))).trans (hk9.below (B := w.heap.size) (by have h1 := hE9.below.size; omega) (fun q hq hs => by have h1 := H4.out.size; have h2 := HWB.out.1; rcases hs with h3 | h3 <;> omega))
      refine ⟨_, eval_results rfl rfl d2 e2, ⟨none, 0, none, 0, ?_, ?_⟩, hbw⟩
      · rw [HQ.out]; rfl
      · rw [HQ.out]; exact ResC.none _
end
end Go.Proofs.Ytbekjccehhaljaa.H

set_option linter.unusedVariables false
set_option linter.unusedSimpArgs false
namespace Go.Proofs.Ytbekjccehhaljaa.H
open Go.RowKit Go.Hay Go.Proofs.YtbekjccehhaljaaW.PrintWords Go.Proofs.YtbekjccehhaljaaW.PrintLast Go.Proofs.YtbekjccehhaljaaW.PrintMore
theorem eval_of (A : Option Addr) (c : Nat) (P : List S83) (Aa : Option Addr) (ca : Nat) (args : List Int) (b d most : Int) (w : World) (hC : k64.C w A (P.map ofF).length (P.map ofF)) (hc : P.length ≤ c) (hA : (Kd.int .i64).C w Aa args.length args) (hca : args.length ≤ ca) (hm : most ≤ 900000) {r : EvR} (hr : r = evalR (P.map ofF) args b d most.toNat) :
    Calls Try.prog 21 #[.slice A P.length c, .slice Aa args.length ca, .agg #[.int .i64 b, .int .i64 d], .int .i64 most] w (EvalPost w r) := by
  rw [hr]
  have := Eval_any (b := b) (d := d) (most := most) (c := c) hC (by rw [List.length_map]; exact hc) hA hca hm
  rwa [List.length_map] at this
/-- behind an evaluation whose result is stored at bx. -/
structure AfterE (w W : World) (bx : Nat) (rv rf : Int) (told : List Int) (log : List (List Int × Int)) (At : Option Addr) (ct : Nat) (Al : Option Addr) (cl : Nat) : Prop where
  below : Below w.heap.size w W
  box : W.heap[bx]? = some (.cells #[.int .i64 rv, .int .i64 rf, .slice At told.length ct, .slice Al log.length cl] 77 (0, 0))
  res : ResC W (rv, rf, told, log) At ct Al cl
  new : w.heap.size ≤ bx
/-- ways that meet again: the frame is found where the first one ends. -/
theorem with_act {G : Prop} {F : Nat → Option Addr → Nat → Option Addr → Nat → Option Addr → Nat → World → Prop} {K : Act → World → Prop} (act : Nat → Option Addr → Nat → Option Addr → Nat → Option Addr → Nat → Act)
    (H : (∀ bx A c At ct Al cl W, F bx A c At ct Al cl W → K (act bx A c At ct Al cl) W) → G) (h : ∀ bx A c At ct Al cl W, F bx A c At ct Al cl W → K (act bx A c At ct Al cl) W) : G := H h
def zRes : Obj := .cells #[.int .i64 0, .int .i64 0, .slice none 0 0, .slice none 0 0] 77
theorem after_store {w w4 : World} {bx : Nat} {rv rf : Int} {told : List Int} {log : List (List Int × Int)} {At : Option Addr} {ct : Nat} {Al : Option Addr} {cl : Nat} (hb : Below w.heap.size w w4) (hx : w4.heap[bx]? = some zRes) (hn : w.heap.size ≤ bx) (hr : ResC w4 (rv, rf, told, log) At ct Al cl) {W : World}
    (hW : W = (((w4.setCell ⟨bx, 0, none⟩ (.int .i64 rv)).setCell ⟨bx, 1, none⟩ (.int .i64 rf)).setCell ⟨bx, 2, none⟩ (.slice At told.length ct)).setCell ⟨bx, 3, none⟩ (.slice Al log.length cl)) : AfterE w W bx rv rf told log At ct Al cl := by
  have hk : Keep (fun q => q = bx) w4 W := by
    rw [hW]
    exact ((((Keep.refl (fun q => q = bx) w4).set (p := ⟨bx, 0, none⟩) (.inr rfl) _).set (p := ⟨bx, 1, none⟩) (.inr rfl) _).set (p := ⟨bx, 2, none⟩) (.inr rfl) _).set (p := ⟨bx, 3, none⟩) (.inr rfl) _
  refine ⟨hb.trans (hk.below (B := w.heap.size) hb.size (fun q hq e => by subst e; omega)), ?_, hr.step hk (fun q _ e => by subst e; exact ⟨_, _, hx, by decide, by decide, by decide⟩), hn⟩
  have := blk_set (blk_set (blk_set (blk_set hx 0 (.int .i64 rv)) 1 (.int .i64 rf)) 2 (.slice At told.length ct)) 3 (.slice Al log.length cl)
  rw [hW]
  exact this
/-- the log of a result, entry by entry. -/
theorem log_cells {w : World} {rv rf : Int} {told : List Int} {log : List (List Int × Int)} {At : Option Addr} {ct : Nat} {Al : Option Addr} {cl : Nat} (h : ResC w (rv, rf, told, log) At ct Al cl) (h0 : 0 < log.length) :
    ∃ ad, Al = some ad ∧ ∀ i (hi : i < log.length), ∃ A0 c0, w.cell? (ad.add (i * 2)) = some (.slice A0 log[i].1.length c0) ∧ w.cell? ⟨(ad.add (i * 2)).block, (ad.add (i * 2)).off + 1, none⟩ = some (.int .i64 log[i].2) ∧ log[i].1.length ≤ c0 ∧ (Kd.int .i64).C w A0 log[i].1.length log[i].1 := by
  have hlogc : k54.C w Al log.length (log.map entS) := h.log
  obtain ⟨ad2, hA2, _⟩ := hlogc.2.2 h0
  refine ⟨ad2, hA2, fun i hi => ?_⟩
  obtain ⟨ad, A0, c0, e2, u0, u1, u2, u3⟩ := at_T54 hlogc (i : Int) (by omega) (by omega)
  rw [hA2] at e2
  cases e2
  have e : rd_T54 (log.map entS) (i : Int) = entS log[i] := by simp [rd_T54, hi]
  rw [Int.toNat_natCast] at u0 u1
  rw [e] at u0 u1 u2 u3
  exact ⟨A0, c0, u0, u1, u2, u3⟩
end Go.Proofs.Ytbekjccehhaljaa.H

set_option linter.unusedVariables false
set_option linter.unusedSimpArgs false
namespace Go.Proofs.Ytbekjccehhaljaa.H
open Go.RowKit Go.Hay Go.Proofs.YtbekjccehhaljaaW.PrintWords Go.Proofs.YtbekjccehhaljaaW.PrintLast Go.Proofs.YtbekjccehhaljaaW.PrintMore
/-- nothing of it is told, begun or counted. -/
structure Quiet (T T' : Tu) : Prop where
  kids : T'.kids = T.kids
  ps : T'.ps = T.ps
  told : T'.told = T.told
  steps : T'.steps = T.steps
  hands : T'.hands = T.hands
  wait : T'.wait = T.wait ∨ syncBad T = false
theorem Quiet.refl (T : Tu) : Quiet T T := ⟨rfl, rfl, rfl, rfl, rfl, .inl rfl⟩
end Go.Proofs.Ytbekjccehhaljaa.H

set_option linter.unusedVariables false
set_option linter.unusedSimpArgs false
namespace Go.Proofs.Ytbekjccehhaljaa.H
open Go.RowKit Go.Hay Go.Proofs.YtbekjccehhaljaaW.PrintWords Go.Proofs.YtbekjccehhaljaaW.PrintLast Go.Proofs.YtbekjccehhaljaaW.PrintMore
mutual
def nodesT : Tr → Int
  | .nil => 0
  | .node ps ks v f => 1 + nodesTs ks
def nodesTs : List Tr → Int
  | [] => 0
  | k :: r => nodesT k + nodesTs r
end
mutual
def numsT : Tr → Int
  | .nil => 0
  | .node ps ks v f => ((ps.length : Int) - (ks.length : Int)) + numsTs ks
def numsTs : List Tr → Int
  | [] => 0
  | k :: r => numsT k + numsTs r
end
end Go.Proofs.Ytbekjccehhaljaa.H

set_option linter.unusedVariables false
set_option linter.unusedSimpArgs false
namespace Go.Proofs.Ytbekjccehhaljaa.H
open Go.RowKit Go.Hay Go.Proofs.YtbekjccehhaljaaW.PrintWords Go.Proofs.YtbekjccehhaljaaW.PrintLast Go.Proofs.YtbekjccehhaljaaW.PrintMore
theorem rightTs_of : ∀ {ks : List Tr} {d : Int}, (∀ k ∈ ks, rightT k d = true) → rightTs ks d = true
  | [], d, _ => rfl
  | k :: r, d, h => by rw [rightTs, h k (List.mem_cons_self ..), rightTs_of (fun x hx => h x (List.mem_cons_of_mem _ hx))]; rfl
/-- what stays right within a task that began at G0. -/
structure NeedI (depth : Int) (path : List Int) (G0 : Gu) (T : Tu) (G : Gu) : Prop where
  met : metP 0 T.ps = some (T.kids.length : Int)
  right : ∀ k ∈ T.kids, rightT k.1 ((path.length : Int) + 1) = true
  pl : T.ps.length = T.kids.length + T.told
  path_ : (path.length : Int) ≤ depth
  frames : (G.frames : Int) = G0.frames + nodesTs (T.kids.map (·.1))
  cells : (G.cells : Int) ≤ G0.cells + nodesTs (T.kids.map (·.1))
  chl : (G.chunks : Int) - G0.chunks ≤ numsTs (T.kids.map (·.1))
  chh : numsTs (T.kids.map (·.1)) ≤ 4 * ((G.chunks : Int) - G0.chunks)
  left : G.left + G.steps + T.steps = G0.left + G0.steps
  steps : (G.frames : Int) - G0.frames ≤ (G.steps : Int) - G0.steps
theorem NeedI.start {depth : Int} {path : List Int} (G : Gu) (args : List Int) (hands : List Tr) (hp : (path.length : Int) ≤ depth) : NeedI depth path G (newTu args hands) G :=
  ⟨rfl, (fun k hk => by cases hk), rfl, hp, by simp [newTu, nodesTs], by simp [newTu, nodesTs], by simp [newTu, numsTs], by simp [newTu, numsTs], rfl, by omega⟩
/-- the node that a task comes to, and what is noted. -/
structure NeedE (d : Int) (G0 : Gu) (t : Tr) (G : Gu) : Prop where
  right : rightT t d = true
  frames : (G.frames : Int) = G0.frames + nodesT t
  cells : (G.cells : Int) + 1 ≤ G0.cells + nodesT t
  chl : (G.chunks : Int) - G0.chunks ≤ numsT t
  chh : numsT t ≤ 4 * ((G.chunks : Int) - G0.chunks)
  left : G.left + G.steps = G0.left + G0.steps
  steps : (G.frames : Int) - G0.frames ≤ (G.steps : Int) - G0.steps
theorem NeedI.fin {depth : Int} {path p2 : List Int} {G0 G : Gu} {T : Tu} (hd30 : depth ≤ 30) (h : NeedI depth path G0 T G) (h1 : 1 ≤ T.steps) {v f : Int} (hv : f = 0 ∨ v = 0) : NeedE (path.length : Int) G0 (mkNode T v f) (noteU p2 T G) := by
  have hm := h.met
  have hp := h.path_
  have hpl := h.pl
  have e1 : nodesT (mkNode T v f) = 1 + nodesTs (T.kids.map (·.1)) := rfl
  have e2 : numsT (mkNode T v f) = ((T.ps.length : Int) - ((T.kids.map (·.1)).length : Int)) + numsTs (T.kids.map (·.1)) := rfl
  rw [List.length_map] at e2
  have ht : numsT (mkNode T v f) = T.told + numsTs (T.kids.map (·.1)) := by rw [e2]; omega
  have a1 := h.frames
  have a2 := h.cells
  have a3 := h.chl
  have a4 := h.chh
  have a5 := h.left
  have a6 := h.steps
  refine ⟨?_, ?_, ?_, ?_, ?_, ?_, ?_⟩
  · show rightT (.node T.ps (T.kids.map (·.1)) v f) (path.length : Int) = true
    rw [rightT, if_neg (by rintro (h | ⟨h3, h4⟩); · omega
                           · rcases hv with h | h <;> contradiction), hm]
    show (if (T.kids.length : Int) = ((T.kids.map (·.1)).length : Int) then _ else _) = true
    rw [List.length_map, if_pos rfl]
    exact rightTs_of (fun k hk => by
      obtain ⟨q, hq, rfl⟩ := List.mem_map.1 hk
      exact h.right q hq)
  · show ((G.frames + 1 : Nat) : Int) = _; omega
  · show (G.cells : Int) + 1 ≤ _; omega
  · show ((G.chunks + (T.told + 3) / 4 : Nat) : Int) - G0.chunks ≤ _; omega
  · show _ ≤ 4 * (((G.chunks + (T.told + 3) / 4 : Nat) : Int) - G0.chunks); omega
  · show G.left + (G.steps + T.steps) = _; omega
  · show ((G.frames + 1 : Nat) : Int) - G0.frames ≤ ((G.steps + T.steps : Nat) : Int) - G0.steps; omega
end Go.Proofs.Ytbekjccehhaljaa.H

set_option linter.unusedVariables false
set_option linter.unusedSimpArgs false
namespace Go.Proofs.Ytbekjccehhaljaa.H
open Go.RowKit Go.Hay Go.Proofs.YtbekjccehhaljaaW.PrintWords Go.Proofs.YtbekjccehhaljaaW.PrintLast Go.Proofs.YtbekjccehhaljaaW.PrintMore
/-! ### fails' numbers -/
theorem instrE_16 {l : List S64} {lc : Nat} {x : S61} (h : instrE lc l x = none) (e : x.f0 = 16) : 16 ≤ x.f4 := by
  obtain ⟨a, b, c, k, is, hsh⟩ : ∃ a b c k is, shapeP x.f0 = (a, b, c, k, is) := ⟨_, _, _, _, _, rfl⟩
  rw [instrE_eq hsh] at h
  rw [e] at hsh
  simp [shapeP] at hsh
  obtain ⟨rfl, rfl, rfl, rfl, rfl⟩ := hsh
  by_cases h1 : x.f1 = 0
  · by_cases h2 : x.f2 = 0
    · by_cases h3 : x.f3 = 0
      · simp only [h1, h2, h3] at h
        simp at h
        have hk : fieldE l.length lc x.f4 6 = none := by first | exact h.2.2.2.1 | exact h.2.2.1 | exact h.2.1 | exact h.1
        exact ((fieldE_none hk).2.2.2.2.1 rfl).1
      · simp [h1, h2, h3] at h
    · simp [h1, h2] at h
  · simp [h1] at h
def K16 (l : List S64) : Prop := ∀ f (h : f < l.length) k (hk : k < l[f].f1.length), l[f].f1[k].f0 = 16 → 16 ≤ l[f].f1[k].f4
theorem check_16 {l : List S64} (h : (checkP l).2.2 = 0) : K16 l := by
  unfold checkP at h
  split at h
  · cases hf : funcsE l 0 l with
    | some e => rw [hf] at h; exact absurd h (funcsE_code hf)
    | none =>
      intro f hfl k hk e
      have h1 := funcsE_none hf f hfl
      unfold funcE at h1
      split at h1
      · split at h1
        · rw [Option.or_eq_none_iff] at h1
          exact instrE_16 (instrsE_none h1.1 k hk) e
        · cases h1
      · cases h1
  · cases h
theorem evRight_16 {l : List S64} {n : Nat} {b d : Int} (h : evRight l n b d = true) : K16 l := by
  unfold evRight at h
  split at h
  · rename_i hc; exact check_16 hc
  · exact absurd h (by decide)
/-! ### walking pieces -/
abbrev WR := List Int × Int × Option (List Int)
/-- what is told so far. -/
def toldT (path : List Int) (T : Tu) : WR := walkPs T.ps (walkKs (T.kids.map (·.1)) path 0)
/-! ### tasks beside each other -/
def hOf : Tr → Bool × Int
  | .nil => (false, 0)
  | .node _ _ v _ => (true, v)
def wOf (k : Tr × Int) : Option (Int × Int) := if 0 ≤ k.2 then some (k.2, nv k.1) else none
/-- the evaluation's task beside an unfolding's. -/
def toE (T : Tu) : Ts := ⟨T.regs, T.hands.map hOf, (T.kids.drop T.wait).filterMap wOf, T.kids.length, T.at_⟩
theorem hd_toE (T : Tu) (i : Int) : hd (toE T) i = hOf (uH T i) := by
  unfold hd uH toE
  show (T.hands.map hOf).getD i.toNat (false, 0) = hOf (T.hands.getD i.toNat .nil)
  rw [List.getD_eq_getElem?_getD, List.getD_eq_getElem?_getD, List.getElem?_map]
  cases T.hands[i.toNat]? <;> rfl
theorem putK_fold : ∀ (ks : List (Tr × Int)) (r : List Int), (ks.filterMap wOf).foldl (fun r s => r.set s.1.toNat s.2) r = ks.foldl putK r
  | [], r => rfl
  | k :: ks, r => by
    rw [List.foldl_cons, ← putK_fold ks (putK r k), List.filterMap_cons]
    unfold wOf putK
    by_cases h : 0 ≤ k.2
    · rw [if_pos h, if_pos h]; rfl
    · rw [if_neg h, if_neg h]
theorem toE_sync (T : Tu) : syncP (toE T) = toE (syncU T) := by
  unfold syncP toE syncU
  simp only [putK_fold, List.drop_length, List.filterMap_nil]
/-- no kid failed, and what was handed did not. -/
structure HS (path : List Int) (T : Tu) : Prop where
  kids : ∀ k ∈ T.kids, nf k.1 = 0
  hands : ∀ t ∈ T.hands, nf t = 0
  told : (toldT path T).2.1 = 0
theorem HS.bad {path : List Int} {T : Tu} (h : HS path T) : syncBad T = false := by
  unfold syncBad
  rw [List.any_eq_false]
  intro k hk
  have := h.kids k (List.mem_of_mem_drop hk)
  simp [this]
/-- an instruction that concerns the task alone, on both sides. -/
theorem sim_simple {l : List S64} {depth : Int} {rec : Gu → List Int → List S61 → Tu → RU} {path : List Int} {x : S61} {T : Tu} {G : Gu} (hs : HS path T) (hop : 1 ≤ x.f0 ∧ x.f0 ≤ 17) (h3 : ¬ (x.f0 = 11 ∨ x.f0 = 13)) (h15 : x.f0 ≠ 15) (h17 : x.f0 ≠ 17) (h16 : x.f0 = 16 → 16 ≤ x.f4) :
    (∃ T', stepU l depth rec path x T G = .go T' G ∧ simple x (toE T) = .go (toE T') ∧ Quiet T T') ∨ (∃ f, f ≠ 0 ∧ stepU l depth rec path x T G = .stop 0 f T G ∧ simple x (toE T) = .stop f) := by
  have hset : ∀ i v, Quiet T (uSet T i v) := fun i v => ⟨rfl, rfl, rfl, rfl, rfl, .inl rfl⟩
  have hcases : x.f0 = 1 ∨ x.f0 = 2 ∨ x.f0 = 3 ∨ x.f0 = 4 ∨ x.f0 = 5 ∨ x.f0 = 6 ∨ x.f0 = 7 ∨ x.f0 = 8 ∨ x.f0 = 9 ∨ x.f0 = 10 ∨ x.f0 = 12 ∨ x.f0 = 14 ∨ x.f0 = 16 := by omega
  rcases hcases with e | e | e | e | e | e | e | e | e | e | e | e | e
  · exact .inl ⟨uSet T x.f1 x.f4, by simp [stepU, e], by simp [simple, e]; rfl, hset _ _⟩
  · exact .inl ⟨uSet T x.f1 (uR T x.f2), by simp [stepU, e], by simp [simple, e]; rfl, hset _ _⟩
  · exact .inl ⟨uSet T x.f1 (wrap64 (uR T x.f2 + uR T x.f3)), by simp [stepU, reckonU, e], by simp [simple, e]; rfl, hset _ _⟩
  · exact .inl ⟨uSet T x.f1 (wrap64 (uR T x.f2 - uR T x.f3)), by simp [stepU, reckonU, e], by simp [simple, e]; rfl, hset _ _⟩
  · exact .inl ⟨uSet T x.f1 (wrap64 (uR T x.f2 * uR T x.f3)), by simp [stepU, reckonU, e], by simp [simple, e]; rfl, hset _ _⟩
  · by_cases hz : uR T x.f3 = 0
    · have hz' : rg (toE T) x.f3 = 0 := hz
      exact .inr ⟨1, by decide, by simp [stepU, reckonU, e, hz], by simp [simple, e, hz']⟩
    · have hz' : rg (toE T) x.f3 ≠ 0 := hz
      exact .inl ⟨uSet T x.f1 (wrap64 ((uR T x.f2).tdiv (uR T x.f3))), by simp [stepU, reckonU, e, hz], by simp [simple, e, hz']; rfl, hset _ _⟩
  · exact .inl ⟨uSet T x.f1 (lessV (uR T x.f2) (uR T x.f3)), by simp [stepU, reckonU, e], by simp [simple, e]; rfl, hset _ _⟩
  · exact .inl ⟨uSet T x.f1 (sameV (uR T x.f2) (uR T x.f3)), by simp [stepU, reckonU, e], by simp [simple, e]; rfl, hset _ _⟩
  · exact .inl ⟨{ T with at_ := x.f4 }, by simp [stepU, e], by simp [simple, e]; rfl, ⟨rfl, rfl, rfl, rfl, rfl, .inl rfl⟩⟩
  · by_cases hz : uR T x.f1 = 0
    · have hz' : rg (toE T) x.f1 = 0 := hz
      exact .inl ⟨{ T with at_ := x.f4 }, by simp [stepU, e, hz], by simp [simple, e, hz']; rfl, ⟨rfl, rfl, rfl, rfl, rfl, .inl rfl⟩⟩
    · have hz' : rg (toE T) x.f1 ≠ 0 := hz
      exact .inl ⟨T, by simp [stepU, e, hz], by simp [simple, e, hz'], Quiet.refl T⟩
  · have hb := hs.bad
    exact .inl ⟨syncU T, by simp [stepU, e, hb], by simp [simple, e, toE_sync], ⟨rfl, rfl, rfl, rfl, rfl, .inr hb⟩⟩
  · have hh := hd_toE T x.f2
    cases hu : uH T x.f2 with
    | nil =>
      rw [hu] at hh
      have h1 : (hd (toE T) x.f2).1 = false := by rw [hh]; rfl
      exact .inr ⟨2, by decide, by simp [stepU, e, hu], by simp [simple, e, h1]⟩
    | node ps ks v f =>
      rw [hu] at hh
      have h1 : (hd (toE T) x.f2).1 = true := by rw [hh]; rfl
      have h2 : (hd (toE T) x.f2).2 = v := by rw [hh]; rfl
      have hf : f = 0 := by
        have hm : uH T x.f2 ∈ T.hands := by
          unfold uH at hu ⊢
          rw [List.getD_eq_getElem?_getD] at hu ⊢
          cases hq : T.hands[x.f2.toNat]? with
          | none => rw [hq] at hu; cases hu
          | some t => exact List.mem_of_getElem? hq
        have := hs.hands _ hm
        rw [hu] at this
        exact this
      exact .inl ⟨uSet T x.f1 v, by simp [stepU, e, hu, hf], by simp [simple, e, h1, h2]; rfl, hset _ _⟩
  · exact .inr ⟨x.f4, by have := h16 e; omega, by simp [stepU, e], by simp [simple, e]⟩
end Go.Proofs.Ytbekjccehhaljaa.H

set_option linter.unusedVariables false
set_option linter.unusedSimpArgs false
namespace Go.Proofs.Ytbekjccehhaljaa.H
open Go.RowKit Go.Hay Go.Proofs.YtbekjccehhaljaaW.PrintWords Go.Proofs.YtbekjccehhaljaaW.PrintLast Go.Proofs.YtbekjccehhaljaaW.PrintMore
theorem at_code {l : List S64} {f : Nat} (hf : f < l.length) {a : Int} (h0 : 0 ≤ a) (h1 : a < l[f].f1.length) (h16 : K16 l) : (rd_T61 l[f].f1 a).f0 = 16 → 16 ≤ (rd_T61 l[f].f1 a).f4 := by
  have e : rd_T61 l[f].f1 a = l[f].f1[a.toNat]'(by omega) := by simp [rd_T61, show a.toNat < l[f].f1.length by omega]
  rw [e]
  exact h16 f hf a.toNat (by omega)
section
variable {l : List S64} (hl : POk l) (h16 : K16 l) {budget depth : Int} (hb : 1 ≤ budget) (hd30 : depth ≤ 30)
include hl h16 hb hd30
end
end Go.Proofs.Ytbekjccehhaljaa.H

set_option linter.unusedVariables false
set_option linter.unusedSimpArgs false
namespace Go.Proofs.Ytbekjccehhaljaa.H
open Go.RowKit Go.Hay Go.Proofs.YtbekjccehhaljaaW.PrintWords Go.Proofs.YtbekjccehhaljaaW.PrintLast Go.Proofs.YtbekjccehhaljaaW.PrintMore
def NoK (l : List S64) : Prop := ∀ f (h : f < l.length) k (hk : k < l[f].f1.length), l[f].f1[k].f0 ≠ 11 ∧ l[f].f1[k].f0 ≠ 13
def toG (T : Tu) (G : Gu) : Gs := ⟨G.left, T.ps.map (·.f1), [([], (T.steps : Int))]⟩
/-- a task that begun none. -/
structure Al (T : Tu) (G G0 : Gu) : Prop where
  kids : T.kids = []
  nums : ∀ p ∈ T.ps, p.f0 = false
  hands : ∀ t ∈ T.hands, nf t = 0
  whole : G = { G0 with left := G.left }
theorem Al.toldT {T : Tu} {G G0 : Gu} (h : Al T G G0) : (toldT [] T).2.1 = 0 := by
  have : ∀ (ps : List Pc) (W : List WR), (∀ p ∈ ps, p.f0 = false) → (walkPs ps W).2.1 = 0 := by
    intro ps
    induction ps with
    | nil => intro W h; rfl
    | cons p ps ih =>
      intro W h
      rw [walkPs, if_neg (by rw [h p (List.mem_cons_self ..)]; decide)]
      exact ih W (fun q hq => h q (List.mem_cons_of_mem _ hq))
  exact this _ _ h.nums
theorem Al.hs {T : Tu} {G G0 : Gu} (h : Al T G G0) : HS [] T := ⟨fun k hk => (by rw [h.kids] at hk; cases hk), h.hands, h.toldT⟩
theorem at_noK {l : List S64} {f : Nat} (hf : f < l.length) {a : Int} (h0 : 0 ≤ a) (h1 : a < l[f].f1.length) (hn : NoK l) : ¬ ((rd_T61 l[f].f1 a).f0 = 11 ∨ (rd_T61 l[f].f1 a).f0 = 13) := by
  have e : rd_T61 l[f].f1 a = l[f].f1[a.toNat]'(by omega) := by simp [rd_T61, show a.toNat < l[f].f1.length by omega]
  rw [e]
  have := hn f hf a.toNat (by omega)
  rintro (h | h)
  · exact this.1 h
  · exact this.2 h
/-- how both end. -/
def Both (G0 : Gu) (u : RU) (p : Out × Gs) : Prop :=
  match u with
  | none => p.1 = .long
  | some (v, f, T, G) => p = (if f = 0 then .val v else .fail f, toG T G) ∧ Al T G G0 ∧ (f ≠ 0 → v = 0)
theorem alone_run {l : List S64} (hl : POk l) (h16 : K16 l) (hn : NoK l) {budget depth : Int} (hb : 1 ≤ budget) : ∀ (k M : Nat) (G G0 : Gu) (f : Nat) (hf : f < l.length) (T : Tu), GUI M budget G → G.log.length + 1 + G.left ≤ M → TUI l[f].f1 depth budget [] T → Al T G G0 →
    Both G0 (runU l budget depth k G [] l[f].f1 T) (runP l budget depth k (toG T G) [] l[f].f1 0 (toE T)) := by
  intro k
  induction k with
  | zero => intro M G G0 f hf T hg hleft ht ha; exact rfl
  | succ k ih =>
    intro M G G0 f hf T hg hleft ht ha
    rw [runU, runP]
    have hst : ((toG T G).log.getD 0 ([], 0)).2 = (T.steps : Int) := rfl
    rw [hst]
    by_cases h1 : (T.steps : Int) = budget
    · rw [if_pos h1, if_pos h1]
      exact ⟨rfl, ha, fun _ => rfl⟩
    rw [if_neg h1, if_neg h1]
    have hlf : (toG T G).left = G.left := rfl
    rw [hlf]
    by_cases h2 : G.left = 0
    · rw [if_pos h2, if_pos h2]; exact rfl
    rw [if_neg h2, if_neg h2]
    have hna := nextU_at hl f hf ht.at_.1 ht.at_.2
    have hx16 := at_code hf ht.at_.1 ht.at_.2 h16
    have hxn := at_noK hf ht.at_.1 ht.at_.2 hn
    have htk := tick_inv ht.toTU0 h1
    have htg := tickG_inv hg hleft h2
    have hsi := stepU_inv hl (by omega) (runU_ok hl (by omega) k) hna.1 htg.1 htg.2 htk.1 htk.2 hna.2
    have htE : ({ (toE T) with at_ := (toE T).at_ + 1 } : Ts) = toE (tickT T) := rfl
    have hatE : (toE T).at_ = T.at_ := rfl
    have htG : ({ toG T G with left := G.left - 1, log := bump (toG T G).log 0 } : Gs) = toG (tickT T) (tickG G) := rfl
    rw [htE, hatE, htG]
    have ha1 : Al (tickT T) (tickG G) G0 := ⟨ha.kids, ha.nums, ha.hands, by rw [ha.whole]; rfl⟩
    have hop := hna.1.op
    generalize rd_T61 l[f].f1 T.at_ = x at *
    generalize tickT T = T1 at *
    generalize tickG G = G1 at *
    clear htk htg ht hg hleft h1 h2 ha htE hatE htG hst hlf
    by_cases h17 : x.f0 = 17
    · rw [if_pos h17]
      have e9 : stepU l depth (runU l budget depth k) [] x T1 G1 = .stop (uR (syncU T1) x.f1) 0 (syncU T1) G1 := by simp [stepU, h17, ha1.hs.bad]
      rw [e9]
      refine ⟨by rw [if_pos rfl, toE_sync]; rfl, ⟨ha1.kids, ha1.nums, ha1.hands, ha1.whole⟩, fun h => absurd rfl h⟩
    rw [if_neg h17]
    by_cases h15 : x.f0 = 15
    · have e9 : stepU l depth (runU l budget depth k) [] x T1 G1 = .go { T1 with ps := T1.ps ++ [⟨false, uR T1 x.f1⟩], told := T1.told + 1 } G1 := by simp [stepU, h15]
      have e8 : stepP l depth (runP l budget depth k) [] x (toE T1) (toG T1 G1) = .go (toE { T1 with ps := T1.ps ++ [⟨false, uR T1 x.f1⟩], told := T1.told + 1 }) (toG { T1 with ps := T1.ps ++ [⟨false, uR T1 x.f1⟩], told := T1.told + 1 } G1) := by
        unfold stepP
        rw [if_neg hxn, if_pos h15]
        congr 1
        unfold toG
        simp only [List.map_append, List.map_cons, List.map_nil]
        rfl
      rw [e9] at hsi ⊢
      rw [e8]
      obtain ⟨a1, a2, a3, a4⟩ := hsi
      exact ih M G1 G0 f hf _ a1 a2 a4 ⟨ha1.kids, fun p hp => (List.mem_append.1 hp).elim (ha1.nums p) (fun h => by rw [List.mem_singleton.1 h]), ha1.hands, ha1.whole⟩
    · rcases sim_simple (l := l) (depth := depth) (rec := runU l budget depth k) (G := G1) ha1.hs hop hxn h15 h17 hx16 with ⟨T2, e9, e8, q⟩ | ⟨w, hw, e9, e8⟩
      · have hgg : toG T1 G1 = toG T2 G1 := by unfold toG; rw [q.ps, q.steps]
        have e7 : stepP l depth (runP l budget depth k) [] x (toE T1) (toG T1 G1) = .go (toE T2) (toG T2 G1) := by unfold stepP; rw [if_neg hxn, if_neg h15, e8, hgg]
        rw [e9] at hsi ⊢
        rw [e7]
        obtain ⟨a1, a2, a3, a4⟩ := hsi
        exact ih M G1 G0 f hf T2 a1 a2 a4 ⟨by rw [q.kids]; exact ha1.kids, by rw [q.ps]; exact ha1.nums, by rw [q.hands]; exact ha1.hands, ha1.whole⟩
      · have e7 : stepP l depth (runP l budget depth k) [] x (toE T1) (toG T1 G1) = .stop (.fail w) (toG T1 G1) := by unfold stepP; rw [if_neg hxn, if_neg h15, e8]
        rw [e9, e7]
        exact ⟨by rw [if_neg hw], ha1, fun _ => rfl⟩
/-- A PROGRAM THAT BEGINS NO TASKS IS UNFOLDED AS IT IS EVALUATED. -/
theorem unfold_alone {l : List S64} {args : List Int} {b d : Int} {most : Nat} (hr : evRight l args.length b d = true) (hn : NoK l) :
    match unfoldP l args b d most with
    | none => evalP l args b d most = none
    | some (t, G) => ∃ v f told s, evalP l args b d most = some (v, f, told, [([], s)]) ∧ t = .node (told.map fun n => ⟨false, n⟩) [] v f ∧ G.log = [([], s)] ∧ G.cells = 0 := by
  obtain ⟨hl, hb, hd, hn1, hn4⟩ := evRight_ok hr
  have h16 := evRight_16 hr
  have hl1 := hl.len
  have hrd : rd_T64 l 0 = l[0] := by simp [rd_T64, show 0 < l.length by omega]
  have h := alone_run hl h16 hn hb.1 (most + 1) (most + 1) ⟨most, [], 0, 0, 0, 0⟩ ⟨most, [], 0, 0, 0, 0⟩ 0 (by omega) (newTu args noHandsU) ⟨by show 0 + most ≤ most + 1; omega, rfl, Nat.le_refl _, by show ((0 : Nat) : Int) ≤ b * ((0 : Nat) : Int); simp, by show ((0 : Nat) : Int) ≤ b * ((0 : Nat) : Int); simp, fun e he => by cases he⟩ (by show 0 + 1 + most ≤ most + 1; omega) (new_inv (depth := d) hl (by omega) 0 (by omega) (by simpa using hd.1) args (by omega) noHandsU rfl) ⟨rfl, fun p hp => (by cases hp), fun t ht => (by simp [newTu, noHandsU] at ht; rw [ht]; rfl), rfl⟩
  have he : ∀ o Ge', runP l b d (most + 1) (toG (newTu args noHandsU) ⟨most, [], 0, 0, 0, 0⟩) [] l[0].f1 0 (toE (newTu args noHandsU)) = (o, Ge') → evalP l args b d most = match (o, Ge') with
      | (.val v, G) => some (v, 0, G.told, G.log)
      | (.fail why, G) => some (0, why, G.told, G.log)
      | (.long, _) => none := by
    intro o Ge' q1
    unfold evalP beginP
    rw [hrd]
    have q1 : runP l b d (most + 1) ⟨most, [], [] ++ [([], 0)]⟩ [] l[0].f1 0 (newTask args noHands) = (o, Ge') := q1
    show (match runP l b d (most + 1) ⟨most, [], [] ++ [([], 0)]⟩ [] l[0].f1 0 (newTask args noHands) with
      | (.val v, G) => some (v, 0, G.told, G.log)
      | (.fail why, G) => some (0, why, G.told, G.log)
      | (.long, _) => none) = _
    rw [q1]
  unfold unfoldP beginU
  rw [hrd]
  generalize runP l b d (most + 1) (toG (newTu args noHandsU) ⟨most, [], 0, 0, 0, 0⟩) [] l[0].f1 0 (toE (newTu args noHandsU)) = p at h he
  cases hq : runU l b d (most + 1) ⟨most, [], 0, 0, 0, 0⟩ [] l[0].f1 (newTu args noHandsU) with
  | none =>
    rw [hq] at h
    obtain ⟨o, Ge'⟩ := p
    have h : o = .long := h
    subst h
    exact he _ _ rfl
  | some r =>
    obtain ⟨v, f, T, G⟩ := r
    rw [hq] at h
    obtain ⟨rfl, ha, hv⟩ := h
    have he := he _ _ rfl
    show ∃ v2 f2 told s, evalP l args b d most = some (v2, f2, told, [([], s)]) ∧ mkNode T v f = .node (told.map fun n => ⟨false, n⟩) [] v2 f2 ∧ (noteU [] T G).log = [([], s)] ∧ (noteU [] T G).cells = 0
    refine ⟨v, f, T.ps.map (·.f1), (T.steps : Int), ?_, ?_, ?_, ?_⟩
    · rw [he]
      by_cases hf : f = 0
      · rw [if_pos hf, hf]; rfl
      · rw [if_neg hf, hv hf]; rfl
    · unfold mkNode
      rw [ha.kids, List.map_map]
      congr 1
      have : ∀ ps : List Pc, (∀ p ∈ ps, p.f0 = false) → ps = ps.map ((fun n => (⟨false, n⟩ : Pc)) ∘ (·.f1)) := by
        intro ps
        induction ps with
        | nil => intro _; rfl
        | cons p ps ih =>
          intro h
          rw [List.map_cons, ← ih (fun q hq => h q (List.mem_cons_of_mem _ hq))]
          have := h p (List.mem_cons_self ..)
          obtain ⟨p0, p1⟩ := p
          have this : p0 = false := this
          subst this
          rfl
      exact this _ ha.nums
    · unfold noteU; rw [ha.whole]; rfl
    · unfold noteU; rw [ha.whole]
end Go.Proofs.Ytbekjccehhaljaa.H

set_option linter.unusedVariables false
set_option linter.unusedSimpArgs false
namespace Go.Proofs.Ytbekjccehhaljaa.H
open Go.RowKit Go.Hay Go.Proofs.YtbekjccehhaljaaW.PrintWords Go.Proofs.YtbekjccehhaljaaW.PrintLast Go.Proofs.YtbekjccehhaljaaW.PrintMore
theorem info_rI : (Try.prog.info? 84).map (fun i => (i.zero, i.size, i.bytes)) = some (some (.agg #[.int .i64 0, .int .i64 0, .int .i64 0, .int .i64 0, .int .i64 0]), 5, 40) := by kernel_rfl
theorem info_rF : (Try.prog.info? 83).map (fun i => (i.zero, i.size, i.bytes)) = some (some (.agg #[.int .i64 0, .slice none 0 0]), 2, 32) := by kernel_rfl
def aloneI (x : S84) : S84 := if x.f0 = 11 ∨ x.f0 = 13 then ⟨12, 0, 0, 0, 0⟩ else x
def aloneF (f : S83) : S83 := ⟨f.f0, f.f1.map aloneI⟩
theorem alone_noK (P : List S83) : NoK ((P.map aloneF).map ofF) := by
  intro f h k hk
  simp only [List.getElem_map] at hk ⊢
  have hk2 : k < (P[f]'(by simpa using h)).f1.length := by
    have : k < (ofF (aloneF (P[f]'(by simpa using h)))).f1.length := hk
    simpa [ofF, aloneF] using this
  have e : (ofF (aloneF (P[f]'(by simpa using h)))).f1[k] = ofI (aloneI ((P[f]'(by simpa using h)).f1[k]'hk2)) := by simp [ofF, aloneF]
  rw [e]
  unfold aloneI
  split
  · exact ⟨show (12 : Int) ≠ 11 by decide, show (12 : Int) ≠ 13 by decide⟩
  · rename_i h1
    exact ⟨fun e => h1 (.inl e), fun e => h1 (.inr e)⟩
/-- the functions that stand. -/
structure AlO (w2 : World) (L : List S83) (v : Value) (wr : World) : Prop where
  rows : Kd.S k83 83 wr w2.heap.size (fun _ => True) v L
  below : Below w2.heap.size w2 wr
/-- and one whose code grows, in a box. -/
structure AlI (w2 : World) (L : List S83) (v : Value) (gb : Nat) (ar : Int) (M : List S84) (u : Value) (wr : World) : Prop where
  rows : Kd.S k83 83 wr w2.heap.size (fun q => q ≠ gb ∧ some q ≠ u.ownBlock) v L
  code : k84.R 84 wr w2.heap.size (fun _ => True) u M
  box : wr.heap[gb]? = some (.cells #[.int .i64 ar, u] 83 (0, 0))
  below : Below w2.heap.size w2 wr
  lo : w2.heap.size ≤ gb
theorem AlO.start (w2 : World) : AlO w2 [] (.slice none 0 0) w2 := ⟨Kd.S_nil _ _ _ _ _, Below.refl _ _⟩
theorem AlO.box {w2 wr : World} {L : List S83} {v : Value} (h : AlO w2 L v wr) (ar : Int) : AlI w2 L v wr.heap.size ar [] (.slice none 0 0) (wr.alloc (.cells #[.int .i64 ar, .slice none 0 0] 83)) := by
  have hb := (Below.refl wr.heap.size wr).alloc (Nat.le_refl _) (.cells #[.int .i64 ar, .slice none 0 0] 83)
  refine ⟨Kd.S_mono (Kd.S_below (Kd.S_elderB h.rows wr.heap.size (Nat.le_refl _)) hb) (fun q hq => ⟨hq.2, by simp [Value.ownBlock]⟩), Kd.R_nil _ _ _ _ _, alloc_blk wr _, h.below.trans (hb.mono h.below.size), h.below.size⟩
theorem AlI.below2 {w2 wr w9 : World} {L : List S83} {v : Value} {gb : Nat} {ar : Int} {M : List S84} {u : Value} (h : AlI w2 L v gb ar M u wr) (hb : Below wr.heap.size wr w9) : AlI w2 L v gb ar M u w9 :=
  ⟨Kd.S_below h.rows hb, Kd.R_below h.code hb, blk_below h.box hb, h.below.trans (hb.mono h.below.size), h.lo⟩
theorem AlI.pushed {w2 W w9 : World} {L : List S83} {v : Value} {gb : Nat} {ar : Int} {M : List S84} {u v9 : Value} {y : S84} (h : AlI w2 L v gb ar M u W) (ho : k84.R 84 w9 w2.heap.size (fun _ => True) v9 (M ++ [y])) (hb : Below w2.heap.size w2 w9) (hg : W.grownBy w9 u.ownBlock) (hat : v9.ownBlock = u.ownBlock ∨ ∃ b, v9.ownBlock = some b ∧ W.heap.size ≤ b) :
    AlI w2 L v gb ar (M ++ [y]) v9 (w9.setCell ⟨gb, 1, none⟩ v9) := by
  have h1 := Kd.S_after (ok := fun q => q ≠ gb) h.rows hg hat
  have hbox := blk_grown h.box hg (Kd.R_ne h.code h.box (by decide))
  refine ⟨Kd.S_far (p := ⟨gb, 1, none⟩) h1 (fun _ hk => hk.1) _, ?_, blk_put hbox 1 _ rfl, hb.setCell h.lo _, h.lo⟩
  exact Kd.R_mono (Kd.R_far (p := ⟨gb, 1, none⟩) (Kd.R_types ho hbox (by decide)) (fun _ hk => hk.2) v9) (fun _ _ => trivial)
/-- an instruction is appended. -/
theorem wpList_rI {ops : Array Oper} {rest : List Oper} {o : Oper} {a : Act} {Q : Exit → Act → World → Prop} {w2 W : World} {L : List S83} {v : Value} {gb : Nat} {ar : Int} {M : List S84} {u : Value} (y : S84) (hI : AlI w2 L v gb ar M u W) (hgd : o.guard = none) (s x : Operand)
    (ho : o.op = .call { callee := .builtin .append, args := #[s, x], argTypes := #[81, 81] }) (hs : a.eval s = u) (hx : a.eval x = .slice (some ⟨W.heap.size, 0, none⟩) 1 1) (hl : M.length ≤ 1000)
    (h : ∀ A9 n9 c9 w9, AlI w2 L v gb ar (M ++ [y]) (.slice A9 n9 c9) (w9.setCell ⟨gb, 1, none⟩ (.slice A9 n9 c9)) → w9.heap[gb]? = some (.cells #[.int .i64 ar, u] 83 (0, 0)) → Below w2.heap.size w2 w9 → wpList Try.prog ops Q rest (a.put o.dst (.slice A9 n9 c9)) w9) :
    wpList Try.prog ops Q (o :: rest) a (W.alloc (.cells #[.int .i64 y.f0, .int .i64 y.f1, .int .i64 y.f2, .int .i64 y.f3, .int .i64 y.f4] 84)) := by
  refine Kd.R_append k84 (w0 := w2) w2.heap.size hgd s x 81 84 (.agg #[.int .i64 0, .int .i64 0, .int .i64 0, .int .i64 0, .int .i64 0]) 40 ho Try.underlying81 info_rI rfl (by decide) (by decide) u M y [.int .i64 y.f0, .int .i64 y.f1, .int .i64 y.f2, .int .i64 y.f3, .int .i64 y.f4] (fun _ => True) (fun _ => False) hs hx (k84_mkM _ _ _ y) (fun _ hk => hk.elim) (fun _ _ => trivial) hI.code hI.below hI.below.size (by omega) ?_
  intro v1 w1 ho hb hg hat
  obtain ⟨A9, c9, rfl⟩ := Kd.R_slice ho
  exact h A9 _ c9 w1 (hI.pushed ho hb hg hat) (blk_grown hI.box hg (Kd.R_ne hI.code hI.box (by decide))) hb
/-- a function is appended. -/
theorem wpList_rF {ops : Array Oper} {rest : List Oper} {o : Oper} {a : Act} {Q : Exit → Act → World → Prop} {w2 W : World} {L : List S83} {v : Value} {gb : Nat} {ar : Int} {M : List S84} {A : Option Addr} {n c : Nat} (hI : AlI w2 L v gb ar M (.slice A n c) W) (hgd : o.guard = none) (s x : Operand)
    (ho : o.op = .call { callee := .builtin .append, args := #[s, x], argTypes := #[22, 22] }) (hs : a.eval s = v) (hx : a.eval x = .slice (some ⟨W.heap.size, 0, none⟩) 1 1) (hl : L.length ≤ 1000)
    (h : ∀ v9 w9, AlO w2 (L ++ [⟨ar, M⟩]) v9 w9 → wpList Try.prog ops Q rest (a.put o.dst v9) w9) :
    wpList Try.prog ops Q (o :: rest) a (W.alloc (.cells #[.int .i64 ar, .slice A n c] 83)) := by
  obtain rfl : n = M.length := (Kd.R_reads' hI.code).1
  have hR : k84.R 84 W w2.heap.size (fun q => q ≠ gb ∧ some q ≠ v.ownBlock) (.slice A M.length c) M :=
    Kd.R_mono (Kd.R_types (Kd.R_apart' hI.code (Kd.S_typed hI.rows) (by decide)) hI.box (by decide)) (fun q hk => ⟨hk.2, hk.1.2⟩)
  refine Kd.S_append k83 (w0 := w2) w2.heap.size hgd s x 22 83 (.agg #[.int .i64 0, .slice none 0 0]) 32 ho Try.underlying22 info_rF rfl (by decide) (by decide) v L (⟨ar, M⟩ : S83) [.int .i64 ar, .slice A M.length c] (fun q => q ≠ gb) (fun q => some q = (.slice A M.length c : Value).ownBlock) hs hx ?_ (fun q hk => hR.1 q hk.symm) (fun q hk => Kd.freshB hI.box q hk) (Kd.S_mono hI.rows (fun q hk => ⟨hk.1, fun e => hk.2 e⟩)) hI.below hI.below.size (by omega) ?_
  · exact k83_mkM _ _ _ (⟨ar, M⟩ : S83) (Kd.R_mono (Kd.R_tight rfl hR) (fun _ h => h))
  · intro v1 w1 ho hb hg hat
    exact h v1 w1 ⟨Kd.S_mono ho (fun _ _ => trivial), hb⟩
theorem alone_err {l : List S64} {args : List Int} {b d e : Int} {m : Nat} (hn : NoK l) (h : unfoldR l args b d m = .err e) : (evalR l args b d m).2 = e := by
  unfold unfoldR at h
  unfold evalR
  by_cases hr : evRight l args.length b d = true
  · rw [if_pos hr] at h ⊢
    have := unfold_alone (most := m) hr hn
    cases hq : unfoldP l args b d m with
    | none => rw [hq] at h this; cases h; rw [this]
    | some x => rw [hq] at h; cases h
  · rw [if_neg hr] at h ⊢
    cases h; rfl
theorem alone_ok {l : List S64} {args : List Int} {b d : Int} {m : Nat} {t : Tr} {G : Gu} (hn : NoK l) (h : unfoldR l args b d m = .ok t G) : ∃ v f told s, evalR l args b d m = ((v, f, told, [([], s)]), 0) ∧ t = .node (told.map fun n => ⟨false, n⟩) [] v f ∧ G.log = [([], s)] ∧ G.cells = 0 := by
  obtain ⟨hr, hp⟩ := unfoldR_ok h
  have := unfold_alone (most := m) hr hn
  rw [hp] at this
  obtain ⟨v, f, told, s, h1, h2, h3, h4⟩ := this
  refine ⟨v, f, told, s, ?_, h2, h3, h4⟩
  unfold evalR
  rw [if_pos hr, h1]
theorem at_IU {w : World} {A : Option Addr} {n : Nat} {xs : List Int} (h : (Kd.int .i64).C w A n xs) (i : Nat) (hi : i < n) {x : Int} (hx : xs[i]? = some x) : ∃ ad, A = some ad ∧ w.cell? (ad.add i) = some (.int .i64 x) := by
  obtain ⟨_, _, h3⟩ := h
  obtain ⟨ad, e, h4⟩ := h3 (by omega)
  obtain ⟨cs, h5, h6, h7⟩ := h4 i x hx
  have h6 : cs = [.int .i64 x] := h6
  subst h6
  have := h7 0 _ rfl
  have e2 : i * (Kd.int .i64).sz + 0 = i := Nat.mul_one i
  rw [e2] at this
  exact ⟨ad, e, this⟩
/-- a piece of a node. -/
theorem at_PcU {w : World} {A : Option Addr} {n : Nat} {ps : List Pc} (h : kPc.C w A n ps) (i : Nat) (hi : i < n) {x : Pc} (hx : ps[i]? = some x) : ∃ ad, A = some ad ∧ w.cell? (ad.add (i * 2)) = some (.bool x.f0) ∧ w.cell? ⟨(ad.add (i * 2)).block, (ad.add (i * 2)).off + 1, none⟩ = some (.int .i64 x.f1) := by
  obtain ⟨_, _, h3⟩ := h
  obtain ⟨ad, e, h4⟩ := h3 (by omega)
  obtain ⟨cs, h5, h6, h7⟩ := h4 i x hx
  obtain rfl := kPc_open h6
  have q0 := h7 0 _ rfl
  have q1 := h7 1 _ rfl
  refine ⟨ad, e, q0, ?_⟩
  rw [← q1]
  have e2 : i * kPc.sz = i * 2 := rfl
  unfold Addr.add
  rw [e2]
  by_cases hz : i * 2 = 0
  · simp [hz]
  · simp [hz, Nat.add_assoc]
end Go.Proofs.Ytbekjccehhaljaa.H

set_option linter.unusedVariables false
set_option linter.unusedSimpArgs false
namespace Go.Proofs.Ytbekjccehhaljaa.H
open Go.RowKit Go.Hay Go.Proofs.YtbekjccehhaljaaW.PrintWords Go.Proofs.YtbekjccehhaljaaW.PrintLast Go.Proofs.YtbekjccehhaljaaW.PrintMore
set_option maxRecDepth 100000 in
set_option maxHeartbeats 8000000 in
theorem alone_walk (Ap : Option Addr) (cp : Nat) (P : List S83) (Aa : Option Addr) (ca : Nat) (args : List Int) (b d : Int) (w : World) (hP : k83.C w Ap P.length P) (hcp : P.length ≤ cp) (hA : (Kd.int .i64).C w Aa args.length args) (hca : args.length ≤ ca) :
    Calls Try.prog 7 #[.agg #[.slice Ap P.length cp, .slice Aa args.length ca, .int .i64 b, .int .i64 d]] w fun e w' => e = .returned (.bool true) ∧ Below w.heap.size w w' := by
  obtain ⟨W1, hW1⟩ : ∃ W1, W1 = w.alloc (.cells #[.slice Ap P.length cp, .slice Aa args.length ca, .int .i64 b, .int .i64 d] 25) := ⟨_, rfl⟩
  have hb1 : Below w.heap.size w W1 := by rw [hW1]; exact (Below.refl w.heap.size w).alloc (Nat.le_refl _) _
  have hx1 : W1.heap[w.heap.size]? = some (.cells #[.slice Ap P.length cp, .slice Aa args.length ca, .int .i64 b, .int .i64 d] 25 (0, 0)) := by rw [hW1]; exact alloc_blk w _
  obtain ⟨lb, hlb, hlight⟩ := light_any Ap cp P W1 (Kd.C_below hP hb1) hcp
  have H0 := Aside0.mk (And.intro hP (And.intro hcp (And.intro hA (And.intro hca (And.intro hb1 hx1)))))
  have HL := Aside0.mk hlight
  have HLB := Aside0.mk hlb
  have HW1 := Aside0.mk hW1
  have x0 := blk_cell hx1 0
  have x1 := blk_cell hx1 1
  clear hP hcp hA hca hb1 hx1 hlight hlb hW1
  go_enter Try.func7, Try.ntmps7
  go_upto_region 1 with (fail)
  rw [← HW1.out]
  go_wp2_with fail
  refine HL.out.mono ?_
  rintro e w2 ⟨rfl, hb2⟩
  have HB2 := Aside0.mk (H0.out.2.2.2.2.1.trans (hb2.mono H0.out.2.2.2.2.1.size))
  have hx2 := (hb2.block _ (blk_lt H0.out.2.2.2.2.2)).trans H0.out.2.2.2.2.2
  have HX2 := Aside0.mk hx2
  have HLW := Aside0.mk hb2
  clear x0 x1 hb2 HW1
  have x0 := blk_cell hx2 0
  have x1 := blk_cell hx2 1
  clear hx2
  cases lb with
  | false =>
    clear HL HLB
    go_wp2_with fail
    go_ret
    exact ⟨rfl, HB2.out⟩
  | true =>
    obtain ⟨hl20, hl70⟩ := HLB.out rfl
    have HLL := Aside0.mk (And.intro hl20 hl70)
    clear HL HLB hl20 hl70
    by_cases hn : 20 < args.length
    · have hn2 : ((args.length : Int) > 20) = True := eq_true (by omega)
      clear hn
      go_wp2_with fail
      go_ret
      exact ⟨rfl, HB2.out⟩
    · have hn2 : ((args.length : Int) > 20) = False := eq_false (by omega)
      have HN := Aside0.mk hn
      clear hn
      clear HLW
      have HP2 := Aside0.mk (Kd.C_below H0.out.1 HB2.out)
      obtain ⟨hl20, hl70⟩ := HLL.out
      have HST := Aside0.mk (AlO.start w2)
      have HL70 := Aside0.mk (And.intro hl20 hl70)
      clear hl20 hl70 HLL
      go_wp2_with fail
      go_loopw [3, 4] (fun v3 v4 wr => ∃ i : Nat, v4 = .int .i64 i ∧ i ≤ P.length ∧ Aside0 (AlO w2 ((P.take i).map aloneF) v3 wr)) (fun _ v4 _ => P.length - (intOf v4).toNat)
      case atStart => exact ⟨0, rfl, Nat.zero_le _, HST⟩
      case round =>
        clear HST x0 x1
        obtain ⟨i, rfl, hi, HO⟩ := hrel
        have HXr := Aside0.mk ((HO.out.below.block _ (blk_lt HX2.out)).trans HX2.out)
        by_cases hik : i < P.length
        · have hlt := lt_true hik
          obtain ⟨f, hf⟩ : ∃ f, P[i]? = some f := ⟨_, List.getElem?_eq_getElem hik⟩
          obtain ⟨ad, A1, c1, hAp, z0, z1, hl1, hC1⟩ := at_T83 HP2.out (i : Int) (by omega) (by omega)
          have hrd : rd_T83 P (i : Int) = f := by simp [rd_T83, hf]
          rw [hrd] at z0 z1 hl1 hC1
          rw [Int.toNat_natCast] at z0 z1
          subst hAp
          have HF := Aside0.mk (And.intro hf (And.intro hl1 hC1))
          have HZ := Aside0.mk (And.intro z0 z1)
          have hfl : f.f1.length ≤ 70 := HL70.out.2 f (List.mem_of_getElem? hf)
          have HFL := Aside0.mk hfl
          have y0 := (HO.out.below.cell (World.block_lt_of_cell? w2 _ z0)).trans z0
          have x0 := blk_cell HXr.out 0
          obtain ⟨gb, hgb⟩ : ∃ gb, gb = wr.heap.size := ⟨_, rfl⟩
          obtain ⟨W4, hW4⟩ : ∃ W4, W4 = wr.alloc (.cells #[.int .i64 f.f0, .slice none 0 0] 83) := ⟨_, rfl⟩
          have hI := HO.out.box f.f0
          rw [← hgb, ← hW4] at hI
          have HI := Aside0.mk hI
          have HW4 := Aside0.mk (And.intro hW4 hgb)
          have HIK := Aside0.mk hik
          clear hW4 hgb hf hl1 hC1 z0 z1 hfl hi hik hrd
          go_upto_region 8 with (fail)
          rw [← HW4.out.1, ← HW4.out.2]
          have HI := Aside0.mk hI
          clear hI x0 y0
          go_wp2_with fail
          go_loopw [6] (fun v6 wi => ∃ (k : Nat) (u : Value), v6 = .int .i64 k ∧ k ≤ f.f1.length ∧ Aside0 (AlI w2 ((P.take i).map aloneF) u3 gb f.f0 ((f.f1.take k).map aloneI) u wi)) (fun v6 _ => f.f1.length - (intOf v6).toNat)
          case atStart => exact ⟨0, _, rfl, Nat.zero_le _, HI⟩
          case round =>
            clear HI HXr
            obtain ⟨k, u, rfl, hk, HI⟩ := hrel
            have hXi := (HI.out.below.block _ (blk_lt HX2.out)).trans HX2.out
            have x0 := blk_cell hXi 0
            have y0 := (HI.out.below.cell (World.block_lt_of_cell? w2 _ HZ.out.1)).trans HZ.out.1
            have y1 := (HI.out.below.cell (World.block_lt_of_cell? w2 _ HZ.out.2)).trans HZ.out.2
            clear hXi
            by_cases hkk : k < f.f1.length
            · have hkt := lt_true hkk
              obtain ⟨x, hx⟩ : ∃ x, f.f1[k]? = some x := ⟨_, List.getElem?_eq_getElem hkk⟩
              obtain ⟨ad2, hA1, t0, t1, t2, t3, t4⟩ := at_T84 HF.out.2.2 (k : Int) (by omega) (by omega)
              have hrd : rd_T84 f.f1 (k : Int) = x := by simp [rd_T84, hx]
              rw [hrd, Int.toNat_natCast] at t0 t1 t2 t3 t4
              subst hA1
              replace t0 := (HI.out.below.cell (World.block_lt_of_cell? w2 _ t0)).trans t0
              replace t1 := (HI.out.below.cell (World.block_lt_of_cell? w2 _ t1)).trans t1
              replace t2 := (HI.out.below.cell (World.block_lt_of_cell? w2 _ t2)).trans t2
              replace t3 := (HI.out.below.cell (World.block_lt_of_cell? w2 _ t3)).trans t3
              replace t4 := (HI.out.below.cell (World.block_lt_of_cell? w2 _ t4)).trans t4
              obtain ⟨xb, hxb⟩ : ∃ xb, xb = wr.heap.size := ⟨_, rfl⟩
              obtain ⟨W5, hW5⟩ : ∃ W5, W5 = wr.alloc (.cells #[.int .i64 x.f0, .int .i64 x.f1, .int .i64 x.f2, .int .i64 x.f3, .int .i64 x.f4] 84) := ⟨_, rfl⟩
              have hb5 : Below wr.heap.size wr W5 := by rw [hW5]; exact (Below.refl _ _).alloc (Nat.le_refl _) _
              have hx5 : W5.heap[xb]? = some (.cells #[.int .i64 x.f0, .int .i64 x.f1, .int .i64 x.f2, .int .i64 x.f3, .int .i64 x.f4] 84 (0, 0)) := by rw [hW5, hxb]; exact alloc_blk wr _
              have HI5 := Aside0.mk (HI.out.below2 hb5)
              have HX5 := Aside0.mk (And.intro hx5 (And.intro hb5 hxb))
              have HW5 := Aside0.mk (And.intro hW5 hxb)
              have hnx : (f.f1.take (k + 1)).map aloneI = (f.f1.take k).map aloneI ++ [aloneI x] := by
                rw [List.take_add_one, hx, List.map_append]; rfl
              have HNX := Aside0.mk hnx
              have HKK := Aside0.mk hkk
              have hw8 : IntKind.i64.wrap ((k : Int) + 1) = (k : Int) + 1 := IntWalk.i64_in _ (by have := HFL.out; omega)
              clear hW5 hb5 hx5 hxb hnx hkk hk hx hrd
              go_upto_region 12 with (fail)
              rw [← HW5.out.1, ← HW5.out.2]
              have d0 := blk_cell HX5.out.1 0
              clear x0 y0 y1 t0 t1 t2 t3 t4
              by_cases h11 : x.f0 = 11 ∨ x.f0 = 13
              · have hal : aloneI x = ⟨12, 0, 0, 0, 0⟩ := by unfold aloneI; rw [if_pos h11]
                rw [hal] at HNX
                obtain ⟨W6, hW6⟩ : ∃ W6, W6 = ((((W5.setCell ⟨xb, 0, none⟩ (.int .i64 12)).setCell ⟨xb, 1, none⟩ (.int .i64 0)).setCell ⟨xb, 2, none⟩ (.int .i64 0)).setCell ⟨xb, 3, none⟩ (.int .i64 0)).setCell ⟨xb, 4, none⟩ (.int .i64 0) := ⟨_, rfl⟩
                have hx6 : W6.heap[xb]? = some (.cells #[.int .i64 12, .int .i64 0, .int .i64 0, .int .i64 0, .int .i64 0] 84 (0, 0)) := by
                  rw [hW6]
                  exact blk_set (blk_set (blk_set (blk_set (blk_set HX5.out.1 0 (.int .i64 12)) 1 (.int .i64 0)) 2 (.int .i64 0)) 3 (.int .i64 0)) 4 (.int .i64 0)
                have hb6 : Below wr.heap.size wr W6 := by
                  rw [hW6]
                  have hle : wr.heap.size ≤ xb := Nat.le_of_eq HX5.out.2.2.symm
                  exact ((((HX5.out.2.1.setCell (p := ⟨xb, 0, none⟩) hle _).setCell (p := ⟨xb, 1, none⟩) hle _).setCell (p := ⟨xb, 2, none⟩) hle _).setCell (p := ⟨xb, 3, none⟩) hle _).setCell (p := ⟨xb, 4, none⟩) hle _
                have HI6 := Aside0.mk (HI.out.below2 hb6)
                have HX6b := Aside0.mk hx6
                have HW6b := Aside0.mk hW6
                have f0 := blk_frozen HX5.out.1 0
                have f1 := blk_frozen HX5.out.1 1
                have f2 := blk_frozen HX5.out.1 2
                have f3 := blk_frozen HX5.out.1 3
                have f4 := blk_frozen HX5.out.1 4
                have d1 := blk_cell HX5.out.1 1
                have d2 := blk_cell HX5.out.1 2
                have d3 := blk_cell HX5.out.1 3
                have d4 := blk_cell HX5.out.1 4
                clear hW6 hx6 hb6 hal
                by_cases h11b : x.f0 = 11
                · have e1 : (x.f0 = 11) = True := eq_true h11b
                  have e3 : (x.f0 == 11) = true := by simp [h11b]
                  clear h11 h11b
                  go_upto_region 14 with (fail)
                  rw [← HW6b.out]
                  clear d0 d1 d2 d3 d4 f0 f1 f2 f3 f4
                  have d0 := blk_cell HX6b.out 0
                  have d1 := blk_cell HX6b.out 1
                  have d2 := blk_cell HX6b.out 2
                  have d3 := blk_cell HX6b.out 3
                  have d4 := blk_cell HX6b.out 4
                  have HG := Aside0.mk (HI6).out.box
                  have g1 := blk_cell HG.out 1
                  have g0 := blk_cell HG.out 0
                  have hlen : ((f.f1.take k).map aloneI).length ≤ 1000 := by rw [List.length_map, List.length_take]; have := HFL.out; omega
                  have HLEN := Aside0.mk hlen
                  clear hlen
                  go_wp2_with (first | (at_builtin; refine wpList_rI ⟨12, 0, 0, 0, 0⟩ (HI6).out (by rfl) (.tmp 68) (.tmp 70) (by rfl) (by rfl) (by rfl) HLEN.out ?_; intro A9 n9 c9 w9 hI9 hbx hb9; have H9 := Aside0.mk (And.intro hI9 hb9); have g2 := blk_cell hbx 1; have g3 := blk_frozen hbx 1; have g4 := blk_frozen hbx 0; clear hI9 hb9 hbx) | fail)
                  go_roundw
                  case rel =>
                    have h9 := H9.out.1
                    rw [← HNX.out] at h9
                    exact ⟨k + 1, .slice A9 n9 c9, by go_num, HKK.out, ⟨h9⟩⟩
                  case measure => exact up_lt HKK.out
                · have e1 : (x.f0 = 11) = False := eq_false h11b
                  have e3 : (x.f0 == 11) = false := by simp [h11b]
                  have e2 : (x.f0 = 13) = True := eq_true (h11.resolve_left h11b)
                  have e4 : (x.f0 == 13) = true := by simp [h11.resolve_left h11b]
                  clear h11 h11b
                  go_upto_region 14 with (fail)
                  rw [← HW6b.out]
                  clear d0 d1 d2 d3 d4 f0 f1 f2 f3 f4
                  have d0 := blk_cell HX6b.out 0
                  have d1 := blk_cell HX6b.out 1
                  have d2 := blk_cell HX6b.out 2
                  have d3 := blk_cell HX6b.out 3
                  have d4 := blk_cell HX6b.out 4
                  have HG := Aside0.mk (HI6).out.box
                  have g1 := blk_cell HG.out 1
                  have g0 := blk_cell HG.out 0
                  have hlen : ((f.f1.take k).map aloneI).length ≤ 1000 := by rw [List.length_map, List.length_take]; have := HFL.out; omega
                  have HLEN := Aside0.mk hlen
                  clear hlen
                  go_wp2_with (first | (at_builtin; refine wpList_rI ⟨12, 0, 0, 0, 0⟩ (HI6).out (by rfl) (.tmp 68) (.tmp 70) (by rfl) (by rfl) (by rfl) HLEN.out ?_; intro A9 n9 c9 w9 hI9 hbx hb9; have H9 := Aside0.mk (And.intro hI9 hb9); have g2 := blk_cell hbx 1; have g3 := blk_frozen hbx 1; have g4 := blk_frozen hbx 0; clear hI9 hb9 hbx) | fail)
                  go_roundw
                  case rel =>
                    have h9 := H9.out.1
                    rw [← HNX.out] at h9
                    exact ⟨k + 1, .slice A9 n9 c9, by go_num, HKK.out, ⟨h9⟩⟩
                  case measure => exact up_lt HKK.out
              · have e1 : (x.f0 = 11) = False := eq_false (fun e => h11 (.inl e))
                have e2 : (x.f0 = 13) = False := eq_false (fun e => h11 (.inr e))
                have e3 : (x.f0 == 11) = false := by simp only [beq_eq_false_iff_ne]; exact fun e => h11 (.inl e)
                have e4 : (x.f0 == 13) = false := by simp only [beq_eq_false_iff_ne]; exact fun e => h11 (.inr e)
                have hal : aloneI x = x := by unfold aloneI; rw [if_neg h11]
                rw [hal] at HNX
                clear h11 hal
                have d1 := blk_cell HX5.out.1 1
                have d2 := blk_cell HX5.out.1 2
                have d3 := blk_cell HX5.out.1 3
                have d4 := blk_cell HX5.out.1 4
                have HG := Aside0.mk (HI5).out.box
                have g1 := blk_cell HG.out 1
                have g0 := blk_cell HG.out 0
                have hlen : ((f.f1.take k).map aloneI).length ≤ 1000 := by rw [List.length_map, List.length_take]; have := HFL.out; omega
                have HLEN := Aside0.mk hlen
                clear hlen
                go_wp2_with (first | (at_builtin; refine wpList_rI x (HI5).out (by rfl) (.tmp 68) (.tmp 70) (by rfl) (by rfl) (by rfl) HLEN.out ?_; intro A9 n9 c9 w9 hI9 hbx hb9; have H9 := Aside0.mk (And.intro hI9 hb9); have g2 := blk_cell hbx 1; have g3 := blk_frozen hbx 1; have g4 := blk_frozen hbx 0; clear hI9 hb9 hbx) | fail)
                go_roundw
                case rel =>
                  have h9 := H9.out.1
                  rw [← HNX.out] at h9
                  exact ⟨k + 1, .slice A9 n9 c9, by go_num, HKK.out, ⟨h9⟩⟩
                case measure => exact up_lt HKK.out
            · obtain rfl : k = f.f1.length := Nat.le_antisymm hk (Nat.le_of_not_lt hkk)
              obtain ⟨An, cn, hu⟩ := Kd.R_slice HI.out.code
              obtain ⟨nn, hnn⟩ : ∃ nn, nn = ((f.f1.take f.f1.length).map aloneI).length := ⟨_, rfl⟩
              rw [← hnn] at hu
              subst hu
              have hnx : (P.take (i + 1)).map aloneF = (P.take i).map aloneF ++ [⟨f.f0, (f.f1.take f.f1.length).map aloneI⟩] := by
                rw [List.take_add_one, HF.out.1, List.map_append, List.take_length]; rfl
              have HNX := Aside0.mk hnx
              have hLL : ((P.take i).map aloneF).length ≤ 1000 := by rw [List.length_map, List.length_take]; have := HL70.out.1; omega
              have HLL := Aside0.mk hLL
              have hw8 : IntKind.i64.wrap ((i : Int) + 1) = (i : Int) + 1 := IntWalk.i64_in _ (by have := HL70.out.1; have := HIK.out; omega)
              have HG := Aside0.mk HI.out.box
              have g0 := blk_cell HG.out 0
              have g1 := blk_cell HG.out 1
              clear hk hkk hnn hnx hLL
              go_wp2_with (first | (at_builtin; refine wpList_rF HI.out (by rfl) (.tmp 73) (.tmp 75) (by rfl) (by rfl) (by rfl) HLL.out ?_; intro v9 w9 hO9; have H9 := Aside0.mk hO9; clear hO9) | fail)
              go_roundw
              case rel =>
                have h9 := H9.out
                rw [← HNX.out] at h9
                exact ⟨i + 1, by go_num, HIK.out, ⟨h9⟩⟩
              case measure => exact up_lt HIK.out
        · obtain rfl : i = P.length := Nat.le_antisymm hi (Nat.le_of_not_lt hik)
          obtain ⟨A9, c9, hu9⟩ := Kd.R_slice (Kd.S_R HO.out.rows)
          rw [List.take_length] at HO hu9
          have hNK := alone_noK P
          obtain ⟨Q, hQ⟩ : ∃ Q, Q = P.map aloneF := ⟨_, rfl⟩
          rw [← hQ] at HO hu9 hNK
          subst hu9
          obtain ⟨W3, hW3⟩ : ∃ W3, W3 = wr.setCell ⟨w.heap.size, 0, none⟩ (.slice A9 Q.length c9) := ⟨_, rfl⟩
          have hQl : Q.length ≤ 20 := by rw [hQ, List.length_map]; exact HL70.out.1
          have hQ7 : ∀ f ∈ Q, f.f1.length ≤ 70 := by
            intro f hf
            rw [hQ] at hf
            obtain ⟨f0, hf0, rfl⟩ := List.mem_map.1 hf
            have := HL70.out.2 f0 hf0
            show (f0.f1.map aloneI).length ≤ 70
            rw [List.length_map]; exact this
          have hS3 := Kd.S_far (p := ⟨w.heap.size, 0, none⟩) (Kd.S_bound HO.out.rows) (fun q hk => by have h1 := hk.2.1; have h2 := blk_lt HX2.out; show q ≠ w.heap.size; omega) (.slice A9 Q.length c9)
          rw [← hW3] at hS3
          have hq3 := Kd.S_reads' hS3
          have hb3 : Below w.heap.size w W3 := by rw [hW3]; exact (HB2.out.trans (HO.out.below.mono HB2.out.size)).setCell (Nat.le_refl _) _
          have hx3 : W3.heap[w.heap.size]? = some (.cells #[.slice A9 Q.length c9, .slice Aa args.length ca, .int .i64 b, .int .i64 d] 25 (0, 0)) := by rw [hW3]; exact blk_put HXr.out 0 _ rfl
          have hH0 : k83.C W3 A9 Q.length Q ∧ Q.length ≤ c9 ∧ (Kd.int .i64).C W3 Aa args.length args ∧ args.length ≤ ca ∧ True := ⟨hq3.2.2, hq3.2.1, Kd.C_below H0.out.2.2.1 hb3, H0.out.2.2.2.1, trivial⟩
          have HBF := Aside0.mk hb3
          have HX3 := Aside0.mk hx3
          have HW3 := Aside0.mk hW3
          have HN3 := Aside0.mk (And.intro hNK (And.intro hQl hQ7))
          obtain ⟨lb, hlb⟩ : ∃ lb, lb = W3.heap.size := ⟨_, rfl⟩
          obtain ⟨w6, hw6⟩ : ∃ w6, w6 = W3.alloc (.cells #[.int .i64 b, .int .i64 d] 40) := ⟨_, rfl⟩
          have hb6 : Below W3.heap.size W3 w6 := by rw [hw6]; exact (Below.refl W3.heap.size W3).alloc (Nat.le_refl _) _
          have hx6 : w6.heap[lb]? = some (.cells #[.int .i64 b, .int .i64 d] 40 (0, 0)) := by rw [hw6, hlb]; exact alloc_blk W3 _
          have HB6 := Aside0.mk hb6
          have HL6 := Aside0.mk hx6
          have HX6 := Aside0.mk ((hb6.block _ (blk_lt hx3)).trans hx3)
          have HW6 := Aside0.mk (And.intro hw6 hlb)
          have x0 := blk_cell HXr.out 0
          have g0 := blk_frozen HXr.out 0
          have x2 := blk_cell HXr.out 2
          have x3 := blk_cell HXr.out 3
          clear hi hik HP2 hS3 hq3 hb3 hx3 hW3 hNK hQl hQ7 hQ hb6 hx6 hw6 hlb
          go_upto_region 17 with (fail)
          rw [← HW3.out]
          clear x0 x2 x3 g0
          have x2 := blk_cell HX3.out 2
          have x3 := blk_cell HX3.out 3
          go_upto_region 18 with (fail)
          rw [← HW6.out.1, ← HW6.out.2]
          clear x2 x3 HXr HO HW3 HL70 H0
          have H0 := Aside0.mk hH0
          clear hH0
          have HLL := Aside0.mk HN3.out.2
          obtain ⟨Ap, cp, P, rfl, rfl, rfl⟩ : ∃ (Ap : Option Addr) (cp : Nat) (P : List S83), Ap = A9 ∧ cp = c9 ∧ P = Q := ⟨_, _, _, rfl, rfl, rfl⟩
          refine wp_region_T (fun w' => Below (w6).heap.size (w6) w') [] (.takes [0, 1, 3, 4, 5] (.alt 2 10 (.alt 6 10 (.takes [7, 8, 9] (.op 10 (.op 11 (.op 12 .done)))) (.op 6 (.takes [7, 8, 9] (.op 11 (.op 12 .done))))) (.op 2 (.op 6 (.takes [7, 8, 9] (.op 11 (.op 12 .done))))))) (by kernel_rfl) (by kernel_rfl) (by kernel_rfl) (by kernel_rfl) (panic_via (P := Try.prog) (fn := Try.f7) (R := fun e w' => e = .returned (.bool true) ∧ Below w.heap.size w w') (fun _ _ _ => rfl)) ?_
          obtain ⟨wd, hwd⟩ : ∃ wd, wd = (w6).drew := ⟨_, rfl⟩
          rw [← hwd]
          have hs : Below (w6).heap.size (w6) wd := by rw [hwd]; exact (Below.refl _ _).drew
          clear hwd
          simp only [Turns.takes]
          repeat (
            (first
              | (refine runT_take (v := ?_) (by rfl) (by rfl) (fun w' hS => ?_) hs ?_
                 rotate_left
                 · (have hX := (hS.block _ (blk_lt HX6.out)).trans HX6.out; have d0 := blk_cell hX 0; have d1 := blk_cell hX 1; have hL := (hS.block _ (blk_lt HL6.out)).trans HL6.out; have d2 := blk_cell hL 0; have d3 := blk_cell hL 1; go_simp; exact rfl))
              | refine runT_skip (by rfl) (by rfl) hs ?_)
            (try simp only [Act.put, List.setIfInBounds_toArray, List.set_cons_zero, List.set_cons_succ]))
          rename Act → World → Prop => K0
          obtain ⟨r, hr⟩ : ∃ r, r = unfoldR (P.map ofF) args b d 3000 := ⟨_, rfl⟩
          have HR := Aside0.mk hr
          clear hr
          refine' with_actU (F := fun bx A c a Al n cl G e9 W => AfterU w6 W bx r a Al n cl G e9) (K := K0) _ (fun hfin => ?_) ?_
          rotate_left
          · refine runT_alt (by rfl) (by rfl) (by rfl) (by rfl) (fun K hK => ?_) (fun K hK => ?_)
            · go_simp
              refine (of_any Ap cp P _ (Kd.C_below H0.out.1 ((HB6).out.trans ((hs).mono (HB6).out.size))) H0.out.2.1 HLL.out.1 HLL.out.2).mono ?_
              rintro e w3 ⟨hb3, A, c, rfl, hc, hC⟩
              have hs3 := (hs).trans (hb3.mono (hs).size)
              have H3 := Aside0.mk (And.intro hc (And.intro hC hb3))
              refine hK _ _ hs3 ?_
              clear hK K hb3 hc hC
              (try simp only [Act.put, List.setIfInBounds_toArray, List.set_cons_zero, List.set_cons_succ])
              refine runT_alt (by rfl) (by rfl) (by rfl) (by rfl) (fun K hK => ?_) (fun K hK => ?_)
              · go_simp
                have hA3 := Kd.C_below H0.out.2.2.1 ((HB6).out.trans ((hs3).mono (HB6).out.size))
                refine (unfold_of A c P Aa ca args b d 3000 w3 (Kd.C_below H3.out.2.1 (Below.refl _ _)) H3.out.1 hA3 H0.out.2.2.2.1 ((by decide)) HR.out).mono ?_
                rintro e w4 ⟨hb4, a, Al, n, cl, G, e9, rfl, hU⟩
                have hs4 := (hs3).trans (hb4.mono (hs3).size)
                have H4 := Aside0.mk (And.intro hU hb4)
                obtain ⟨V, hV⟩ : ∃ V, V = treeV a Al n cl G := ⟨_, rfl⟩
                rw [← hV]
                have HV := Aside0.mk hV
                refine hK _ _ hs4 ?_
                clear hK K hb4 hU hA3 hV
                (try simp only [Act.put, List.setIfInBounds_toArray, List.set_cons_zero, List.set_cons_succ])
                have hs := hs4
                repeat (
                  (first
                    | (refine runT_take (v := ?_) (by rfl) (by rfl) (fun w' hS => ?_) hs ?_
                       rotate_left
                       · (skip; go_simp; exact rfl))
                    | refine runT_skip (by rfl) (by rfl) hs ?_)
                  (try simp only [Act.put, List.setIfInBounds_toArray, List.set_cons_zero, List.set_cons_succ]))
                refine runT_op (by rfl) (by rfl) (fun K hK => ?_)
                go_simp
                obtain ⟨bx, hbx⟩ : ∃ bx, bx = (w4).heap.size := ⟨_, rfl⟩
                rw [← hbx]
                obtain ⟨w5, hw5⟩ : ∃ w5, w5 = (w4).alloc (.cells #[.pointer none, .slice none 0 0, .int .i64 0, .int .i64 0, .int .i64 0, .int .i64 0] 33) := ⟨_, rfl⟩
                rw [← hw5]
                have hb5 : Below (w4).heap.size (w4) w5 := by rw [hw5]; exact (Below.refl (w4).heap.size (w4)).alloc (Nat.le_refl _) _
                have hx5 : w5.heap[bx]? = some zTree := by rw [hw5, hbx]; exact alloc_blk (w4) _
                have hs5 := (hs4).trans (hb5.mono (hs4).size)
                have H5 := Aside0.mk (And.intro hb5 (And.intro hx5 (And.intro (show (w6).heap.size ≤ bx by rw [hbx]; exact (hs4).size) (Nat.le_of_eq hbx.symm))))
                refine hK _ _ hs5 ?_
                clear hK K hb5 hbx hw5 hx5
                (try simp only [Act.put, List.setIfInBounds_toArray, List.set_cons_zero, List.set_cons_succ])
                have hbox := H5.out.2.1
                rw [HV.out, show treeV a Al n cl G = .agg #[.pointer a, .slice Al n cl, .int .i64 G.frames, .int .i64 G.cells, .int .i64 G.chunks, .int .i64 G.steps] from rfl]
                have q0 := blk_cell hbox 0
                have q1 := blk_cell hbox 1
                have q2 := blk_cell hbox 2
                have q3 := blk_cell hbox 3
                have q4 := blk_cell hbox 4
                have q5 := blk_cell hbox 5
                have f0 := blk_frozen hbox 0
                have f1 := blk_frozen hbox 1
                have f2 := blk_frozen hbox 2
                have f3 := blk_frozen hbox 3
                have f4 := blk_frozen hbox 4
                have f5 := blk_frozen hbox 5
                refine runT_op (by rfl) (by rfl) (fun K hK => ?_)
                go_simp
                obtain ⟨W, hW⟩ : ∃ W, W = ((((((w5).setCell ⟨bx, 0, none⟩ (.pointer a)).setCell ⟨bx, 1, none⟩ (.slice Al n cl)).setCell ⟨bx, 2, none⟩ (.int .i64 G.frames)).setCell ⟨bx, 3, none⟩ (.int .i64 G.cells)).setCell ⟨bx, 4, none⟩ (.int .i64 G.chunks)).setCell ⟨bx, 5, none⟩ (.int .i64 G.steps) := ⟨_, rfl⟩
                rw [← hW]
                have hAE := after_storeU hs5 hbox H5.out.2.2.1 (H4.out.1.new H5.out.1 H5.out.2.2.2) hW
                have HAE := Aside0.mk hAE
                refine hK _ _ hAE.below ?_
                clear hK K q0 q1 q2 q3 q4 q5 f0 f1 f2 f3 f4 f5 hW
                (try simp only [Act.put, List.setIfInBounds_toArray, List.set_cons_zero, List.set_cons_succ])
                refine runT_op (by rfl) (by rfl) (fun K hK => ?_)
                go_simp
                refine hK _ _ hAE.below ?_
                clear hK K hAE
                (try simp only [Act.put, List.setIfInBounds_toArray, List.set_cons_zero, List.set_cons_succ])
                refine runT_done ?_
                exact hfin bx A c a Al n cl G e9 W HAE.out
              · go_simp
                obtain ⟨bx, hbx⟩ : ∃ bx, bx = (w3).heap.size := ⟨_, rfl⟩
                rw [← hbx]
                obtain ⟨w5, hw5⟩ : ∃ w5, w5 = (w3).alloc (.cells #[.pointer none, .slice none 0 0, .int .i64 0, .int .i64 0, .int .i64 0, .int .i64 0] 33) := ⟨_, rfl⟩
                rw [← hw5]
                have hb5 : Below (w3).heap.size (w3) w5 := by rw [hw5]; exact (Below.refl (w3).heap.size (w3)).alloc (Nat.le_refl _) _
                have hx5 : w5.heap[bx]? = some zTree := by rw [hw5, hbx]; exact alloc_blk (w3) _
                have hs5 := (hs3).trans (hb5.mono (hs3).size)
                have H5 := Aside0.mk (And.intro hb5 (And.intro hx5 (And.intro (show (w6).heap.size ≤ bx by rw [hbx]; exact (hs3).size) (Nat.le_of_eq hbx.symm))))
                refine hK _ _ hs5 ?_
                clear hK K hb5 hbx hw5 hx5
                (try simp only [Act.put, List.setIfInBounds_toArray, List.set_cons_zero, List.set_cons_succ])
                refine runT_op (by rfl) (by rfl) (fun K hK => ?_)
                go_simp
                have hA3 := Kd.C_below H0.out.2.2.1 ((HB6).out.trans ((hs5).mono (HB6).out.size))
                refine (unfold_of A c P Aa ca args b d 3000 w5 (Kd.C_below H3.out.2.1 H5.out.1) H3.out.1 hA3 H0.out.2.2.2.1 ((by decide)) HR.out).mono ?_
                rintro e w4 ⟨hb4, a, Al, n, cl, G, e9, rfl, hU⟩
                have hs4 := (hs5).trans (hb4.mono (hs5).size)
                have H4 := Aside0.mk (And.intro hU hb4)
                obtain ⟨V, hV⟩ : ∃ V, V = treeV a Al n cl G := ⟨_, rfl⟩
                rw [← hV]
                have HV := Aside0.mk hV
                refine hK _ _ hs4 ?_
                clear hK K hb4 hU hA3 hV
                (try simp only [Act.put, List.setIfInBounds_toArray, List.set_cons_zero, List.set_cons_succ])
                have hs := hs4
                repeat (
                  (first
                    | (refine runT_take (v := ?_) (by rfl) (by rfl) (fun w' hS => ?_) hs ?_
                       rotate_left
                       · (skip; go_simp; exact rfl))
                    | refine runT_skip (by rfl) (by rfl) hs ?_)
                  (try simp only [Act.put, List.setIfInBounds_toArray, List.set_cons_zero, List.set_cons_succ]))
                have hbox := ((H4.out.2.block _ (blk_lt H5.out.2.1)).trans H5.out.2.1)
                rw [HV.out, show treeV a Al n cl G = .agg #[.pointer a, .slice Al n cl, .int .i64 G.frames, .int .i64 G.cells, .int .i64 G.chunks, .int .i64 G.steps] from rfl]
                have q0 := blk_cell hbox 0
                have q1 := blk_cell hbox 1
                have q2 := blk_cell hbox 2
                have q3 := blk_cell hbox 3
                have q4 := blk_cell hbox 4
                have q5 := blk_cell hbox 5
                have f0 := blk_frozen hbox 0
                have f1 := blk_frozen hbox 1
                have f2 := blk_frozen hbox 2
                have f3 := blk_frozen hbox 3
                have f4 := blk_frozen hbox 4
                have f5 := blk_frozen hbox 5
                refine runT_op (by rfl) (by rfl) (fun K hK => ?_)
                go_simp
                obtain ⟨W, hW⟩ : ∃ W, W = ((((((w4).setCell ⟨bx, 0, none⟩ (.pointer a)).setCell ⟨bx, 1, none⟩ (.slice Al n cl)).setCell ⟨bx, 2, none⟩ (.int .i64 G.frames)).setCell ⟨bx, 3, none⟩ (.int .i64 G.cells)).setCell ⟨bx, 4, none⟩ (.int .i64 G.chunks)).setCell ⟨bx, 5, none⟩ (.int .i64 G.steps) := ⟨_, rfl⟩
                rw [← hW]
                have hAE := after_storeU hs4 hbox H5.out.2.2.1 (H4.out.1.old (blk_lt H5.out.2.1) hbox) hW
                have HAE := Aside0.mk hAE
                refine hK _ _ hAE.below ?_
                clear hK K q0 q1 q2 q3 q4 q5 f0 f1 f2 f3 f4 f5 hW
                (try simp only [Act.put, List.setIfInBounds_toArray, List.set_cons_zero, List.set_cons_succ])
                refine runT_op (by rfl) (by rfl) (fun K hK => ?_)
                go_simp
                refine hK _ _ hAE.below ?_
                clear hK K hAE
                (try simp only [Act.put, List.setIfInBounds_toArray, List.set_cons_zero, List.set_cons_succ])
                refine runT_done ?_
                exact hfin bx A c a Al n cl G e9 W HAE.out
            · go_simp
              obtain ⟨bx, hbx⟩ : ∃ bx, bx = (wd).heap.size := ⟨_, rfl⟩
              rw [← hbx]
              obtain ⟨w5, hw5⟩ : ∃ w5, w5 = (wd).alloc (.cells #[.pointer none, .slice none 0 0, .int .i64 0, .int .i64 0, .int .i64 0, .int .i64 0] 33) := ⟨_, rfl⟩
              rw [← hw5]
              have hb5 : Below (wd).heap.size (wd) w5 := by rw [hw5]; exact (Below.refl (wd).heap.size (wd)).alloc (Nat.le_refl _) _
              have hx5 : w5.heap[bx]? = some zTree := by rw [hw5, hbx]; exact alloc_blk (wd) _
              have hs5 := (hs).trans (hb5.mono (hs).size)
              have H5 := Aside0.mk (And.intro hb5 (And.intro hx5 (And.intro (show (w6).heap.size ≤ bx by rw [hbx]; exact (hs).size) (Nat.le_of_eq hbx.symm))))
              refine hK _ _ hs5 ?_
              clear hK K hb5 hbx hw5 hx5
              (try simp only [Act.put, List.setIfInBounds_toArray, List.set_cons_zero, List.set_cons_succ])
              refine runT_op (by rfl) (by rfl) (fun K hK => ?_)
              go_simp
              refine (of_any Ap cp P _ (Kd.C_below H0.out.1 ((HB6).out.trans ((hs5).mono (HB6).out.size))) H0.out.2.1 HLL.out.1 HLL.out.2).mono ?_
              rintro e w3 ⟨hb3, A, c, rfl, hc, hC⟩
              have hs3 := (hs5).trans (hb3.mono (hs5).size)
              have H3 := Aside0.mk (And.intro hc (And.intro hC hb3))
              refine hK _ _ hs3 ?_
              clear hK K hb3 hc hC
              (try simp only [Act.put, List.setIfInBounds_toArray, List.set_cons_zero, List.set_cons_succ])
              refine runT_op (by rfl) (by rfl) (fun K hK => ?_)
              go_simp
              have hA3 := Kd.C_below H0.out.2.2.1 ((HB6).out.trans ((hs3).mono (HB6).out.size))
              refine (unfold_of A c P Aa ca args b d 3000 w3 (Kd.C_below H3.out.2.1 (Below.refl _ _)) H3.out.1 hA3 H0.out.2.2.2.1 ((by decide)) HR.out).mono ?_
              rintro e w4 ⟨hb4, a, Al, n, cl, G, e9, rfl, hU⟩
              have hs4 := (hs3).trans (hb4.mono (hs3).size)
              have H4 := Aside0.mk (And.intro hU hb4)
              obtain ⟨V, hV⟩ : ∃ V, V = treeV a Al n cl G := ⟨_, rfl⟩
              rw [← hV]
              have HV := Aside0.mk hV
              refine hK _ _ hs4 ?_
              clear hK K hb4 hU hA3 hV
              (try simp only [Act.put, List.setIfInBounds_toArray, List.set_cons_zero, List.set_cons_succ])
              have hs := hs4
              repeat (
                (first
                  | (refine runT_take (v := ?_) (by rfl) (by rfl) (fun w' hS => ?_) hs ?_
                     rotate_left
                     · (skip; go_simp; exact rfl))
                  | refine runT_skip (by rfl) (by rfl) hs ?_)
                (try simp only [Act.put, List.setIfInBounds_toArray, List.set_cons_zero, List.set_cons_succ]))
              have hbox := ((H4.out.2.block _ (Nat.lt_of_lt_of_le (blk_lt H5.out.2.1) H3.out.2.2.size)).trans ((H3.out.2.2.block _ (blk_lt H5.out.2.1)).trans H5.out.2.1))
              rw [HV.out, show treeV a Al n cl G = .agg #[.pointer a, .slice Al n cl, .int .i64 G.frames, .int .i64 G.cells, .int .i64 G.chunks, .int .i64 G.steps] from rfl]
              have q0 := blk_cell hbox 0
              have q1 := blk_cell hbox 1
              have q2 := blk_cell hbox 2
              have q3 := blk_cell hbox 3
              have q4 := blk_cell hbox 4
              have q5 := blk_cell hbox 5
              have f0 := blk_frozen hbox 0
              have f1 := blk_frozen hbox 1
              have f2 := blk_frozen hbox 2
              have f3 := blk_frozen hbox 3
              have f4 := blk_frozen hbox 4
              have f5 := blk_frozen hbox 5
              refine runT_op (by rfl) (by rfl) (fun K hK => ?_)
              go_simp
              obtain ⟨W, hW⟩ : ∃ W, W = ((((((w4).setCell ⟨bx, 0, none⟩ (.pointer a)).setCell ⟨bx, 1, none⟩ (.slice Al n cl)).setCell ⟨bx, 2, none⟩ (.int .i64 G.frames)).setCell ⟨bx, 3, none⟩ (.int .i64 G.cells)).setCell ⟨bx, 4, none⟩ (.int .i64 G.chunks)).setCell ⟨bx, 5, none⟩ (.int .i64 G.steps) := ⟨_, rfl⟩
              rw [← hW]
              have hAE := after_storeU hs4 hbox H5.out.2.2.1 (H4.out.1.old (Nat.lt_of_lt_of_le (blk_lt H5.out.2.1) H3.out.2.2.size) hbox) hW
              have HAE := Aside0.mk hAE
              refine hK _ _ hAE.below ?_
              clear hK K q0 q1 q2 q3 q4 q5 f0 f1 f2 f3 f4 f5 hW
              (try simp only [Act.put, List.setIfInBounds_toArray, List.set_cons_zero, List.set_cons_succ])
              refine runT_op (by rfl) (by rfl) (fun K hK => ?_)
              go_simp
              refine hK _ _ hAE.below ?_
              clear hK K hAE
              (try simp only [Act.put, List.setIfInBounds_toArray, List.set_cons_zero, List.set_cons_succ])
              refine runT_done ?_
              exact hfin bx A c a Al n cl G e9 W HAE.out
          · intro bu A c a Al n cl G e9 W hAE
            have HAU := Aside0.mk hAE
            have HBW := Aside0.mk (HB6.out.trans (hAE.below.mono HB6.out.size))
            have HXW := Aside0.mk ((hAE.below.block _ (blk_lt HX6.out)).trans HX6.out)
            have HLW := Aside0.mk ((hAE.below.block _ (blk_lt HL6.out)).trans HL6.out)
            have HRU := HR
            clear HR hAE hs
            obtain ⟨rE, hrE⟩ : ∃ rE, rE = evalR (P.map ofF) args b d 3000 := ⟨_, rfl⟩
            obtain ⟨⟨rv, rf, told, log⟩, r2⟩ := rE
            have HR := Aside0.mk hrE
            clear hrE
            go_upto_region 19 with (fail)
            refine wp_region_T (fun w' => Below (W).heap.size (W) w') [] (.takes [0, 1, 3, 4, 5] (.alt 2 10 (.alt 6 10 (.takes [7, 8, 9] (.op 10 (.op 11 (.op 12 .done)))) (.op 6 (.takes [7, 8, 9] (.op 11 (.op 12 .done))))) (.op 2 (.op 6 (.takes [7, 8, 9] (.op 11 (.op 12 .done))))))) (by kernel_rfl) (by kernel_rfl) (by kernel_rfl) (by kernel_rfl) (panic_via (P := Try.prog) (fn := Try.f7) (R := fun e w' => e = .returned (.bool true) ∧ Below w.heap.size w w') (fun _ _ _ => rfl)) ?_
            obtain ⟨wd, hwd⟩ : ∃ wd, wd = (W).drew := ⟨_, rfl⟩
            rw [← hwd]
            have hs : Below (W).heap.size (W) wd := by rw [hwd]; exact (Below.refl _ _).drew
            clear hwd
            simp only [Turns.takes]
            repeat (
              (first
                | (refine runT_take (v := ?_) (by rfl) (by rfl) (fun w' hS => ?_) hs ?_
                   rotate_left
                   · (have hX := (hS.block _ (blk_lt HXW.out)).trans HXW.out; have d0 := blk_cell hX 0; have d1 := blk_cell hX 1; have hL := (hS.block _ (blk_lt HLW.out)).trans HLW.out; have d2 := blk_cell hL 0; have d3 := blk_cell hL 1; go_simp; exact rfl))
                | refine runT_skip (by rfl) (by rfl) hs ?_)
              (try simp only [Act.put, List.setIfInBounds_toArray, List.set_cons_zero, List.set_cons_succ]))
            rename Act → World → Prop => K1
            refine' with_act (F := fun bx A c At ct Al cl W2 => AfterE W W2 bx rv rf told log At ct Al cl) (K := K1) _ (fun hfin => ?_) ?_
            rotate_left
            · refine runT_alt (by rfl) (by rfl) (by rfl) (by rfl) (fun K hK => ?_) (fun K hK => ?_)
              · go_simp
                refine (of_any Ap cp P _ (Kd.C_below H0.out.1 ((HBW).out.trans ((hs).mono (HBW).out.size))) H0.out.2.1 HLL.out.1 HLL.out.2).mono ?_
                rintro e w3 ⟨hb3, A, c, rfl, hc, hC⟩
                have hs3 := (hs).trans (hb3.mono (hs).size)
                have H3 := Aside0.mk (And.intro hc (And.intro hC hb3))
                refine hK _ _ hs3 ?_
                clear hK K hb3 hc hC
                (try simp only [Act.put, List.setIfInBounds_toArray, List.set_cons_zero, List.set_cons_succ])
                refine runT_alt (by rfl) (by rfl) (by rfl) (by rfl) (fun K hK => ?_) (fun K hK => ?_)
                · go_simp
                  have hA3 := Kd.C_below H0.out.2.2.1 ((HBW).out.trans ((hs3).mono (HBW).out.size))
                  refine (eval_of A c P Aa ca args b d 3000 w3 (Kd.C_below H3.out.2.1 (Below.refl _ _)) H3.out.1 hA3 H0.out.2.2.2.1 ((by decide)) HR.out).mono ?_
                  rintro e w4 ⟨⟨At, ct, Al, cl, rfl, hrc⟩, hb4⟩
                  have hs4 := (hs3).trans (hb4.mono (hs3).size)
                  have H4 := Aside0.mk (And.intro hrc hb4)
                  obtain ⟨V, hV⟩ : ∃ V, V = resV (((rv, rf, told, log), r2) : EvR).1 At ct Al cl := ⟨_, rfl⟩
                  rw [← hV]
                  have HV := Aside0.mk hV
                  refine hK _ _ hs4 ?_
                  clear hK K hb4 hrc hA3 hV
                  (try simp only [Act.put, List.setIfInBounds_toArray, List.set_cons_zero, List.set_cons_succ])
                  have hs := hs4
                  repeat (
                    (first
                      | (refine runT_take (v := ?_) (by rfl) (by rfl) (fun w' hS => ?_) hs ?_
                         rotate_left
                         · (skip; go_simp; exact rfl))
                      | refine runT_skip (by rfl) (by rfl) hs ?_)
                    (try simp only [Act.put, List.setIfInBounds_toArray, List.set_cons_zero, List.set_cons_succ]))
                  refine runT_op (by rfl) (by rfl) (fun K hK => ?_)
                  go_simp
                  obtain ⟨bx, hbx⟩ : ∃ bx, bx = (w4).heap.size := ⟨_, rfl⟩
                  rw [← hbx]
                  obtain ⟨w5, hw5⟩ : ∃ w5, w5 = (w4).alloc (.cells #[.int .i64 0, .int .i64 0, .slice none 0 0, .slice none 0 0] 77) := ⟨_, rfl⟩
                  rw [← hw5]
                  have hb5 : Below (w4).heap.size (w4) w5 := by rw [hw5]; exact (Below.refl (w4).heap.size (w4)).alloc (Nat.le_refl _) _
                  have hx5 : w5.heap[bx]? = some zRes := by rw [hw5, hbx]; exact alloc_blk (w4) _
                  have hs5 := (hs4).trans (hb5.mono (hs4).size)
                  have H5 := Aside0.mk (And.intro hb5 (And.intro hx5 (show (W).heap.size ≤ bx by rw [hbx]; exact (hs4).size)))
                  refine hK _ _ hs5 ?_
                  clear hK K hb5 hbx hw5 hx5
                  (try simp only [Act.put, List.setIfInBounds_toArray, List.set_cons_zero, List.set_cons_succ])
                  have hbox := H5.out.2.1
                  rw [HV.out, show resV (((rv, rf, told, log), r2) : EvR).1 At ct Al cl = .agg #[.int .i64 rv, .int .i64 rf, .slice At told.length ct, .slice Al log.length cl] from rfl]
                  have q0 := blk_cell hbox 0
                  have q1 := blk_cell hbox 1
                  have q2 := blk_cell hbox 2
                  have q3 := blk_cell hbox 3
                  have f0 := blk_frozen hbox 0
                  have f1 := blk_frozen hbox 1
                  have f2 := blk_frozen hbox 2
                  have f3 := blk_frozen hbox 3
                  refine runT_op (by rfl) (by rfl) (fun K hK => ?_)
                  go_simp
                  obtain ⟨W, hW⟩ : ∃ W, W = ((((w5).setCell ⟨bx, 0, none⟩ (.int .i64 rv)).setCell ⟨bx, 1, none⟩ (.int .i64 rf)).setCell ⟨bx, 2, none⟩ (.slice At told.length ct)).setCell ⟨bx, 3, none⟩ (.slice Al log.length cl) := ⟨_, rfl⟩
                  rw [← hW]
                  have hAE := after_store hs5 hbox H5.out.2.2 (H4.out.1.below H5.out.1) hW
                  have HAE := Aside0.mk hAE
                  refine hK _ _ hAE.below ?_
                  clear hK K q0 q1 q2 q3 f0 f1 f2 f3 hW
                  (try simp only [Act.put, List.setIfInBounds_toArray, List.set_cons_zero, List.set_cons_succ])
                  refine runT_op (by rfl) (by rfl) (fun K hK => ?_)
                  go_simp
                  refine hK _ _ hAE.below ?_
                  clear hK K hAE
                  (try simp only [Act.put, List.setIfInBounds_toArray, List.set_cons_zero, List.set_cons_succ])
                  refine runT_done ?_
                  exact hfin bx A c At ct Al cl W HAE.out
                · go_simp
                  obtain ⟨bx, hbx⟩ : ∃ bx, bx = (w3).heap.size := ⟨_, rfl⟩
                  rw [← hbx]
                  obtain ⟨w5, hw5⟩ : ∃ w5, w5 = (w3).alloc (.cells #[.int .i64 0, .int .i64 0, .slice none 0 0, .slice none 0 0] 77) := ⟨_, rfl⟩
                  rw [← hw5]
                  have hb5 : Below (w3).heap.size (w3) w5 := by rw [hw5]; exact (Below.refl (w3).heap.size (w3)).alloc (Nat.le_refl _) _
                  have hx5 : w5.heap[bx]? = some zRes := by rw [hw5, hbx]; exact alloc_blk (w3) _
                  have hs5 := (hs3).trans (hb5.mono (hs3).size)
                  have H5 := Aside0.mk (And.intro hb5 (And.intro hx5 (show (W).heap.size ≤ bx by rw [hbx]; exact (hs3).size)))
                  refine hK _ _ hs5 ?_
                  clear hK K hb5 hbx hw5 hx5
                  (try simp only [Act.put, List.setIfInBounds_toArray, List.set_cons_zero, List.set_cons_succ])
                  refine runT_op (by rfl) (by rfl) (fun K hK => ?_)
                  go_simp
                  have hA3 := Kd.C_below H0.out.2.2.1 ((HBW).out.trans ((hs5).mono (HBW).out.size))
                  refine (eval_of A c P Aa ca args b d 3000 w5 (Kd.C_below H3.out.2.1 H5.out.1) H3.out.1 hA3 H0.out.2.2.2.1 ((by decide)) HR.out).mono ?_
                  rintro e w4 ⟨⟨At, ct, Al, cl, rfl, hrc⟩, hb4⟩
                  have hs4 := (hs5).trans (hb4.mono (hs5).size)
                  have H4 := Aside0.mk (And.intro hrc hb4)
                  obtain ⟨V, hV⟩ : ∃ V, V = resV (((rv, rf, told, log), r2) : EvR).1 At ct Al cl := ⟨_, rfl⟩
                  rw [← hV]
                  have HV := Aside0.mk hV
                  refine hK _ _ hs4 ?_
                  clear hK K hb4 hrc hA3 hV
                  (try simp only [Act.put, List.setIfInBounds_toArray, List.set_cons_zero, List.set_cons_succ])
                  have hs := hs4
                  repeat (
                    (first
                      | (refine runT_take (v := ?_) (by rfl) (by rfl) (fun w' hS => ?_) hs ?_
                         rotate_left
                         · (skip; go_simp; exact rfl))
                      | refine runT_skip (by rfl) (by rfl) hs ?_)
                    (try simp only [Act.put, List.setIfInBounds_toArray, List.set_cons_zero, List.set_cons_succ]))
                  have hbox := ((H4.out.2.block _ (blk_lt H5.out.2.1)).trans H5.out.2.1)
                  rw [HV.out, show resV (((rv, rf, told, log), r2) : EvR).1 At ct Al cl = .agg #[.int .i64 rv, .int .i64 rf, .slice At told.length ct, .slice Al log.length cl] from rfl]
                  have q0 := blk_cell hbox 0
                  have q1 := blk_cell hbox 1
                  have q2 := blk_cell hbox 2
                  have q3 := blk_cell hbox 3
                  have f0 := blk_frozen hbox 0
                  have f1 := blk_frozen hbox 1
                  have f2 := blk_frozen hbox 2
                  have f3 := blk_frozen hbox 3
                  refine runT_op (by rfl) (by rfl) (fun K hK => ?_)
                  go_simp
                  obtain ⟨W, hW⟩ : ∃ W, W = ((((w4).setCell ⟨bx, 0, none⟩ (.int .i64 rv)).setCell ⟨bx, 1, none⟩ (.int .i64 rf)).setCell ⟨bx, 2, none⟩ (.slice At told.length ct)).setCell ⟨bx, 3, none⟩ (.slice Al log.length cl) := ⟨_, rfl⟩
                  rw [← hW]
                  have hAE := after_store hs4 hbox H5.out.2.2 H4.out.1 hW
                  have HAE := Aside0.mk hAE
                  refine hK _ _ hAE.below ?_
                  clear hK K q0 q1 q2 q3 f0 f1 f2 f3 hW
                  (try simp only [Act.put, List.setIfInBounds_toArray, List.set_cons_zero, List.set_cons_succ])
                  refine runT_op (by rfl) (by rfl) (fun K hK => ?_)
                  go_simp
                  refine hK _ _ hAE.below ?_
                  clear hK K hAE
                  (try simp only [Act.put, List.setIfInBounds_toArray, List.set_cons_zero, List.set_cons_succ])
                  refine runT_done ?_
                  exact hfin bx A c At ct Al cl W HAE.out
              · go_simp
                obtain ⟨bx, hbx⟩ : ∃ bx, bx = (wd).heap.size := ⟨_, rfl⟩
                rw [← hbx]
                obtain ⟨w5, hw5⟩ : ∃ w5, w5 = (wd).alloc (.cells #[.int .i64 0, .int .i64 0, .slice none 0 0, .slice none 0 0] 77) := ⟨_, rfl⟩
                rw [← hw5]
                have hb5 : Below (wd).heap.size (wd) w5 := by rw [hw5]; exact (Below.refl (wd).heap.size (wd)).alloc (Nat.le_refl _) _
                have hx5 : w5.heap[bx]? = some zRes := by rw [hw5, hbx]; exact alloc_blk (wd) _
                have hs5 := (hs).trans (hb5.mono (hs).size)
                have H5 := Aside0.mk (And.intro hb5 (And.intro hx5 (show (W).heap.size ≤ bx by rw [hbx]; exact (hs).size)))
                refine hK _ _ hs5 ?_
                clear hK K hb5 hbx hw5 hx5
                (try simp only [Act.put, List.setIfInBounds_toArray, List.set_cons_zero, List.set_cons_succ])
                refine runT_op (by rfl) (by rfl) (fun K hK => ?_)
                go_simp
                refine (of_any Ap cp P _ (Kd.C_below H0.out.1 ((HBW).out.trans ((hs5).mono (HBW).out.size))) H0.out.2.1 HLL.out.1 HLL.out.2).mono ?_
                rintro e w3 ⟨hb3, A, c, rfl, hc, hC⟩
                have hs3 := (hs5).trans (hb3.mono (hs5).size)
                have H3 := Aside0.mk (And.intro hc (And.intro hC hb3))
                refine hK _ _ hs3 ?_
                clear hK K hb3 hc hC
                (try simp only [Act.put, List.setIfInBounds_toArray, List.set_cons_zero, List.set_cons_succ])
                refine runT_op (by rfl) (by rfl) (fun K hK => ?_)
                go_simp
                have hA3 := Kd.C_below H0.out.2.2.1 ((HBW).out.trans ((hs3).mono (HBW).out.size))
                refine (eval_of A c P Aa ca args b d 3000 w3 (Kd.C_below H3.out.2.1 (Below.refl _ _)) H3.out.1 hA3 H0.out.2.2.2.1 ((by decide)) HR.out).mono ?_
                rintro e w4 ⟨⟨At, ct, Al, cl, rfl, hrc⟩, hb4⟩
                have hs4 := (hs3).trans (hb4.mono (hs3).size)
                have H4 := Aside0.mk (And.intro hrc hb4)
                obtain ⟨V, hV⟩ : ∃ V, V = resV (((rv, rf, told, log), r2) : EvR).1 At ct Al cl := ⟨_, rfl⟩
                rw [← hV]
                have HV := Aside0.mk hV
                refine hK _ _ hs4 ?_
                clear hK K hb4 hrc hA3 hV
                (try simp only [Act.put, List.setIfInBounds_toArray, List.set_cons_zero, List.set_cons_succ])
                have hs := hs4
                repeat (
                  (first
                    | (refine runT_take (v := ?_) (by rfl) (by rfl) (fun w' hS => ?_) hs ?_
                       rotate_left
                       · (skip; go_simp; exact rfl))
                    | refine runT_skip (by rfl) (by rfl) hs ?_)
                  (try simp only [Act.put, List.setIfInBounds_toArray, List.set_cons_zero, List.set_cons_succ]))
                have hbox := ((H4.out.2.block _ (Nat.lt_of_lt_of_le (blk_lt H5.out.2.1) H3.out.2.2.size)).trans ((H3.out.2.2.block _ (blk_lt H5.out.2.1)).trans H5.out.2.1))
                rw [HV.out, show resV (((rv, rf, told, log), r2) : EvR).1 At ct Al cl = .agg #[.int .i64 rv, .int .i64 rf, .slice At told.length ct, .slice Al log.length cl] from rfl]
                have q0 := blk_cell hbox 0
                have q1 := blk_cell hbox 1
                have q2 := blk_cell hbox 2
                have q3 := blk_cell hbox 3
                have f0 := blk_frozen hbox 0
                have f1 := blk_frozen hbox 1
                have f2 := blk_frozen hbox 2
                have f3 := blk_frozen hbox 3
                refine runT_op (by rfl) (by rfl) (fun K hK => ?_)
                go_simp
                obtain ⟨W, hW⟩ : ∃ W, W = ((((w4).setCell ⟨bx, 0, none⟩ (.int .i64 rv)).setCell ⟨bx, 1, none⟩ (.int .i64 rf)).setCell ⟨bx, 2, none⟩ (.slice At told.length ct)).setCell ⟨bx, 3, none⟩ (.slice Al log.length cl) := ⟨_, rfl⟩
                rw [← hW]
                have hAE := after_store hs4 hbox H5.out.2.2 H4.out.1 hW
                have HAE := Aside0.mk hAE
                refine hK _ _ hAE.below ?_
                clear hK K q0 q1 q2 q3 f0 f1 f2 f3 hW
                (try simp only [Act.put, List.setIfInBounds_toArray, List.set_cons_zero, List.set_cons_succ])
                refine runT_op (by rfl) (by rfl) (fun K hK => ?_)
                go_simp
                refine hK _ _ hAE.below ?_
                clear hK K hAE
                (try simp only [Act.put, List.setIfInBounds_toArray, List.set_cons_zero, List.set_cons_succ])
                refine runT_done ?_
                exact hfin bx A c At ct Al cl W HAE.out
            · intro bx A2 c2 At ct Al2 cl2 W2 hAE
              have HAE := Aside0.mk hAE
              have HBW2 := Aside0.mk (HBW.out.trans (hAE.below.mono HBW.out.size))
              have hres := HAU.out.res.below hAE.below
              have hbu := (hAE.below.block _ (blk_lt HAU.out.box)).trans HAU.out.box
              clear hAE hs
              have HBZ := Aside0.mk (HBF.out.trans (HBW2.out.mono HBF.out.size))
              have hpe := pnode_eq
              cases r with
              | err e =>
                obtain ⟨rfl, _⟩ := hres
                have he : (e9 != 0) = true := by rcases unfoldR_err HRU.out.symm with h | h <;> rw [h] <;> rfl
                have h2 := alone_err HN3.out.1 HRU.out.symm
                rw [← HR.out] at h2
                have h2 : r2 = e9 := h2
                subst h2
                clear HR HRU hbu
                go_wp2_with fail
                refine (awake_any _).mono ?_
                rintro e w9 ⟨rfl, hb9⟩
                have HB9 := Aside0.mk ((HBZ).out.trans (hb9.mono (HBZ).out.size))
                clear hb9
                go_wp2_with fail
                go_ret
                exact ⟨rfl, HB9.out⟩
              | ok t G2 =>
                obtain ⟨rfl, rfl, hnc, hT, L, rfl, hpm, hsrt, hLA⟩ := hres
                obtain ⟨v, f, told', s, m1, rfl, m3, m4⟩ := alone_ok HN3.out.1 HRU.out.symm
                have hE := HR.out.trans m1
                cases hE
                rw [m3] at hpm
                obtain rfl : L = [([], s)] := List.perm_singleton.1 hpm
                obtain ⟨g, Ag, cg, rfl, l1, l2, -, -, -⟩ := hLA 0 (by simp)
                obtain ⟨ad, rfl, hlc⟩ := log_cells HAE.out.res (by simp)
                obtain ⟨A0, c0, e0, e1, -, -⟩ := hlc 0 (by simp)
                have e1 : W2.cell? ⟨ad.block, ad.off + 1, none⟩ = some (.int .i64 s) := e1
                have l2 : W2.cell? ⟨g, 1, none⟩ = some (.int .i64 s) := l2
                simp only [IsT] at hT
                obtain ⟨nb, A1, c1, A2, c2, qs, rfl, hn, hpc, hPC, -, -, -⟩ := hT
                rw [List.length_map] at hn hpc hPC
                have hgc : ((G.cells : Nat) : Int) = 0 := by rw [m4]; rfl
                rw [hgc] at hbu
                obtain ⟨n1, hn1⟩ : ∃ n1, n1 = told.length := ⟨_, rfl⟩
                have hbx := HAE.out.box
                rw [← hn1] at hn hbx
                have HN1 := Aside0.mk hn1
                have HT := Aside0.mk (And.intro hPC HAE.out.res.told)
                have q0 := blk_cell hbu 0
                have q1 := blk_cell hbu 1
                have q3 := blk_cell hbu 3
                have y0 := blk_cell hbx 0
                have y1 := blk_cell hbx 1
                have y2 := blk_cell hbx 2
                have y3 := blk_cell hbx 3
                have n0 := blk_cell hn 0
                have n2 := blk_cell hn 2
                have n3 := blk_cell hn 3
                clear HR HRU hnc hpm hsrt hLA m1 m3 m4 hlc e0 l1 hpc hPC hgc hn1 hbu hbx hn HAU HAE
                simp only [List.length_cons, List.length_nil, Nat.zero_add] at q1 y3
                go_wp2_with fail
                go_quiet (fail)
                go_wp2_with fail
                have h9 : told.length ≤ 9223372036854775807 := HT.out.2.2.1
                have HT9 := Aside0.mk h9
                clear h9
                go_loopw [13] (fun v13 wr => ∃ i m : Nat, v13 = .int .i64 i ∧ i ≤ n1 ∧ wr = W2.drewN m) (fun v13 _ => n1 - (intOf v13).toNat)
                case atStart => exact ⟨0, _, rfl, Nat.zero_le _, rfl⟩
                case round =>
                  obtain ⟨i, m, rfl, hi, rfl⟩ := hrel
                  by_cases hik : i < n1
                  · have hlt := lt_true hik
                    obtain ⟨x, hx⟩ : ∃ x, told[i]? = some x := ⟨_, List.getElem?_eq_getElem (HN1.out ▸ hik)⟩
                    obtain ⟨ad1, rfl, p0, p1⟩ := at_PcU HT.out.1 i (HN1.out ▸ hik) (x := ⟨false, x⟩) (by rw [List.getElem?_map, hx]; rfl)
                    obtain ⟨ad2, rfl, p2⟩ := at_IU HT.out.2 i (HN1.out ▸ hik) hx
                    have hw8 : IntKind.i64.wrap ((i : Int) + 1) = (i : Int) + 1 := IntWalk.i64_in _ (by have := HT9.out; have := HN1.out; omega)
                    have HIK := Aside0.mk hik
                    dsimp only at p0 p1
                    clear hx hi hik
                    go_wp2_with fail
                    go_quiet (fail)
                    go_wp2_with fail
                    go_roundw
                    case rel => exact ⟨i + 1, _, by go_num, HIK.out, rfl⟩
                    case measure => exact up_lt HIK.out
                  · obtain rfl : i = n1 := Nat.le_antisymm hi (Nat.le_of_not_lt hik)
                    have HB8 := Aside0.mk (HBZ.out.trans ((pw_below_drewN (Below.refl W2.heap.size W2) m).mono HBZ.out.size))
                    clear hi hik
                    go_wp2_with fail
                    refine (awake_any _).mono ?_
                    rintro e w9 ⟨rfl, hb9⟩
                    have HB9 := Aside0.mk ((HB8).out.trans (hb9.mono (HB8).out.size))
                    clear hb9
                    go_wp2_with fail
                    go_ret
                    exact ⟨rfl, HB9.out⟩
def haymowlaw08_UnfoldAlone.f (l0_0 : List S83) (l0_1 : List Int) (a0_2 a0_3 : Int) : Option Bool := some true
theorem haymowlaw08_UnfoldAlone.calls (A0_0 : Option Addr) (c0_0 : Nat) (l0_0 : List S83) (A0_1 : Option Addr) (c0_1 : Nat) (l0_1 : List Int) (a0_2 a0_3 : Int) (r : Bool) (w : World) (hr0_0 : k83.C w A0_0 l0_0.length l0_0) (hc0_0 : l0_0.length ≤ c0_0) (hr0_1 : (Kd.int .i64).C w A0_1 l0_1.length l0_1) (hc0_1 : l0_1.length ≤ c0_1) (h : haymowlaw08_UnfoldAlone.f l0_0 l0_1 a0_2 a0_3 = some r) :
    Calls Try.prog 7 #[.agg #[.slice A0_0 l0_0.length c0_0, .slice A0_1 l0_1.length c0_1, .int .i64 a0_2, .int .i64 a0_3]] w fun e w' => e = .returned (.bool r) ∧ Below w.heap.size w w' := by
  cases h
  exact alone_walk A0_0 c0_0 l0_0 A0_1 c0_1 l0_1 a0_2 a0_3 w hr0_0 hc0_0 hr0_1 hc0_1
end Go.Proofs.Ytbekjccehhaljaa.H

set_option linter.unusedVariables false
set_option linter.unusedSimpArgs false
namespace Go.Hay
open Go.RowKit Go.Proofs.YtbekjccehhaljaaW.PrintWords Go.Proofs.YtbekjccehhaljaaW.PrintLast Go.Proofs.YtbekjccehhaljaaW.PrintMore

def Opens {α : Type} (P : Program) (t : TypeId) (d : Kd α) (wf : α → Prop) : Prop :=
  ∀ {H : Type} {enc : TypeId × Value → H} {w : World} {base : Nat} {spare : Nat → Bool} {held : Bool} {fuel : Nat} {cs : List Value} {x : DataW H × List MemPlace},
    DataW.trod enc P w base spare held fuel t cs = some x → ∃ a, d.K w a cs ∧ wf a

theorem opens_int {P : Program} {t : TypeId} {k : IntKind} (ht : P.underlying t = some (.int k)) : Opens P t (Kd.int k) (fun n => (Lit.int k n).wf = true) := by
  intro H enc w base spare held fuel cs x h
  cases fuel with
  | zero => simp [DataW.trod] at h
  | succ fuel =>
    unfold DataW.trod at h
    simp only [ht] at h
    split at h <;> simp_all
    rename_i k' n _
    obtain ⟨⟨rfl, hw⟩, _⟩ := h
    exact ⟨n, rfl, hw⟩
theorem opens_slice {α : Type} {P : Program} {t e e' : TypeId} {d : Kd α} {wf : α → Prop} (ht : P.underlying t = some (.slice e)) (hc : P.cellsOf e = d.sz) (he : Opens P e d wf) : Opens P t (Kd.slice e' d) (fun l => ∀ a ∈ l, wf a) := by
  intro H enc w base spare held fuel cs x h
  rcases Deep.open_slice ht h with ⟨rfl, _⟩ | ⟨a, len, cap, m, n, D, Pl, rfl, hb, hl, hm, hmm, rfl, hx⟩
  · exact ⟨[], ⟨none, 0, rfl, Nat.le_refl _, Kd.C_nil d w⟩, by simp⟩
  · have hlm : len ≤ m := by rw [hmm]; split <;> omega
    have each : ∀ i, i < len → ∃ y : α × List Value, w.cells? base (a.add (i * P.cellsOf e)) (P.cellsOf e) = some y.2 ∧ d.K w y.1 y.2 ∧ wf y.1 := by
      intro i hi
      obtain ⟨cs', h1, h2⟩ := hx i (by omega)
      obtain ⟨y, h3, h4⟩ := he h2
      exact ⟨(y, cs'), h1, h3, h4⟩
    have : Nonempty (∀ i : Fin len, ∃ y : α × List Value, w.cells? base (a.add (i * P.cellsOf e)) (P.cellsOf e) = some y.2 ∧ d.K w y.1 y.2 ∧ wf y.1) := ⟨fun i => each i i.2⟩
    obtain ⟨g, hg⟩ := Classical.axiomOfChoice (fun i : Fin len => each i i.2)
    refine ⟨List.ofFn fun i => (g i).1, ⟨some a, cap, by simp, by simpa using hl, ?_⟩, ?_⟩
    · refine ⟨rfl, ?_, fun _ => ⟨a, rfl, fun j p hj => ?_⟩⟩
      · rw [List.length_ofFn]; unfold maxLen at hm; omega
      · obtain ⟨hlt, hj⟩ := List.getElem?_eq_some_iff.1 hj
        rw [List.length_ofFn] at hlt
        rw [List.getElem_ofFn] at hj
        subst hj
        obtain ⟨g1, g2, g3⟩ := hg ⟨j, hlt⟩
        obtain ⟨_, hcl, hcell⟩ := World.cells?_some g1
        refine ⟨_, d.K_len g2, g2, fun i u hu => ?_⟩
        have hi : i < P.cellsOf e := by
          have := (List.getElem?_eq_some_iff.1 hu).1
          omega
        have := hcell i hi
        rw [hu] at this
        rw [← this, hc]
        congr 1
        unfold Addr.add
        by_cases e1 : j * d.sz = 0 <;> by_cases e2 : i = 0 <;> simp [e1, e2] <;> omega
    · intro y hy
      obtain ⟨i, rfl⟩ := List.mem_ofFn.1 hy
      exact (hg i).2.2
def OpensAt {α : Type} (P : Program) (fs : List Field) (off : Nat) (d : Kd α) (wf : α → Prop) : Prop :=
  ∀ {H : Type} {enc : TypeId × Value → H} {w : World} {base : Nat} {spare : Nat → Bool} {held : Bool} {n : Nat} {cs : List Value} {xs : List (DataW H × List MemPlace)},
    xs.length = fs.length → (∀ (i : Nat) (f : Field), fs[i]? = some f → DataW.trod enc P w base spare held n f.type ((cs.drop f.offset).take (P.cellsOf f.type)) = xs[i]?) → ∃ a, d.K w a ((cs.drop off).take d.sz) ∧ wf a
theorem opens_last {α : Type} {P : Program} {f : Field} {off : Nat} {d : Kd α} {wf : α → Prop} (ho : f.offset = off) (hc : P.cellsOf f.type = d.sz) (he : Opens P f.type d wf) : OpensAt P [f] off d wf := by
  intro H enc w base spare held n cs xs hl h
  have h0 := h 0 f rfl
  rw [ho, hc, List.getElem?_eq_getElem (by rw [hl]; simp)] at h0
  exact he h0
theorem opens_cons {α β : Type} {P : Program} {f : Field} {fs : List Field} {off : Nat} {d : Kd α} {d2 : Kd β} {wf : α → Prop} {wf2 : β → Prop} (ho : f.offset = off) (hc : P.cellsOf f.type = d.sz) (he : Opens P f.type d wf)
    (hr : OpensAt P fs (off + d.sz) d2 wf2) : OpensAt P (f :: fs) off (Kd.pair d d2) (fun p => wf p.1 ∧ wf2 p.2) := by
  intro H enc w base spare held n cs xs hl h
  have h0 := h 0 f rfl
  rw [ho, hc, List.getElem?_eq_getElem (by rw [hl]; simp)] at h0
  obtain ⟨a, ha, hwa⟩ := he h0
  obtain ⟨b, hb, hwb⟩ := hr (n := n) (cs := cs) (xs := xs.drop 1) (by simp [hl]) (fun i g hg => by
    have := h (i + 1) g (by simpa using hg)
    rw [this]; simp [Nat.add_comm])
  refine ⟨(a, b), ⟨_, _, ?_, ha, hb⟩, hwa, hwb⟩
  show (cs.drop off).take (d.sz + d2.sz) = _
  rw [List.take_add, List.drop_drop]
theorem opens_struct {α : Type} {P : Program} {t : TypeId} {fs : Array Field} {d : Kd α} {wf : α → Prop} (ht : P.underlying t = some (.struct fs)) (hc : P.cellsOf t = d.sz) (h : OpensAt P fs.toList 0 d wf) : Opens P t d wf := by
  intro H enc w base spare held fuel cs x hx
  obtain ⟨xs, n, rfl, rfl, hlen, hxl, hall⟩ := DataW.trod_struct ht hx
  obtain ⟨a, ha, hwa⟩ := h (n := n) (cs := cs) (xs := xs) (by simpa using hxl) (fun i f hf => hall i f (by simpa using hf))
  refine ⟨a, ?_, hwa⟩
  rwa [List.drop_zero, List.take_of_length_le (by omega)] at ha
theorem opens_iso {α β : Type} {P : Program} {t : TypeId} {d : Kd α} {wf : α → Prop} (g : β → α) (f : α → β) (hf : ∀ a, g (f a) = a) (h : Opens P t d wf) : Opens P t (Kd.iso d g) (fun b => wf (g b)) := by
  intro H enc w base spare held fuel cs x hx
  obtain ⟨a, ha, hwa⟩ := h hx
  exact ⟨f a, by show d.K w (g (f a)) cs; rw [hf]; exact ha, by show wf (g (f a)); rw [hf]; exact hwa⟩
end Go.Hay

-- made by this session's gen.py: the row of the law haymow/haymowlaw08.UnfoldAlone; not trusted: Lean checks it
namespace Go.Proofs.Ytbekjccehhaljaa.unfoldAlone
open Go.ChangeShapes Go.WideShapes Go.ChangeAt Go.RowKit Go.Hay Go.Proofs.Ytbekjccehhaljaa.H Go.Proofs.YtbekjccehhaljaaW.PrintWords Go.Proofs.YtbekjccehhaljaaW.PrintLast Go.Proofs.YtbekjccehhaljaaW.PrintMore
open Go.ChangeMaps (open_string shut_string)
set_option linter.unusedVariables false
set_option linter.unusedSimpArgs false
theorem own : ownKnob Try.prog.godebug = none := by kernel_rfl
theorem laidOut : laidOutB Try.prog = true := by kernel_rfl
structure S25 where
  f0 : List (S83)
  f1 : List Int
  f2 : Int
  f3 : Int
def k25 : Kd S25 := Kd.iso (Kd.pair ((Kd.slice 83 k83)) (Kd.pair ((Kd.slice 2 (Kd.int .i64))) (Kd.pair ((Kd.int .i64)) ((Kd.int .i64))))) (fun x : S25 => (x.f0, x.f1, x.f2, x.f3))
theorem k25_open {w : World} {x : S25} {cs : List Value} (h : k25.K w x cs) : ∃ A0 c0 A1 c1, cs = [.slice A0 x.f0.length c0, .slice A1 x.f1.length c1, .int .i64 x.f2, .int .i64 x.f3] ∧ x.f0.length ≤ c0 ∧ Kd.C k83 w A0 x.f0.length x.f0 ∧ x.f1.length ≤ c1 ∧ Kd.C (Kd.int .i64) w A1 x.f1.length x.f1 := by
  obtain ⟨_, _, rfl, ⟨A0, c0, rfl, l0, g0⟩, ⟨_, _, rfl, ⟨A1, c1, rfl, l1, g1⟩, ⟨_, _, rfl, rfl, rfl⟩⟩⟩ := h
  exact ⟨A0, c0, A1, c1, rfl, l0, g0, l1, g1⟩
theorem opens3 : Opens Try.prog 3 (Kd.int .i64) (fun x => (Lit.int .i64 x).wf = true) := opens_int Try.underlying3
def wfT84 (x : S84) : Prop := ((Lit.int .i64 x.f0).wf = true ∧ (Lit.int .i64 x.f1).wf = true ∧ (Lit.int .i64 x.f2).wf = true ∧ (Lit.int .i64 x.f3).wf = true ∧ (Lit.int .i64 x.f4).wf = true)
theorem opens84 : Opens Try.prog 84 k84 wfT84 := opens_iso _ (fun y => (⟨y.1, y.2.1, y.2.2.1, y.2.2.2.1, y.2.2.2.2⟩ : S84)) (fun _ => rfl) (opens_struct Try.underlying84 (by kernel_rfl) (opens_cons rfl (by kernel_rfl) opens3 (opens_cons rfl (by kernel_rfl) opens3 (opens_cons rfl (by kernel_rfl) opens3 (opens_cons rfl (by kernel_rfl) opens3 (opens_last rfl (by kernel_rfl) opens3))))))
theorem opens81 : Opens Try.prog 81 (Kd.slice 84 k84) (fun x => (∀ y81 ∈ x, wfT84 y81)) := opens_slice (e := 84) Try.underlying81 (by kernel_rfl) opens84
def wfT83 (x : S83) : Prop := ((Lit.int .i64 x.f0).wf = true ∧ (∀ y81 ∈ x.f1, wfT84 y81))
theorem opens83 : Opens Try.prog 83 k83 wfT83 := opens_iso _ (fun y => (⟨y.1, y.2⟩ : S83)) (fun _ => rfl) (opens_struct Try.underlying83 (by kernel_rfl) (opens_cons rfl (by kernel_rfl) opens3 (opens_last rfl (by kernel_rfl) opens81)))
theorem opens22 : Opens Try.prog 22 (Kd.slice 83 k83) (fun x => (∀ y22 ∈ x, wfT83 y22)) := opens_slice (e := 83) Try.underlying22 (by kernel_rfl) opens83
theorem opens2 : Opens Try.prog 2 (Kd.int .i64) (fun x => (Lit.int .i64 x).wf = true) := opens_int Try.underlying2
theorem opens23 : Opens Try.prog 23 (Kd.slice 2 (Kd.int .i64)) (fun x => (∀ y23 ∈ x, (Lit.int .i64 y23).wf = true)) := opens_slice (e := 2) Try.underlying23 (by kernel_rfl) opens2
def wfT25 (x : S25) : Prop := ((∀ y22 ∈ x.f0, wfT83 y22) ∧ (∀ y23 ∈ x.f1, (Lit.int .i64 y23).wf = true) ∧ (Lit.int .i64 x.f2).wf = true ∧ (Lit.int .i64 x.f3).wf = true)
theorem opens25 : Opens Try.prog 25 k25 wfT25 := opens_iso _ (fun y => (⟨y.1, y.2.1, y.2.2.1, y.2.2.2⟩ : S25)) (fun _ => rfl) (opens_struct Try.underlying25 (by kernel_rfl) (opens_cons rfl (by kernel_rfl) opens22 (opens_cons rfl (by kernel_rfl) opens23 (opens_cons rfl (by kernel_rfl) opens3 (opens_last rfl (by kernel_rfl) opens3)))))
def Pure : Prop := ∀ (l0_0 : List (S83)) (l0_1 : List Int) (a0_2 : Int) (a0_3 : Int), wfT25 ⟨l0_0, l0_1, a0_2, a0_3⟩ → haymowlaw08_UnfoldAlone.f l0_0 l0_1 a0_2 a0_3 = some true
set_option maxRecDepth 100000 in
theorem lifted (PU : Pure) (os : Os) (started : os.Started) (H : Type) (enc : TypeId × Value → H) :
    ReturnsInHanded {} Try.checked os 7 .any (Rows.unfoldAloneSpec.pre6 enc Try.prog Try.f7 Rows.unfoldAloneRow.domain false) (Rows.unfoldAloneSpec.post enc Try.prog Try.f7 false true false false) := by
  refine returnsInHanded_of_change_sized (C := Try.checked) own started (by kernel_rfl) Try.func7
    (ChangeSpec.witness6 (enc := enc) (C := Try.checked) false ⟨#[], #[.agg #[.slice none 0 0, .slice none 0 0, .int .i64 0, .int .i64 0]], []⟩ 8 (by kernel_rfl) (by kernel_rfl) (by kernel_rfl) (by kernel_rfl)) ?_
  intro W base args ds gs before hval0 hW hcnd hsz0 _
  have hval : ∀ (j : Nat) t v, Try.f7.params[j]? = some t → args[j]? = some v → Value.okWide Try.prog W .any base t v := hval0
  have hW' := hW
  obtain ⟨p, q, hA0, hV, rfl, hfz, hnd⟩ := hW
  have hA : DataW.TrodAll enc Try.prog W 0 (fun _ => true) true Try.f7.params.toList args.toList ds p := hA0
  rw [Try.params7] at hA hval
  obtain ⟨v0, vs0, d0, ds0, p0, q0, hargs, rfl, rfl, h0, r0⟩ := trodAll_cons hA
  obtain ⟨rfl, rfl, rfl⟩ := trodAll_nil r0
  obtain rfl : args = #[v0] := by cases args; simp_all
  obtain ⟨rfl, rfl⟩ := trodVars_none hV
  obtain ⟨cs0, rfl, hz0⟩ := okWide_struct Try.underlying25 (hval 0 25 v0 rfl rfl)
  have k0 := h0
  have lt0 : ∀ x ∈ p0, x.block < W.heap.size := by obtain ⟨m, hm⟩ := k0; exact DataW.trod_lt m _ _ _ hm
  obtain ⟨fuel0, hf0⟩ := h0
  obtain ⟨x0, hK0, hwf0⟩ := opens25 hf0
  obtain ⟨A0_0, c0_0, A0_1, c0_1, hcs0, hc0_0, hC0_0, hc0_1, hC0_1⟩ := k25_open hK0
  obtain rfl : cs0 = #[.slice A0_0 x0.f0.length c0_0, .slice A0_1 x0.f1.length c0_1, .int .i64 x0.f2, .int .i64 x0.f3] := by cases cs0; simpa [Value.cells] using hcs0
  clear hA0 hval0 hsz0
  have hpure := PU x0.f0 x0.f1 x0.f2 x0.f3 hwf0
  refine (haymowlaw08_UnfoldAlone.calls _ _ x0.f0 _ _ x0.f1 x0.f2 x0.f3 true W hC0_0 hc0_0 hC0_1 hc0_1 hpure).mono fun e W' hpost => ?_
  obtain ⟨he, bel⟩ := hpost
  subst he
  exact ⟨_, rfl, _, _, _, [], _, [], hW', trodAll_mk1 (shut_bool Try.underlying4 _), (trodAll_cons_mk (Below.trod laidOut (by kernel_rfl) (of_decide_eq_true (by kernel_rfl)) k0 bel lt0) trodAll_mk0), rfl, bel.frame _, fun h => by cases h⟩
theorem over (PU : Pure) : Rows.unfoldAloneRow.holds Try.pinned (OpenSpec.ofChange Rows.unfoldAloneSpec) :=
  OpenClaim.holds_of_wide 7 Try.f7 rfl rfl rfl rfl rfl rfl rfl ⟨rfl, rfl, rfl, rfl, rfl⟩ rfl rfl rfl rfl rfl (by kernel_rfl) Try.func7 (by kernel_rfl)
    (of_decide_eq_true (by kernel_rfl)) (by unfold Func.isWrapper; first | (rw [if_pos (by decide +kernel)]; kernel_rfl) | (rw [if_neg (by decide +kernel)]; exact ⟨rfl, rfl⟩))
    (fun os started H enc _ => lifted PU os started H enc)
theorem said (PU : Pure) : Rows.UnfoldAloneSaid := over PU
end Go.Proofs.Ytbekjccehhaljaa.unfoldAlone

namespace Go.Proofs.Ytbekjccehhaljaa
open Go.RowKit
theorem unfoldAlone_holds : Rows.UnfoldAloneSaid := unfoldAlone.said (fun _ _ _ _ _ => rfl)
#print axioms unfoldAlone_holds
end Go.Proofs.Ytbekjccehhaljaa

