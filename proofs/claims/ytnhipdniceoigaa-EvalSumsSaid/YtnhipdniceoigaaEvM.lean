/- An evaluation in memory: the whole, a task. -/
import Derived.Test.YtnhipdniceoigaaEvP
import Derived.Test.YtnhipdniceoigaaRoomW
set_option linter.unusedVariables false
set_option linter.unusedSimpArgs false
namespace Go.Proofs.Ytnhipdniceoigaa.H
open Go.RowKit Go.Hay Go.Proofs.YtnhipdniceoigaaW.PrintWords Go.Proofs.YtnhipdniceoigaaW.PrintLast Go.Proofs.YtnhipdniceoigaaW.PrintMore
/-- rows whose elements lead nowhere. -/
theorem R_flat {α : Type} {d : Kd α} (hf : ∀ {w w1 : World} {base : Nat} {ok ok' : Nat → Prop} {x : α} {cs : List Value}, d.M w base ok x cs → d.M w1 base ok' x cs) {e base : Nat} {w w1 : World} {ok ok' : Nat → Prop} {v : Value} {xs : List α} (h : d.R e w base ok v xs) (ho : ∀ b, v.ownBlock = some b → ok' b) (hag : ∀ b, v.ownBlock = some b → w1.heap[b]? = w.heap[b]?) : d.R e w1 base ok' v xs := by
  obtain ⟨_, inner, ⟨h1, h2⟩, h3, h4⟩ := h
  refine ⟨ho, inner, ⟨h1, ?_⟩, h3, fun j p hj => hf (h4 j p hj)⟩
  rcases h2 with h2 | ⟨g, cap, cur, rfl, q2, q3, q4⟩
  · exact .inl h2
  · exact .inr ⟨g, cap, cur, rfl, q2, (hag g rfl).trans q3, q4⟩
theorem R_own {α : Type} {d : Kd α} {e base : Nat} {w : World} {ok : Nat → Prop} {v : Value} {xs : List α} (h : d.R e w base ok v xs) : ∀ b, v.ownBlock = some b → ok b ∧ base ≤ b ∧ b < w.heap.size :=
  fun b hb => ⟨h.1 b hb, Kd.R_base h b hb, Kd.R_lt h b hb⟩
/-- a path's row: written once. -/
def PathAt (w : World) (A : Option Addr) (path : List Int) : Prop :=
  (path = [] ∧ A = none) ∨ ∃ q cs, A = some ⟨q, 0, none⟩ ∧ w.heap[q]? = some (.cells cs 3 (0, 0)) ∧ cs.toList.take path.length = path.map (Value.int .i64)
theorem PathAt.nil (w : World) : PathAt w none [] := .inl ⟨rfl, rfl⟩
theorem PathAt.keep {w w1 : World} {A : Option Addr} {path : List Int} {S : Nat → Prop} (h : PathAt w A path) (hk : Keep S w w1) (hS : ∀ q cs, w.heap[q]? = some (.cells cs 3 (0, 0)) → ¬ S q) : PathAt w1 A path := by
  rcases h with h | ⟨q, cs, h1, h2, h3⟩
  · exact .inl h
  · exact .inr ⟨q, cs, h1, hk.blk h2 (hS q cs h2), h3⟩
theorem PathAt.below {w w1 : World} {A : Option Addr} {path : List Int} (h : PathAt w A path) (hb : Below w.heap.size w w1) : PathAt w1 A path :=
  h.keep (Keep.of_below hb (fun _ => False)) (fun _ _ _ => id)
theorem PathAt.C {w : World} {A : Option Addr} {path : List Int} (h : PathAt w A path) (hl : path.length ≤ 1000) : (Kd.int .i64).C w A path.length path := by
  rcases h with ⟨rfl, rfl⟩ | ⟨q, cs, rfl, h2, h3⟩
  · exact Kd.C_nil _ _
  · refine ⟨rfl, by omega, fun _ => ⟨_, rfl, fun j p hj => ⟨[.int .i64 p], rfl, rfl, fun i u hu => ?_⟩⟩⟩
    have hlt := (List.getElem?_eq_some_iff.1 hj).1
    match i, hu with
    | 0, hu =>
      cases hu
      rw [add_plain, blk_cell h2]
      have e : (cs.toList.take path.length)[j]? = some (.int .i64 p) := by rw [h3, List.getElem?_map, hj]; rfl
      rw [List.getElem?_take_of_lt hlt] at e
      have e2 : j * (Kd.int .i64).sz + 0 = j := Nat.mul_one j
      rw [e2]
      simpa using e
/-- an entry of the log. -/
structure Ent where
  A : Option Addr
  n : Nat
  c : Nat
  s : Int
def kEnt : Kd Ent := Kd.iso (Kd.pair (Kd.scalar (fun p : Option Addr × Nat × Nat => .slice p.1 p.2.1 p.2.2) (fun _ => rfl)) (Kd.int .i64)) (fun x : Ent => ((x.A, x.n, x.c), x.s))
theorem kEnt_open {w : World} {x : Ent} {cs : List Value} (h : kEnt.K w x cs) : cs = [.slice x.A x.n x.c, .int .i64 x.s] := by
  obtain ⟨_, _, rfl, rfl, rfl⟩ := h; rfl
theorem kEnt_openM {w : World} {base : Nat} {ok : Nat → Prop} {x : Ent} {cs : List Value} (h : kEnt.M w base ok x cs) : cs = [.slice x.A x.n x.c, .int .i64 x.s] := by
  obtain ⟨_, _, rfl, rfl, rfl⟩ := h; rfl
theorem kEnt_mkM (w : World) (base : Nat) (ok : Nat → Prop) (x : Ent) : kEnt.M w base ok x [.slice x.A x.n x.c, .int .i64 x.s] := ⟨_, _, rfl, rfl, rfl⟩
theorem kEnt_flat {w w1 : World} {base : Nat} {ok ok' : Nat → Prop} {x : Ent} {cs : List Value} (h : kEnt.M w base ok x cs) : kEnt.M w1 base ok' x cs := by rw [kEnt_openM h]; exact kEnt_mkM _ _ _ _
def kSt : Kd (Int × Int) := Kd.pair (Kd.int .i64) (Kd.int .i64)
theorem kSt_open {w : World} {x : Int × Int} {cs : List Value} (h : kSt.K w x cs) : cs = [.int .i64 x.1, .int .i64 x.2] := by
  obtain ⟨_, _, rfl, rfl, rfl⟩ := h; rfl
theorem kSt_openM {w : World} {base : Nat} {ok : Nat → Prop} {x : Int × Int} {cs : List Value} (h : kSt.M w base ok x cs) : cs = [.int .i64 x.1, .int .i64 x.2] := by
  obtain ⟨_, _, rfl, rfl, rfl⟩ := h; rfl
theorem kSt_mkM (w : World) (base : Nat) (ok : Nat → Prop) (x : Int × Int) : kSt.M w base ok x [.int .i64 x.1, .int .i64 x.2] := ⟨_, _, rfl, rfl, rfl⟩
theorem kSt_flat {w w1 : World} {base : Nat} {ok ok' : Nat → Prop} {x : Int × Int} {cs : List Value} (h : kSt.M w base ok x cs) : kSt.M w1 base ok' x cs := by rw [kSt_openM h]; exact kSt_mkM _ _ _ _
def EntsOk (w : World) (ents : List Ent) (log : List (List Int × Int)) : Prop :=
  ents.length = log.length ∧ ∀ j (h : j < ents.length) (h' : j < log.length), ents[j].s = log[j].2 ∧ ents[j].n = log[j].1.length ∧ ents[j].n ≤ ents[j].c ∧ log[j].1.length ≤ 1000 ∧ PathAt w ents[j].A log[j].1
structure EG (B wb : Nat) (Ap : Option Addr) (np cp : Nat) (budget depth : Int) (G : Gs) (ents : List Ent) (vt vl : Value) (w : World) : Prop where
  node : w.heap[wb]? = some (.cells #[.slice Ap np cp, .int .i64 budget, .int .i64 depth, .int .i64 G.left, .int .i64 0, .int .i64 0, vt, vl] 71 (0, 0))
  told : (Kd.int .i64).R 2 w B (fun _ => True) vt G.told
  log : kEnt.R 49 w B (fun _ => True) vl ents
  ok : EntsOk w ents G.log
  lo : B ≤ wb
def PG (wb : Nat) (vt vl : Value) (q : Nat) : Prop := q = wb ∨ vt.ownBlock = some q ∨ vl.ownBlock = some q
section
variable {B wb : Nat} {Ap : Option Addr} {np cp : Nat} {budget depth : Int} {G : Gs} {ents : List Ent} {vt vl : Value} {w w1 : World}
theorem EG.pB (h : EG B wb Ap np cp budget depth G ents vt vl w) : ∀ q, PG wb vt vl q → B ≤ q ∧ q < w.heap.size := by
  intro q hq
  rcases hq with rfl | hq | hq
  · exact ⟨h.lo, blk_lt h.node⟩
  · exact (nums_own h.told q hq).2
  · exact (R_own h.log q hq).2
/-- what is written bears other types than a path, a task, or what waits. -/
theorem EG.typed (h : EG B wb Ap np cp budget depth G ents vt vl w) : ∀ q, PG wb vt vl q → ∃ cs t, w.heap[q]? = some (.cells cs t (0, 0)) ∧ (t = 71 ∨ t = 2 ∨ t = 49) := by
  intro q hq
  rcases hq with rfl | hq | hq
  · exact ⟨_, _, h.node, .inl rfl⟩
  · obtain ⟨cs, h1⟩ := Kd.R_typed h.told q hq
    exact ⟨cs, _, h1, .inr (.inl rfl)⟩
  · obtain ⟨cs, h1⟩ := Kd.R_typed h.log q hq
    exact ⟨cs, _, h1, .inr (.inr rfl)⟩
theorem EG.not (h : EG B wb Ap np cp budget depth G ents vt vl w) {q t : Nat} {cs : Array Value} (hq : w.heap[q]? = some (.cells cs t (0, 0))) (ht : t ≠ 71 ∧ t ≠ 2 ∧ t ≠ 49) : ¬ PG wb vt vl q := by
  intro hp
  obtain ⟨cs', t', h1, h2⟩ := h.typed q hp
  rw [hq] at h1
  cases h1
  rcases h2 with e | e | e
  · exact ht.1 e
  · exact ht.2.1 e
  · exact ht.2.2 e
theorem EG.notPath (h : EG B wb Ap np cp budget depth G ents vt vl w) : ∀ q cs, w.heap[q]? = some (.cells cs 3 (0, 0)) → ¬ PG wb vt vl q := fun q cs hq => h.not hq (by decide)
theorem EntsOk.keep {w w1 : World} {ents : List Ent} {log : List (List Int × Int)} {S : Nat → Prop} (h : EntsOk w ents log) (hk : Keep S w w1) (hS : ∀ q cs, w.heap[q]? = some (.cells cs 3 (0, 0)) → ¬ S q) : EntsOk w1 ents log :=
  ⟨h.1, fun j h1 h2 => by obtain ⟨a, b, c, d, e⟩ := h.2 j h1 h2; exact ⟨a, b, c, d, e.keep hk hS⟩⟩
/-- where nothing of it is written, it stays. -/
theorem EG.keep {S : Nat → Prop} (h : EG B wb Ap np cp budget depth G ents vt vl w) (hk : Keep S w w1) (hS : ∀ q, PG wb vt vl q → ¬ S q) (hP : ∀ q cs, w.heap[q]? = some (.cells cs 3 (0, 0)) → ¬ S q) : EG B wb Ap np cp budget depth G ents vt vl w1 :=
  ⟨hk.blk h.node (hS wb (.inl rfl)), nums_flat h.told (fun _ _ => trivial) (fun q hq => hk.block q (nums_own h.told q hq).2.2 (hS q (.inr (.inl hq)))), R_flat kEnt_flat h.log (fun _ _ => trivial) (fun q hq => hk.block q (R_own h.log q hq).2.2 (hS q (.inr (.inr hq)))), h.ok.keep hk hP, h.lo⟩
theorem EG.below (h : EG B wb Ap np cp budget depth G ents vt vl w) (hb : Below w.heap.size w w1) : EG B wb Ap np cp budget depth G ents vt vl w1 :=
  h.keep (Keep.of_below hb (fun _ => False)) (fun _ _ => id) (fun _ _ _ => id)
theorem EG.ne1 (h : EG B wb Ap np cp budget depth G ents vt vl w) : ∀ q, vt.ownBlock = some q → q ≠ wb := by
  intro q hq e
  obtain ⟨cs, h1⟩ := Kd.R_typed h.told q hq
  rw [e, h.node] at h1; cases h1
theorem EG.ne2 (h : EG B wb Ap np cp budget depth G ents vt vl w) : ∀ q, vl.ownBlock = some q → q ≠ wb := by
  intro q hq e
  obtain ⟨cs, h1⟩ := Kd.R_typed h.log q hq
  rw [e, h.node] at h1; cases h1
theorem EG.ne12 (h : EG B wb Ap np cp budget depth G ents vt vl w) : ∀ q, vt.ownBlock = some q → vl.ownBlock ≠ some q := by
  intro q hq e
  obtain ⟨cs, h1⟩ := Kd.R_typed h.told q hq
  obtain ⟨cs2, h2⟩ := Kd.R_typed h.log q e
  rw [h1] at h2; cases h2
/-- one instruction less. -/
theorem EG.setLeft (h : EG B wb Ap np cp budget depth G ents vt vl w) (n : Nat) (x : Int) (hx : x = n) : EG B wb Ap np cp budget depth { G with left := n } ents vt vl (w.setCell ⟨wb, 3, none⟩ (.int .i64 x)) := by
  subst hx
  have hs : ∀ q, q ≠ wb → (w.setCell ⟨wb, 3, none⟩ (.int .i64 n)).heap[q]? = w.heap[q]? := fun q hq => Below.heap_setCell w ⟨wb, 3, none⟩ _ q hq
  have hk : Keep (PG wb vt vl) w (w.setCell ⟨wb, 3, none⟩ (.int .i64 n)) := (Keep.refl _ _).set (.inr (.inl rfl)) _
  exact ⟨blk_set h.node 3 _, nums_flat h.told (fun _ _ => trivial) (fun q hq => hs q (h.ne1 q hq)), R_flat kEnt_flat h.log (fun _ _ => trivial) (fun q hq => hs q (h.ne2 q hq)), h.ok.keep hk h.notPath, h.lo⟩
theorem ent_at {e B g n cap : Nat} {ok : Nat → Prop} {W : World} {xs : List Ent} (h : kEnt.R e W B ok (.slice (some ⟨g, 0, none⟩) n cap) xs) {i : Nat} (hi : i < xs.length) : W.cell? ⟨g, i * 2, none⟩ = some (.slice xs[i].A xs[i].n xs[i].c) ∧ W.cell? ⟨g, i * 2 + 1, none⟩ = some (.int .i64 xs[i].s) ∧ W.frozen? ⟨g, i * 2, none⟩ = false ∧ W.frozen? ⟨g, i * 2 + 1, none⟩ = false := by
  have hq := Kd.R_reads' h
  obtain ⟨ad, e1, hc⟩ := hq.2.2.2.2 (by omega)
  cases e1
  obtain ⟨cs, h1, h2, h3⟩ := hc i _ (List.getElem?_eq_getElem hi)
  obtain rfl := kEnt_open h2
  have q0 := h3 0 _ rfl
  have q1 := h3 1 _ rfl
  rw [add_plain] at q0 q1
  obtain ⟨g', cp, hv, _, _, C, hC⟩ := Kd.R_form h (by omega)
  injection hv with hA _ _
  cases hA
  exact ⟨q0, q1, blk_frozen hC _, blk_frozen hC _⟩
theorem ent_set {e B g n cap : Nat} {ok : Nat → Prop} {W : World} {xs : List Ent} (h : kEnt.R e W B ok (.slice (some ⟨g, 0, none⟩) n cap) xs) {i : Nat} (hi : i < xs.length) (s : Int) :
    kEnt.R e (W.setCell ⟨g, i * 2 + 1, none⟩ (.int .i64 s)) B ok (.slice (some ⟨g, 0, none⟩) n cap) (xs.set i { xs[i] with s := s }) := by
  have hq := ent_at h hi
  have hn := (Kd.R_reads' h).1
  have := (Kd.R_seg h (i : Int) (by omega) (by omega) (c := [.slice xs[i].A xs[i].n xs[i].c, .int .i64 xs[i].s]) (seg := [.int .i64 s]) (j := 1) rfl (fun j u hj => by
    rw [Int.toNat_natCast]
    match j, hj with
    | 0, hj => cases hj; exact hq.1
    | 1, hj => cases hj; exact hq.2.1) (by show 1 + 1 ≤ 2; decide) (x' := { xs[i] with s := s }) (okp := fun _ => False) (kEnt_mkM _ _ _ { xs[i] with s := s }) (fun _ h => h.elim)).1
  rw [Int.toNat_natCast] at this
  exact this
/-- the log's row lies at the head of a block. -/
theorem EG.row (h : EG B wb Ap np cp budget depth G ents vt vl w) (hp : 0 < ents.length) : ∃ g c, vl = .slice (some ⟨g, 0, none⟩) ents.length c ∧ vl.ownBlock = some g := by
  obtain ⟨g, cp, hv, _⟩ := Kd.R_form h.log hp
  exact ⟨g, cp, hv, by rw [hv]; rfl⟩
theorem bump_len (log : List (List Int × Int)) (me : Nat) : (Proofs.Ytnhipdniceoigaa.H.bump log me).length = log.length := by unfold Proofs.Ytnhipdniceoigaa.H.bump; rw [List.length_set]
theorem bump_get {log : List (List Int × Int)} {me j : Nat} (hme : me < log.length) (hj : j < log.length) : (Proofs.Ytnhipdniceoigaa.H.bump log me)[j]'(by rw [bump_len]; exact hj) = if me = j then (log[me].1, log[me].2 + 1) else log[j] := by
  have hg : log.getD me ([], 0) = log[me] := by rw [List.getD_eq_getElem?_getD, List.getElem?_eq_getElem hme]; rfl
  have e : Proofs.Ytnhipdniceoigaa.H.bump log me = log.set me (log[me].1, log[me].2 + 1) := by unfold Proofs.Ytnhipdniceoigaa.H.bump; rw [hg]
  exact (List.getElem_of_eq e _).trans (List.getElem_set (by rw [List.length_set]; exact hj))
/-- an instruction is counted. -/
theorem EG.bump (h : EG B wb Ap np cp budget depth G ents vt vl w) {me g c : Nat} (hv : vl = .slice (some ⟨g, 0, none⟩) ents.length c) (hme : me < ents.length) (x : Int) (hx : x = (G.log.getD me ([], 0)).2 + 1) :
    ∃ ents', ents'.length = ents.length ∧ EG B wb Ap np cp budget depth { G with log := bump G.log me } ents' vt vl (w.setCell ⟨g, me * 2 + 1, none⟩ (.int .i64 x)) := by
  subst hv
  have hne : g ≠ wb := h.ne2 g rfl
  have hs : ∀ q, q ≠ g → (w.setCell ⟨g, me * 2 + 1, none⟩ (.int .i64 x)).heap[q]? = w.heap[q]? := fun q hq => Below.heap_setCell w ⟨g, me * 2 + 1, none⟩ _ q hq
  have hk : Keep (PG wb vt (.slice (some ⟨g, 0, none⟩) ents.length c)) w (w.setCell ⟨g, me * 2 + 1, none⟩ (.int .i64 x)) := (Keep.refl _ _).set (.inr (.inr (.inr rfl))) _
  have hle := h.ok.1
  have hme2 : me < G.log.length := by omega
  have hg : G.log.getD me ([], 0) = G.log[me] := by rw [List.getD_eq_getElem?_getD, List.getElem?_eq_getElem hme2]; rfl
  have hok : EntsOk (w.setCell ⟨g, me * 2 + 1, none⟩ (.int .i64 x)) (ents.set me { ents[me] with s := x }) (Proofs.Ytnhipdniceoigaa.H.bump G.log me) := by
    refine ⟨by rw [List.length_set, bump_len]; exact hle, fun j h1 h2 => ?_⟩
    have h1' : j < ents.length := by rwa [List.length_set] at h1
    have h2' : j < G.log.length := by rwa [bump_len] at h2
    obtain ⟨a, b, c1, d, e⟩ := h.ok.2 j h1' h2'
    have e' := e.keep hk h.notPath
    rw [bump_get hme2 h2', List.getElem_set]
    by_cases ej : me = j
    · subst ej
      rw [if_pos rfl, if_pos rfl]
      exact ⟨by rw [hx, hg], b, c1, d, e'⟩
    · rw [if_neg ej, if_neg ej]
      exact ⟨a, b, c1, d, e'⟩
  exact ⟨ents.set me { ents[me] with s := x }, List.length_set .., ⟨(hs wb (Ne.symm hne)).trans h.node, nums_flat h.told (fun _ _ => trivial) (fun q hq => hs q (fun e => h.ne12 q hq (by rw [e]; rfl))), ent_set h.log hme x, hok, h.lo⟩⟩
/-- a number more is told. -/
theorem EG.tell (h : EG B wb Ap np cp budget depth G ents vt vl w) {W w9 : World} {y : Int} {v9 : Value} (hW : Below w.heap.size w W) (hR : (Kd.int .i64).R 2 w9 B (fun _ => True) v9 (G.told ++ [y])) (hg : W.grownBy w9 vt.ownBlock) (hat : v9.ownBlock = vt.ownBlock ∨ ∃ q, v9.ownBlock = some q ∧ W.heap.size ≤ q) :
    EG B wb Ap np cp budget depth { G with told := G.told ++ [y] } ents v9 vl (w9.setCell ⟨wb, 6, none⟩ v9) ∧ Keep (PG wb vt vl) w (w9.setCell ⟨wb, 6, none⟩ v9) ∧ (∀ q, PG wb v9 vl q → PG wb vt vl q ∨ w.heap.size ≤ q) ∧ w9.heap[wb]? = w.heap[wb]? := by
  have hwb := blk_lt h.node
  have hk9 : Keep (PG wb vt vl) w w9 := (Keep.of_below hW _).trans ((Keep.grown hg).mono (fun k hk h2 => .inr (.inl h2.symm)))
  have hk : Keep (PG wb vt vl) w (w9.setCell ⟨wb, 6, none⟩ v9) := hk9.set (.inr (.inl rfl)) _
  have e1 : w9.heap[wb]? = w.heap[wb]? := (hg.block wb (Nat.lt_of_lt_of_le hwb hW.size) (fun e => h.ne1 wb e.symm rfl)).trans (hW.block wb hwb)
  have hs : ∀ q, q ≠ wb → (w9.setCell ⟨wb, 6, none⟩ v9).heap[q]? = w9.heap[q]? := fun q hq => Below.heap_setCell w9 ⟨wb, 6, none⟩ _ q hq
  have h9 : ∀ q, v9.ownBlock = some q → q ≠ wb ∧ (vt.ownBlock = some q ∨ w.heap.size ≤ q) := by
    intro q hq
    rcases hat with e | ⟨q', e, hq'⟩
    · rw [e] at hq; exact ⟨h.ne1 q hq, .inl hq⟩
    · rw [e] at hq; cases hq
      have := hW.size
      exact ⟨by omega, .inr (by omega)⟩
  refine ⟨⟨blk_set (e1.trans h.node) 6 v9, nums_flat hR (fun _ _ => trivial) (fun q hq => hs q (h9 q hq).1), R_flat kEnt_flat h.log (fun _ _ => trivial) (fun q hq => (hs q (h.ne2 q hq)).trans ((hg.block q (Nat.lt_of_lt_of_le (R_own h.log q hq).2.2 hW.size) (fun e => h.ne12 q e.symm hq)).trans (hW.block q (R_own h.log q hq).2.2))), h.ok.keep hk h.notPath, h.lo⟩, hk, fun q hq => ?_, e1⟩
  rcases hq with rfl | hq | hq
  · exact .inl (.inl rfl)
  · rcases (h9 q hq).2 with e | e
    · exact .inl (.inr (.inl e))
    · exact .inr e
  · exact .inl (.inr (.inr hq))
/-- a task more is noted. -/
theorem EG.note (h : EG B wb Ap np cp budget depth G ents vt vl w) {W w9 : World} {y : Ent} {path : List Int} {v9 : Value} (hW : Below w.heap.size w W) (hR : kEnt.R 49 w9 B (fun _ => True) v9 (ents ++ [y])) (hy : y.s = 0 ∧ y.n = path.length ∧ y.n ≤ y.c ∧ path.length ≤ 1000 ∧ PathAt w y.A path) (hg : W.grownBy w9 vl.ownBlock) (hat : v9.ownBlock = vl.ownBlock ∨ ∃ q, v9.ownBlock = some q ∧ W.heap.size ≤ q) :
    EG B wb Ap np cp budget depth { G with log := G.log ++ [(path, 0)] } (ents ++ [y]) vt v9 (w9.setCell ⟨wb, 7, none⟩ v9) ∧ Keep (PG wb vt vl) w (w9.setCell ⟨wb, 7, none⟩ v9) ∧ (∀ q, PG wb vt v9 q → PG wb vt vl q ∨ w.heap.size ≤ q) ∧ w9.heap[wb]? = w.heap[wb]? := by
  have hwb := blk_lt h.node
  have hk9 : Keep (PG wb vt vl) w w9 := (Keep.of_below hW _).trans ((Keep.grown hg).mono (fun k hk h2 => .inr (.inr h2.symm)))
  have hk : Keep (PG wb vt vl) w (w9.setCell ⟨wb, 7, none⟩ v9) := hk9.set (.inr (.inl rfl)) _
  have e1 : w9.heap[wb]? = w.heap[wb]? := (hg.block wb (Nat.lt_of_lt_of_le hwb hW.size) (fun e => h.ne2 wb e.symm rfl)).trans (hW.block wb hwb)
  have hs : ∀ q, q ≠ wb → (w9.setCell ⟨wb, 7, none⟩ v9).heap[q]? = w9.heap[q]? := fun q hq => Below.heap_setCell w9 ⟨wb, 7, none⟩ _ q hq
  have h9 : ∀ q, v9.ownBlock = some q → q ≠ wb ∧ (vl.ownBlock = some q ∨ w.heap.size ≤ q) := by
    intro q hq
    rcases hat with e | ⟨q', e, hq'⟩
    · rw [e] at hq; exact ⟨h.ne2 q hq, .inl hq⟩
    · rw [e] at hq; cases hq
      have := hW.size
      exact ⟨by omega, .inr (by omega)⟩
  have hok := h.ok.keep hk h.notPath
  refine ⟨⟨blk_set (e1.trans h.node) 7 v9, nums_flat h.told (fun _ _ => trivial) (fun q hq => (hs q (h.ne1 q hq)).trans ((hg.block q (Nat.lt_of_lt_of_le (nums_own h.told q hq).2.2 hW.size) (fun e => h.ne12 q hq e.symm)).trans (hW.block q (nums_own h.told q hq).2.2))), R_flat kEnt_flat hR (fun _ _ => trivial) (fun q hq => hs q (h9 q hq).1), ⟨by simp [hok.1], fun j h1 h2 => ?_⟩, h.lo⟩, hk, fun q hq => ?_, e1⟩
  · by_cases hj : j < ents.length
    · rw [List.getElem_append_left hj, List.getElem_append_left (by rw [← hok.1]; exact hj)]
      exact hok.2 j hj _
    · have hj2 : j = ents.length := by simp at h1; omega
      subst hj2
      rw [List.getElem_append_right (Nat.le_refl _), List.getElem_append_right (by rw [← hok.1]; exact Nat.le_refl _)]
      simp only [Nat.sub_self, hok.1, List.getElem_singleton]
      exact ⟨hy.1, hy.2.1, hy.2.2.1, hy.2.2.2.1, hy.2.2.2.2.keep hk h.notPath⟩
  · rcases hq with rfl | hq | hq
    · exact .inl (.inl rfl)
    · exact .inl (.inr (.inl hq))
    · rcases (h9 q hq).2 with e | e
      · exact .inl (.inr (.inr e))
      · exact .inr e
end
/-! ### a task -/
def hcells (hs : List (Bool × Int)) : List Value := hs.flatMap fun h => [.bool h.1, .int .i64 h.2]
def tcells (wb : Nat) (vp : Value) (T : Ts) (vw : Value) (me : Nat) : List Value :=
  [.pointer (some ⟨wb, 0, none⟩), vp] ++ (T.regs.map (Value.int .i64) ++ (hcells T.hands ++ [vw, .int .i64 T.kids, .int .i64 T.at_, .int .i64 me]))
structure TB (tb wb : Nat) (vp : Value) (T : Ts) (vw : Value) (me B : Nat) (w : World) : Prop where
  node : w.heap[tb]? = some (.cells (tcells wb vp T vw me).toArray 97 (0, 0))
  wait : kSt.R 122 w B (fun _ => True) vw T.wait
  rl : T.regs.length = 8
  hl : T.hands.length = 4
def PT (tb : Nat) (vw : Value) (q : Nat) : Prop := q = tb ∨ vw.ownBlock = some q
theorem eight {α : Type} {l : List α} (h : l.length = 8) : ∃ a b c d e f g i, l = [a, b, c, d, e, f, g, i] := by
  match l, h with
  | [a, b, c, d, e, f, g, i], _ => exact ⟨a, b, c, d, e, f, g, i, rfl⟩
theorem four {α : Type} {l : List α} (h : l.length = 4) : ∃ a b c d, l = [a, b, c, d] := by
  match l, h with
  | [a, b, c, d], _ => exact ⟨a, b, c, d, rfl⟩
section
variable {tb wb me B : Nat} {vp vw : Value} {T : Ts} {w w1 : World}
theorem TB.cells (h : TB tb wb vp T vw me B w) : ∃ r0 r1 r2 r3 r4 r5 r6 r7 h0 h1 h2 h3, T.regs = [r0, r1, r2, r3, r4, r5, r6, r7] ∧ T.hands = [h0, h1, h2, h3] ∧
    (tcells wb vp T vw me).toArray = #[.pointer (some ⟨wb, 0, none⟩), vp, .int .i64 r0, .int .i64 r1, .int .i64 r2, .int .i64 r3, .int .i64 r4, .int .i64 r5, .int .i64 r6, .int .i64 r7, .bool h0.1, .int .i64 h0.2, .bool h1.1, .int .i64 h1.2, .bool h2.1, .int .i64 h2.2, .bool h3.1, .int .i64 h3.2, vw, .int .i64 T.kids, .int .i64 T.at_, .int .i64 me] := by
  obtain ⟨r0, r1, r2, r3, r4, r5, r6, r7, hr⟩ := eight h.rl
  obtain ⟨h0, h1, h2, h3, hh⟩ := four h.hl
  refine ⟨r0, r1, r2, r3, r4, r5, r6, r7, h0, h1, h2, h3, hr, hh, ?_⟩
  unfold tcells
  rw [hr, hh]
  rfl
theorem TB.frozen (h : TB tb wb vp T vw me B w) (i : Nat) : w.frozen? ⟨tb, i, none⟩ = false := blk_frozen h.node i
theorem TB.fix (h : TB tb wb vp T vw me B w) : w.cell? ⟨tb, 0, none⟩ = some (.pointer (some ⟨wb, 0, none⟩)) ∧ w.cell? ⟨tb, 1, none⟩ = some vp ∧ w.cell? ⟨tb, 18, none⟩ = some vw ∧ w.cell? ⟨tb, 19, none⟩ = some (.int .i64 T.kids) ∧ w.cell? ⟨tb, 20, none⟩ = some (.int .i64 T.at_) ∧ w.cell? ⟨tb, 21, none⟩ = some (.int .i64 me) := by
  obtain ⟨r0, r1, r2, r3, r4, r5, r6, r7, h0, h1, h2, h3, hr, hh, hc⟩ := h.cells
  have hn := h.node
  rw [hc] at hn
  exact ⟨blk_cell hn 0, blk_cell hn 1, blk_cell hn 18, blk_cell hn 19, blk_cell hn 20, blk_cell hn 21⟩
theorem TB.reg (h : TB tb wb vp T vw me B w) (i : Nat) (hi : i < 8) : w.cell? ⟨tb, 2 + i, none⟩ = some (.int .i64 (T.regs.getD i 0)) := by
  obtain ⟨r0, r1, r2, r3, r4, r5, r6, r7, h0, h1, h2, h3, hr, hh, hc⟩ := h.cells
  have hn := h.node
  rw [hc] at hn
  rw [hr]
  have : i = 0 ∨ i = 1 ∨ i = 2 ∨ i = 3 ∨ i = 4 ∨ i = 5 ∨ i = 6 ∨ i = 7 := by omega
  rcases this with rfl | rfl | rfl | rfl | rfl | rfl | rfl | rfl <;> exact blk_cell hn _
theorem TB.hand (h : TB tb wb vp T vw me B w) (i : Nat) (hi : i < 4) : w.cell? ⟨tb, 10 + i * 2, none⟩ = some (.bool (T.hands.getD i (false, 0)).1) ∧ w.cell? ⟨tb, 10 + i * 2 + 1, none⟩ = some (.int .i64 (T.hands.getD i (false, 0)).2) := by
  obtain ⟨r0, r1, r2, r3, r4, r5, r6, r7, h0, h1, h2, h3, hr, hh, hc⟩ := h.cells
  have hn := h.node
  rw [hc] at hn
  rw [hh]
  have : i = 0 ∨ i = 1 ∨ i = 2 ∨ i = 3 := by omega
  rcases this with rfl | rfl | rfl | rfl <;> exact ⟨blk_cell hn _, blk_cell hn _⟩
theorem TB.keep {S : Nat → Prop} (h : TB tb wb vp T vw me B w) (hk : Keep S w w1) (hS : ∀ q, PT tb vw q → ¬ S q) : TB tb wb vp T vw me B w1 :=
  ⟨hk.blk h.node (hS tb (.inl rfl)), R_flat kSt_flat h.wait (fun _ _ => trivial) (fun q hq => hk.block q (R_own h.wait q hq).2.2 (hS q (.inr hq))), h.rl, h.hl⟩
theorem TB.below (h : TB tb wb vp T vw me B w) (hb : Below w.heap.size w w1) : TB tb wb vp T vw me B w1 := h.keep (Keep.of_below hb (fun _ => False)) (fun _ _ => id)
theorem TB.lt (h : TB tb wb vp T vw me B w) : ∀ q, PT tb vw q → q < w.heap.size := by
  intro q hq
  rcases hq with rfl | hq
  · exact blk_lt h.node
  · exact (R_own h.wait q hq).2.2
theorem TB.typed (h : TB tb wb vp T vw me B w) : ∀ q, PT tb vw q → ∃ cs t, w.heap[q]? = some (.cells cs t (0, 0)) ∧ (t = 97 ∨ t = 122) := by
  intro q hq
  rcases hq with rfl | hq
  · exact ⟨_, _, h.node, .inl rfl⟩
  · obtain ⟨cs, h1⟩ := Kd.R_typed h.wait q hq
    exact ⟨cs, _, h1, .inr rfl⟩
theorem TB.notPath (h : TB tb wb vp T vw me B w) : ∀ q cs, w.heap[q]? = some (.cells cs 3 (0, 0)) → ¬ PT tb vw q := by
  intro q cs hq hp
  obtain ⟨cs', t, h1, h2⟩ := h.typed q hp
  rw [hq] at h1; cases h1
  rcases h2 with e | e <;> exact absurd e (by decide)
theorem TB.new (h : TB tb wb vp T vw me B w) : vw.ownBlock ≠ some tb := by
  intro e
  obtain ⟨cs, h1⟩ := Kd.R_typed h.wait tb e
  rw [h.node] at h1; cases h1
/-- the whole and the task are apart. -/
theorem apart {Ap : Option Addr} {np cp B' : Nat} {budget depth : Int} {G : Gs} {ents : List Ent} {vt vl : Value} (hg : EG B' wb Ap np cp budget depth G ents vt vl w) (h : TB tb wb vp T vw me B w) : ∀ q, PG wb vt vl q → ¬ PT tb vw q := by
  intro q hq hp
  obtain ⟨cs, t, h1, h2⟩ := h.typed q hp
  exact hg.not h1 (by rcases h2 with e | e <;> (subst e; decide)) hq
theorem TB.far (h : TB tb wb vp T vw me B w) (i : Nat) (v : Value) : kSt.R 122 (w.setCell ⟨tb, i, none⟩ v) B (fun _ => True) vw T.wait :=
  R_flat kSt_flat h.wait (fun _ _ => trivial) (fun q hq => Below.heap_setCell w ⟨tb, i, none⟩ v q (fun e => h.new (by rw [← show q = tb from e]; exact hq)))
theorem TB.setAt (h : TB tb wb vp T vw me B w) (x : Int) : TB tb wb vp { T with at_ := x } vw me B (w.setCell ⟨tb, 20, none⟩ (.int .i64 x)) := by
  obtain ⟨r0, r1, r2, r3, r4, r5, r6, r7, h0, h1, h2, h3, hr, hh, hc⟩ := h.cells
  refine ⟨?_, h.far 20 _, h.rl, h.hl⟩
  have := blk_set h.node 20 (.int .i64 x)
  rw [this, hc]
  unfold tcells
  simp only [hr, hh]
  rfl
theorem TB.setKids (h : TB tb wb vp T vw me B w) (n : Nat) (x : Int) (hx : x = n) : TB tb wb vp { T with kids := n } vw me B (w.setCell ⟨tb, 19, none⟩ (.int .i64 x)) := by
  subst hx
  obtain ⟨r0, r1, r2, r3, r4, r5, r6, r7, h0, h1, h2, h3, hr, hh, hc⟩ := h.cells
  refine ⟨?_, h.far 19 _, h.rl, h.hl⟩
  have := blk_set h.node 19 (.int .i64 n)
  rw [this, hc]
  unfold tcells
  simp only [hr, hh]
  rfl
theorem TB.setReg (h : TB tb wb vp T vw me B w) (i : Nat) (hi : i < 8) (x : Int) : TB tb wb vp { T with regs := T.regs.set i x } vw me B (w.setCell ⟨tb, 2 + i, none⟩ (.int .i64 x)) := by
  obtain ⟨r0, r1, r2, r3, r4, r5, r6, r7, h0, h1, h2, h3, hr, hh, hc⟩ := h.cells
  refine ⟨?_, h.far _ _, by rw [List.length_set]; exact h.rl, h.hl⟩
  have := blk_set h.node (2 + i) (.int .i64 x)
  rw [this, hc]
  unfold tcells
  simp only [hr, hh]
  have : i = 0 ∨ i = 1 ∨ i = 2 ∨ i = 3 ∨ i = 4 ∨ i = 5 ∨ i = 6 ∨ i = 7 := by omega
  rcases this with rfl | rfl | rfl | rfl | rfl | rfl | rfl | rfl <;> rfl
theorem TB.setHand (h : TB tb wb vp T vw me B w) (i : Nat) (hi : i < 4) (b : Bool) (x : Int) : TB tb wb vp { T with hands := T.hands.set i (b, x) } vw me B ((w.setCell ⟨tb, 10 + i * 2, none⟩ (.bool b)).setCell ⟨tb, 10 + i * 2 + 1, none⟩ (.int .i64 x)) := by
  obtain ⟨r0, r1, r2, r3, r4, r5, r6, r7, h0, h1, h2, h3, hr, hh, hc⟩ := h.cells
  have hf : kSt.R 122 ((w.setCell ⟨tb, 10 + i * 2, none⟩ (.bool b)).setCell ⟨tb, 10 + i * 2 + 1, none⟩ (.int .i64 x)) B (fun _ => True) vw T.wait :=
    R_flat kSt_flat h.wait (fun _ _ => trivial) (fun q hq => by
      have e : q ≠ tb := fun e => h.new (by rw [← e]; exact hq)
      exact (Below.heap_setCell _ ⟨tb, 10 + i * 2 + 1, none⟩ _ q e).trans (Below.heap_setCell w ⟨tb, 10 + i * 2, none⟩ _ q e))
  refine ⟨?_, hf, h.rl, by rw [List.length_set]; exact h.hl⟩
  have := blk_set (blk_set h.node (10 + i * 2) (.bool b)) (10 + i * 2 + 1) (.int .i64 x)
  rw [this, hc]
  unfold tcells
  simp only [hr, hh]
  have : i = 0 ∨ i = 1 ∨ i = 2 ∨ i = 3 := by omega
  rcases this with rfl | rfl | rfl | rfl <;> rfl
theorem TB.setWait (h : TB tb wb vp T vw me B w) {w9 : World} {xs : List (Int × Int)} {v9 : Value} (hn : w9.heap[tb]? = w.heap[tb]?) (hR : kSt.R 122 w9 B (fun _ => True) v9 xs) (hv : v9.ownBlock ≠ some tb) : TB tb wb vp { T with wait := xs } v9 me B (w9.setCell ⟨tb, 18, none⟩ v9) := by
  obtain ⟨r0, r1, r2, r3, r4, r5, r6, r7, h0, h1, h2, h3, hr, hh, hc⟩ := h.cells
  refine ⟨?_, R_flat kSt_flat hR (fun _ _ => trivial) (fun q hq => Below.heap_setCell w9 ⟨tb, 18, none⟩ _ q (fun e => hv (by rw [← show q = tb from e]; exact hq))), h.rl, h.hl⟩
  have := blk_set (hn.trans h.node) 18 v9
  rw [this, hc]
  unfold tcells
  simp only [hr, hh]
  rfl
end
end Go.Proofs.Ytnhipdniceoigaa.H
