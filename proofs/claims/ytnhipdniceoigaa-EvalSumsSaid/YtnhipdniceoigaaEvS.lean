/- An evaluation: what each step leaves; what stays right on the way. -/
import Derived.Test.YtnhipdniceoigaaEvD3
set_option linter.unusedVariables false
set_option linter.unusedSimpArgs false
namespace Go.Proofs.Ytnhipdniceoigaa.H
open Go.RowKit Go.Hay Go.Proofs.YtnhipdniceoigaaW.PrintWords Go.Proofs.YtnhipdniceoigaaW.PrintLast Go.Proofs.YtnhipdniceoigaaW.PrintMore
def longV : Value := .iface 75 (.agg #[])
/-- how a task ends. -/
def ends (o : Out) (e : Ending) : Prop :=
  match o with
  | .val v => e = .returned (.int .i64 v)
  | .fail why => e = .panicked [{ v := failV why, recovered := false }]
  | .long => e = .panicked [{ v := longV, recovered := false }]
structure Cn where
  w0 : World
  B : Nat
  wb : Nat
  Ap : Option Addr
  cp : Nat
  budget : Int
  depth : Int
/-- the evaluation's state. -/
structure ES (c : Cn) (l : List S58) (G : Gs) (ents : List Ent) (vt vl : Value) (w : World) : Prop where
  eg : EG c.B c.wb c.Ap l.length c.cp c.budget c.depth G ents vt vl w
  bl : Below c.w0.heap.size c.w0 w
  pr : k58.C c.w0 c.Ap l.length l
  lo : c.w0.heap.size ≤ c.B
def EndP (c : Cn) (l : List S58) (PA : Nat → Prop) (o : Out) (G' : Gs) (w : World) (e : Ending) (w' : World) : Prop :=
  ends o e ∧ Keep PA w w' ∧ ∃ ents' vt' vl', ES c l G' ents' vt' vl' w' ∧ ∀ q, PG c.wb vt' vl' q → PA q ∨ w.heap.size ≤ q
def GoesP (c : Cn) (l : List S58) (tb : Nat) (vp : Value) (me : Nat) (PA : Nat → Prop) (T' : Ts) (G' : Gs) (w : World) (e : Ending) (w' : World) : Prop :=
  e = .returned (.tuple #[]) ∧ Keep PA w w' ∧ ∃ ents' vt' vl' vw', ES c l G' ents' vt' vl' w' ∧ TB tb c.wb vp T' vw' me c.B w' ∧ ∀ q, PG c.wb vt' vl' q ∨ PT tb vw' q → PA q ∨ w.heap.size ≤ q
def StepPost (c : Cn) (l : List S58) (tb : Nat) (vp : Value) (me : Nat) (PA : Nat → Prop) (r : SR) (w : World) (e : Ending) (w' : World) : Prop :=
  match r with
  | .go T' G' => GoesP c l tb vp me PA T' G' w e w'
  | .stop o G' => EndP c l PA o G' w e w'
def PA (c : Cn) (tb : Nat) (vt vl vw : Value) (q : Nat) : Prop := PG c.wb vt vl q ∨ PT tb vw q
section
variable {c : Cn} {l : List S58} {G G' : Gs} {ents : List Ent} {vt vl vw vw' vp : Value} {w w1 : World} {T T' : Ts} {tb me : Nat}
theorem ES.keep {S : Nat → Prop} (h : ES c l G ents vt vl w) (hk : Keep S w w1) (hS : ∀ q, PG c.wb vt vl q → ¬ S q) (hP : ∀ q cs, w.heap[q]? = some (.cells cs 3 (0, 0)) → ¬ S q) (hB : ∀ q, q < c.w0.heap.size → ¬ S q) : ES c l G ents vt vl w1 :=
  ⟨h.eg.keep hk hS hP, h.bl.trans (hk.below h.bl.size hB), h.pr, h.lo⟩
theorem ES.below (h : ES c l G ents vt vl w) (hb : Below w.heap.size w w1) : ES c l G ents vt vl w1 := ⟨h.eg.below hb, h.bl.trans (hb.mono h.bl.size), h.pr, h.lo⟩
theorem ES.turn {ents' : List Ent} {vt' vl' : Value} {S : Nat → Prop} (h : ES c l G ents vt vl w) (he : EG c.B c.wb c.Ap l.length c.cp c.budget c.depth G' ents' vt' vl' w1) (hk : Keep S w w1) (hB : ∀ q, q < c.w0.heap.size → ¬ S q) : ES c l G' ents' vt' vl' w1 :=
  ⟨he, h.bl.trans (hk.below h.bl.size hB), h.pr, h.lo⟩
theorem ES.pLo (h : ES c l G ents vt vl w) : ∀ q, PG c.wb vt vl q → c.w0.heap.size ≤ q := fun q hq => Nat.le_trans h.lo (h.eg.pB q hq).1
theorem ES.code (h : ES c l G ents vt vl w) : k58.C w c.Ap l.length l := Kd.C_below h.pr h.bl
/-- what concerns the task alone leaves the rest. -/
theorem task_go (hg : ES c l G ents vt vl w) (ht : TB tb c.wb vp T vw me c.B w) (hlo : c.w0.heap.size ≤ tb) {e : Ending} (he : e = .returned (.tuple #[])) (h1 : TB tb c.wb vp T' vw' me c.B w1) (hk : Keep (fun q => q = tb) w w1) (hv : vw' = vw ∨ vw' = .slice none 0 0) : GoesP c l tb vp me (PA c tb vt vl vw) T' G w e w1 := by
  have hap := apart hg.eg ht
  have hnp := ht.notPath
  have hg1 : ES c l G ents vt vl w1 := hg.keep hk (fun q hq e2 => hap q hq (.inl e2)) (fun q cs hq e2 => hnp q cs hq (.inl e2)) (fun q hq e2 => by subst e2; omega)
  refine ⟨he, hk.mono (fun q _ e2 => .inr (.inl e2)), ents, vt, vl, vw', hg1, h1, fun q hq => .inl ?_⟩
  rcases hq with hq | hq | hq
  · exact .inl hq
  · exact .inr (.inl hq)
  · rcases hv with e2 | e2
    · rw [e2] at hq; exact .inr (.inr hq)
    · rw [e2] at hq; cases hq
theorem task_stop (hg : ES c l G ents vt vl w) {e : Ending} {why : Int} {S : Nat → Prop} (he : e = .panicked [{ v := failV why, recovered := false }]) (hb : Below w.heap.size w w1) (hS : ∀ q, PG c.wb vt vl q → S q) : EndP c l S (.fail why) G w e w1 :=
  ⟨he, Keep.of_below hb _, ents, vt, vl, hg.below hb, fun q hq => .inl (hS q hq)⟩
end
/-! ### what stays right -/
structure GInv (M : Nat) (budget : Int) (G : Gs) : Prop where
  log : G.log.length + G.left ≤ M
  told : G.told.length + G.left ≤ M
  steps : ∀ e ∈ G.log, 0 ≤ e.2 ∧ e.2 ≤ budget
structure TInv (code : List S55) (depth : Int) (path : List Int) (me : Nat) (T : Ts) (G : Gs) : Prop where
  rl : T.regs.length = 8
  hl : T.hands.length = 4
  wait : ∀ s ∈ T.wait, 0 ≤ s.1 ∧ s.1 < 8
  at_ : 0 ≤ T.at_ ∧ T.at_ < code.length
  kids : T.kids < G.log.length
  wl : T.wait.length ≤ T.kids
  me_ : me < G.log.length
  path_ : (path.length : Int) ≤ depth
/-- how tasks end that are begun: what stays right. -/
def RecOk (M : Nat) (budget : Int) (l : List S58) (depth : Int) (rec : Gs → List Int → List S55 → Nat → Ts → Out × Gs) : Prop :=
  ∀ G path (f : Nat) (hf : f < l.length) me T, GInv M budget G → TInv l[f].f1 depth path me T G → GInv M budget (rec G path l[f].f1 me T).2 ∧ G.log.length ≤ (rec G path l[f].f1 me T).2.log.length ∧ (rec G path l[f].f1 me T).2.left ≤ G.left
theorem setR_len (T : Ts) (i v : Int) : (setR T i v).regs.length = T.regs.length ∧ (setR T i v).hands = T.hands ∧ (setR T i v).wait = T.wait ∧ (setR T i v).kids = T.kids ∧ (setR T i v).at_ = T.at_ := ⟨List.length_set .., rfl, rfl, rfl, rfl⟩
theorem foldl_set_len (ws : List (Int × Int)) : ∀ r : List Int, (ws.foldl (fun r s => r.set s.1.toNat s.2) r).length = r.length := by
  induction ws with
  | nil => intro r; rfl
  | cons s ws ih => intro r; rw [List.foldl_cons, ih, List.length_set]
theorem newRegs_len {args : List Int} (h : args.length ≤ 8) : (newRegs args).length = 8 := by
  unfold newRegs
  rw [List.length_append, List.length_take, List.length_replicate]; omega
/-- the place of the next instruction. -/
theorem simple_inv {code : List S55} {l : List S58} {depth : Int} {path : List Int} {me : Nat} {T T' : Ts} {G : Gs} {x : S55} (hx : IOk l code.length x) (h : TInv code depth path me T G) (he : simple x T = .go T') : TInv code depth path me T' G := by
  have hs : ∀ i v, TInv code depth path me (setR T i v) G := fun i v => ⟨by rw [(setR_len T i v).1]; exact h.rl, h.hl, h.wait, h.at_, h.kids, h.wl, h.me_, h.path_⟩
  have hj : ∀ k : Int, 0 ≤ k ∧ k < code.length → TInv code depth path me { T with at_ := k } G := fun k hk => ⟨h.rl, h.hl, h.wait, hk, h.kids, h.wl, h.me_, h.path_⟩
  unfold simple at he
  by_cases e1 : x.f0 = 1
  · rw [if_pos e1] at he; cases he; exact hs _ _
  rw [if_neg e1] at he
  by_cases e2 : x.f0 = 2
  · rw [if_pos e2] at he; cases he; exact hs _ _
  rw [if_neg e2] at he
  by_cases e3 : x.f0 = 3
  · rw [if_pos e3] at he; cases he; exact hs _ _
  rw [if_neg e3] at he
  by_cases e4 : x.f0 = 4
  · rw [if_pos e4] at he; cases he; exact hs _ _
  rw [if_neg e4] at he
  by_cases e5 : x.f0 = 5
  · rw [if_pos e5] at he; cases he; exact hs _ _
  rw [if_neg e5] at he
  by_cases e6 : x.f0 = 6
  · rw [if_pos e6] at he
    by_cases ez : rg T x.f3 = 0
    · rw [if_pos ez] at he; cases he
    · rw [if_neg ez] at he; cases he; exact hs _ _
  rw [if_neg e6] at he
  by_cases e7 : x.f0 = 7
  · rw [if_pos e7] at he; cases he; exact hs _ _
  rw [if_neg e7] at he
  by_cases e8 : x.f0 = 8
  · rw [if_pos e8] at he; cases he; exact hs _ _
  rw [if_neg e8] at he
  by_cases e9 : x.f0 = 9
  · rw [if_pos e9] at he; cases he; exact hj _ (hx.k (.inl e9))
  rw [if_neg e9] at he
  by_cases e10 : x.f0 = 10
  · rw [if_pos e10] at he
    cases he
    by_cases ez : rg T x.f1 = 0
    · rw [if_pos ez]; exact hj _ (hx.k (.inr e10))
    · rw [if_neg ez]; exact h
  rw [if_neg e10] at he
  by_cases e12 : x.f0 = 12
  · rw [if_pos e12] at he
    cases he
    exact ⟨by unfold syncP; rw [foldl_set_len]; exact h.rl, h.hl, (fun s hs => by cases hs), h.at_, h.kids, Nat.zero_le _, h.me_, h.path_⟩
  rw [if_neg e12] at he
  by_cases e14 : x.f0 = 14
  · rw [if_pos e14] at he
    by_cases ez : (hd T x.f2).1 = true
    · rw [if_pos ez] at he; cases he; exact hs _ _
    · rw [if_neg ez] at he; cases he
  rw [if_neg e14] at he
  cases he
theorem args_len (l : List S58) (x : S55) (T : Ts) (h : T.regs.length = 8) : (argsOf l x T).length ≤ 8 := by
  unfold argsOf
  rw [List.length_take, List.length_drop]; omega
/-- what a task that is begun begins with. -/
theorem begin_inv {l : List S58} (hl : POk l) {M : Nat} {budget depth : Int} {path : List Int} {G : Gs} (hb : 0 ≤ budget) (hg : GInv M budget G) (hleft : G.log.length + 1 + G.left ≤ M) (f : Nat) (hf : f < l.length) (hp : (path.length : Int) ≤ depth) (args : List Int) (ha : args.length ≤ 8) (hands : List (Bool × Int)) (hh : hands.length = 4) :
    GInv M budget { G with log := G.log ++ [(path, 0)] } ∧ TInv l[f].f1 depth path G.log.length (newTask args hands) { G with log := G.log ++ [(path, 0)] } := by
  have hc := (hl.fn f hf).2.1
  refine ⟨⟨by simp; omega, hg.told, fun e he => ?_⟩, ⟨newRegs_len ha, hh, (fun s hs => by cases hs), ⟨by simp [newTask], by show (0 : Int) < l[f].f1.length; omega⟩, by simp [newTask], Nat.le_refl _, by simp, hp⟩⟩
  rcases List.mem_append.1 he with he | he
  · exact hg.steps e he
  · rw [List.mem_singleton.1 he]; exact ⟨Int.le_refl _, hb⟩
theorem step_inv {l : List S58} (hl : POk l) {M : Nat} {budget depth : Int} (hb : 0 ≤ budget) {rec : Gs → List Int → List S55 → Nat → Ts → Out × Gs} (hrec : RecOk M budget l depth rec) {code : List S55} {path : List Int} {me : Nat} {T : Ts} {G : Gs} {x : S55} (hx : IOk l code.length x) (hg : GInv M budget G) (h : TInv code depth path me T G) (hleft : G.log.length + 1 + G.left ≤ M) (htold : G.told.length + 1 + G.left ≤ M) :
    match stepP l depth rec path x T G with
    | .go T' G' => GInv M budget G' ∧ TInv code depth path me T' G' ∧ G.log.length ≤ G'.log.length ∧ G'.left ≤ G.left
    | .stop o G' => GInv M budget G' ∧ G.log.length ≤ G'.log.length ∧ G'.left ≤ G.left := by
  unfold stepP
  by_cases h11 : x.f0 = 11 ∨ x.f0 = 13
  · rw [if_pos h11]
    by_cases hd : (path.length : Int) = depth
    · rw [if_pos hd]
      exact ⟨hg, Nat.le_refl _, Nat.le_refl _⟩
    · rw [if_neg hd]
      have hcf := hx.cf h11
      obtain ⟨f, hf⟩ : ∃ f : Nat, x.f3 = f := ⟨x.f3.toNat, by omega⟩
      have hfl : f < l.length := by omega
      have hrd : rd_T58 l x.f3 = l[f] := by rw [hf]; simp [rd_T58, hfl]
      have hpl := h.path_
      have hbi := begin_inv hl hb hg hleft f hfl (path := path ++ [(T.kids : Int)]) (depth := depth) (by rw [List.length_append]; simp; omega) (argsOf l x T) (args_len l x T h.rl) T.hands h.hl
      have hr := hrec _ _ f hfl _ _ hbi.1 hbi.2
      rw [hrd]
      generalize rec { G with log := G.log ++ [(path ++ [(T.kids : Int)], 0)] } (path ++ [(T.kids : Int)]) l[f].f1 G.log.length (newTask (argsOf l x T) T.hands) = r at hr
      obtain ⟨o, G2⟩ := r
      have hlen : G.log.length + 1 ≤ G2.log.length := by have := hr.2.1; simpa using this
      have hle : G2.left ≤ G.left := hr.2.2
      cases o with
      | val v =>
        have hk := h.kids
        have hw := h.wl
        have hme := h.me_
        refine ⟨hr.1, ?_, by omega, hle⟩
        split
        · rename_i e11
          refine ⟨h.rl, h.hl, fun s hs => ?_, h.at_, by show T.kids + 1 < G2.log.length; omega, by show (T.wait ++ [(x.f1, v)]).length ≤ T.kids + 1; rw [List.length_append]; simp; omega, by omega, h.path_⟩
          rcases List.mem_append.1 hs with hs | hs
          · exact h.wait s hs
          · rw [List.mem_singleton.1 hs]
            exact hx.a (by omega) (by omega) (by omega) (by omega)
        · exact ⟨h.rl, by rw [List.length_set]; exact h.hl, h.wait, h.at_, by show T.kids + 1 < G2.log.length; omega, by show T.wait.length ≤ T.kids + 1; omega, by omega, h.path_⟩
      | fail why => exact ⟨hr.1, by show _ ≤ G2.log.length; omega, hle⟩
      | long => exact ⟨hr.1, by show _ ≤ G2.log.length; omega, hle⟩
  · rw [if_neg h11]
    by_cases h15 : x.f0 = 15
    · rw [if_pos h15]
      exact ⟨⟨hg.log, by simp; omega, hg.steps⟩, ⟨h.rl, h.hl, h.wait, h.at_, h.kids, h.wl, h.me_, h.path_⟩, Nat.le_refl _, Nat.le_refl _⟩
    · rw [if_neg h15]
      cases hs : simple x T with
      | go T' => exact ⟨hg, simple_inv hx h hs, Nat.le_refl _, Nat.le_refl _⟩
      | stop why => exact ⟨hg, Nat.le_refl _, Nat.le_refl _⟩
theorem bump_inv {M : Nat} {budget : Int} {G : Gs} {me : Nat} (hg : GInv M budget G) (hme : me < G.log.length) (hs : (G.log.getD me ([], 0)).2 ≠ budget) (hl : G.left ≠ 0) : GInv M budget { G with left := G.left - 1, log := bump G.log me } ∧ G.log.length + 1 + (G.left - 1) ≤ M ∧ G.told.length + 1 + (G.left - 1) ≤ M := by
  have h1 := hg.log
  have h2 := hg.told
  refine ⟨⟨by rw [bump_len]; show G.log.length + (G.left - 1) ≤ M; omega, by show G.told.length + (G.left - 1) ≤ M; omega, fun e he => ?_⟩, by omega, by omega⟩
  unfold bump at he
  have hg0 : G.log.getD me ([], 0) = G.log[me] := by rw [List.getD_eq_getElem?_getD, List.getElem?_eq_getElem hme]; rfl
  rcases List.mem_or_eq_of_mem_set he with he | he
  · exact hg.steps e he
  · have := hg.steps G.log[me] (List.getElem_mem hme)
    rw [he]
    rw [hg0] at hs ⊢
    show 0 ≤ G.log[me].2 + 1 ∧ G.log[me].2 + 1 ≤ budget
    omega
/-- behind an instruction that is not the last one there is another one. -/
theorem next_at {l : List S58} (hl : POk l) (f : Nat) (hf : f < l.length) {T : Ts} (h0 : 0 ≤ T.at_) (h1 : T.at_ < l[f].f1.length) : IOk l l[f].f1.length (rd_T55 l[f].f1 T.at_) ∧ ((rd_T55 l[f].f1 T.at_).f0 ≠ 9 → (rd_T55 l[f].f1 T.at_).f0 ≠ 16 → (rd_T55 l[f].f1 T.at_).f0 ≠ 17 → T.at_ + 1 < l[f].f1.length) := by
  obtain ⟨_, _, hi, hlast⟩ := hl.fn f hf
  refine ⟨?_, fun a b d => ?_⟩
  · have e : rd_T55 l[f].f1 T.at_ = l[f].f1[T.at_.toNat]'(by omega) := by simp [rd_T55, show T.at_.toNat < l[f].f1.length by omega]
    rw [e]; exact hi _ _
  · by_cases hlt : T.at_ + 1 < l[f].f1.length
    · exact hlt
    · exfalso
      have e : T.at_ = (l[f].f1.length : Int) - 1 := by omega
      rw [e] at a b d
      rcases hlast with h | h | h
      · exact a h
      · exact b h
      · exact d h
/-- the whole of a task's run keeps what is right. -/
theorem run_ok {l : List S58} (hl : POk l) {M : Nat} {budget depth : Int} (hb : 0 ≤ budget) : ∀ k, RecOk M budget l depth (runP l budget depth k) := by
  intro k
  induction k with
  | zero => intro G path f hf me T hg ht; exact ⟨hg, Nat.le_refl _, Nat.le_refl _⟩
  | succ k ih =>
    intro G path f hf me T hg ht
    unfold runP
    by_cases h1 : (G.log.getD me ([], 0)).2 = budget
    · rw [if_pos h1]; exact ⟨hg, Nat.le_refl _, Nat.le_refl _⟩
    rw [if_neg h1]
    by_cases h2 : G.left = 0
    · rw [if_pos h2]; exact ⟨hg, Nat.le_refl _, Nat.le_refl _⟩
    rw [if_neg h2]
    have hbu := bump_inv hg ht.me_ h1 h2
    by_cases h3 : (rd_T55 l[f].f1 T.at_).f0 = 17
    · rw [if_pos h3]
      exact ⟨hbu.1, by rw [bump_len]; exact Nat.le_refl _, Nat.sub_le _ _⟩
    rw [if_neg h3]
    have hna := next_at hl f hf ht.at_.1 ht.at_.2
    have hx := hna.1
    have hlen : (bump G.log me).length = G.log.length := bump_len _ _
    by_cases h9 : (rd_T55 l[f].f1 T.at_).f0 = 9
    · have hs : simple (rd_T55 l[f].f1 T.at_) { T with at_ := T.at_ + 1 } = .go { T with at_ := (rd_T55 l[f].f1 T.at_).f4 } := by
        unfold simple
        repeat (first | rw [if_pos h9] | rw [if_neg (by omega)])
      have hst : stepP l depth (runP l budget depth k) path (rd_T55 l[f].f1 T.at_) { T with at_ := T.at_ + 1 } { G with left := G.left - 1, log := bump G.log me } = .go { T with at_ := (rd_T55 l[f].f1 T.at_).f4 } { G with left := G.left - 1, log := bump G.log me } := by
        unfold stepP
        rw [if_neg (by omega), if_neg (by omega), hs]
      rw [hst]
      have hti : TInv l[f].f1 depth path me { T with at_ := (rd_T55 l[f].f1 T.at_).f4 } { G with left := G.left - 1, log := bump G.log me } := ⟨ht.rl, ht.hl, ht.wait, hx.k (.inl h9), by rw [hlen]; exact ht.kids, ht.wl, by rw [hlen]; exact ht.me_, ht.path_⟩
      have hr := ih _ path f hf me _ hbu.1 hti
      exact ⟨hr.1, by have := hr.2.1; rw [hlen] at this; exact this, by have := hr.2.2; exact Nat.le_trans this (Nat.sub_le _ _)⟩
    · by_cases h16 : (rd_T55 l[f].f1 T.at_).f0 = 16
      · have hst : stepP l depth (runP l budget depth k) path (rd_T55 l[f].f1 T.at_) { T with at_ := T.at_ + 1 } { G with left := G.left - 1, log := bump G.log me } = .stop (.fail (rd_T55 l[f].f1 T.at_).f4) { G with left := G.left - 1, log := bump G.log me } := by
          have hs : simple (rd_T55 l[f].f1 T.at_) { T with at_ := T.at_ + 1 } = .stop (rd_T55 l[f].f1 T.at_).f4 := by
            unfold simple
            repeat (first | rw [if_neg (by omega)])
          unfold stepP
          rw [if_neg (by omega), if_neg (by omega), hs]
        rw [hst]
        exact ⟨hbu.1, by rw [hlen]; exact Nat.le_refl _, Nat.sub_le _ _⟩
      · have hti : TInv l[f].f1 depth path me { T with at_ := T.at_ + 1 } { G with left := G.left - 1, log := bump G.log me } := ⟨ht.rl, ht.hl, ht.wait, ⟨by have := ht.at_.1; show 0 ≤ T.at_ + 1; omega, hna.2 h9 h16 h3⟩, by rw [hlen]; exact ht.kids, ht.wl, by rw [hlen]; exact ht.me_, ht.path_⟩
        have hst := step_inv hl hb ih hx hbu.1 hti (by rw [hlen]; exact hbu.2.1) hbu.2.2
        generalize stepP l depth (runP l budget depth k) path (rd_T55 l[f].f1 T.at_) { T with at_ := T.at_ + 1 } { G with left := G.left - 1, log := bump G.log me } = r at hst
        cases r with
        | stop o G' => exact ⟨hst.1, by have := hst.2.1; rw [hlen] at this; exact this, Nat.le_trans hst.2.2 (Nat.sub_le _ _)⟩
        | go T' G' =>
          have hr := ih _ path f hf me _ hst.1 hst.2.1
          have h4 := hst.2.2.1
          rw [hlen] at h4
          exact ⟨hr.1, Nat.le_trans h4 hr.2.1, Nat.le_trans hr.2.2 (Nat.le_trans hst.2.2.2 (Nat.sub_le _ _))⟩
end Go.Proofs.Ytnhipdniceoigaa.H
