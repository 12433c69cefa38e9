/- YthgafblmefjkdaaDoorVO: a text of the proof of this claim, by its prover. -/
import Derived.Test.YthgafblmefjkdaaDoorVN
import Derived.LoopN
set_option linter.unusedVariables false
set_option linter.unusedSimpArgs false
namespace Go.Proofs.Vale

abbrev Post := Exit → List AV → List AObj → Prop

/-- From what reads as env, over the own objects h, the code c comes to what Q tells. -/
def AWP (P : Program) (c : Code) (Q : Post) (env : List AV) (h : List AObj) : Prop :=
  ∀ (tmps : Array Value) (w : World) (β : Beta) (fr : Nat → Prop), Lay β fr w.heap h → EnvRep β fr w.heap env tmps →
    c.wp P (fun e a' w' => a'.defers = [] ∧ ∃ env' h' β' fr', Q e env' h' ∧ Lay β' fr' w'.heap h' ∧ EnvRep β' fr' w'.heap env' a'.tmps ∧ Step1 β fr h w β' fr' h' w') ⟨tmps, []⟩ w

/-- A region that draws its order. -/
def ADraw (P : Program) (ops : Array Oper) (K : List AV → List AObj → Prop) (env : List AV) (h : List AObj) : Prop :=
  ∀ id, AWP P (.region id ops true) (fun e env h => match e with | .normal => K env h | _ => False) env h

/-- A loop. -/
def ALoop (P : Program) (c : Code) (Q : Post) (env : List AV) (h : List AObj) : Prop := AWP P (.loop c) Q env h

def acond (c : AV) (A B : Prop) : Prop :=
  match c with
  | .bool b => (b = true → A) ∧ (b = false → B)
  | _ => False

def acode (P : Program) : Code → List AV → List AObj → Post → Prop
  | .skip, env, h, Q => Q .normal env h
  | .region _ ops false, env, h, Q => aopsL P [] ops.toList env h (Q .normal)
  | .region _ ops true, env, h, Q => ADraw P ops (Q .normal) env h
  | .seq a b, env, h, Q => acode P a env h fun e env h => match e with | .normal => acode P b env h Q | e => Q e env h
  | .cond c a b, env, h, Q => acond (evA env c) (acode P a env h Q) (acode P b env h Q)
  | .block id c, env, h, Q => acode P c env h fun e env h => match e with | .exit i => if i = id then Q .normal env h else Q (.exit i) env h | e => Q e env h
  | .loop c, env, h, Q => ALoop P c Q env h
  | .exit id, env, h, Q => Q (.exit id) env h
  | .ret, env, h, Q => Q .ret env h
  | .scope c, env, h, Q => acode P c env h fun e env h => match e with | .goto _ => False | e => Q e env h
  | .label _, env, h, Q => Q .normal env h
  | _, _, _, _ => False

theorem AWP.mono {P : Program} {c : Code} {Q Q' : Post} {env : List AV} {h : List AObj} (a : AWP P c Q env h) (k : ∀ e env h, Q e env h → Q' e env h) : AWP P c Q' env h :=
  fun tmps w β fr L R => wp_mono (a tmps w β fr L R) fun _ _ _ ⟨hd, env', h', β', fr', q, r⟩ => ⟨hd, env', h', β', fr', k _ _ _ q, r⟩

theorem acode_ok {P : Program} : ∀ (c : Code) (env : List AV) (h : List AObj) (Q : Post), acode P c env h Q → AWP P c Q env h := by
  intro c
  induction c with
  | skip =>
    intro env h Q k tmps w β fr L R
    exact wp_skip ⟨rfl, env, h, β, fr, k, L, R, Step1.refl _ _ _ _⟩
  | region id ops d =>
    intro env h Q k
    cases d with
    | false =>
      intro tmps w β fr L R
      refine wp_region_list (aopsL_ok ops.toList [] env h tmps w β fr rfl k L R ?_)
      intro env' h' β' fr' tmps' w' kk L' R' S'
      exact ⟨rfl, env', h', β', fr', kk, L', R', S'⟩
    | true =>
      refine AWP.mono (k id) fun e env h q => ?_
      cases e <;> first | exact q | exact q.elim
  | seq a b iha ihb =>
    intro env h Q k tmps w β fr L R
    refine wp_seq (wp_mono (iha env h _ k tmps w β fr L R) ?_)
    rintro e ⟨t', d'⟩ w' ⟨hd, env', h', β', fr', q, L', R', S'⟩
    simp only at hd; subst hd
    cases e with
    | normal =>
      refine wp_mono (ihb env' h' Q q t' w' β' fr' L' R') ?_
      rintro e2 a2 w2 ⟨hd2, env2, h2, β2, fr2, q2, L2, R2, S2⟩
      exact ⟨hd2, env2, h2, β2, fr2, q2, L2, R2, S'.trans S2⟩
    | exit i => exact ⟨rfl, env', h', β', fr', q, L', R', S'⟩
    | goto l => exact ⟨rfl, env', h', β', fr', q, L', R', S'⟩
    | ret => exact ⟨rfl, env', h', β', fr', q, L', R', S'⟩
    | panic ch => exact ⟨rfl, env', h', β', fr', q, L', R', S'⟩
    | outgrown => exact ⟨rfl, env', h', β', fr', q, L', R', S'⟩
  | cond c a b iha ihb =>
    intro env h Q k tmps w β fr L R
    have hc := R.eval (ds := []) c
    simp only [acode] at k
    unfold acond at k
    split at k
    · rename_i t e
      rw [e] at hc; simp only [Rep] at hc
      refine wp_cond hc ?_
      cases t with
      | true => exact iha env h Q (k.1 rfl) tmps w β fr L R
      | false => exact ihb env h Q (k.2 rfl) tmps w β fr L R
    · exact k.elim
  | block id c ih =>
    intro env h Q k tmps w β fr L R
    refine wp_block (wp_mono (ih env h _ k tmps w β fr L R) ?_)
    rintro e a' w' ⟨hd, env', h', β', fr', q, r⟩
    cases e with
    | exit i =>
      simp only at q
      show Exit.inBlock id _ (.exit i) a' w'
      unfold Exit.inBlock
      simp only
      split
      · rename_i hi; rw [if_pos hi] at q; exact ⟨hd, env', h', β', fr', q, r⟩
      · rename_i hi; rw [if_neg hi] at q; exact ⟨hd, env', h', β', fr', q, r⟩
    | normal => exact ⟨hd, env', h', β', fr', q, r⟩
    | goto l => exact ⟨hd, env', h', β', fr', q, r⟩
    | ret => exact ⟨hd, env', h', β', fr', q, r⟩
    | panic ch => exact ⟨hd, env', h', β', fr', q, r⟩
    | outgrown => exact ⟨hd, env', h', β', fr', q, r⟩
  | loop c ih => intro env h Q k; exact k
  | exit id =>
    intro env h Q k tmps w β fr L R
    exact wp_exit ⟨rfl, env, h, β, fr, k, L, R, Step1.refl _ _ _ _⟩
  | ret =>
    intro env h Q k tmps w β fr L R
    exact wp_ret ⟨rfl, env, h, β, fr, k, L, R, Step1.refl _ _ _ _⟩
  | scope c ih =>
    intro env h Q k tmps w β fr L R
    refine wp_scope_straight (wp_mono (ih env h _ k tmps w β fr L R) ?_)
    rintro e a' w' ⟨hd, env', h', β', fr', q, r⟩
    cases e <;> first | exact ⟨hd, env', h', β', fr', q, r⟩ | exact q.elim
  | label l =>
    intro env h Q k tmps w β fr L R
    exact wp_label ⟨rfl, env, h, β, fr, k, L, R, Step1.refl _ _ _ _⟩
  | goto l => intro env h Q k; exact k.elim
  | rangeFunc f ps as b iha ihb => intro env h Q k; exact k.elim
  | refuse why => intro env h Q k; exact k.elim

theorem acode_mono {P : Program} {c : Code} {env : List AV} {h : List AObj} {Q Q' : Post} (a : AWP P c Q env h) (k : ∀ e env h, Q e env h → Q' e env h) : AWP P c Q' env h := a.mono k

/-- A loop: what holds at every round's head, and what every round lowers. -/
theorem ALoop.intro {P : Program} {c : Code} {Q : Post} {env : List AV} {h : List AObj} (I : List AV → List AObj → Prop) (μ : List AV → List AObj → Nat) (h0 : I env h)
    (round : ∀ env h, I env h → AWP P c (fun e env' h' => match e with | .normal => I env' h' ∧ μ env' h' < μ env h | e => Q e env' h') env h) : ALoop P c Q env h := by
  intro tmps w β fr L R
  have key : ∀ n env1 h1 (tmps1 : Array Value) (w1 : World) β1 fr1, μ env1 h1 < n → I env1 h1 → Lay β1 fr1 w1.heap h1 → EnvRep β1 fr1 w1.heap env1 tmps1 → Step1 β fr h w β1 fr1 h1 w1 →
      Code.rounds P c (fun e a' w' => a'.defers = [] ∧ ∃ env' h' β' fr', Q e env' h' ∧ Lay β' fr' w'.heap h' ∧ EnvRep β' fr' w'.heap env' a'.tmps ∧ Step1 β fr h w β' fr' h' w') n ⟨tmps1, []⟩ w1 := by
    intro n
    induction n with
    | zero => intro env1 h1 tmps1 w1 β1 fr1 hn; omega
    | succ n ih =>
      intro env1 h1 tmps1 w1 β1 fr1 hn hI L1 R1 S1
      rw [rounds_succ]
      refine wp_mono (round env1 h1 hI tmps1 w1 β1 fr1 L1 R1) ?_
      rintro e ⟨t2, d2⟩ w2 ⟨hd, env2, h2, β2, fr2, q, L2, R2, S2⟩
      simp only at hd; subst hd
      cases e with
      | normal => exact ih env2 h2 t2 w2 β2 fr2 (by have := q.2; omega) q.1 L2 R2 (S1.trans S2)
      | exit i => exact ⟨rfl, env2, h2, β2, fr2, q, L2, R2, S1.trans S2⟩
      | goto l => exact ⟨rfl, env2, h2, β2, fr2, q, L2, R2, S1.trans S2⟩
      | ret => exact ⟨rfl, env2, h2, β2, fr2, q, L2, R2, S1.trans S2⟩
      | panic ch => exact ⟨rfl, env2, h2, β2, fr2, q, L2, R2, S1.trans S2⟩
      | outgrown => exact ⟨rfl, env2, h2, β2, fr2, q, L2, R2, S1.trans S2⟩
  exact wp_loop_rounds (μ env h + 1) (key _ env h tmps w β fr (by omega) h0 L R (Step1.refl _ _ _ _))

/-- A cut: whatever comes through the code c is told by R; then on. -/
theorem acode_cut {P : Program} {c : Code} {env : List AV} {h : List AObj} {Q R : Post} (a : acode P c env h R) (k : ∀ e env h, R e env h → Q e env h) : AWP P c Q env h := (acode_ok c env h R a).mono k

/-! ### A function -/

/-- What is handed back in the place of x1, over h1, may be told as x2, over h2; tags below n stay. -/
def Close (n : Nat) (x1 : AV) (h1 : List AObj) (x2 : AV) (h2 : List AObj) : Prop :=
  ∀ (H : Array Obj) (β : Beta) (fr : Nat → Prop) (v : Value), Lay β fr H h1 → Rep β fr H x1 v →
    ∃ β' fr', Lay β' fr' H h2 ∧ Rep β' fr' H x2 v ∧ (∀ t g r, t < n → β t g = some r → β' t g = some r) ∧ (∀ b, fr b → fr' b) ∧ (∀ b, Own h2 β' b → Own h1 β b) ∧ (∀ b, fr' b → fr b ∨ Own h1 β b)

theorem Close.refl (n : Nat) (x : AV) (h : List AObj) : Close n x h x h := fun _ β fr _ L R => ⟨β, fr, L, R, fun _ _ _ _ e => e, fun _ e => e, fun _ e => e, fun _ => .inl⟩

theorem Close.trans {n : Nat} {x1 x2 x3 : AV} {h1 h2 h3 : List AObj} (a : Close n x1 h1 x2 h2) (b : Close n x2 h2 x3 h3) : Close n x1 h1 x3 h3 := fun H β fr v L R => by
  obtain ⟨β', fr', L', R', e1, e2, e3, e4⟩ := a H β fr v L R
  obtain ⟨β2, fr2, L2, R2, f1, f2, f3, f4⟩ := b H β' fr' v L' R'
  exact ⟨β2, fr2, L2, R2, fun t g r ht e => f1 t g r ht (e1 t g r ht e), fun b e => f2 b (e2 b e), fun b e => e3 b (f3 b e), fun b e => by
    rcases f4 b e with q | q
    · exact e4 b q
    · exact .inr (e3 b q)⟩

theorem run_loadVar_world {P : Program} {t : TypeId} {a : Addr} {w w' : World} {v : Value} (h : (loadVar t a).run P w = .ok v w') : w' = w := by
  have hcells : ∀ (n i : Nat) (acc arr : Array Value) (w w' : World), (loadCellsFrom a i n acc).run P w = .ok arr w' → w' = w := by
    intro n
    induction n with
    | zero => intro i acc arr w w' h; simp [loadCellsFrom] at h; exact h.2.symm
    | succ n ih =>
      intro i acc arr w w' h
      simp only [loadCellsFrom, Sem.run_bind, run_load] at h
      split at h
      · simp only [Result.andThen_ok] at h; exact ih _ _ _ _ _ h
      · split at h
        · simp only [Result.andThen_ok] at h; exact ih _ _ _ _ _ h
        · simp at h
  have hinfo : ∀ (w w' : World) (i : TypeInfo), (typeInfo t).run P w = .ok i w' → w' = w := by
    intro w w' i h
    simp only [typeInfo, Sem.run_bind, run_program, Result.andThen_ok] at h
    split at h
    · simp at h; exact h.2.symm
    · simp at h
  have hund : ∀ (w w' : World) (d : TypeDesc), (underlying t).run P w = .ok d w' → w' = w := by
    intro w w' d h
    simp only [Go.underlying, Sem.run_bind, run_program, Result.andThen_ok] at h
    split at h
    · simp at h; exact h.2.symm
    · simp at h
  have hag : ∀ (w w' : World) (b : Bool), (isAgg t).run P w = .ok b w' → w' = w := by
    intro w w' b h
    simp only [isAgg, Sem.run_bind] at h
    cases hq : (underlying t).run P w with
    | ok d w1 =>
      have := hund _ _ _ hq; subst this
      rw [hq] at h
      simp only [Result.andThen_ok] at h
      split at h <;> (simp at h; exact h.2.symm)
    | halt x w1 => rw [hq] at h; simp at h
  simp only [loadVar, Sem.run_bind] at h
  cases hq : (isAgg t).run P w with
  | ok b w1 =>
    have := hag _ _ _ hq; subst this
    rw [hq] at h
    simp only [Result.andThen_ok] at h
    split at h
    · simp only [Go.sizeOf, Sem.run_bind] at h
      cases hi : (typeInfo t).run P w1 with
      | ok i w2 =>
        have := hinfo _ _ _ hi; subst this
        rw [hi] at h
        simp only [Result.andThen_ok, Sem.run_pure] at h
        cases hl : (loadCells a i.size).run P w2 with
        | ok arr w3 =>
          have := hcells _ _ _ _ _ _ hl; subst this
          rw [hl] at h; simp at h; exact h.2.symm
        | halt x w3 => rw [hl] at h; simp at h
      | halt x w2 => rw [hi] at h; simp at h
    · simp only [run_load] at h
      split at h
      · simp at h; exact h.2.symm
      · split at h
        · simp at h; exact h.2.symm
        · simp at h
  | halt x w1 => rw [hq] at h; simp at h

/-- A result: a temporary, or a variable. -/
def resE (P : Program) (h : List AObj) (env : List AV) : ResultVar → PV
  | .tmp t => some (True, env.getD t .any)
  | .cell a t => ldA P t h (env.getD a .any)

def resL (P : Program) (h : List AObj) (env : List AV) : List ResultVar → Option (Prop × List AV)
  | [] => some (True, [])
  | r :: rs =>
    match resE P h env r, resL P h env rs with
    | some (p, x), some (q, xs) => some (p ∧ q, x :: xs)
    | _, _ => none

def resA (P : Program) (rs : List ResultVar) (env : List AV) (h : List AObj) : PV :=
  match resL P h env rs with
  | some (p, [x]) => some (p, x)
  | some (p, xs) => some (p, .tup xs)
  | none => none

def resR (tmps : Array Value) : ResultVar → Sem Value
  | .tmp t => pure (tmps.getD t undef)
  | .cell a t => do loadVar t (← asAddr (tmps.getD a undef))

theorem run_resL {P : Program} {w : World} {β : Beta} {fr : Nat → Prop} {h : List AObj} {env : List AV} {tmps : Array Value} (L : Lay β fr w.heap h) (R : EnvRep β fr w.heap env tmps) : ∀ (rs : List ResultVar) (xs : List AV) (p : Prop), resL P h env rs = some (p, xs) → p →
    ∃ vs : List Value, (rs.mapM (resR tmps)).run P w = .ok vs w ∧ CellsRep β fr w.heap xs vs.toArray
  | [], xs, p, e, hp => by
    simp only [resL] at e; injection e with e; injection e with e1 e2; subst e2
    exact ⟨[], rfl, rfl, fun j hj => by simp at hj⟩
  | r :: rs, xs, p, e, hp => by
    simp only [resL] at e
    split at e
    · rename_i p1 x q1 ys e1 e2
      injection e with e; injection e with e3 e4; subst e4; rw [← e3] at hp
      obtain ⟨vs, h1, h2⟩ := run_resL L R rs ys q1 e2 hp.2
      have h3 : ∃ v, (resR tmps r).run P w = .ok v w ∧ Rep β fr w.heap x v := by
        cases r with
        | tmp t =>
          simp only [resE] at e1; injection e1 with e1; injection e1 with e5 e6; subst e6
          exact ⟨tmps.getD t undef, rfl, R.eval (ds := []) (.tmp t)⟩
        | cell a t =>
          simp only [resE] at e1
          have hx := R.eval (ds := []) (.tmp a)
          simp only [evA] at hx
          let o : Oper := { dst := none, op := .load t (.tmp a), type := 0, pos := "", after := #[], guard := none }
          obtain ⟨v, w', r1, r2, r3, r4, r5, r6⟩ := ld_ok (o := o) (x := .tmp a) (ev := evA env) (P := P) rfl e1 hp.1 ⟨tmps, []⟩ w β fr L (fun y hy => R.eval y)
          have hw : w' = w ∧ (resR tmps (.cell a t)).run P w = .ok v w := by
            simp only [execOp, o, Instr.loadAt, Sem.run_bind] at r1
            have ha : (⟨tmps, []⟩ : Act).eval (.tmp a) = tmps.getD a undef := rfl
            rw [ha] at r1
            simp only [resR, Sem.run_bind]
            cases hv : tmps.getD a undef with
            | pointer ad =>
              cases ad with
              | none => rw [hv] at r1; simp [Instr.sureAddr] at r1
              | some ad =>
                rw [hv] at r1
                simp only [Instr.sureAddr, asAddr, Sem.run_pure, Result.andThen_ok] at r1 ⊢
                cases hl : (loadVar t ad).run P w with
                | ok v2 w2 =>
                  rw [hl] at r1
                  simp only [Result.andThen_ok, Sem.run_pure, Result.ok.injEq, Next.value.injEq] at r1
                  obtain ⟨q1, q2⟩ := r1
                  have hq : w2 = w := run_loadVar_world hl
                  rw [q1, hq]
                  exact ⟨by rw [← q2, hq], rfl⟩
                | halt x w2 => rw [hl] at r1; simp at r1
            | _ => rw [hv] at r1; simp [Instr.sureAddr] at r1
          exact ⟨v, hw.2, r6⟩
      obtain ⟨v, h3, h4⟩ := h3
      refine ⟨v :: vs, ?_, ?_⟩
      · rw [List.mapM_cons]; simp only [Sem.run_bind, h3, Result.andThen_ok, h1, Sem.run_pure]
      · have := CellsRep.append (xs := [x]) (us := #[v]) ⟨rfl, fun j hj => by
          have : j = 0 := by simpa using hj
          subst this; exact ⟨v, rfl, h4⟩⟩ h2
        simpa using this
    · cases e

theorem run_results {P : Program} {w : World} {β : Beta} {fr : Nat → Prop} {h : List AObj} {fn : Func} {env : List AV} {tmps : Array Value} {p : Prop} {x : AV} (L : Lay β fr w.heap h) (hr : resA P fn.results.toList env h = some (p, x)) (hp : p) (R : EnvRep β fr w.heap env tmps) : ∃ v, (results fn tmps).run P w = .ok v w ∧ Rep β fr w.heap x v := by
  have hdef : results fn tmps = (do let vs ← fn.results.mapM (resR tmps); pure (if h : vs.size = 1 then vs[0] else .tuple vs)) := by
    unfold results
    congr 1
  rw [hdef, Array.mapM_eq_mapM_toList]
  unfold resA at hr
  split at hr
  · rename_i p1 y e
    injection hr with hr; injection hr with h1 h2; subst h2; rw [← h1] at hp
    obtain ⟨vs, h3, h4⟩ := run_resL L R _ _ _ e hp
    have hl : vs.length = 1 := by have := h4.1; simpa using this
    obtain ⟨v, rfl⟩ : ∃ v, vs = [v] := by
      match vs, hl with
      | [v], _ => exact ⟨v, rfl⟩
    refine ⟨v, by simp [h3], ?_⟩
    obtain ⟨u, hu, hru⟩ := h4.2 0 (by simp)
    simp at hu; subst hu; exact hru
  · rename_i p1 ys hne e
    injection hr with hr; injection hr with h1 h2; subst h2; rw [← h1] at hp
    obtain ⟨vs, h3, h4⟩ := run_resL L R _ _ _ e hp
    have hl : vs.length ≠ 1 := by
      intro q
      have := h4.1
      simp only [List.size_toArray] at this
      rw [q] at this
      match ys, this with
      | [y], _ => exact hne _ rfl
    refine ⟨.tuple vs.toArray, by simp [h3, hl], ?_⟩
    simp only [Rep]
    exact ⟨_, rfl, h4.1, h4.2⟩
  · cases hr

/-- What a function's end owes. -/
def finR (r : PV) (n : Nat) (h : List AObj) (K : AV → List AObj → Prop) : Prop :=
  match r with
  | some (p, x) => p ∧ ∃ x2 h2, Close n x h x2 h2 ∧ K x2 h2
  | none => False

def AFin (P : Program) (rs : List ResultVar) (n : Nat) (K : AV → List AObj → Prop) (e : Exit) (env : List AV) (h : List AObj) : Prop :=
  match e with
  | .ret => finR (resA P rs env h) n h K
  | .normal => finR (resA P rs env h) n h K
  | _ => False

theorem ACall.of_code {P : Program} {f : FuncId} {fn : Func} {c : Code} {args : List AV} {h : List AObj} {K : AV → List AObj → Prop} (hf : P.funcs[f]? = some fn) (hb : fn.body = some c)
    (k : acode P c (args ++ List.replicate (fn.ntmps - args.length) (.tup [])) h (AFin P fn.results.toList h.length K)) : ACall P f args h K := by
  intro w β fr vs L R
  refine calls_of_wp hf hb (wp_mono (acode_ok c _ h _ k (vs ++ Array.replicate (fn.ntmps - vs.size) undef) w β fr L ?_) ?_)
  · refine CellsRep.append R ?_
    rw [R.1]
    refine ⟨by simp, fun j hj => ?_⟩
    have hj' : j < fn.ntmps - args.length := by simpa using hj
    exact ⟨undef, by simp [hj'], by simp [Rep, undef]⟩
  · rintro e a' w' ⟨hd, env', h', β', fr', q, L', R', S'⟩
    have fin : finR (resA P fn.results.toList env' h') h.length h' K → ∃ v, (results fn a'.tmps).run P w' = .ok v w' ∧ ∃ v_1 x h'_1 β'_1 fr'_1, Ending.returned v = Ending.returned v_1 ∧ K x h'_1 ∧ Lay β'_1 fr'_1 w'.heap h'_1 ∧ Rep β'_1 fr'_1 w'.heap x v_1 ∧ Step1 β fr h w β'_1 fr'_1 h'_1 w' := by
      intro hfin
      unfold finR at hfin
      split at hfin
      · rename_i p x1 hres
        obtain ⟨hp, x2, h2, hc, hk⟩ := hfin
        obtain ⟨v, hv, hrv⟩ := run_results (P := P) L' hres hp R'
        obtain ⟨β2, fr2, L2, R2, e1, e2, e3, e4⟩ := hc w'.heap β' fr' v L' hrv
        refine ⟨v, hv, v, x2, h2, β2, fr2, rfl, hk, L2, R2, ?_⟩
        exact { ext := { beta := fun t g r e => e1 t g r (L.dom _ _ _ e) (S'.ext.beta _ _ _ e), frm := fun b e => e2 b (S'.ext.frm b e), cells := S'.ext.cells, shape := S'.ext.shape }
                os := S'.os, tape := S'.tape, output := S'.output, size := S'.size, keep := S'.keep, prov := fun b e => S'.prov b (e3 b e), frz := fun b e => by
                  rcases e4 b e with q | q
                  · exact S'.frz b q
                  · exact .inr (S'.prov b q) }
      · exact hfin.elim
    cases e with
    | normal => exact ⟨hd, fin q⟩
    | ret => exact ⟨hd, fin q⟩
    | exit i => exact q.elim
    | goto l => exact q.elim
    | panic ch => exact q.elim
    | outgrown => exact q.elim

end Go.Proofs.Vale
