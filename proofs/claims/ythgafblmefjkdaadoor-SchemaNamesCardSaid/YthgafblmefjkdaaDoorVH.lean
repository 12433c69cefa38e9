/- YthgafblmefjkdaaDoorVH: a text of the proof of this claim, by its prover. -/
import Derived.Test.YthgafblmefjkdaaDoorVG
set_option linter.unusedVariables false
set_option linter.unusedSimpArgs false
namespace Go.Proofs.Vale

def eqR (op : BinOp) (r : Option (Prop × Bool)) : PV :=
  match op, r with
  | .eql, some (p, b) => some (p, .bool b)
  | .neq, some (p, b) => some (p, .bool (!b))
  | _, _ => none

def orP (a b : PV) : PV :=
  match a with
  | some r => some r
  | none => b

/-- What an operation that only computes and reads hands back. -/
def pop (P : Program) (op : Op) (ev : Operand → AV) (h : List AObj) : PV :=
  match op with
  | .move x => some (True, ev x)
  | .assign x => some (True, ev x)
  | .pick c a b => pkA (ev c) (ev a) (ev b)
  | .load t x => ldA P t h (ev x)
  | .nilCheck x => ncA (ev x)
  | .binOp op t x y _ => orP (bin op (ev x) (ev y)) (eqR op (eqo P t (ev x) (ev y)))
  | .unOp op _ x => unA op (ev x)
  | .convert s d x => cvA P s d h (ev x)
  | .makeInterface t x => miA P t (ev x)
  | .makeFunc fn f c => mfA fn (f.toList.map ev) (c.toList.map ev)
  | .slice t x lo hi mx => slA P t (ev x) (lo.map ev) (hi.map ev) (mx.map ev)
  | .fieldAddr s x f => faA P s f (ev x)
  | .field s x f => fdA P s f (ev x)
  | .indexAddr t x i => ixA P t (ev x) (ev i)
  | .index t x i => inA P t (ev x) (ev i)
  | .typeAssert x _ t ok => taA P (ev x) t ok
  | .extract x i => exA (ev x) i
  | .build t parts => buA P t (parts.toList.map fun x => (x.1, ev x.2))
  | .call c => (match c.callee with | .builtin b => if c.argTypes.size = 0 then none else bltA P b c.argTypes (c.args.toList.map ev) | _ => none)
  | _ => none

theorem eq_ok {P : Program} {o : Oper} {op : BinOp} {t yt : TypeId} {x y : Operand} {ev : Operand → AV} {h : List AObj} {p : Prop} {r : AV} (ho : o.op = .binOp op t x y yt) (hn : bin op (ev x) (ev y) = none) (hb : eqR op (eqo P t (ev x) (ev y)) = some (p, r)) : PopOk P o ev h p r := by
  intro hp a w β fr L hr
  rw [ho] at hr
  have hx := hr x (by simp [Op.operands])
  have hy := hr y (by simp [Op.operands])
  simp only [execOp, ho]
  cases he : eqo P t (ev x) (ev y) with
  | none => rw [he] at hb; cases op <;> cases hb
  | some q =>
    obtain ⟨p', b⟩ := q
    rw [he] at hb
    have key : p' → ∃ c, r = .bool c ∧ (Go.binOp op t (a.eval x) (a.eval y)).run P w = .ok (.bool c) w ∧ p' = p := by
      intro hp'
      have hpt := run_equal he hp' hx hy op x y
      have hk : ∀ op', (op' = BinOp.eql ∨ op' = BinOp.neq) → Go.binOp op' t (a.eval x) (a.eval y) = (do let b ← Op.equal t (a.eval x) (a.eval y); pure (.bool (if op' = .eql then b else !b))) := by
        intro op' ho'
        unfold eqo at he
        split at he
        · rename_i e1 e2; rw [e1] at hx; rw [e2] at hy; simp only [Rep] at hx hy; rw [hx, hy]; rcases ho' with rfl | rfl <;> rfl
        · rename_i e1 e2; rw [e1] at hx; rw [e2] at hy; simp only [Rep] at hx hy; rw [hx, hy]; rcases ho' with rfl | rfl <;> rfl
        · rename_i e1 e2; rw [e1] at hx; rw [e2] at hy; simp only [Rep] at hx hy; obtain ⟨_, hy, -⟩ := hy; rw [hx, hy]; rcases ho' with rfl | rfl <;> rfl
        · rename_i e1 e2; rw [e1] at hx; rw [e2] at hy; simp only [Rep] at hx hy; obtain ⟨_, hx, -⟩ := hx; rw [hx, hy]; rcases ho' with rfl | rfl <;> rfl
        · rename_i e1 e2; rw [e1] at hx; rw [e2] at hy; simp only [Rep] at hx hy; obtain ⟨_, -, hy⟩ := hy; rw [hx, hy]; rcases ho' with rfl | rfl <;> rfl
        · rename_i e1 e2; rw [e1] at hx; rw [e2] at hy; simp only [Rep] at hx hy; obtain ⟨_, -, hx⟩ := hx; rw [hx, hy]; rcases ho' with rfl | rfl <;> rfl
        · rename_i e1 e2; rw [e1] at hx; rw [e2] at hy; simp only [Rep] at hx hy; obtain ⟨_, hx, -⟩ := hx; obtain ⟨_, hy, -⟩ := hy; rw [hx, hy]; rcases ho' with rfl | rfl <;> rfl
        · cases he
      cases op
      case eql =>
        injection hb with hb; injection hb with h1 h2
        exact ⟨b, h2.symm, by rw [hk .eql (.inl rfl)]; simp [hpt.2], h1⟩
      case neq =>
        injection hb with hb; injection hb with h1 h2
        exact ⟨!b, h2.symm, by rw [hk .neq (.inr rfl)]; simp [hpt.2], h1⟩
      all_goals cases hb
    have hpp : p' := by
      cases op <;> first | (injection hb with hb; injection hb with h1 h2; rw [h1]; exact hp) | cases hb
    obtain ⟨c, rfl, hrun, -⟩ := key hpp
    refine ⟨.bool c, w, ?_, rfl, rfl, rfl, rfl, by simp [Rep]⟩
    simp [(run_equal he hpp hx hy op x y).1, hrun]

theorem pop_ok {P : Program} {o : Oper} {ev : Operand → AV} {h : List AObj} {p : Prop} {r : AV} (hb : pop P o.op ev h = some (p, r)) : PopOk P o ev h p r := by
  unfold pop at hb
  split at hb
  case h_1 x ho =>
    intro hp a w β fr L hr
    injection hb with hb; injection hb with h1 h2; subst h2
    rw [ho] at hr
    exact ⟨a.eval x, w, by simp [execOp, ho], rfl, rfl, rfl, rfl, hr x (by simp [Op.operands])⟩
  case h_2 x ho =>
    intro hp a w β fr L hr
    injection hb with hb; injection hb with h1 h2; subst h2
    rw [ho] at hr
    exact ⟨a.eval x, w, by simp [execOp, ho], rfl, rfl, rfl, rfl, hr x (by simp [Op.operands])⟩
  case h_3 ho => exact pk_ok ho hb
  case h_4 ho => exact ld_ok ho hb
  case h_5 ho => exact nc_ok ho hb
  case h_6 op t x y yt ho =>
    cases hbin : bin op (ev x) (ev y) with
    | none => rw [hbin] at hb; exact eq_ok ho hbin hb
    | some q => rw [hbin] at hb; injection hb with hb; subst hb; exact bin_ok ho hbin
  case h_7 ho => exact un_ok ho hb
  case h_8 ho => exact cv_ok ho hb
  case h_9 ho => exact mi_ok ho hb
  case h_10 ho => exact mf_ok ho hb
  case h_11 ho => exact sl_ok ho hb
  case h_12 ho => exact fa_ok ho hb
  case h_13 ho => exact fd_ok ho hb
  case h_14 ho => exact ix_ok ho hb
  case h_15 ho => exact in_ok ho hb
  case h_16 ho => exact ta_ok ho hb
  case h_17 ho => exact ex_ok ho hb
  case h_18 ho => exact bu_ok ho hb
  case h_19 c ho =>
    split at hb
    · rename_i b hc
      split at hb
      · cases hb
      · rename_i hz; exact blt_ok ho hc hz hb
    · cases hb
  case h_20 => cases hb

/-! ### Under a guard -/

def AV.strip : AV → AV
  | .opt _ x => x
  | x => x

def AV.okS : AV → Prop
  | .opt b _ => b = true
  | _ => True

theorem Rep.strip {β : Beta} {fr : Nat → Prop} {H : Array Obj} {x : AV} {v : Value} (h : Rep β fr H x v) (ok : x.okS) : Rep β fr H x.strip v := by
  cases x <;> first | exact h | (simp only [Rep] at h; exact h.1 ok)

def andL : List Prop → Prop
  | [] => True
  | p :: ps => p ∧ andL ps

theorem andL_mem : ∀ {l : List Prop}, andL l → ∀ p, p ∈ l → p
  | [], _, p, h => by cases h
  | q :: l, ⟨h1, h2⟩, p, h => by
    cases h with
    | head => exact h1
    | tail _ h => exact andL_mem h2 p h

def addP (q : Prop) (a : PV) : PV :=
  match a with
  | some (p, r) => some (q ∧ p, r)
  | none => none

def popG (P : Program) (op : Op) (ev : Operand → AV) (h : List AObj) : PV :=
  match op with
  | .pick c a b => addP (ev c).okS (pkA (ev c).strip (ev a) (ev b))
  | op => addP (andL (op.operands.toList.map fun x => (ev x).okS)) (pop P op (fun x => (ev x).strip) h)

theorem popG_ok {P : Program} {o : Oper} {ev : Operand → AV} {h : List AObj} {p : Prop} {r : AV} (hb : popG P o.op ev h = some (p, r)) : PopOk P o ev h p r := by
  unfold popG at hb
  split at hb
  · rename_i c x y ho
    cases hk : pkA (ev c).strip (ev x) (ev y) with
    | none => rw [hk] at hb; cases hb
    | some q =>
      obtain ⟨p', r'⟩ := q
      rw [hk] at hb; simp only [addP] at hb; injection hb with hb; injection hb with h1 h2; subst h2
      intro hp a w β fr L hr
      rw [← h1] at hp
      rw [ho] at hr
      have hc := (hr c (by simp [Op.operands])).strip hp.1
      have hx := hr x (by simp [Op.operands])
      have hy := hr y (by simp [Op.operands])
      -- the same as pk_ok, at the stripped first operand
      unfold pkA at hk
      simp only [execOp, ho]
      split at hk
      · rename_i c1 x1 y1 e1 e2 e3
        injection hk with hk; injection hk with hq hr'; subst hr'
        rw [e1] at hc; rw [e2] at hx; rw [e3] at hy
        simp only [Rep] at hc hx hy
        refine ⟨.bool (bif c1 then x1 else y1), w, ?_, rfl, rfl, rfl, rfl, by simp [Rep]⟩
        cases c1 <;> simp [hc, hx, hy, asBool]
      · rename_i c1 g x1 y1 e1 e2 e3
        injection hk with hk; injection hk with hq hr'; subst hr'; rw [← hq] at hp
        rw [e1] at hc; rw [e2] at hx; rw [e3] at hy
        simp only [Rep] at hc hx hy
        refine ⟨.bool (bif c1 then x1 else y1), w, ?_, rfl, rfl, rfl, rfl, by simp [Rep]⟩
        cases c1
        · simp [hc, hy, asBool]
        · simp [hc, hx.1 (hp.2 rfl), asBool]
      · rename_i c1 x1 g y1 e1 e2 e3
        injection hk with hk; injection hk with hq hr'; subst hr'; rw [← hq] at hp
        rw [e1] at hc; rw [e2] at hx; rw [e3] at hy
        simp only [Rep] at hc hx hy
        refine ⟨.bool (bif c1 then x1 else y1), w, ?_, rfl, rfl, rfl, rfl, by simp [Rep]⟩
        cases c1
        · simp [hc, hy.1 (hp.2 rfl), asBool]
        · simp [hc, hx, asBool]
      · rename_i x1 e1 e2 n1 n2
        injection hk with hk; injection hk with hq hr'; subst hr'
        rw [e1] at hc; rw [e2] at hx
        simp only [Rep] at hc hx
        exact ⟨.bool x1, w, by simp [hc, hx, asBool], rfl, rfl, rfl, rfl, by simp [Rep]⟩
      · rename_i y1 e1 e3 n1 n2
        injection hk with hk; injection hk with hq hr'; subst hr'
        rw [e1] at hc; rw [e3] at hy
        simp only [Rep] at hc hy
        exact ⟨.bool y1, w, by simp [hc, hy, asBool], rfl, rfl, rfl, rfl, by simp [Rep]⟩
      · cases hk
  · cases hk : pop P o.op (fun x => (ev x).strip) h with
    | none => rw [hk] at hb; cases hb
    | some q =>
      obtain ⟨p', r'⟩ := q
      rw [hk] at hb; simp only [addP] at hb; injection hb with hb; injection hb with h1 h2; subst h2
      intro hp a w β fr L hr
      rw [← h1] at hp
      refine pop_ok hk hp.2 a w β fr L fun y hy => (hr y hy).strip (andL_mem hp.1 _ ?_)
      simp only [List.mem_map]
      exact ⟨y, Array.mem_toList_iff.2 hy, rfl⟩

/-! ### Calls, and operations that turn memory -/

/-- The call of f at what reads as args, over the own objects h, comes back with what K tells. -/
def ACall (P : Program) (f : FuncId) (args : List AV) (h : List AObj) (K : AV → List AObj → Prop) : Prop :=
  ∀ (w : World) (β : Beta) (fr : Nat → Prop) (vs : Array Value), Lay β fr w.heap h → CellsRep β fr w.heap args vs →
    Calls P f vs w fun e w' => ∃ v x h' β' fr', e = .returned v ∧ K x h' ∧ Lay β' fr' w'.heap h' ∧ Rep β' fr' w'.heap x v ∧ Step1 β fr h w β' fr' h' w'

theorem ACall.mono {P : Program} {f : FuncId} {args : List AV} {h : List AObj} {K K' : AV → List AObj → Prop} (a : ACall P f args h K) (hk : ∀ x h', K x h' → K' x h') : ACall P f args h K' :=
  fun w β fr vs L R => (a w β fr vs L R).mono fun _ _ ⟨v, x, h', β', fr', e, k, r⟩ => ⟨v, x, h', β', fr', e, hk _ _ k, r⟩

/-- The operation o comes to what K tells. -/
def OpK (P : Program) (o : Oper) (ev : Operand → AV) (h : List AObj) (K : AV → List AObj → Prop) : Prop :=
  ∀ (a : Act) (w : World) (β : Beta) (fr : Nat → Prop), Lay β fr w.heap h → (∀ y, y ∈ o.op.operands → Rep β fr w.heap (ev y) (a.eval y)) →
    ∀ (next : Act → World → Prop) (Q : Exit → Act → World → Prop),
      (∀ v x w' h' β' fr', K x h' → Lay β' fr' w'.heap h' → Rep β' fr' w'.heap x v → Step1 β fr h w β' fr' h' w' → next (a.put o.dst v) w') → o.wp P a w next Q

theorem OpK.of_pop {P : Program} {o : Oper} {ev : Operand → AV} {h : List AObj} {p : Prop} {r : AV} {K : AV → List AObj → Prop} (hk : PopOk P o ev h p r) (hp : p) (k : K r h) : OpK P o ev h K := by
  intro a w β fr L hr next Q hn
  obtain ⟨v, w', h1, h2, h3, h4, h5, h6⟩ := hk hp a w β fr L hr
  unfold Oper.wp
  rw [h1, Oper.upon_value]
  exact hn v r w' h β fr k (by rw [h2]; exact L) (by rw [h2]; exact h6) (Step1.drawn h2 h3 h4 h5)

theorem OpK.of_run {P : Program} {o : Oper} {ev : Operand → AV} {h : List AObj} {K : AV → List AObj → Prop}
    (hk : ∀ (a : Act) (w : World) (β : Beta) (fr : Nat → Prop), Lay β fr w.heap h → (∀ y, y ∈ o.op.operands → Rep β fr w.heap (ev y) (a.eval y)) →
      ∃ v x w' h' β' fr', ((execOp a.eval o).run P w = .ok (.value v) w' ∨ ((execOp a.eval o).run P w = .ok .skip w' ∧ v = undef)) ∧ K x h' ∧ Lay β' fr' w'.heap h' ∧ Rep β' fr' w'.heap x v ∧ Step1 β fr h w β' fr' h' w') : OpK P o ev h K := by
  intro a w β fr L hr next Q hn
  obtain ⟨v, x, w', h', β', fr', h1, h2, h3, h4, h5⟩ := hk a w β fr L hr
  unfold Oper.wp
  rcases h1 with h1 | ⟨h1, rfl⟩
  · rw [h1, Oper.upon_value]; exact hn v x w' h' β' fr' h2 h3 h4 h5
  · rw [h1, Oper.upon_skip]; exact hn _ x w' h' β' fr' h2 h3 h4 h5

end Go.Proofs.Vale
