/- YthgafblmefjkdaaDoorVN: a text of the proof of this claim, by its prover. -/
import Derived.Test.YthgafblmefjkdaaDoorVM
set_option linter.unusedVariables false
set_option linter.unusedSimpArgs false
namespace Go.Proofs.Vale

/-- An operation that turns memory, or calls. -/
def aop (P : Program) (op : Op) (ev : Operand → AV) (h : List AObj) (K : AV → List AObj → Prop) : Prop :=
  match op with
  | .alloc t => (match zI P t with | some x => bxK x h K | none => False)
  | .box t v => bxK (ev v) h K
  | .buildSlice t n parts => bsK P t n (parts.toList.map fun x => (x.1, ev x.2)) h K
  | .store t a x => stK P t (ev a) (ev x) h K
  | .convert s d x => (∃ dd, P.underlying s = some dd) ∧ sbK P d (ev x) h K
  | .range t x => rgK P t (ev x) h K
  | .next x b => nxK (ev x) b h K
  | .binOp op t x y _ => (match op, y with
    | .eql, .const (.slice none 0 0) => nqK P .eql t (ev x) h K
    | .neq, .const (.slice none 0 0) => nqK P .neq t (ev x) h K
    | _, _ => False)
  | .call c => (match c.callee with
    | .builtin .append => (match c.args.toList with | [A, X] => apK P c.argTypes (ev A) (ev X) h K | _ => False)
    | .value f => clK P (ev f) (c.args.toList.map ev) h K
    | _ => False)
  | _ => False

theorem aop_ok {P : Program} {o : Oper} {ev : Operand → AV} {h : List AObj} {K : AV → List AObj → Prop} (hk : aop P o.op ev h K) : OpK P o ev h K := by
  unfold aop at hk
  split at hk
  · rename_i t ho
    split at hk
    · rename_i x hz; exact al_ok ho hz hk
    · cases hk
  · rename_i t v ho; exact bx_ok ho hk
  · rename_i t n parts ho; exact bs_ok ho hk
  · rename_i t a x ho; exact st_ok ho hk
  · rename_i s d x ho; exact sb_ok ho hk.1 hk.2
  · rename_i t x ho; exact rg_ok ho hk
  · rename_i x b ho; exact nx_ok ho hk
  · rename_i op t x y yt ho
    split at hk
    · exact nq_ok ho (.inl rfl) hk
    · exact nq_ok ho (.inr rfl) hk
    · cases hk
  · rename_i c ho
    split at hk
    · rename_i hc
      split at hk
      · rename_i A X ha
        exact ap_ok ho hc (by rw [← Array.toArray_toList (xs := c.args), ha]) hk
      · cases hk
    · rename_i f hc; exact cl_ok ho hc hk
    · cases hk
  · cases hk

/-! ### Regions in the order of the text -/

def gv (env : List AV) (ds : List (Option Nat)) (j : Nat) : AV :=
  match ds.reverse[j]? with
  | some (some d) => env.getD d .any
  | _ => .any

def gdA (x : AV) (want : Bool) : Option Bool :=
  match x with
  | .bool g => some (g == want)
  | .opt b (.bool g) => some (b && (g == want))
  | .opt false _ => some false
  | .tup _ => some false
  | _ => none

def AV.stripT : AV → AV
  | .opt true x => x
  | x => x

theorem Rep.stripT {β : Beta} {fr : Nat → Prop} {H : Array Obj} {x : AV} {v : Value} (h : Rep β fr H x v) : Rep β fr H x.stripT v := by
  cases x <;> try exact h
  case opt b x => cases b <;> first | exact h | (simp only [Rep] at h; exact h.1 trivial)

/-- The operations of a region, one by one: ds are the places that those before have written, the last one first. -/
def aopsL (P : Program) : List (Option Nat) → List Oper → List AV → List AObj → (List AV → List AObj → Prop) → Prop
  | _, [], env, h, K => K env h
  | ds, o :: os, env, h, K =>
    match o.guard with
    | none =>
      (match pop P o.op (evA env) h with
      | some (p, x) => p ∧ aopsL P (o.dst :: ds) os (putA env o.dst x) h K
      | none => aop P o.op (evA env) h fun x h' => aopsL P (o.dst :: ds) os (putA env o.dst x) h' K)
    | some (j, want) =>
      (match gdA (gv env ds j) want with
      | none => False
      | some gd =>
        match popG P o.op (evA env) h with
        | some (p, x) => (gd = true → p) ∧ aopsL P (o.dst :: ds) os (putA env o.dst (.opt gd x)) h K
        | none => (gd = true → aop P o.op (fun y => (evA env y).stripT) h fun x h' => aopsL P (o.dst :: ds) os (putA env o.dst x) h' K) ∧ (gd = false → aopsL P (o.dst :: ds) os (putA env o.dst (.tup [])) h K))

theorem guard_spec {β : Beta} {fr : Nat → Prop} {H : Array Obj} {env : List AV} {tmps : Array Value} {ops : Array Oper} {done rest : List Oper} {j : Nat} {want gd : Bool} {o : Oper} (hops : ops.toList = done ++ rest) (R : EnvRep β fr H env tmps)
    (hg : gdA (gv env ((done.map (·.dst)).reverse) j) want = some gd) (ho : o.guard = some (j, want)) : Region.wanted o (yielded ops tmps) = gd := by
  simp only [Region.wanted, ho]
  unfold gv at hg
  rw [List.reverse_reverse] at hg
  have hget : ∀ d, (done.map (·.dst))[j]? = some (some d) → (ops[j]?).bind (·.dst) = some d := by
    intro d hd
    rw [List.getElem?_map] at hd
    cases hq : done[j]? with
    | none => rw [hq] at hd; cases hd
    | some q =>
      rw [hq] at hd; injection hd with hd
      have : ops[j]? = some q := by
        rw [← Array.getElem?_toList, hops, List.getElem?_append_left (List.getElem?_eq_some_iff.1 hq).1]; exact hq
      rw [this]; exact hd
  split at hg
  · rename_i d hd
    have hy : yielded ops tmps j = match tmps[d]? with | some (.bool b) => some b | _ => none := by
      unfold yielded; rw [hget d hd]; rfl
    rw [hy]
    by_cases hl : d < env.length
    · obtain ⟨u, hu, hr⟩ := R.2 d hl
      rw [getD_get hl] at hg
      unfold gdA at hg
      split at hg
      · rename_i g e
        injection hg with hg; subst hg
        rw [e] at hr; simp only [Rep] at hr; subst hr
        rw [hu]; simp
      · rename_i b g e
        injection hg with hg; subst hg
        rw [e] at hr; simp only [Rep] at hr
        cases b with
        | true => have := hr.1 rfl; subst this; rw [hu]; simp
        | false => have := hr.2 rfl; subst this; rw [hu]; simp [undef]
      · rename_i x _ e
        injection hg with hg; subst hg
        rw [e] at hr; simp only [Rep] at hr
        have := hr.2 (by trivial); subst this; rw [hu]; simp [undef]
      · rename_i vs e
        injection hg with hg; subst hg
        rw [e] at hr; simp only [Rep] at hr
        obtain ⟨us, rfl, _⟩ := hr
        rw [hu]; simp
      · cases hg
    · rw [List.getD_eq_getElem?_getD, List.getElem?_eq_none (Nat.le_of_not_lt hl)] at hg
      simp [gdA] at hg
  · simp [gdA] at hg

theorem put_act (tmps : Array Value) (dst : Option Nat) (v : Value) : (⟨tmps, []⟩ : Act).put dst v = ⟨((⟨tmps, []⟩ : Act).put dst v).tmps, []⟩ := by cases dst <;> rfl

theorem Rep_undef (β : Beta) (fr : Nat → Prop) (H : Array Obj) : Rep β fr H (.tup []) undef := by simp [Rep, undef]

theorem aopsL_ok {P : Program} {ops : Array Oper} {K : List AV → List AObj → Prop} {Q : Exit → Act → World → Prop} : ∀ (rest done : List Oper) (env : List AV) (h : List AObj) (tmps : Array Value) (w : World) (β : Beta) (fr : Nat → Prop), ops.toList = done ++ rest →
    aopsL P (done.map (·.dst)).reverse rest env h K → Lay β fr w.heap h → EnvRep β fr w.heap env tmps →
    (∀ env' h' β' fr' tmps' w', K env' h' → Lay β' fr' w'.heap h' → EnvRep β' fr' w'.heap env' tmps' → Step1 β fr h w β' fr' h' w' → Q .normal ⟨tmps', []⟩ w') →
    wpList P ops Q rest ⟨tmps, []⟩ w
  | [], done, env, h, tmps, w, β, fr, hops, hk, L, R, hQ => by
    simp only [aopsL] at hk
    exact hQ env h β fr tmps w hk L R (Step1.refl _ _ _ _)
  | o :: rest, done, env, h, tmps, w, β, fr, hops, hk, L, R, hQ => by
    have hops' : ops.toList = (done ++ [o]) ++ rest := by simp [hops]
    have hds : (o.dst :: (done.map (·.dst)).reverse) = ((done ++ [o]).map (·.dst)).reverse := by simp
    have next : ∀ v x w' h' β' fr', aopsL P (o.dst :: (done.map (·.dst)).reverse) rest (putA env o.dst x) h' K → Lay β' fr' w'.heap h' → Rep β' fr' w'.heap x v → Step1 β fr h w β' fr' h' w' → wpList P ops Q rest ((⟨tmps, []⟩ : Act).put o.dst v) w' := by
      intro v x w' h' β' fr' k L' R' S'
      rw [put_act]
      rw [hds] at k
      exact aopsL_ok rest (done ++ [o]) _ h' _ w' β' fr' hops' k L' ((R.ext S'.ext).put R' o.dst) fun env2 h2 β2 fr2 t2 w2 k2 L2 R2 S2 => hQ env2 h2 β2 fr2 t2 w2 k2 L2 R2 (S'.trans S2)
    have hev : ∀ y, y ∈ o.op.operands → Rep β fr w.heap (evA env y) ((⟨tmps, []⟩ : Act).eval y) := fun y _ => R.eval y
    have hop : ∀ {K' : AV → List AObj → Prop}, OpK P o (evA env) h K' → (∀ x h', K' x h' → aopsL P (o.dst :: (done.map (·.dst)).reverse) rest (putA env o.dst x) h' K) → o.wp P ⟨tmps, []⟩ w (wpList P ops Q rest) Q := by
      intro K' ok hK
      exact ok ⟨tmps, []⟩ w β fr L hev _ _ fun v x w' h' β' fr' k L' R' S' => next v x w' h' β' fr' (hK x h' k) L' R' S'
    simp only [aopsL] at hk
    unfold wpList
    cases hg : o.guard with
    | none =>
      rw [hg] at hk
      have hw : Region.wanted o (yielded ops (⟨tmps, []⟩ : Act).tmps) = true := by simp [Region.wanted, hg]
      rw [if_pos hw]
      left
      simp only at hk
      cases hpp : pop P o.op (evA env) h with
      | none =>
        rw [hpp] at hk
        exact hop (aop_ok hk) fun x h' k => k
      | some q =>
        obtain ⟨p, x⟩ := q
        rw [hpp] at hk
        exact hop (K' := fun y h' => y = x ∧ h' = h) (OpK.of_pop (pop_ok hpp) hk.1 ⟨rfl, rfl⟩) fun y h' ⟨e1, e2⟩ => by subst e1 e2; exact hk.2
    | some jw =>
      obtain ⟨j, want⟩ := jw
      rw [hg] at hk
      simp only at hk
      cases hgd : gdA (gv env (done.map (·.dst)).reverse j) want with
      | none => rw [hgd] at hk; exact hk.elim
      | some gd =>
        rw [hgd] at hk
        simp only at hk
        have hw : Region.wanted o (yielded ops (⟨tmps, []⟩ : Act).tmps) = gd := guard_spec hops R hgd hg
        rw [hw]
        cases hpp : popG P o.op (evA env) h with
        | none =>
          rw [hpp] at hk
          simp only at hk
          cases gd with
          | true =>
            rw [if_pos rfl]
            left
            exact aop_ok (hk.1 rfl) ⟨tmps, []⟩ w β fr L (fun y hy => (hev y hy).stripT) _ _ fun v x w' h' β' fr' k L' R' S' => next v x w' h' β' fr' k L' R' S'
          | false =>
            rw [if_neg (by simp)]
            exact next undef _ w h β fr (hk.2 rfl) L (Rep_undef _ _ _) (Step1.refl _ _ _ _)
        | some q =>
          obtain ⟨p, x⟩ := q
          rw [hpp] at hk
          simp only at hk
          cases gd with
          | true =>
            rw [if_pos rfl]
            left
            refine (OpK.of_pop (K := fun y h' => y = x ∧ h' = h) (popG_ok hpp) (hk.1 rfl) ⟨rfl, rfl⟩) ⟨tmps, []⟩ w β fr L hev _ _ fun v y w' h' β' fr' k L' R' S' => ?_
            obtain ⟨rfl, rfl⟩ := k
            exact next v (.opt true y) w' _ β' fr' hk.2 L' (by simp only [Rep]; exact ⟨fun _ => R', fun e => by cases e⟩) S'
          | false =>
            rw [if_neg (by simp)]
            exact next undef _ w h β fr hk.2 L (by simp [Rep]) (Step1.refl _ _ _ _)

end Go.Proofs.Vale
