/- YthgafblmefjkdaaDoorVB: a text of the proof of this claim, by its prover. -/
import Derived.Test.YthgafblmefjkdaaDoorVA
import Derived.Tactics
import Derived.Laws.Cells
import Derived.Laws.StructEq
import Derived.Laws.BytesArg
set_option linter.unusedVariables false
set_option linter.unusedSimpArgs false
namespace Go.Proofs.Vale

/-! ### Operands -/

def ofVal1 : Value → AV
  | .int k n => .int k n
  | .bool b => .bool b
  | .string s => .str s.data.toList
  | .pointer none => .nilp
  | .slice none 0 0 => .fz true []
  | .map none => .nilm
  | .nilFunc => .nilf
  | .nilIface => .nili
  | .func fn ⟨[]⟩ ⟨[]⟩ => .func fn [] []
  | _ => .any

def ofVal : Value → AV
  | .agg cs => .agg (cs.toList.map ofVal1)
  | .tuple ⟨[]⟩ => .tup []
  | v => ofVal1 v

theorem Rep_ofVal1 (β : Beta) (fr : Nat → Prop) (H : Array Obj) (v : Value) : Rep β fr H (ofVal1 v) v := by
  unfold ofVal1
  split <;> simp [Rep]

theorem Rep_ofVal (β : Beta) (fr : Nat → Prop) (H : Array Obj) (v : Value) : Rep β fr H (ofVal v) v := by
  unfold ofVal
  split
  · rename_i cs
    simp only [Rep]
    refine ⟨cs, rfl, by simp, fun j hj => ?_⟩
    have hj' : j < cs.size := by simpa using hj
    exact ⟨cs[j], by simp [hj'], by simp; exact Rep_ofVal1 _ _ _ _⟩
  · simp [Rep]
  · exact Rep_ofVal1 _ _ _ _

def evA (env : List AV) : Operand → AV
  | .tmp t => env.getD t .any
  | .const v => ofVal v
  | .func f => .func (.func f) [] []
  | .global _ => .any

def EnvRep (β : Beta) (fr : Nat → Prop) (H : Array Obj) (env : List AV) (tmps : Array Value) : Prop :=
  tmps.size = env.length ∧ ∀ j (h : j < env.length), ∃ u, tmps[j]? = some u ∧ Rep β fr H (env[j]) u

theorem EnvRep.ext {β β' : Beta} {fr fr' : Nat → Prop} {H H' : Array Obj} (e : Ext β fr H β' fr' H') {env : List AV} {tmps : Array Value} (h : EnvRep β fr H env tmps) : EnvRep β' fr' H' env tmps :=
  ⟨h.1, fun j hj => let ⟨u, hu, hr⟩ := h.2 j hj; ⟨u, hu, hr.ext e⟩⟩

theorem EnvRep.eval {β : Beta} {fr : Nat → Prop} {H : Array Obj} {env : List AV} {tmps : Array Value} {ds : List Deferred} (h : EnvRep β fr H env tmps) (x : Operand) : Rep β fr H (evA env x) ((⟨tmps, ds⟩ : Act).eval x) := by
  cases x with
  | tmp t =>
    simp only [evA, Act.eval]
    by_cases ht : t < env.length
    · obtain ⟨u, hu, hr⟩ := h.2 t ht
      rw [List.getD_eq_getElem?_getD, List.getElem?_eq_getElem ht, Array.getD_eq_getD_getElem?, hu]
      exact hr
    · rw [List.getD_eq_getElem?_getD, List.getElem?_eq_none (Nat.le_of_not_lt ht)]
      simp [Rep]
  | const v => exact Rep_ofVal _ _ _ _
  | func f => simp [evA, Act.eval, Rep]
  | global g => simp [evA, Rep]

def putA (env : List AV) (dst : Option Nat) (x : AV) : List AV :=
  match dst with
  | some d => env.set d x
  | none => env

theorem EnvRep.put {β : Beta} {fr : Nat → Prop} {H : Array Obj} {env : List AV} {tmps : Array Value} {ds : List Deferred} (h : EnvRep β fr H env tmps) {x : AV} {v : Value} (hx : Rep β fr H x v) (dst : Option Nat) :
    EnvRep β fr H (putA env dst x) ((⟨tmps, ds⟩ : Act).put dst v).tmps := by
  cases dst with
  | none => exact h
  | some d =>
    simp only [putA, Act.put]
    refine ⟨by simp [h.1], fun j hj => ?_⟩
    have hj' : j < env.length := by simpa using hj
    by_cases e : d = j
    · subst e
      exact ⟨v, by simp [h.1, hj'], by simpa using hx⟩
    · obtain ⟨u, hu, hr⟩ := h.2 j hj'
      exact ⟨u, by simp [e, hu], by rw [List.getElem_set_ne e]; exact hr⟩

theorem put_defers (a : Act) (dst : Option Nat) (v : Value) : (a.put dst v).defers = a.defers := by cases dst <;> rfl

/-! ### What is asked of types -/

inductive TK where
  | int (k : IntKind) | str | bool | sl (e : TypeId) | ptr | map (k e : TypeId) | agg | iface | other
  deriving DecidableEq, Inhabited

def tk (P : Program) (t : TypeId) : TK :=
  match P.underlying t with
  | some (.int k) => .int k
  | some .string => .str
  | some .bool => .bool
  | some (.slice e) => .sl e
  | some (.pointer _) => .ptr
  | some (.map k e) => .map k e
  | some (.struct _) => .agg
  | some (.array _ _) => .agg
  | some (.interface _) => .iface
  | _ => .other

/-- A type's cells, and whether it has parts. -/
def tI (P : Program) (t : TypeId) : Option (Nat × Bool) :=
  match P.info? t, P.underlying t with
  | some i, some (.struct _) | some i, some (.array _ _) => some (i.size, true)
  | some i, some _ => some (i.size, false)
  | _, _ => none

/-- A slice type's element: type, cells, bytes. -/
def eI (P : Program) (t : TypeId) : Option (TypeId × Nat × Nat) :=
  match P.underlying t with
  | some (.slice e) =>
    match P.info? e with
    | some i => (match i.zero with | some z => if z.cells.size = i.size then some (e, i.size, i.bytes) else none | none => none)
    | none => none
  | _ => none

/-- A field: where, how many cells, whether it has parts. -/
def fI (P : Program) (s f : Nat) : Option (Nat × Nat × Bool) :=
  match P.underlying s with
  | some (.struct fs) =>
    match fs[f]? with
    | some fd => (match tI P fd.type with | some (n, a) => if n = 0 then none else some (fd.offset, n, a) | none => none)
    | none => none
  | _ => none

theorem run_isAgg {P : Program} {t : TypeId} {n : Nat} {ag : Bool} (h : tI P t = some (n, ag)) (w : World) : (isAgg t).run P w = .ok ag w := by
  unfold tI at h
  split at h <;> first | (cases h; done) | skip
  all_goals (injection h with h; injection h with h1 h2; subst h1 h2)
  all_goals (rename_i h0 h1; simp [isAgg, run_underlying h1])

theorem run_sizeOf {P : Program} {t : TypeId} {n : Nat} {ag : Bool} (h : tI P t = some (n, ag)) (w : World) : (Go.sizeOf t).run P w = .ok n w := by
  unfold tI at h
  split at h <;> first | (cases h; done) | skip
  all_goals (injection h with h; injection h with h1 h2; subst h1 h2)
  all_goals (rename_i h0 h1; simp [Go.sizeOf, typeInfo, *])


theorem add_none {a : Addr} (h : a.spot = none) (n : Nat) : a.add n = ⟨a.block, a.off + n, none⟩ := by
  obtain ⟨b, o, s⟩ := a
  simp only at h; subst h
  unfold Addr.add
  split
  · rename_i e; subst e; rfl
  · rfl

/-- The part of a value from cell j on, n cells. -/
def partA (x : AV) (j n : Nat) (ag : Bool) : AV := if ag then .agg ((x.cells.drop j).take n) else x.cells.getD j .any

/-- The variable at block b, place o reads as x. -/
def VarAt (β : Beta) (fr : Nat → Prop) (H : Array Obj) (x : AV) (b o : Nat) : Prop := ∀ j (h : j < x.cells.length), ∃ u, cellAt H b (o + j) = some u ∧ Rep β fr H (x.cells[j]) u

/-- What is loaded at a place of a variable. -/
theorem run_loadPart {P : Program} {w : World} {β : Beta} {fr : Nat → Prop} {x : AV} {a : Addr} {j n : Nat} {ag : Bool} {t : TypeId} (ht : tI P t = some (n, ag)) (hs : a.spot = none) (hx : VarAt β fr w.heap x a.block a.off) (hn : j + n ≤ x.cells.length) (h1 : ag = false → n = 1) {a' : Addr} (ha : a' = ⟨a.block, a.off + j, none⟩) :
    ∃ v, (loadVar t a').run P w = .ok v w ∧ Rep β fr w.heap (partA x j n ag) v := by
  subst ha
  simp only [loadVar, Sem.run_bind, run_isAgg ht, Result.andThen_ok]
  cases ag with
  | false =>
    obtain rfl := h1 rfl
    obtain ⟨u, hu, hr⟩ := hx j (by omega)
    refine ⟨u, by simp [cell?_eq, hu], ?_⟩
    simp only [partA, Bool.false_eq_true, if_false]
    rw [List.getD_eq_getElem?_getD, List.getElem?_eq_getElem (by omega)]
    exact hr
  | true =>
    simp only [if_true, Sem.run_bind, run_sizeOf ht, Result.andThen_ok]
    rw [run_loadCells w _ n (fun i => (cellAt w.heap a.block (a.off + j + i)).getD undef) (fun i hi => by
      obtain ⟨u, hu, hr⟩ := hx (j + i) (by omega)
      rw [add_none rfl, cell?_eq _ _ rfl]
      simp only [show a.off + j + i = a.off + (j + i) by omega, hu]; rfl)]
    refine ⟨_, rfl, ?_⟩
    simp only [partA, if_true, Rep]
    refine ⟨_, rfl, by simp; omega, fun i hi => ?_⟩
    have hi' : i < n := by simp at hi; omega
    obtain ⟨u, hu, hr⟩ := hx (j + i) (by omega)
    refine ⟨u, by simp [hi', show a.off + j + i = a.off + (j + i) by omega, hu], ?_⟩
    simpa using hr

theorem run_part {P : Program} {w : World} {β : Beta} {fr : Nat → Prop} {cs : List AV} {us : Array Value} {j n : Nat} {ag : Bool} {t : TypeId} (ht : tI P t = some (n, ag)) (hs : us.size = cs.length) (hx : ∀ i (h : i < cs.length), ∃ u, us[i]? = some u ∧ Rep β fr w.heap (cs[i]) u) (hn : j + n ≤ cs.length) (h1 : ag = false → n = 1) :
    ∃ v, (part t us j).run P w = .ok v w ∧ Rep β fr w.heap (partA (.agg cs) j n ag) v := by
  simp only [part, Sem.run_bind, run_isAgg ht, Result.andThen_ok]
  cases ag with
  | false =>
    obtain rfl := h1 rfl
    obtain ⟨u, hu, hr⟩ := hx j (by omega)
    refine ⟨u, by simp [hu], ?_⟩
    simp only [partA, Bool.false_eq_true, if_false, AV.cells]
    rw [List.getD_eq_getElem?_getD, List.getElem?_eq_getElem (by omega)]
    exact hr
  | true =>
    simp only [if_true, Sem.run_bind, run_sizeOf ht, Result.andThen_ok]
    refine ⟨_, rfl, ?_⟩
    simp only [partA, if_true, Rep, AV.cells]
    refine ⟨_, rfl, by simp; omega, fun i hi => ?_⟩
    have hi' : i < n := by simp at hi; omega
    obtain ⟨u, hu, hr⟩ := hx (j + i) (by omega)
    refine ⟨u, by simp [Array.getElem?_extract, hu]; omega, ?_⟩
    simpa using hr

end Go.Proofs.Vale
