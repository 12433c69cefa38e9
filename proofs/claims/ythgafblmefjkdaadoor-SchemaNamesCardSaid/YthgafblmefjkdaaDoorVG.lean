/- YthgafblmefjkdaaDoorVG: a text of the proof of this claim, by its prover. -/
import Derived.Test.YthgafblmefjkdaaDoorVF
import Derived.Laws.Build
set_option linter.unusedVariables false
set_option linter.unusedSimpArgs false
namespace Go.Proofs.Vale

def plI (P : Program) (fs : List Field) : Option (List (Nat × Nat)) := fs.mapM fun f => (P.info? f.type).map fun j => (f.offset, j.size)

/-- A struct type: its fields' places and sizes, and the zero value's cells. -/
def bI (P : Program) (t : TypeId) : Option (List (Nat × Nat) × List AV) :=
  match P.underlying t, P.info? t with
  | some (.struct fs), some i =>
    match i.zero, plI P fs.toList with
    | some z, some ps => some (ps, z.cells.toList.map ofVal1)
    | _, _ => none
  | _, _ => none

def fillA (ps : List (Nat × Nat)) : List AV → List (Nat × AV) → Option (List AV)
  | cs, [] => some cs
  | cs, (i, x) :: r =>
    match ps[i]? with
    | some (off, n) => if x.cells.length = n ∧ off + n ≤ cs.length then fillA ps (cs.take off ++ x.cells ++ cs.drop (off + n)) r else none
    | none => none

theorem run_places {P : Program} (w : World) : ∀ (fs : List Field) (ps : List (Nat × Nat)), plI P fs = some ps → (fs.mapM fun f => (do pure (f.offset, ← Go.sizeOf f.type) : Sem (Nat × Nat))).run P w = .ok ps w
  | [], ps, h => by simp [plI] at h; subst h; rfl
  | f :: fs, ps, h => by
    simp only [plI, List.mapM_cons] at h
    cases hi : P.info? f.type with
    | none => simp [hi] at h
    | some j =>
      simp only [hi, Option.map_some] at h
      cases hr : plI P fs with
      | none => simp only [plI] at hr; simp [hr] at h
      | some qs =>
        have ih := run_places w fs qs hr
        simp only [plI] at hr
        simp [hr] at h; subst h
        rw [List.mapM_cons]
        simp only [Sem.run_bind, run_sizeOf' hi, Result.andThen_ok, Sem.run_pure, ih]

theorem fold_set (c : Array Value) (off : Nat) : ∀ (vs : List Value) (k : Nat) (i : Nat), ((vs.zipIdx k).foldl (fun cs (x : Value × Nat) => cs.setIfInBounds (off + x.2) x.1) c)[i]? = if off + k ≤ i ∧ i < off + k + vs.length ∧ i < c.size then vs[i - (off + k)]? else c[i]?
  | [], k, i => by simp; intro h1 h2; omega
  | v :: vs, k, i => by
    simp only [List.zipIdx_cons, List.foldl_cons]
    rw [fold_set (c.setIfInBounds (off + k) v) off vs (k + 1) i]
    simp only [Array.size_setIfInBounds, List.length_cons]
    by_cases h1 : i = off + k
    · subst h1
      rw [if_neg (by omega)]
      by_cases h2 : off + k < c.size
      · rw [if_pos (by omega)]; simp [h2]
      · rw [if_neg (by omega)]; simp [h2]
    · by_cases h2 : off + (k + 1) ≤ i ∧ i < off + (k + 1) + vs.length ∧ i < c.size
      · rw [if_pos h2, if_pos (by omega)]
        rw [show i - (off + k) = (i - (off + (k + 1))) + 1 by omega]; simp
      · rw [if_neg h2, if_neg (by omega)]
        rw [Array.getElem?_setIfInBounds_ne (by omega)]

def CellsRep (β : Beta) (fr : Nat → Prop) (H : Array Obj) (cs : List AV) (us : Array Value) : Prop := us.size = cs.length ∧ ∀ j (h : j < cs.length), ∃ u, us[j]? = some u ∧ Rep β fr H (cs[j]) u

theorem Rep_cells {β : Beta} {fr : Nat → Prop} {H : Array Obj} {x : AV} {v : Value} (h : Rep β fr H x v) (hx : ∀ b y, x ≠ .opt b y) (ha : x ≠ .any) : CellsRep β fr H x.cells v.cells := by
  cases x
  case agg cs =>
    simp only [Rep] at h
    obtain ⟨us, rfl, h1, h2⟩ := h
    exact ⟨h1, h2⟩
  case opt b y => exact absurd rfl (hx b y)
  case any => exact absurd rfl ha
  all_goals
    have hv : v.cells = #[v] := by
      simp only [Rep] at h
      first
        | (subst h; rfl)
        | (obtain ⟨_, rfl, _⟩ := h; rfl)
        | (obtain ⟨_, _, rfl, _⟩ := h; rfl)
        | (obtain ⟨_, _, rfl⟩ := h; rfl)
        | (rcases h with ⟨_, _, _, rfl⟩ | ⟨_, _, _, _, _, _, _, rfl, _⟩ <;> rfl)
    rw [hv]
    refine ⟨rfl, fun j hj => ?_⟩
    simp only [AV.cells, List.length_singleton] at hj
    have : j = 0 := by omega
    subst this
    exact ⟨v, rfl, h⟩

/-- A value that is known: neither a guess nor a choice. -/
def AV.sure : AV → Bool
  | .opt _ _ => false
  | .any => false
  | _ => true

theorem Rep_cells' {β : Beta} {fr : Nat → Prop} {H : Array Obj} {x : AV} {v : Value} (h : Rep β fr H x v) (hs : x.sure = true) : CellsRep β fr H x.cells v.cells :=
  Rep_cells h (fun b y e => by subst e; cases hs) (fun e => by subst e; cases hs)

theorem splice_rep {β : Beta} {fr : Nat → Prop} {H : Array Obj} {cs xs : List AV} {us vs : Array Value} {off n : Nat} (hc : CellsRep β fr H cs us) (hx : CellsRep β fr H xs vs) (hn : xs.length = n) (ho : off + n ≤ cs.length) :
    CellsRep β fr H (cs.take off ++ xs ++ cs.drop (off + n)) (vs.toList.zipIdx.foldl (fun c (x : Value × Nat) => c.setIfInBounds (off + x.2) x.1) us) := by
  have hsz : ∀ (l : List (Value × Nat)) (c : Array Value), (l.foldl (fun c (x : Value × Nat) => c.setIfInBounds (off + x.2) x.1) c).size = c.size := by
    intro l; induction l with
    | nil => intro c; rfl
    | cons a l ih => intro c; rw [List.foldl_cons, ih]; simp
  refine ⟨by rw [hsz, hc.1]; simp; omega, fun j hj => ?_⟩
  have hj' : j < cs.length := by simp at hj; omega
  rw [fold_set us off vs.toList 0 j]
  have hv : vs.toList.length = n := by simp [hx.1, hn]
  simp only [hv, hc.1, Nat.add_zero]
  by_cases h1 : off ≤ j ∧ j < off + n ∧ j < cs.length
  · rw [if_pos h1]
    obtain ⟨u, hu, hr⟩ := hx.2 (j - off) (by omega)
    refine ⟨u, by simpa using hu, ?_⟩
    have : (cs.take off ++ xs ++ cs.drop (off + n))[j]'hj = xs[j - off]'(by omega) := by
      rw [List.getElem_append_left (by simp; omega), List.getElem_append_right (by simp; omega)]
      congr 1; simp; omega
    rw [this]; exact hr
  · rw [if_neg h1]
    obtain ⟨u, hu, hr⟩ := hc.2 j hj'
    refine ⟨u, hu, ?_⟩
    have : (cs.take off ++ xs ++ cs.drop (off + n))[j]'hj = cs[j] := by
      by_cases h2 : j < off
      · rw [List.getElem_append_left (by simp; omega), List.getElem_append_left (by simp; omega)]
        simp
      · rw [List.getElem_append_right (by simp; omega)]
        simp only [List.getElem_drop]
        congr 1; simp; omega
    rw [this]; exact hr

theorem fill_rep {β : Beta} {fr : Nat → Prop} {H : Array Obj} {ps : List (Nat × Nat)} {place : Nat → Option (Nat × Nat)} (hpl : ∀ i, place i = ps[i]?) : ∀ (parts : List (Nat × AV)) (vals : List (Nat × Value)) (cs : List AV) (us : Array Value) (r : List AV),
    parts.length = vals.length → (∀ i (h : i < parts.length) (h' : i < vals.length), (parts[i]).1 = (vals[i]).1 ∧ Rep β fr H (parts[i]).2 (vals[i]).2) → (parts.all fun x => x.2.sure) = true → CellsRep β fr H cs us → fillA ps cs parts = some r →
    ∃ us', Instr.fill place us vals = some us' ∧ CellsRep β fr H r us'
  | [], vals, cs, us, r, hl, hr, hs, hc, hf => by
    cases vals with
    | nil => simp [fillA] at hf; subst hf; exact ⟨us, by simp [Instr.fill], hc⟩
    | cons v vals => simp at hl
  | (i, x) :: parts, vals, cs, us, r, hl, hr, hs, hc, hf => by
    cases vals with
    | nil => simp at hl
    | cons v vals =>
      obtain ⟨i', v⟩ := v
      obtain ⟨h1, h2⟩ := hr 0 (by simp) (by simp)
      simp only [List.getElem_cons_zero] at h1 h2; subst h1
      simp only [List.all_cons, Bool.and_eq_true] at hs
      simp only [fillA] at hf
      split at hf
      · rename_i off n hp
        split at hf
        · rename_i hn
          have hx := Rep_cells' h2 hs.1
          have hsz : v.cells.size = n := by rw [hx.1]; exact hn.1
          have := splice_rep hc hx hn.1 hn.2
          obtain ⟨us', h3, h4⟩ := fill_rep hpl parts vals _ _ r (by simpa using hl) (fun k hk hk' => by have := hr (k + 1) (by simp; omega) (by simp; omega); simpa using this) hs.2 this hf
          refine ⟨us', ?_, h4⟩
          rw [Instr.fill, hpl i, hp]
          simp only [hsz, hc.1]
          rw [if_neg (by simp; omega)]
          rw [← Array.foldl_toList, Array.toList_zipIdx]
          exact h3
        · cases hf
      · cases hf

def buA (P : Program) (t : TypeId) (parts : List (Nat × AV)) : PV :=
  match bI P t with
  | some (ps, z) => (match fillA ps z parts with | some r => some ((parts.all fun x => x.2.sure) = true, .agg r) | none => none)
  | none => none

theorem bu_ok {P : Program} {o : Oper} {t : TypeId} {parts : Array (Nat × Operand)} {ev : Operand → AV} {h : List AObj} {p : Prop} {r : AV} (ho : o.op = .build t parts) (hb : buA P t (parts.toList.map fun x => (x.1, ev x.2)) = some (p, r)) : PopOk P o ev h p r := by
  intro hp a w β fr L hr
  rw [ho] at hr
  simp only [execOp, ho]
  unfold buA at hb
  split at hb
  · rename_i ps z hbi
    split at hb
    · rename_i rr hf
      injection hb with hb; injection hb with hq hr'; subst hr'; rw [← hq] at hp
      unfold bI at hbi
      split at hbi
      · rename_i fs inf e1 e2
        split at hbi
        · rename_i zv ps' e3 e4
          injection hbi with hbi; injection hbi with h1 h2; subst h1 h2
          have hz : CellsRep β fr w.heap (zv.cells.toList.map ofVal1) zv.cells := by
            refine ⟨by simp, fun j hj => ?_⟩
            have hj' : j < zv.cells.size := by simpa using hj
            exact ⟨zv.cells[j], by simp [hj'], by simp; exact Rep_ofVal1 _ _ _ _⟩
          obtain ⟨us', h3, h4⟩ := fill_rep (β := β) (fr := fr) (H := w.heap) (ps := ps') (place := fun i => (ps'.toArray)[i]?) (fun i => by simp) (parts.toList.map fun x => (x.1, ev x.2)) (parts.toList.map fun x => (x.1, a.eval x.2)) _ _ rr (by simp) (fun i hi hi' => by
            simp only [List.getElem_map, true_and]
            refine hr _ ?_
            simp [Op.operands]
            have hm : parts.toList[i]'(by rw [List.length_map] at hi; exact hi) ∈ parts := Array.mem_toList_iff.1 (List.getElem_mem _)
            exact ⟨_, hm⟩) hp hz hf
          refine ⟨.agg us', w, ?_, rfl, rfl, rfl, rfl, by simp only [Rep]; exact ⟨us', rfl, h4.1, h4.2⟩⟩
          have hm : (fs.mapM fun f => (do pure (f.offset, ← Go.sizeOf f.type) : Sem (Nat × Nat))).run P w = .ok ps'.toArray w := by
            rw [Array.mapM_eq_mapM_toList]
            simp only [Sem.run_map, run_places w fs.toList ps' e4, Result.andThen_ok]
          have hzr : (zeroValue t).run P w = .ok zv w := by simp [zeroValue, typeInfo, e2, e3]
          simp only [Instr.build, Sem.run_bind, hzr, Result.andThen_ok, run_underlying e1, hm]
          simp only [Array.toList_map]
          rw [h3]; rfl
        · cases hbi
      · cases hbi
    · cases hb
  · cases hb


/-! ### The small ones -/

def exA (x : AV) (i : Nat) : PV :=
  match x with
  | .tup vs => some (i < vs.length, vs.getD i .any)
  | _ => none

theorem ex_ok {P : Program} {o : Oper} {x : Operand} {i : Nat} {ev : Operand → AV} {h : List AObj} {p : Prop} {r : AV} (ho : o.op = .extract x i) (hb : exA (ev x) i = some (p, r)) : PopOk P o ev h p r := by
  intro hp a w β fr L hr
  rw [ho] at hr
  have hx := hr x (by simp [Op.operands])
  simp only [execOp, ho]
  unfold exA at hb
  split at hb
  · rename_i vs e1
    injection hb with hb; injection hb with hq hr'; subst hr'; rw [← hq] at hp
    rw [e1] at hx; simp only [Rep] at hx
    obtain ⟨us, hv, h1, h2⟩ := hx
    obtain ⟨u, hu, hru⟩ := h2 i hp
    exact ⟨u, w, by simp [hv, Instr.extract, hu], rfl, rfl, rfl, rfl, by rw [getD_get hp]; exact hru⟩
  · cases hb

def unA (op : UnOp) (x : AV) : PV :=
  match op, x with
  | .neg, .int k n => some (True, .int k (k.wrap (0 - n)))
  | .not, .bool b => some (True, .bool (!b))
  | .xor, .int k n => some (True, .int k (intBitsA .xor k (if k.signed then -1 else k.max) n))
  | _, _ => none

theorem un_ok {P : Program} {o : Oper} {op : UnOp} {t : TypeId} {x : Operand} {ev : Operand → AV} {h : List AObj} {p : Prop} {r : AV} (ho : o.op = .unOp op t x) (hb : unA op (ev x) = some (p, r)) : PopOk P o ev h p r := by
  intro hp a w β fr L hr
  rw [ho] at hr
  have hx := hr x (by simp [Op.operands])
  simp only [execOp, ho]
  unfold unA at hb
  split at hb
  · rename_i k n e1
    injection hb with hb; injection hb with hq hr'; subst hr'
    rw [e1] at hx; simp only [Rep] at hx
    exact ⟨_, w, by rw [hx]; simp [Op.unary, Op.intArith]; rfl, rfl, rfl, rfl, rfl, by simp [Rep]⟩
  · rename_i b e1
    injection hb with hb; injection hb with hq hr'; subst hr'
    rw [e1] at hx; simp only [Rep] at hx
    exact ⟨_, w, by rw [hx]; simp [Op.unary]; rfl, rfl, rfl, rfl, rfl, by simp [Rep]⟩
  · rename_i k n e1
    injection hb with hb; injection hb with hq hr'; subst hr'
    rw [e1] at hx; simp only [Rep] at hx
    exact ⟨_, w, by rw [hx]; simp [Op.unary, Op.intBits]; rfl, rfl, rfl, rfl, rfl, by simp [Rep, intBitsA]⟩
  · cases hb

def ncA (x : AV) : PV :=
  match x with
  | .ptr y => some (True, .ptr y)
  | .ref t g s i j => some (True, .ref t g s i j)
  | .func (.func f) fs cs => some (True, .func (.func f) fs cs)
  | _ => none

theorem nc_ok {P : Program} {o : Oper} {x : Operand} {ev : Operand → AV} {h : List AObj} {p : Prop} {r : AV} (ho : o.op = .nilCheck x) (hb : ncA (ev x) = some (p, r)) : PopOk P o ev h p r := by
  intro hp a w β fr L hr
  rw [ho] at hr
  have hx := hr x (by simp [Op.operands])
  simp only [execOp, ho]
  unfold ncA at hb
  split at hb
  · rename_i y e1
    injection hb with hb; injection hb with hq hr'; subst hr'
    rw [e1] at hx
    have hx' := hx
    simp only [Rep] at hx; obtain ⟨ad, hv, -⟩ := hx
    exact ⟨a.eval x, w, by rw [hv]; rfl, rfl, rfl, rfl, rfl, hx'⟩
  · rename_i t g s i j e1
    injection hb with hb; injection hb with hq hr'; subst hr'
    rw [e1] at hx
    have hx' := hx
    simp only [Rep] at hx; obtain ⟨b, -, hv⟩ := hx
    exact ⟨a.eval x, w, by rw [hv]; rfl, rfl, rfl, rfl, rfl, hx'⟩
  · rename_i f fs cs e1
    injection hb with hb; injection hb with hq hr'; subst hr'
    rw [e1] at hx
    have hx' := hx
    simp only [Rep] at hx; obtain ⟨us, vs, hv, -⟩ := hx
    exact ⟨a.eval x, w, by rw [hv]; rfl, rfl, rfl, rfl, rfl, hx'⟩
  · cases hb

def mfA (fn : Fn) (first cap : List AV) : PV := some (True, .func fn first cap)

theorem mf_ok {P : Program} {o : Oper} {fn : Fn} {first cap : Array Operand} {ev : Operand → AV} {h : List AObj} {p : Prop} {r : AV} (ho : o.op = .makeFunc fn first cap) (hb : mfA fn (first.toList.map ev) (cap.toList.map ev) = some (p, r)) : PopOk P o ev h p r := by
  intro hp a w β fr L hr
  rw [ho] at hr
  simp only [execOp, ho]
  injection hb with hb; injection hb with hq hr'; subst hr'
  refine ⟨.func fn (first.map a.eval) (cap.map a.eval), w, by simp [Instr.makeFunc], rfl, rfl, rfl, rfl, ?_⟩
  simp only [Rep]
  refine ⟨_, _, rfl, by simp, by simp, fun j hj => ?_, fun j hj => ?_⟩
  · have hj' : j < first.size := by simpa using hj
    exact ⟨a.eval first[j], by simp [hj'], by simp; exact hr _ (by simp [Op.operands])⟩
  · have hj' : j < cap.size := by simpa using hj
    exact ⟨a.eval cap[j], by simp [hj'], by simp; exact hr _ (by simp [Op.operands])⟩

def miA (P : Program) (t : TypeId) (x : AV) : PV := some (P.concrete t = true, .iface t x)

theorem mi_ok {P : Program} {o : Oper} {t : TypeId} {x : Operand} {ev : Operand → AV} {h : List AObj} {p : Prop} {r : AV} (ho : o.op = .makeInterface t x) (hb : miA P t (ev x) = some (p, r)) : PopOk P o ev h p r := by
  intro hp a w β fr L hr
  rw [ho] at hr
  have hx := hr x (by simp [Op.operands])
  simp only [execOp, ho]
  injection hb with hb; injection hb with hq hr'; subst hr'; rw [← hq] at hp
  exact ⟨_, w, by simp [run_makeInterface w t _ hp]; rfl, rfl, rfl, rfl, rfl, by simp only [Rep]; exact ⟨_, rfl, hx⟩⟩

def taA (P : Program) (x : AV) (t : TypeId) (ok : Bool) : PV :=
  match x with
  | .iface t' y => some (t' = t ∧ P.concrete t = true, if ok then .tup [y, .bool true] else y)
  | _ => none

theorem ta_ok {P : Program} {o : Oper} {x : Operand} {t0 t : TypeId} {ok : Bool} {ev : Operand → AV} {h : List AObj} {p : Prop} {r : AV} (ho : o.op = .typeAssert x t0 t ok) (hb : taA P (ev x) t ok = some (p, r)) : PopOk P o ev h p r := by
  intro hp a w β fr L hr
  rw [ho] at hr
  have hx := hr x (by simp [Op.operands])
  simp only [execOp, ho]
  unfold taA at hb
  split at hb
  · rename_i t' y e1
    injection hb with hb; injection hb with hq hr'; subst hr'; rw [← hq] at hp
    obtain ⟨rfl, hc⟩ := hp
    rw [e1] at hx; simp only [Rep] at hx
    obtain ⟨u, hv, hu⟩ := hx
    have hd : ∃ d, P.underlying t' = some d ∧ ∀ ms, d ≠ .interface ms := by
      unfold Program.concrete at hc
      cases hd : P.underlying t' with
      | none => simp [hd] at hc
      | some d => exact ⟨d, rfl, fun ms e => by subst e; simp [hd] at hc⟩
    obtain ⟨d, hd, hn⟩ := hd
    cases ok
    · refine ⟨u, w, ?_, rfl, rfl, rfl, rfl, by simpa using hu⟩
      rw [hv]
      cases d <;> first | exact absurd rfl (hn _) | simp [Instr.typeAssert, run_underlying hd]
    · refine ⟨.tuple #[u, .bool true], w, ?_, rfl, rfl, rfl, rfl, ?_⟩
      · rw [hv]
        cases d <;> first | exact absurd rfl (hn _) | simp [Instr.typeAssert, run_underlying hd]
      · simp only [if_true, Rep]
        refine ⟨_, rfl, rfl, fun j hj => ?_⟩
        match j, hj with
        | 0, _ => exact ⟨u, rfl, hu⟩
        | 1, _ => exact ⟨.bool true, rfl, by simp [Rep]⟩
  · cases hb

/-- Which of two values is taken. -/
def pkA (c a b : AV) : PV :=
  match c, a, b with
  | .bool c, .bool x, .bool y => some (True, .bool (bif c then x else y))
  | .bool c, .opt g (.bool x), .bool y => some (c = true → g = true, .bool (bif c then x else y))
  | .bool c, .bool x, .opt g (.bool y) => some (c = false → g = true, .bool (bif c then x else y))
  | .bool true, .bool x, _ => some (True, .bool x)
  | .bool false, _, .bool y => some (True, .bool y)
  | _, _, _ => none

theorem pk_ok {P : Program} {o : Oper} {c x y : Operand} {ev : Operand → AV} {h : List AObj} {p : Prop} {r : AV} (ho : o.op = .pick c x y) (hb : pkA (ev c) (ev x) (ev y) = some (p, r)) : PopOk P o ev h p r := by
  intro hp a w β fr L hr
  rw [ho] at hr
  have hc := hr c (by simp [Op.operands])
  have hx := hr x (by simp [Op.operands])
  have hy := hr y (by simp [Op.operands])
  simp only [execOp, ho]
  unfold pkA at hb
  split at hb
  · rename_i c1 x1 y1 e1 e2 e3
    injection hb with hb; injection hb with hq hr'; subst hr'
    rw [e1] at hc; rw [e2] at hx; rw [e3] at hy
    simp only [Rep] at hc hx hy
    refine ⟨.bool (bif c1 then x1 else y1), w, ?_, rfl, rfl, rfl, rfl, by simp [Rep]⟩
    cases c1 <;> simp [hc, hx, hy, asBool]
  · rename_i c1 g x1 y1 e1 e2 e3
    injection hb with hb; injection hb with hq hr'; subst hr'; rw [← hq] at hp
    rw [e1] at hc; rw [e2] at hx; rw [e3] at hy
    simp only [Rep] at hc hx hy
    refine ⟨.bool (bif c1 then x1 else y1), w, ?_, rfl, rfl, rfl, rfl, by simp [Rep]⟩
    cases c1
    · simp [hc, hy, asBool]
    · simp [hc, hx.1 (hp rfl), asBool]
  · rename_i c1 x1 g y1 e1 e2 e3
    injection hb with hb; injection hb with hq hr'; subst hr'; rw [← hq] at hp
    rw [e1] at hc; rw [e2] at hx; rw [e3] at hy
    simp only [Rep] at hc hx hy
    refine ⟨.bool (bif c1 then x1 else y1), w, ?_, rfl, rfl, rfl, rfl, by simp [Rep]⟩
    cases c1
    · simp [hc, hy.1 (hp rfl), asBool]
    · simp [hc, hx, asBool]
  · rename_i x1 e1 e2 n1 n2
    injection hb with hb; injection hb with hq hr'; subst hr'
    rw [e1] at hc; rw [e2] at hx
    simp only [Rep] at hc hx
    exact ⟨.bool x1, w, by simp [hc, hx, asBool], rfl, rfl, rfl, rfl, by simp [Rep]⟩
  · rename_i y1 e1 e3 n1 n2
    injection hb with hb; injection hb with hq hr'; subst hr'
    rw [e1] at hc; rw [e3] at hy
    simp only [Rep] at hc hy
    exact ⟨.bool y1, w, by simp [hc, hy, asBool], rfl, rfl, rfl, rfl, by simp [Rep]⟩
  · cases hb

/-! ### len, cap, min, max -/

def lenA (P : Program) (t : TypeId) (x : AV) : PV :=
  match x with
  | .str s => some (tk P t = .str, .int .i64 s.length)
  | .fz c l => some ((∃ e, tk P t = .sl e), .int .i64 l.length)
  | .sl _ _ _ _ n => some ((∃ e, tk P t = .sl e), .int .i64 n)
  | _ => none

def mnA (x y : AV) : PV :=
  match x, y with
  | .int k a, .int k' b => some (True, .int k (if b < a then b else a))
  | _, _ => none

def mxA (x y : AV) : PV :=
  match x, y with
  | .int k a, .int k' b => some (True, .int k (if b > a then b else a))
  | _, _ => none

def capA (P : Program) (t : TypeId) (x : AV) : PV :=
  match x with
  | .fz true l => some ((∃ e, tk P t = .sl e), .int .i64 l.length)
  | _ => none

def bltA (P : Program) (b : Builtin) (ts : Array TypeId) (xs : List AV) : PV :=
  match b, xs with
  | .len, [x] => lenA P (ts.getD 0 0) x
  | .min, [x, y] => mnA x y
  | .max, [x, y] => mxA x y
  | .cap, [x] => capA P (ts.getD 0 0) x
  | _, _ => none

theorem arr1 {l : Array Operand} {ev : Operand → AV} {x : AV} (he : l.toList.map ev = [x]) : ∃ y, l = #[y] ∧ ev y = x := by
  obtain ⟨l⟩ := l
  match l, he with
  | [y], he => simp at he; exact ⟨y, rfl, he⟩
theorem arr2 {l : Array Operand} {ev : Operand → AV} {x z : AV} (he : l.toList.map ev = [x, z]) : ∃ y u, l = #[y, u] ∧ ev y = x ∧ ev u = z := by
  obtain ⟨l⟩ := l
  match l, he with
  | [y, u], he => simp at he; exact ⟨y, u, rfl, he.1, he.2⟩

theorem blt_ok {P : Program} {o : Oper} {b : Builtin} {c : Call} {ev : Operand → AV} {h : List AObj} {p : Prop} {r : AV} (ho : o.op = .call c) (hc : c.callee = .builtin b) (ht : c.argTypes.size ≠ 0) (hb : bltA P b c.argTypes (c.args.toList.map ev) = some (p, r)) : PopOk P o ev h p r := by
  intro hp a w β fr L hr
  rw [ho] at hr
  have hr' : ∀ y, y ∈ c.args → Rep β fr w.heap (ev y) (a.eval y) := fun y hy => hr y (by simp [Op.operands, Call.operands, hc, hy])
  simp only [execOp, ho]
  obtain ⟨t0, h0, ht0⟩ : ∃ t0, c.argTypes[0]? = some t0 ∧ c.argTypes.getD 0 0 = t0 := ⟨c.argTypes[0], Array.getElem?_eq_getElem (by omega), by rw [Array.getD_eq_getD_getElem?, Array.getElem?_eq_getElem (by omega)]; rfl⟩
  suffices key : ∃ v, (Go.builtin b c.argTypes o.type (c.args.map fun | .const _ => true | _ => false) (c.args.map a.eval)).run P w = .ok (.value v) w ∧ Rep β fr w.heap r v by
    obtain ⟨v, h1, h2⟩ := key
    refine ⟨v, w, ?_, rfl, rfl, rfl, rfl, h2⟩
    simp only [Go.resolve, hc, Sem.run_bind, Sem.run_pure, Result.andThen_ok, Go.invoke]
    exact h1
  unfold bltA at hb
  split at hb
  · rename_i x he
    obtain ⟨y, hy, rfl⟩ := arr1 he
    have hx := hr' y (by simp [hy])
    rw [ht0] at hb
    unfold lenA at hb
    split at hb
    · rename_i s e1
      injection hb with hb; injection hb with hq hr''; subst hr''; rw [← hq] at hp
      rw [e1] at hx; simp only [Rep] at hx
      obtain ⟨bb, hv, rfl⟩ := hx
      refine ⟨.int .i64 bb.size, ?_, by simp [Rep]⟩
      simp [Go.builtin, Builtin.len_, hy, h0, hv, run_underlying (tk_str hp), goInt]
    · rename_i cc l e1
      injection hb with hb; injection hb with hq hr''; subst hr''; rw [← hq] at hp
      obtain ⟨e, hp⟩ := hp
      rw [e1] at hx; simp only [Rep] at hx
      obtain ⟨ao, cap, hv, -⟩ := hx
      refine ⟨.int .i64 l.length, ?_, by simp [Rep]⟩
      simp [Go.builtin, Builtin.len_, hy, h0, hv, run_underlying (tk_sl hp), goInt]
    · rename_i t g s off n e1
      injection hb with hb; injection hb with hq hr''; subst hr''; rw [← hq] at hp
      obtain ⟨e, hp⟩ := hp
      rw [e1] at hx; simp only [Rep] at hx
      refine ⟨.int .i64 n, ?_, by simp [Rep]⟩
      rcases hx with ⟨-, -, rfl, hv⟩ | ⟨b, c', ele, f, cap, -, -, hv, -, -⟩
      · simp [Go.builtin, Builtin.len_, hy, h0, hv, run_underlying (tk_sl hp), goInt]
      · simp [Go.builtin, Builtin.len_, hy, h0, hv, run_underlying (tk_sl hp), goInt]
    · cases hb
  · rename_i x z he
    obtain ⟨y, u, hy, rfl, rfl⟩ := arr2 he
    have hx := hr' y (by simp [hy])
    have hz := hr' u (by simp [hy])
    unfold mnA at hb
    split at hb
    · rename_i k n k' m e1 e2
      injection hb with hb; injection hb with hq hr''; subst hr''
      rw [e1] at hx; rw [e2] at hz; simp only [Rep] at hx hz
      refine ⟨_, ?_, by simp only [Rep]; rfl⟩
      simp [Go.builtin, Builtin.min_, Builtin.min2, hy, hx, hz]
    · cases hb
  · rename_i x z he
    obtain ⟨y, u, hy, rfl, rfl⟩ := arr2 he
    have hx := hr' y (by simp [hy])
    have hz := hr' u (by simp [hy])
    unfold mxA at hb
    split at hb
    · rename_i k n k' m e1 e2
      injection hb with hb; injection hb with hq hr''; subst hr''
      rw [e1] at hx; rw [e2] at hz; simp only [Rep] at hx hz
      refine ⟨_, ?_, by simp only [Rep]; rfl⟩
      simp [Go.builtin, Builtin.max_, Builtin.max2, hy, hx, hz]
    · cases hb
  · rename_i x he
    obtain ⟨y, hy, rfl⟩ := arr1 he
    have hx := hr' y (by simp [hy])
    rw [ht0] at hb
    unfold capA at hb
    split at hb
    · rename_i l e1
      injection hb with hb; injection hb with hq hr''; subst hr''; rw [← hq] at hp
      obtain ⟨e, hp⟩ := hp
      rw [e1] at hx; simp only [Rep] at hx
      obtain ⟨ao, cap, hv, -, hcap, -⟩ := hx
      have hcap := hcap trivial
      subst hcap
      refine ⟨.int .i64 l.length, ?_, by simp [Rep]⟩
      simp [Go.builtin, Builtin.cap_, hy, h0, hv, run_underlying (tk_sl hp), goInt]
    · cases hb
  · cases hb

end Go.Proofs.Vale
