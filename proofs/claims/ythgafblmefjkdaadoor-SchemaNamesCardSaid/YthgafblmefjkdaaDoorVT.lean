/- YthgafblmefjkdaaDoorVT: a text of the proof of this claim, by its prover. -/
import Derived.Test.YthgafblmefjkdaaDoorVS
set_option linter.unusedVariables false
set_option linter.unusedSimpArgs false
namespace Go.Proofs.Vale

attribute [go_sem] Nat.le_refl Bool.not_eq_true' Bool.not_eq_false'

/-! ### Values that need no memory -/

def flat1 : AV → Bool
  | .int _ _ => true
  | .bool _ => true
  | .str _ => true
  | .nilp => true
  | .nili => true
  | _ => false

def flatB : AV → Bool
  | .agg cs => cs.all flat1
  | x => flat1 x

def flatV : AV → Bool
  | .tup vs => vs.all flatB
  | x => flatB x

theorem flat1_rep {β β' : Beta} {fr fr' : Nat → Prop} {H H' : Array Obj} {x : AV} {v : Value} (hf : flat1 x = true) (h : Rep β fr H x v) : Rep β' fr' H' x v := by
  cases x <;> first | (cases hf; done) | (simp only [Rep] at h ⊢; exact h)

theorem flatB_rep {β β' : Beta} {fr fr' : Nat → Prop} {H H' : Array Obj} {x : AV} {v : Value} (hf : flatB x = true) (h : Rep β fr H x v) : Rep β' fr' H' x v := by
  cases x
  case agg cs =>
    simp only [Rep] at h ⊢
    obtain ⟨us, rfl, hs, hc⟩ := h
    refine ⟨us, rfl, hs, fun j hj => ?_⟩
    obtain ⟨u, hu, hr⟩ := hc j hj
    exact ⟨u, hu, flat1_rep (List.all_eq_true.1 hf _ (List.getElem_mem hj)) hr⟩
  all_goals exact flat1_rep hf h

theorem flatV_rep {β β' : Beta} {fr fr' : Nat → Prop} {H H' : Array Obj} {x : AV} {v : Value} (hf : flatV x = true) (h : Rep β fr H x v) : Rep β' fr' H' x v := by
  cases x
  case tup cs =>
    simp only [Rep] at h ⊢
    obtain ⟨us, rfl, hs, hc⟩ := h
    refine ⟨us, rfl, hs, fun j hj => ?_⟩
    obtain ⟨u, hu, hr⟩ := hc j hj
    exact ⟨u, hu, flatB_rep (List.all_eq_true.1 hf _ (List.getElem_mem hj)) hr⟩
  all_goals exact flatB_rep hf h

/-! ### Memory of the call's own, lent to a call that only reads and hands back what needs no memory -/

def lendA (h : List AObj) (x : AV) : Option (Prop × AV) :=
  match x with
  | .sl t g s off len => (match h[t]? with | some (.arr g' s' l) => some (g = g' ∧ s = s' ∧ off + len ≤ l.length, .fz false ((l.drop off).take len)) | _ => none)
  | .ref t g s i 0 => (match h[t]? with | some (.arr g' s' l) => some (g = g' ∧ s = s' ∧ i < l.length, .ptr (l.getD i .any)) | _ => none)
  | .opt true x => some (True, x)
  | x => some (True, x)

def lends (h : List AObj) : List AV → Option (Prop × List AV)
  | [] => some (True, [])
  | x :: xs => (match lendA h x, lends h xs with | some (p, y), some (q, ys) => some (p ∧ q, y :: ys) | _, _ => none)

def deadH (h : List AObj) : List AObj := h.map fun _ => .dead

/-- All that lies in the call's own memory is frozen. -/
def allFr (β : Beta) (fr : Nat → Prop) (H : Array Obj) : Nat → Prop := fun b => b < H.size

theorem lay_dead {β : Beta} {fr : Nat → Prop} {H : Array Obj} {h : List AObj} (L : Lay β fr H h) : Lay β (allFr β fr H) H (deadH h) where
  frlt := fun _ e => e
  ownfr := fun b ⟨t, o, g, h1, h2, _⟩ => by
    simp only [deadH, List.getElem?_map] at h1
    cases q : h[t]? with
    | none => rw [q] at h1; cases h1
    | some o' => rw [q] at h1; injection h1 with h1; subst h1; cases h2
  lt := L.lt
  inj := fun t t' o o' g g' b h1 h2 => by
    simp only [deadH, List.getElem?_map] at h1
    cases q : h[t]? with
    | none => rw [q] at h1; cases h1
    | some o' => rw [q] at h1; injection h1 with h1; subst h1; cases h2
  obj := fun t o h1 => by
    simp only [deadH, List.getElem?_map] at h1
    cases q : h[t]? with
    | none => rw [q] at h1; cases h1
    | some o' => rw [q] at h1; injection h1 with h1; subst h1; trivial
  dom := fun t g r e => by simpa [deadH] using L.dom t g r e
  top := fun t g s l h1 => by
    simp only [deadH, List.getElem?_map] at h1
    cases q : h[t]? with
    | none => rw [q] at h1; cases h1
    | some o' => rw [q] at h1; cases h1
  tab := fun b cs q => ⟨L.frlt b (L.tab b cs q).1, (L.tab b cs q).2⟩

theorem ext_all {β : Beta} {fr : Nat → Prop} {H : Array Obj} {h : List AObj} (L : Lay β fr H h) : Ext β fr H β (allFr β fr H) H := ⟨fun _ _ _ e => e, fun b e => L.frlt b e, fun _ _ => rfl, fun _ _ _ c _ f _ e => ⟨c, f, e, rfl⟩⟩

theorem lendA_rep {β : Beta} {fr : Nat → Prop} {H : Array Obj} {h : List AObj} {x y : AV} {v : Value} {p : Prop} (L : Lay β fr H h) (he : lendA h x = some (p, y)) (hp : p) (hr : Rep β fr H x v) : Rep β (allFr β fr H) H y v := by
  unfold lendA at he
  split at he
  · rename_i t g s off len
    split at he
    · rename_i g' s' l ht
      injection he with he; injection he with h1 h2; subst h2; rw [← h1] at hp
      obtain ⟨rfl, rfl, hn⟩ := hp
      simp only [Rep] at hr ⊢
      have hlen : ((l.drop off).take len).length = len := by simp; omega
      rcases hr with ⟨hb, rfl, rfl, rfl⟩ | ⟨b, c, e, f, cap, hb, hH, rfl, hcs, hlc⟩
      · exact ⟨none, 0, by simp, by simp, by simp, by simp⟩
      · refine ⟨some ⟨b, off * s, none⟩, cap, by rw [hlen], by rw [hlen]; exact hlc, by simp, fun hne => ?_⟩
        refine ⟨⟨b, off * s, none⟩, s, rfl, L.lt _ _ _ hb, rfl, fun x hx => ?_, fun i hi j hj => ?_⟩
        · rcases L.obj t _ ht with ⟨_, z⟩ | ⟨_, _, _, _, _, _, _, h4, _⟩
          · subst z; simp at hx
          · exact h4 x (List.mem_of_mem_drop (List.mem_of_mem_take hx))
        · have hi' : off + i < l.length := by simp at hi; omega
          simp only [List.getElem_take, List.getElem_drop] at hj ⊢
          obtain ⟨u, hu, hr'⟩ := L.arr ht hi' hb j hj
          refine ⟨u, ?_, hr'.ext (ext_all L)⟩
          rw [← hu]; congr 1; rw [Nat.add_mul]
    · cases he
  · rename_i t g s i
    split at he
    · rename_i g' s' l ht
      injection he with he; injection he with h1 h2; subst h2; rw [← h1] at hp
      obtain ⟨rfl, rfl, hi⟩ := hp
      simp only [Rep] at hr ⊢
      obtain ⟨b, hb, rfl⟩ := hr
      rw [getD_get hi]
      refine ⟨_, rfl, L.lt _ _ _ hb, rfl, fun j hj => ?_⟩
      obtain ⟨u, hu, hr'⟩ := L.arr ht hi hb j hj
      exact ⟨u, by simpa using hu, hr'.ext (ext_all L)⟩
    · cases he
  · injection he with he; injection he with h1 h2; subst h2
    simp only [Rep] at hr
    exact (hr.1 trivial).ext (ext_all L)
  · injection he with he; injection he with h1 h2; subst h2
    exact hr.ext (ext_all L)

theorem lends_rep {β : Beta} {fr : Nat → Prop} {H : Array Obj} {h : List AObj} (L : Lay β fr H h) : ∀ (xs ys : List AV) (vs : Array Value) (p : Prop), lends h xs = some (p, ys) → p → CellsRep β fr H xs vs → CellsRep β (allFr β fr H) H ys vs := by
  have key : ∀ (xs ys : List AV) (p : Prop), lends h xs = some (p, ys) → p → ys.length = xs.length ∧ ∀ j (hj : j < xs.length) (hj' : j < ys.length), ∃ q, lendA h xs[j] = some (q, ys[j]) ∧ q := by
    intro xs
    induction xs with
    | nil => intro ys p e hp; simp only [lends] at e; injection e with e; injection e with e1 e2; subst e2; exact ⟨rfl, fun j hj => by simp at hj⟩
    | cons x xs ih =>
      intro ys p e hp
      simp only [lends] at e
      split at e
      · rename_i p1 y q1 ys1 e1 e2
        injection e with e; injection e with e3 e4; subst e4; rw [← e3] at hp
        obtain ⟨h1, h2⟩ := ih ys1 q1 e2 hp.2
        refine ⟨by simp [h1], fun j hj hj' => ?_⟩
        cases j with
        | zero => exact ⟨p1, e1, hp.1⟩
        | succ j => simpa using h2 j (by simpa using hj) (by simpa using hj')
      · cases e
  intro xs ys vs p e hp hr
  obtain ⟨h1, h2⟩ := key xs ys p e hp
  refine ⟨by rw [hr.1, h1], fun j hj => ?_⟩
  obtain ⟨u, hu, hru⟩ := hr.2 j (by omega)
  obtain ⟨q, hq, hqp⟩ := h2 j (by omega) hj
  exact ⟨u, hu, lendA_rep L hq hqp hru⟩

theorem ACall.pure {P : Program} {f : FuncId} {as as' : List AV} {h : List AObj} {K : AV → List AObj → Prop} {p : Prop} (hl : lends h as = some (p, as')) (hp : p) (k : ACall P f as' (deadH h) fun r _ => flatV r = true ∧ K r h) : ACall P f as h K := by
  intro w β fr vs L R
  refine (k w β (allFr β fr w.heap) vs (lay_dead L) (lends_rep L _ _ _ _ hl hp R)).mono ?_
  rintro e w' ⟨v, x, h', β', fr', rfl, ⟨hf, hk⟩, L', R', S'⟩
  have same : ∀ b, b < w.heap.size → w'.heap[b]? = w.heap[b]? := fun b hb => S'.ext.cells b hb
  have E : Ext β fr w.heap β fr w'.heap := ⟨fun _ _ _ e => e, fun _ e => e, fun b hb => same b (L.frlt b hb), fun t g b c e f hb hc => ⟨c, f, by rw [same b (L.lt _ _ _ hb)]; exact hc, rfl⟩⟩
  refine ⟨v, x, h, β, fr, rfl, hk, ?_, flatV_rep hf R', ?_⟩
  · exact { frlt := fun b hb => Nat.lt_of_lt_of_le (L.frlt b hb) S'.size, ownfr := L.ownfr, lt := fun t g b hb => Nat.lt_of_lt_of_le (L.lt t g b hb) S'.size, inj := L.inj
            obj := fun t o ho => (L.obj t o ho).ext E fun g b _ hb => same b (L.lt _ _ _ hb), dom := L.dom, top := L.top, tab := fun b cs q => ⟨(L.tab b cs q).1, by rw [E.cells b (L.tab b cs q).1]; exact (L.tab b cs q).2⟩ }
  · exact { ext := E, os := S'.os, tape := S'.tape, output := S'.output, size := S'.size, keep := fun b hb _ => same b hb, prov := fun b e => .inl e, frz := fun b e => .inl e }

/-- A call lent to: by what is known of it over any own memory. -/
theorem ACallT.pure {P : Program} {f : FuncId} {as as' : List AV} {h : List AObj} {K : AV → List AObj → Prop} {t : Tag K} {p : Prop} (hl : lends h as = some (p, as')) (hp : p) {K' : AV → List AObj → Prop} (k : ACall P f as' (deadH h) K') (kk : ∀ r h', K' r h' → flatV r = true ∧ K r h) : ACallT P f as h K t :=
  ACall.pure hl hp (k.mono kk)

@[go_sem] theorem lends_nil (h : List AObj) : lends h [] = some (True, []) := nrfl rfl
def lend2 (a : Option (Prop × AV)) (b : Option (Prop × List AV)) : Option (Prop × List AV) :=
  match a, b with
  | some (p, y), some (q, ys) => some (p ∧ q, y :: ys)
  | _, _ => none
@[go_sem] theorem lends_cons (h : List AObj) (x : AV) (xs : List AV) : lends h (x :: xs) = lend2 (lendA h x) (lends h xs) := by
  rw [lends]; unfold lend2; cases lendA h x <;> cases lends h xs <;> rfl
@[go_sem] theorem lend2_some (p q : Prop) (y : AV) (ys : List AV) : lend2 (some (p, y)) (some (q, ys)) = some (p ∧ q, y :: ys) := nrfl rfl

def lendO (o : Option AObj) (g s off len : Nat) : Option (Prop × AV) :=
  match o with
  | some (.arr g' s' l) => some (g = g' ∧ s = s' ∧ off + len ≤ l.length, .fz false ((l.drop off).take len))
  | _ => none
def lendR (o : Option AObj) (g s i : Nat) : Option (Prop × AV) :=
  match o with
  | some (.arr g' s' l) => some (g = g' ∧ s = s' ∧ i < l.length, .ptr (l.getD i .any))
  | _ => none
@[go_sem] theorem lendA_sl (h : List AObj) (t g s off len : Nat) : lendA h (.sl t g s off len) = lendO h[t]? g s off len := by
  unfold lendA lendO; simp only
@[go_sem] theorem lendA_ref (h : List AObj) (t g s i : Nat) : lendA h (.ref t g s i 0) = lendR h[t]? g s i := by
  unfold lendA lendR; simp only
@[go_sem] theorem lendO_some (g s off len g' s' : Nat) (l : List AV) : lendO (some (.arr g' s' l)) g s off len = some (g = g' ∧ s = s' ∧ off + len ≤ l.length, .fz false ((l.drop off).take len)) := nrfl rfl
@[go_sem] theorem lendR_some (g s i g' s' : Nat) (l : List AV) : lendR (some (.arr g' s' l)) g s i = some (g = g' ∧ s = s' ∧ i < l.length, .ptr (l.getD i .any)) := nrfl rfl
section
variable (h : List AObj)
@[go_sem] theorem lendA_int (k : IntKind) (n : Int) : lendA h (.int k n) = some (True, .int k n) := nrfl rfl
@[go_sem] theorem lendA_bool (b : Bool) : lendA h (.bool b) = some (True, .bool b) := nrfl rfl
@[go_sem] theorem lendA_str (s : List UInt8) : lendA h (.str s) = some (True, .str s) := nrfl rfl
@[go_sem] theorem lendA_opt (x : AV) : lendA h (.opt true x) = some (True, x) := nrfl rfl
@[go_sem] theorem lendA_nilp : lendA h .nilp = some (True, .nilp) := nrfl rfl
@[go_sem] theorem lendA_ptr (x : AV) : lendA h (.ptr x) = some (True, .ptr x) := nrfl rfl
@[go_sem] theorem lendA_fz (c : Bool) (l : List AV) : lendA h (.fz c l) = some (True, .fz c l) := nrfl rfl
@[go_sem] theorem lendA_agg (l : List AV) : lendA h (.agg l) = some (True, .agg l) := nrfl rfl
@[go_sem] theorem lendA_nili : lendA h .nili = some (True, .nili) := nrfl rfl
@[go_sem] theorem lendA_iface (t : TypeId) (x : AV) : lendA h (.iface t x) = some (True, .iface t x) := nrfl rfl
@[go_sem] theorem lendA_func (fn : Fn) (l c : List AV) : lendA h (.func fn l c) = some (True, .func fn l c) := nrfl rfl
end
attribute [go_sem] bne_self_eq_false

end Go.Proofs.Vale
