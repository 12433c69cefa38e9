/- YthgafblmefjkdaaDoorVA: a text of the proof of this claim, by its prover. -/
import Derived.Calls
import Derived.Orders
import Derived.Scope
import Derived.Test.YthgafblmefjkdaaDoorVGl
set_option linter.unusedVariables false
set_option linter.unusedSimpArgs false
namespace Go.Proofs.Vale

/-- What a value reads as: numbers, truths, bytes; memory that is never written any more, as what it reads (ptr, fz); memory of the call's own by tag, generation and place (ref, sl). -/
inductive AV where
  | int (k : IntKind) (n : Int)
  | bool (b : Bool)
  | str (s : List UInt8)
  | nilp
  | ptr (x : AV)
  | fz (c : Bool) (l : List AV)
  | ref (t g s i j : Nat)
  | sl (t g sz off len : Nat)
  | mp (t : Nat)
  | it (t : Nat)
  | nilm
  | agg (cs : List AV)
  | tup (vs : List AV)
  | func (fn : Fn) (first cap : List AV)
  | nilf
  | iface (t : TypeId) (x : AV)
  | nili
  | opt (b : Bool) (x : AV)
  | any
  deriving Inhabited

def AV.cells : AV → List AV
  | .agg cs => cs
  | x => [x]

theorem AV.cells_le {x y : AV} (h : y ∈ x.cells) : SizeOf.sizeOf y ≤ SizeOf.sizeOf x := by
  cases x <;> simp [AV.cells] at h <;> (try subst h) <;> (try simp)
  have := List.sizeOf_lt_of_mem h
  omega

theorem AV.cells_get_le {x : AV} {j : Nat} (h : j < x.cells.length) : SizeOf.sizeOf (x.cells[j]) ≤ SizeOf.sizeOf x := AV.cells_le (List.getElem_mem h)

/-- Where own memory lies: by tag and generation; 'some none': a nil slice that owns nothing yet. -/
abbrev Beta := Nat → Nat → Option (Option Nat)

/-- The cell at block b, place o. -/
def cellAt (H : Array Obj) (b o : Nat) : Option Value :=
  match H[b]? with
  | some (.cells c _ _) => c[o]?
  | _ => none

theorem cell?_eq (w : World) (a : Addr) (h : a.spot = none) : w.cell? a = cellAt w.heap a.block a.off := by
  unfold World.cell? cellAt
  split <;> simp_all

/-- The value v reads as x. -/
def Rep (β : Beta) (fr : Nat → Prop) (H : Array Obj) : AV → Value → Prop
  | .int k n, v => v = .int k n
  | .bool b, v => v = .bool b
  | .str s, v => ∃ b : ByteArray, v = .string b ∧ b.data.toList = s
  | .nilp, v => v = .pointer none
  | .ptr x, v => ∃ a : Addr, v = .pointer (some a) ∧ fr a.block ∧ a.spot = none ∧
      ∀ j (h : j < x.cells.length), ∃ u, cellAt H a.block (a.off + j) = some u ∧ Rep β fr H (x.cells[j]) u
  | .fz c l, v => ∃ a cap, v = .slice a l.length cap ∧ l.length ≤ cap ∧ (c = true → cap = l.length) ∧
      (l ≠ [] → ∃ (ad : Addr) (s : Nat), a = some ad ∧ fr ad.block ∧ ad.spot = none ∧ (∀ x ∈ l, x.cells.length = s) ∧
        ∀ i (hi : i < l.length) j (hj : j < (l[i]).cells.length), ∃ u, cellAt H ad.block (ad.off + i * s + j) = some u ∧ Rep β fr H ((l[i]).cells[j]) u)
  | .ref t g s i j, v => ∃ b, β t g = some (some b) ∧ v = .pointer (some ⟨b, i * s + j, none⟩)
  | .sl t g s off len, v => ((β t g = some none ∧ off = 0 ∧ len = 0 ∧ v = .slice none 0 0) ∨
      ∃ b c e f cap, β t g = some (some b) ∧ H[b]? = some (.cells c e f) ∧ v = .slice (some ⟨b, off * s, none⟩) len cap ∧ (off + cap) * s = c.size ∧ len ≤ cap)
  | .mp t, v => ∃ b, β t 0 = some (some b) ∧ v = .map (some b)
  | .it t, v => ∃ b, β t 0 = some (some b) ∧ v = .pointer (some ⟨b, 0, none⟩)
  | .nilm, v => v = .map none
  | .agg cs, v => ∃ us : Array Value, v = .agg us ∧ us.size = cs.length ∧ ∀ j (h : j < cs.length), ∃ u, us[j]? = some u ∧ Rep β fr H (cs[j]) u
  | .tup cs, v => ∃ us : Array Value, v = .tuple us ∧ us.size = cs.length ∧ ∀ j (h : j < cs.length), ∃ u, us[j]? = some u ∧ Rep β fr H (cs[j]) u
  | .func fn fs cs, v => ∃ us vs : Array Value, v = .func fn us vs ∧ us.size = fs.length ∧ vs.size = cs.length ∧
      (∀ j (h : j < fs.length), ∃ u, us[j]? = some u ∧ Rep β fr H (fs[j]) u) ∧ (∀ j (h : j < cs.length), ∃ u, vs[j]? = some u ∧ Rep β fr H (cs[j]) u)
  | .nilf, v => v = .nilFunc
  | .iface t x, v => ∃ u, v = .iface t u ∧ Rep β fr H x u
  | .nili, v => v = .nilIface
  | .opt b x, v => (b = true → Rep β fr H x v) ∧ (b = false → v = undef)
  | .any, _ => True
termination_by x => SizeOf.sizeOf x
decreasing_by
  all_goals simp_wf
  all_goals first
    | (have := AV.cells_get_le h; omega)
    | (have h1 := AV.cells_get_le hj; have h2 := List.sizeOf_lt_of_mem (List.getElem_mem hi); omega)
    | (have := List.sizeOf_lt_of_mem (List.getElem_mem h); omega)
    | omega

/-- Memory has grown, or the call's own parts of it have turned; what is read stays. -/
structure Ext (β : Beta) (fr : Nat → Prop) (H : Array Obj) (β' : Beta) (fr' : Nat → Prop) (H' : Array Obj) : Prop where
  beta : ∀ t g r, β t g = some r → β' t g = some r
  frm : ∀ b, fr b → fr' b
  cells : ∀ b, fr b → H'[b]? = H[b]?
  shape : ∀ t g b c e f, β t g = some (some b) → H[b]? = some (.cells c e f) → ∃ c' f', H'[b]? = some (.cells c' e f') ∧ c'.size = c.size

theorem Ext.refl (β : Beta) (fr : Nat → Prop) (H : Array Obj) : Ext β fr H β fr H := ⟨fun _ _ _ h => h, fun _ h => h, fun _ _ => rfl, fun _ _ _ c _ f _ h => ⟨c, f, h, rfl⟩⟩

theorem Ext.trans {β β' β'' : Beta} {fr fr' fr'' : Nat → Prop} {H H' H'' : Array Obj} (a : Ext β fr H β' fr' H') (b : Ext β' fr' H' β'' fr'' H'') : Ext β fr H β'' fr'' H'' where
  beta t g r h := b.beta t g r (a.beta t g r h)
  frm x h := b.frm x (a.frm x h)
  cells x h := (b.cells x (a.frm x h)).trans (a.cells x h)
  shape t g x c e f h h1 := by
    obtain ⟨c1, f1, h2, h3⟩ := a.shape t g x c e f h h1
    obtain ⟨c2, f2, h4, h5⟩ := b.shape t g x c1 e f1 (a.beta _ _ _ h) h2
    exact ⟨c2, f2, h4, h5.trans h3⟩

theorem Ext.cellAt {β β' : Beta} {fr fr' : Nat → Prop} {H H' : Array Obj} (x : Ext β fr H β' fr' H') {b o : Nat} {u : Value} (hf : fr b) (h : cellAt H b o = some u) : cellAt H' b o = some u := by
  unfold Vale.cellAt at *
  rw [x.cells b hf]; exact h

theorem Rep.ext_aux {β β' : Beta} {fr fr' : Nat → Prop} {H H' : Array Obj} (e : Ext β fr H β' fr' H') : ∀ (n : Nat) (x : AV) (v : Value), SizeOf.sizeOf x ≤ n → Rep β fr H x v → Rep β' fr' H' x v := by
  intro n
  induction n with
  | zero => intro x v hn; cases x <;> simp at hn
  | succ n ih =>
    intro x v hn h
    cases x <;> simp only [Rep] at h ⊢ <;> (try exact h)
    case ptr x =>
      obtain ⟨a, rfl, hf, hs, hc⟩ := h
      refine ⟨a, rfl, e.frm _ hf, hs, fun j hj => ?_⟩
      obtain ⟨u, hu, hr⟩ := hc j hj
      refine ⟨u, e.cellAt hf hu, ih _ _ ?_ hr⟩
      have := AV.cells_get_le hj; simp at hn; omega
    case fz c l =>
      obtain ⟨a, cap, rfl, h1, h2, h3⟩ := h
      refine ⟨a, cap, rfl, h1, h2, fun hne => ?_⟩
      obtain ⟨ad, s, rfl, hf, hs, hu, hc⟩ := h3 hne
      refine ⟨ad, s, rfl, e.frm _ hf, hs, hu, fun i hi j hj => ?_⟩
      obtain ⟨u, hu, hr⟩ := hc i hi j hj
      refine ⟨u, e.cellAt hf hu, ih _ _ ?_ hr⟩
      have h1 := AV.cells_get_le hj
      have h2 := List.sizeOf_lt_of_mem (List.getElem_mem hi); simp at hn; omega
    case ref t g s i j =>
      obtain ⟨b, hb, rfl⟩ := h
      exact ⟨b, e.beta _ _ _ hb, rfl⟩
    case sl t g s off len =>
      rcases h with ⟨hb, h⟩ | ⟨b, c, el, f, cap, hb, hH, rfl, hs, hl⟩
      · exact .inl ⟨e.beta _ _ _ hb, h⟩
      · obtain ⟨c', f', hH', hc'⟩ := e.shape _ _ _ _ _ _ hb hH
        exact .inr ⟨b, c', el, f', cap, e.beta _ _ _ hb, hH', rfl, hs.trans hc'.symm, hl⟩
    case mp t =>
      obtain ⟨b, hb, rfl⟩ := h
      exact ⟨b, e.beta _ _ _ hb, rfl⟩
    case it t =>
      obtain ⟨b, hb, rfl⟩ := h
      exact ⟨b, e.beta _ _ _ hb, rfl⟩
    case agg cs =>
      obtain ⟨us, rfl, hs, hc⟩ := h
      refine ⟨us, rfl, hs, fun j hj => ?_⟩
      obtain ⟨u, hu, hr⟩ := hc j hj
      have := List.sizeOf_lt_of_mem (List.getElem_mem hj)
      exact ⟨u, hu, ih _ _ (by simp at hn; omega) hr⟩
    case tup cs =>
      obtain ⟨us, rfl, hs, hc⟩ := h
      refine ⟨us, rfl, hs, fun j hj => ?_⟩
      obtain ⟨u, hu, hr⟩ := hc j hj
      have := List.sizeOf_lt_of_mem (List.getElem_mem hj)
      exact ⟨u, hu, ih _ _ (by simp at hn; omega) hr⟩
    case func fn fs cs =>
      obtain ⟨us, vs, rfl, hs, ht, hc, hd⟩ := h
      refine ⟨us, vs, rfl, hs, ht, fun j hj => ?_, fun j hj => ?_⟩
      · obtain ⟨u, hu, hr⟩ := hc j hj
        have := List.sizeOf_lt_of_mem (List.getElem_mem hj)
        exact ⟨u, hu, ih _ _ (by simp at hn; omega) hr⟩
      · obtain ⟨u, hu, hr⟩ := hd j hj
        have := List.sizeOf_lt_of_mem (List.getElem_mem hj)
        exact ⟨u, hu, ih _ _ (by simp at hn; omega) hr⟩
    case iface t x =>
      obtain ⟨u, rfl, hr⟩ := h
      exact ⟨u, rfl, ih _ _ (by simp at hn; omega) hr⟩
    case opt b x =>
      exact ⟨fun hb => ih _ _ (by simp at hn; omega) (h.1 hb), h.2⟩

theorem Rep.ext {β β' : Beta} {fr fr' : Nat → Prop} {H H' : Array Obj} (e : Ext β fr H β' fr' H') {x : AV} {v : Value} (h : Rep β fr H x v) : Rep β' fr' H' x v := Rep.ext_aux e _ x v (Nat.le_refl _) h

/-! ### The call's own objects -/

inductive AObj where
  | arr (g s : Nat) (l : List AV)
  | map (l : List (AV × AV))
  | it (s : List UInt8) (pos : Nat)
  | dead
  deriving Inhabited

def AObj.gen : AObj → Option Nat
  | .arr g _ _ => some g
  | .map _ => some 0
  | .it _ _ => some 0
  | .dead => none

/-- What lies at tag t. -/
def ObjAt (β : Beta) (fr : Nat → Prop) (H : Array Obj) (t : Nat) : AObj → Prop
  | .arr g s l => (β t g = some none ∧ l = []) ∨ ∃ b c e f, β t g = some (some b) ∧ H[b]? = some (.cells c e f) ∧ (∀ i, i < c.size → (decide (f.1 ≤ i) && decide (i < f.2)) = false) ∧
      (∀ x ∈ l, x.cells.length = s) ∧ l.length * s ≤ c.size ∧
      ∀ i (hi : i < l.length) j (hj : j < (l[i]).cells.length), ∃ u, c[i * s + j]? = some u ∧ Rep β fr H ((l[i]).cells[j]) u
  | .map l => ∃ b es clock, β t 0 = some (some b) ∧ H[b]? = some (.map es clock) ∧ es.size = l.length ∧
      ∀ i (hi : i < l.length), ∃ e, es[i]? = some e ∧ Rep β fr H (l[i]).1 e.key ∧ Rep β fr H (l[i]).2 e.val
  | .it s pos => ∃ b by_, β t 0 = some (some b) ∧ H[b]? = some (.stringIter by_ pos) ∧ by_.data.toList = s
  | .dead => True

/-- Block b is one of the call's own, and may be written. -/
def Own (h : List AObj) (β : Beta) (b : Nat) : Prop := ∃ t o g, h[t]? = some o ∧ o.gen = some g ∧ β t g = some (some b)

structure Lay (β : Beta) (fr : Nat → Prop) (H : Array Obj) (h : List AObj) : Prop where
  frlt : ∀ b, fr b → b < H.size
  ownfr : ∀ b, Own h β b → ¬ fr b
  lt : ∀ t g b, β t g = some (some b) → b < H.size
  inj : ∀ t t' o o' g g' b, h[t]? = some o → o.gen = some g → β t g = some (some b) → h[t']? = some o' → o'.gen = some g' → β t' g' = some (some b) → t = t'
  obj : ∀ t o, h[t]? = some o → ObjAt β fr H t o
  dom : ∀ t g r, β t g = some r → t < h.length
  top : ∀ t g s l, h[t]? = some (.arr g s l) → ∀ g', g < g' → β t g' = none
  tab : ∀ b cs, (b, cs) ∈ tabs → fr b ∧ ∃ e f, H[b]? = some (.cells cs e f)

/-- From one state to a later one: nothing has turned that wasn't the call's own. -/
structure Step1 (β : Beta) (fr : Nat → Prop) (h : List AObj) (w : World) (β' : Beta) (fr' : Nat → Prop) (h' : List AObj) (w' : World) : Prop where
  ext : Ext β fr w.heap β' fr' w'.heap
  os : w'.os = w.os
  tape : w'.tape = w.tape
  output : w'.output = w.output
  size : w.heap.size ≤ w'.heap.size
  keep : ∀ b, b < w.heap.size → ¬ Own h β b → w'.heap[b]? = w.heap[b]?
  prov : ∀ b, Own h' β' b → Own h β b ∨ w.heap.size ≤ b
  frz : ∀ b, fr' b → fr b ∨ Own h β b ∨ w.heap.size ≤ b

theorem Step1.refl (β : Beta) (fr : Nat → Prop) (h : List AObj) (w : World) : Step1 β fr h w β fr h w := ⟨.refl _ _ _, rfl, rfl, rfl, Nat.le_refl _, fun _ _ _ => rfl, fun _ => .inl, fun _ => .inl⟩

theorem Step1.trans {β β1 β2 : Beta} {fr fr1 fr2 : Nat → Prop} {h h1 h2 : List AObj} {w w1 w2 : World} (a : Step1 β fr h w β1 fr1 h1 w1) (b : Step1 β1 fr1 h1 w1 β2 fr2 h2 w2) : Step1 β fr h w β2 fr2 h2 w2 where
  ext := a.ext.trans b.ext
  os := b.os.trans a.os
  tape := b.tape.trans a.tape
  output := b.output.trans a.output
  size := Nat.le_trans a.size b.size
  keep x hx ho := (b.keep x (Nat.lt_of_lt_of_le hx a.size) (fun o => by rcases a.prov x o with q | q; exact ho q; omega)).trans (a.keep x hx ho)
  prov x o := by
    rcases b.prov x o with q | q
    · exact a.prov x q
    · exact .inr (Nat.le_trans a.size q)
  frz x o := by
    rcases b.frz x o with q | q | q
    · exact a.frz x q
    · exact .inr (a.prov x q)
    · exact .inr (.inr (Nat.le_trans a.size q))

theorem ObjAt.ext {β β' : Beta} {fr fr' : Nat → Prop} {H H' : Array Obj} (e : Ext β fr H β' fr' H') {t : Nat} {o : AObj} (same : ∀ g b, o.gen = some g → β t g = some (some b) → H'[b]? = H[b]?) (h : ObjAt β fr H t o) : ObjAt β' fr' H' t o := by
  cases o with
  | arr g s l =>
    rcases h with ⟨h1, h2⟩ | ⟨b, c, el, f, h1, h2, h3, h4, h5, h6⟩
    · exact .inl ⟨e.beta _ _ _ h1, h2⟩
    · refine .inr ⟨b, c, el, f, e.beta _ _ _ h1, (same g b rfl h1).trans h2, h3, h4, h5, fun i hi j hj => ?_⟩
      obtain ⟨u, hu, hr⟩ := h6 i hi j hj
      exact ⟨u, hu, hr.ext e⟩
  | map l =>
    obtain ⟨b, es, ck, h1, h2, h3, h4⟩ := h
    refine ⟨b, es, ck, e.beta _ _ _ h1, (same 0 b rfl h1).trans h2, h3, fun i hi => ?_⟩
    obtain ⟨x, hx, hr, hs⟩ := h4 i hi
    exact ⟨x, hx, hr.ext e, hs.ext e⟩
  | it s pos =>
    obtain ⟨b, by_, h1, h2, h3⟩ := h
    exact ⟨b, by_, e.beta _ _ _ h1, (same 0 b rfl h1).trans h2, h3⟩
  | dead => trivial

/-- Nothing but what is drawn has turned. -/
theorem Step1.drawn {β : Beta} {fr : Nat → Prop} {h : List AObj} {w w' : World} (hh : w'.heap = w.heap) (ho : w'.os = w.os) (ht : w'.tape = w.tape) (hp : w'.output = w.output) : Step1 β fr h w β fr h w' :=
  ⟨by rw [hh]; exact .refl _ _ _, ho, ht, hp, by rw [hh]; exact Nat.le_refl _, fun _ _ _ => by rw [hh], fun _ => .inl, fun _ => .inl⟩

/-- A variable of the call's own that may be nil yet is laid: only tags. -/
def betaSet (β : Beta) (t g : Nat) (r : Option Nat) : Beta := fun t' g' => if t' = t ∧ g' = g then some r else β t' g'

theorem betaSet_same (β : Beta) (t g : Nat) (r : Option Nat) : betaSet β t g r t g = some r := by simp [betaSet]
theorem betaSet_other {β : Beta} {t g t' g' : Nat} {r : Option Nat} (h : ¬ (t' = t ∧ g' = g)) : betaSet β t g r t' g' = β t' g' := by simp [betaSet, h]

end Go.Proofs.Vale
