/- YthgafblmefjkdaaDoorVI: a text of the proof of this claim, by its prover. -/
import Derived.Test.YthgafblmefjkdaaDoorVH
set_option linter.unusedVariables false
set_option linter.unusedSimpArgs false
namespace Go.Proofs.Vale

theorem Own.of_get {h : List AObj} {β : Beta} {t g b : Nat} {o : AObj} (ht : h[t]? = some o) (hg : o.gen = some g) (hb : β t g = some (some b)) : Own h β b := ⟨t, o, g, ht, hg, hb⟩

/-- A new block with a tag of its own. -/
theorem Lay.push {β : Beta} {fr : Nat → Prop} {w w' : World} {h : List AObj} (L : Lay β fr w.heap h) {c : Obj} {o : AObj} {g : Nat} (hg : o.gen = some g)
    (hw : w'.heap = w.heap.push c) (hos : w'.os = w.os) (ht : w'.tape = w.tape) (hp : w'.output = w.output)
    (ho : ObjAt (betaSet β h.length g (some w.heap.size)) fr w'.heap h.length o) :
    Lay (betaSet β h.length g (some w.heap.size)) fr w'.heap (h ++ [o]) ∧ Step1 β fr h w (betaSet β h.length g (some w.heap.size)) fr (h ++ [o]) w' := by
  have hlt : ∀ t g' r, β t g' = some r → t < h.length := L.dom
  have hold : ∀ b, b < w.heap.size → w'.heap[b]? = w.heap[b]? := fun b hb => by rw [hw, Array.getElem?_push, if_neg (by omega)]
  have hother : ∀ t g', t < h.length → betaSet β h.length g (some w.heap.size) t g' = β t g' := fun t g' h1 => betaSet_other (by omega)
  have E : Ext β fr w.heap (betaSet β h.length g (some w.heap.size)) fr w'.heap :=
    { beta := fun t g' r e => by rw [hother t g' (hlt _ _ _ e)]; exact e
      frm := fun _ e => e
      cells := fun b hb => hold b (L.frlt b hb)
      shape := fun t g' b c' e f hb hc => ⟨c', f, by rw [hold b (L.lt _ _ _ hb)]; exact hc, rfl⟩ }
  have hsz : w'.heap.size = w.heap.size + 1 := by rw [hw]; simp
  have hown : ∀ b, Own (h ++ [o]) (betaSet β h.length g (some w.heap.size)) b → Own h β b ∨ b = w.heap.size := by
    rintro b ⟨t, o1, g1, h1, h2, h3⟩
    by_cases hl : t < h.length
    · rw [List.getElem?_append_left hl] at h1
      rw [hother t g1 hl] at h3
      exact .inl ⟨t, o1, g1, h1, h2, h3⟩
    · rw [List.getElem?_append_right (by omega)] at h1
      have : t = h.length := by
        rcases Nat.eq_zero_or_pos (t - h.length) with z | z
        · omega
        · rw [List.getElem?_eq_none (by simp; omega)] at h1; cases h1
      subst this
      simp at h1; subst h1
      rw [hg] at h2; injection h2 with h2; subst h2
      rw [betaSet_same] at h3; injection h3 with h3; injection h3 with h3
      exact .inr h3.symm
  refine ⟨?_, ?_⟩
  · refine { frlt := fun b hb => by have := L.frlt b hb; omega, ownfr := fun b hb hf => ?_, lt := fun t g' b hb => ?_, inj := ?_, obj := fun t o1 h1 => ?_, dom := fun t g' r e => ?_, top := ?_, tab := fun b cs q => ⟨(L.tab b cs q).1, by rw [E.cells b (L.tab b cs q).1]; exact (L.tab b cs q).2⟩ }
    · rcases hown b hb with q | q
      · exact L.ownfr b q hf
      · have := L.frlt b hf; omega
    · by_cases e : t = h.length ∧ g' = g
      · obtain ⟨rfl, rfl⟩ := e
        rw [betaSet_same] at hb; injection hb with hb; injection hb with hb; omega
      · rw [betaSet_other e] at hb; have := L.lt _ _ _ hb; omega
    · intro t t' o1 o2 g1 g2 b h1 h2 h3 h4 h5 h6
      by_cases hl : t < h.length <;> by_cases hl' : t' < h.length
      · rw [List.getElem?_append_left hl] at h1
        rw [List.getElem?_append_left hl'] at h4
        rw [hother t g1 hl] at h3
        rw [hother t' g2 hl'] at h6
        exact L.inj _ _ _ _ _ _ _ h1 h2 h3 h4 h5 h6
      · exfalso
        rw [hother t g1 hl] at h3
        have hb := L.lt _ _ _ h3
        by_cases e : t' = h.length ∧ g2 = g
        · obtain ⟨rfl, rfl⟩ := e
          rw [betaSet_same] at h6; injection h6 with h6; injection h6 with h6; omega
        · rw [betaSet_other e] at h6; exact hl' (hlt _ _ _ h6)
      · exfalso
        rw [hother t' g2 hl'] at h6
        have hb := L.lt _ _ _ h6
        by_cases e : t = h.length ∧ g1 = g
        · obtain ⟨rfl, rfl⟩ := e
          rw [betaSet_same] at h3; injection h3 with h3; injection h3 with h3; omega
        · rw [betaSet_other e] at h3; exact hl (hlt _ _ _ h3)
      · have := (List.getElem?_eq_some_iff.1 h1).1
        have := (List.getElem?_eq_some_iff.1 h4).1
        simp at *; omega
    · by_cases hl : t < h.length
      · rw [List.getElem?_append_left hl] at h1
        exact (L.obj t o1 h1).ext E fun g' b hg' hb => hold b (L.lt _ _ _ hb)
      · have hlt' := (List.getElem?_eq_some_iff.1 h1).1
        have : t = h.length := by simp at hlt'; omega
        subst this
        rw [List.getElem?_append_right (by omega)] at h1
        simp at h1; subst h1; exact ho
    · by_cases e' : t = h.length ∧ g' = g
      · simp; omega
      · rw [betaSet_other e'] at e; have := hlt _ _ _ e; simp; omega
    · intro t g1 s l h1 g' hg'
      by_cases hl : t < h.length
      · rw [List.getElem?_append_left hl] at h1
        rw [hother t g' hl]; exact L.top t g1 s l h1 g' hg'
      · have hlt' := (List.getElem?_eq_some_iff.1 h1).1
        have : t = h.length := by simp at hlt'; omega
        subst this
        rw [List.getElem?_append_right (by omega)] at h1
        simp at h1; subst h1
        simp only [AObj.gen] at hg; injection hg with hg; subst hg
        rw [betaSet_other (by omega)]
        cases hb : β h.length g' with
        | none => rfl
        | some r => exact absurd (hlt _ _ _ hb) (by omega)
  · exact ⟨E, hos, ht, hp, by omega, fun b hb _ => hold b hb, fun b hb => by
      rcases hown b hb with q | q
      · exact .inl q
      · exact .inr (by omega), fun _ => .inl⟩

/-- What lies at a tag has turned: in its block, or in a new one. -/
theorem Lay.turn0 {β β' : Beta} {fr : Nat → Prop} {w w' : World} {h : List AObj} (L : Lay β fr w.heap h) {t g0 g' : Nat} {o o' : AObj} {r : Option Nat}
    (ht : h[t]? = some o) (hg0 : o.gen = some g0) (hg' : o'.gen = some g') (hd : ∀ gg s l, o' ≠ .arr gg s l ∨ True)
    (hβ : ∀ t1 g1 x, β t1 g1 = some x → β' t1 g1 = some x) (hβ2 : ∀ t1 g1 x, β' t1 g1 = some x → β t1 g1 = some x ∨ (t1 = t ∧ g1 = g'))
    (hr : β' t g' = some r) (hloc : ∀ b, r = some b → (β t g0 = some (some b) ∨ w.heap.size ≤ b) ∧ b < w'.heap.size)
    (hsame : ∀ b, b < w.heap.size → β t g0 ≠ some (some b) → w'.heap[b]? = w.heap[b]?) (hsz : w.heap.size ≤ w'.heap.size)
    (hshape : ∀ b c e f, β t g0 = some (some b) → w.heap[b]? = some (.cells c e f) → ∃ c' f', w'.heap[b]? = some (.cells c' e f') ∧ c'.size = c.size)
    (hos : w'.os = w.os) (htp : w'.tape = w.tape) (hp : w'.output = w.output)
    (ho : Ext β fr w.heap β' fr w'.heap → ObjAt β' fr w'.heap t o') (htop : (∃ gg s l, o' = .arr gg s l) → ∀ g1, g' < g1 → β' t g1 = none) :
    Lay β' fr w'.heap (h.set t o') ∧ Step1 β fr h w β' fr (h.set t o') w' := by
  have htl : t < h.length := (List.getElem?_eq_some_iff.1 ht).1
  have hfrne : ∀ b, fr b → β t g0 ≠ some (some b) := fun b hb e => L.ownfr b ⟨t, o, g0, ht, hg0, e⟩ hb
  have E : Ext β fr w.heap β' fr w'.heap :=
    { beta := hβ
      frm := fun _ e => e
      cells := fun b hb => hsame b (L.frlt b hb) (hfrne b hb)
      shape := fun t1 g1 b c e f hb hc => by
        by_cases q : β t g0 = some (some b)
        · exact hshape b c e f q hc
        · exact ⟨c, f, by rw [hsame b (L.lt _ _ _ hb) q]; exact hc, rfl⟩ }
  have hown : ∀ b, Own (h.set t o') β' b → Own h β b ∨ w.heap.size ≤ b := by
    rintro b ⟨t1, o1, g1, h1, h2, h3⟩
    by_cases e : t1 = t
    · subst e
      rw [List.getElem?_set_self htl] at h1; injection h1 with h1; subst h1
      rw [hg'] at h2; injection h2 with h2; subst h2
      rw [hr] at h3; injection h3 with h3
      rcases (hloc b h3).1 with q | q
      · exact .inl ⟨t1, o, g0, ht, hg0, q⟩
      · exact .inr q
    · rw [List.getElem?_set_ne (fun q => e q.symm)] at h1
      rcases hβ2 _ _ _ h3 with q | ⟨q, _⟩
      · exact .inl ⟨t1, o1, g1, h1, h2, q⟩
      · exact absurd q e
  have hltb : ∀ t1 g1 b, β' t1 g1 = some (some b) → b < w'.heap.size := by
    intro t1 g1 b hb
    rcases hβ2 _ _ _ hb with q | ⟨rfl, rfl⟩
    · have := L.lt _ _ _ q; omega
    · rw [hr] at hb; injection hb with hb; exact (hloc b hb).2
  refine ⟨?_, E, hos, htp, hp, hsz, fun b hb hn => hsame b hb (fun q => hn ⟨t, o, g0, ht, hg0, q⟩), hown, fun _ => .inl⟩
  refine { frlt := fun b hb => by have := L.frlt b hb; omega, ownfr := fun b hb hf => ?_, lt := hltb, inj := ?_, obj := ?_, dom := fun t1 g1 x e => ?_, top := ?_, tab := fun b cs q => ⟨(L.tab b cs q).1, by rw [E.cells b (L.tab b cs q).1]; exact (L.tab b cs q).2⟩ }
  · rcases hown b hb with q | q
    · exact L.ownfr b q hf
    · have := L.frlt b hf; omega
  · have key : ∀ t1 o1 g1 b, t1 ≠ t → (h.set t o')[t1]? = some o1 → o1.gen = some g1 → β' t1 g1 = some (some b) → h[t1]? = some o1 ∧ β t1 g1 = some (some b) := by
      intro t1 o1 g1 b e h1 h2 h3
      rw [List.getElem?_set_ne (fun q => e q.symm)] at h1
      rcases hβ2 _ _ _ h3 with q | ⟨q, _⟩
      · exact ⟨h1, q⟩
      · exact absurd q e
    have self : ∀ o1 g1 b, (h.set t o')[t]? = some o1 → o1.gen = some g1 → β' t g1 = some (some b) → β t g0 = some (some b) ∨ w.heap.size ≤ b := by
      intro o1 g1 b h1 h2 h3
      rw [List.getElem?_set_self htl] at h1; injection h1 with h1; subst h1
      rw [hg'] at h2; injection h2 with h2; subst h2
      rw [hr] at h3; injection h3 with h3; exact (hloc b h3).1
    intro t1 t2 o1 o2 g1 g2 b h1 h2 h3 h4 h5 h6
    by_cases e1 : t1 = t <;> by_cases e2 : t2 = t
    · omega
    · exfalso
      subst e1
      obtain ⟨k1, k2⟩ := key t2 o2 g2 b e2 h4 h5 h6
      rcases self o1 g1 b h1 h2 h3 with q | q
      · exact e2 (L.inj _ _ _ _ _ _ _ k1 h5 k2 ht hg0 q)
      · have := L.lt _ _ _ k2; omega
    · exfalso
      subst e2
      obtain ⟨k1, k2⟩ := key t1 o1 g1 b e1 h1 h2 h3
      rcases self o2 g2 b h4 h5 h6 with q | q
      · exact e1 (L.inj _ _ _ _ _ _ _ k1 h2 k2 ht hg0 q)
      · have := L.lt _ _ _ k2; omega
    · obtain ⟨k1, k2⟩ := key t1 o1 g1 b e1 h1 h2 h3
      obtain ⟨k3, k4⟩ := key t2 o2 g2 b e2 h4 h5 h6
      exact L.inj _ _ _ _ _ _ _ k1 h2 k2 k3 h5 k4
  · intro t1 o1 h1
    by_cases e : t1 = t
    · subst e
      rw [List.getElem?_set_self htl] at h1; injection h1 with h1; subst h1
      exact ho E
    · rw [List.getElem?_set_ne (fun q => e q.symm)] at h1
      refine (L.obj t1 o1 h1).ext E fun g1 b hg1 hb => hsame b (L.lt _ _ _ hb) fun q => e ?_
      exact L.inj _ _ _ _ _ _ _ h1 hg1 hb ht hg0 q
  · rw [List.length_set]
    rcases hβ2 _ _ _ e with q | ⟨rfl, _⟩
    · exact L.dom _ _ _ q
    · exact htl
  · intro t1 g1 s l h1 g2 hg2
    by_cases e : t1 = t
    · subst e
      rw [List.getElem?_set_self htl] at h1; injection h1 with h1
      have : g1 = g' := by rw [h1] at hg'; simpa [AObj.gen] using hg'
      subst this
      exact htop ⟨_, _, _, h1⟩ g2 hg2
    · rw [List.getElem?_set_ne (fun q => e q.symm)] at h1
      cases hb : β' t1 g2 with
      | none => rfl
      | some x =>
        rcases hβ2 _ _ _ hb with q | ⟨q, _⟩
        · rw [L.top t1 g1 s l h1 g2 hg2] at q; cases q
        · exact absurd q e

theorem Lay.turn {β β' : Beta} {fr : Nat → Prop} {w w' : World} {h : List AObj} (L : Lay β fr w.heap h) {t g0 g' : Nat} {o o' : AObj} {r : Option Nat}
    (ht : h[t]? = some o) (hg0 : o.gen = some g0) (hg' : o'.gen = some g') (hd : ∀ gg s l, o' ≠ .arr gg s l ∨ True)
    (hβ : ∀ t1 g1 x, β t1 g1 = some x → β' t1 g1 = some x) (hβ2 : ∀ t1 g1 x, β' t1 g1 = some x → β t1 g1 = some x ∨ (t1 = t ∧ g1 = g'))
    (hr : β' t g' = some r) (hloc : ∀ b, r = some b → (β t g0 = some (some b) ∨ w.heap.size ≤ b) ∧ b < w'.heap.size)
    (hsame : ∀ b, b < w.heap.size → β t g0 ≠ some (some b) → w'.heap[b]? = w.heap[b]?) (hsz : w.heap.size ≤ w'.heap.size)
    (hshape : ∀ b c e f, β t g0 = some (some b) → w.heap[b]? = some (.cells c e f) → ∃ c' f', w'.heap[b]? = some (.cells c' e f') ∧ c'.size = c.size)
    (hos : w'.os = w.os) (htp : w'.tape = w.tape) (hp : w'.output = w.output)
    (ho : Ext β fr w.heap β' fr w'.heap → ObjAt β' fr w'.heap t o') (htop : ∀ g1, g' < g1 → β' t g1 = none) :
    Lay β' fr w'.heap (h.set t o') ∧ Step1 β fr h w β' fr (h.set t o') w' :=
  L.turn0 ht hg0 hg' hd hβ hβ2 hr hloc hsame hsz hshape hos htp hp ho (fun _ => htop)

end Go.Proofs.Vale
