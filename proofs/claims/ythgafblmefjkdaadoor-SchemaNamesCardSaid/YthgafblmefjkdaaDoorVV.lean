/- YthgafblmefjkdaaDoorVV: a text of the proof of this claim, by its prover. -/
import Derived.Test.YthgafblmefjkdaaDoorVU
set_option linter.unusedVariables false
set_option linter.unusedSimpArgs false
namespace Go.Proofs.Vale

/-! ### Values that name no memory of the call's own from tag n on -/
mutual
def AV.low (n : Nat) : AV → Bool
  | .int _ _ => true
  | .bool _ => true
  | .str _ => true
  | .nilp => true
  | .ptr x => x.low n
  | .fz _ l => lowL n l
  | .ref t _ _ _ _ => decide (t < n)
  | .sl t _ _ _ _ => decide (t < n)
  | .mp t => decide (t < n)
  | .it t => decide (t < n)
  | .nilm => true
  | .agg cs => lowL n cs
  | .tup vs => lowL n vs
  | .func _ f c => lowL n f && lowL n c
  | .nilf => true
  | .iface _ x => x.low n
  | .nili => true
  | .opt _ x => x.low n
  | .any => true
def lowL (n : Nat) : List AV → Bool
  | [] => true
  | x :: xs => x.low n && lowL n xs
end

theorem lowL_mem {n : Nat} : ∀ {l : List AV}, lowL n l = true → ∀ x ∈ l, x.low n = true
  | [], _, x, hx => by simp at hx
  | y :: l, h, x, hx => by
    rw [lowL, Bool.and_eq_true] at h
    rcases List.mem_cons.1 hx with rfl | hx
    · exact h.1
    · exact lowL_mem h.2 x hx
theorem low_cells {n : Nat} {x y : AV} (h : x.low n = true) (hy : y ∈ x.cells) : y.low n = true := by
  cases x
  case agg cs => simp only [AV.low] at h; exact lowL_mem h y hy
  all_goals (simp only [AV.cells, List.mem_singleton] at hy; subst hy; exact h)

theorem Rep.low_aux {n : Nat} {β β' : Beta} {fr fr' : Nat → Prop} {H : Array Obj} (hb : ∀ t g r, t < n → β t g = some r → β' t g = some r) (hf : ∀ b, fr b → fr' b) : ∀ (m : Nat) (x : AV) (v : Value), SizeOf.sizeOf x ≤ m → x.low n = true → Rep β fr H x v → Rep β' fr' H x v := by
  intro m
  induction m with
  | zero => intro x v hn; cases x <;> simp at hn
  | succ m ih =>
    intro x v hn hl h
    cases x <;> simp only [Rep] at h ⊢ <;> (try exact h)
    case ptr x =>
      obtain ⟨a, rfl, h1, h2, hc⟩ := h
      refine ⟨a, rfl, hf _ h1, h2, fun j hj => ?_⟩
      obtain ⟨u, hu, hr⟩ := hc j hj
      have h3 := AV.cells_get_le hj
      simp at hn
      exact ⟨u, hu, ih _ _ (by omega) (low_cells (by simpa [AV.low] using hl) (List.getElem_mem hj)) hr⟩
    case fz c l =>
      obtain ⟨a, cap, rfl, h1, h2, h3⟩ := h
      refine ⟨a, cap, rfl, h1, h2, fun hne => ?_⟩
      obtain ⟨ad, s, rfl, hfr, hs, hu, hc⟩ := h3 hne
      refine ⟨ad, s, rfl, hf _ hfr, hs, hu, fun i hi j hj => ?_⟩
      obtain ⟨u, hu, hr⟩ := hc i hi j hj
      have h4 := AV.cells_get_le hj
      have h5 := List.sizeOf_lt_of_mem (List.getElem_mem hi)
      simp at hn
      exact ⟨u, hu, ih _ _ (by omega) (low_cells (lowL_mem (by simpa [AV.low] using hl) _ (List.getElem_mem hi)) (List.getElem_mem hj)) hr⟩
    case ref t g s i j =>
      obtain ⟨b, h1, rfl⟩ := h
      exact ⟨b, hb _ _ _ (by simpa [AV.low] using hl) h1, rfl⟩
    case sl t g s off len =>
      have ht : t < n := by simpa [AV.low] using hl
      rcases h with ⟨h1, h2⟩ | ⟨b, c, e, f, cap, h1, h2⟩
      · exact .inl ⟨hb _ _ _ ht h1, h2⟩
      · exact .inr ⟨b, c, e, f, cap, hb _ _ _ ht h1, h2⟩
    case mp t =>
      obtain ⟨b, h1, rfl⟩ := h
      exact ⟨b, hb _ _ _ (by simpa [AV.low] using hl) h1, rfl⟩
    case it t =>
      obtain ⟨b, h1, rfl⟩ := h
      exact ⟨b, hb _ _ _ (by simpa [AV.low] using hl) h1, rfl⟩
    case agg cs =>
      obtain ⟨us, rfl, hs, hc⟩ := h
      refine ⟨us, rfl, hs, fun j hj => ?_⟩
      obtain ⟨u, hu, hr⟩ := hc j hj
      have := List.sizeOf_lt_of_mem (List.getElem_mem hj)
      simp at hn
      exact ⟨u, hu, ih _ _ (by omega) (lowL_mem (by simpa [AV.low] using hl) _ (List.getElem_mem hj)) hr⟩
    case tup cs =>
      obtain ⟨us, rfl, hs, hc⟩ := h
      refine ⟨us, rfl, hs, fun j hj => ?_⟩
      obtain ⟨u, hu, hr⟩ := hc j hj
      have := List.sizeOf_lt_of_mem (List.getElem_mem hj)
      simp at hn
      exact ⟨u, hu, ih _ _ (by omega) (lowL_mem (by simpa [AV.low] using hl) _ (List.getElem_mem hj)) hr⟩
    case func fn fs cs =>
      have hl' : lowL n fs = true ∧ lowL n cs = true := by simpa [AV.low] using hl
      obtain ⟨us, vs, rfl, hs, ht, hc, hd⟩ := h
      refine ⟨us, vs, rfl, hs, ht, fun j hj => ?_, fun j hj => ?_⟩
      · obtain ⟨u, hu, hr⟩ := hc j hj
        have := List.sizeOf_lt_of_mem (List.getElem_mem hj)
        simp at hn
        exact ⟨u, hu, ih _ _ (by omega) (lowL_mem hl'.1 _ (List.getElem_mem hj)) hr⟩
      · obtain ⟨u, hu, hr⟩ := hd j hj
        have := List.sizeOf_lt_of_mem (List.getElem_mem hj)
        simp at hn
        exact ⟨u, hu, ih _ _ (by omega) (lowL_mem hl'.2 _ (List.getElem_mem hj)) hr⟩
    case iface t x =>
      obtain ⟨u, rfl, hr⟩ := h
      simp at hn
      exact ⟨u, rfl, ih _ _ (by omega) (by simpa [AV.low] using hl) hr⟩
    case opt b x =>
      simp at hn
      exact ⟨fun q => ih _ _ (by omega) (by simpa [AV.low] using hl) (h.1 q), h.2⟩

theorem Rep.low {n : Nat} {β β' : Beta} {fr fr' : Nat → Prop} {H : Array Obj} {x : AV} {v : Value} (hb : ∀ t g r, t < n → β t g = some r → β' t g = some r) (hf : ∀ b, fr b → fr' b) (hl : x.low n = true) (h : Rep β fr H x v) : Rep β' fr' H x v :=
  Rep.low_aux hb hf _ x v (Nat.le_refl _) hl h

/-! ### Calls whose result is closed: the call's own memory stays -/
theorem own_dead {h : List AObj} {β : Beta} {b : Nat} (o : Own (deadH h) β b) : False := by
  obtain ⟨t, o, g, h1, h2, _⟩ := o
  simp only [deadH, List.getElem?_map] at h1
  cases q : h[t]? with
  | none => rw [q] at h1; cases h1
  | some o' => rw [q] at h1; injection h1 with h1; subst h1; cases h2

theorem lay_dead2 {β : Beta} {fr : Nat → Prop} {H : Array Obj} {h : List AObj} (L : Lay β fr H h) : Lay β fr H (deadH h) where
  frlt := L.frlt
  ownfr := fun b o => (own_dead o).elim
  lt := L.lt
  inj := (lay_dead L).inj
  obj := fun t o h1 => by
    simp only [deadH, List.getElem?_map] at h1
    cases q : h[t]? with
    | none => rw [q] at h1; cases h1
    | some o' => rw [q] at h1; injection h1 with h1; subst h1; trivial
  dom := (lay_dead L).dom
  top := (lay_dead L).top
  tab := L.tab

theorem ACall.frame {P : Program} {f : FuncId} {as : List AV} {h : List AObj} {K : AV → List AObj → Prop} (k : ACall P f as (deadH h) fun r _ => r.low 0 = true ∧ K r h) : ACall P f as h K := by
  intro w β fr vs L R
  refine (k w β fr vs (lay_dead2 L) R).mono ?_
  rintro e w' ⟨v, x, h', β', fr', rfl, ⟨hf, hk⟩, L', R', S'⟩
  have same : ∀ b, b < w.heap.size → w'.heap[b]? = w.heap[b]? := fun b hb => S'.keep b hb own_dead
  have E : Ext β fr w.heap β fr' w'.heap := ⟨fun _ _ _ e => e, S'.ext.frm, S'.ext.cells, fun t g b c e f hb hc => ⟨c, f, by rw [same b (L.lt _ _ _ hb)]; exact hc, rfl⟩⟩
  refine ⟨v, x, h, β, fr', rfl, hk, ?_, R'.low (n := 0) (fun t g r ht => absurd ht (by omega)) (fun _ e => e) hf, ?_⟩
  · exact { frlt := L'.frlt
            ownfr := fun b ho hb => by
              obtain ⟨t, o, g, h1, h2, h3⟩ := ho
              have hlt := L.lt _ _ _ h3
              rcases S'.frz b hb with q | q | q
              · exact L.ownfr b ⟨t, o, g, h1, h2, h3⟩ q
              · exact own_dead q
              · omega
            lt := fun t g b hb => Nat.lt_of_lt_of_le (L.lt t g b hb) S'.size, inj := L.inj
            obj := fun t o ho => (L.obj t o ho).ext E fun g b _ hb => same b (L.lt _ _ _ hb), dom := L.dom, top := L.top, tab := fun b cs q => ⟨E.frm b (L.tab b cs q).1, by rw [E.cells b (L.tab b cs q).1]; exact (L.tab b cs q).2⟩ }
  · exact { ext := E, os := S'.os, tape := S'.tape, output := S'.output, size := S'.size, keep := fun b hb _ => same b hb, prov := fun b e => .inl e
            frz := fun b hb => by
              rcases S'.frz b hb with q | q | q
              · exact .inl q
              · exact (own_dead q).elim
              · exact .inr (.inr q) }

theorem ACallT.frame {P : Program} {f : FuncId} {as : List AV} {h : List AObj} {K : AV → List AObj → Prop} {t : Tag K} {K' : AV → List AObj → Prop} (k : ACall P f as (deadH h) K') (kk : ∀ r h', K' r h' → r.low 0 = true ∧ K r h) : ACallT P f as h K t :=
  ACall.frame (k.mono kk)

/-! ### Freezing: what a function hands back of its own is written no more -/
def frzA (h : List AObj) : Nat → AV → AV
  | 0, _ => .any
  | k + 1, .sl t g s off len =>
    (match h[t]? with
    | some (.arr g' s' l) => if g = g' ∧ s = s' ∧ off + len ≤ l.length ∧ (∀ y ∈ l, (frzA h k y).cells.length = y.cells.length) then .fz false (((l.drop off).take len).map (frzA h k)) else .any
    | _ => .any)
  | k + 1, .ref t g s i j =>
    (match h[t]? with
    | some (.arr g' s' l) => if g = g' ∧ s = s' ∧ i < l.length ∧ j = 0 ∧ (frzA h k (l.getD i .any)).cells.length = (l.getD i .any).cells.length then .ptr (frzA h k (l.getD i .any)) else .any
    | _ => .any)
  | k + 1, .agg cs => .agg (cs.map (frzA h k))
  | k + 1, .tup cs => .tup (cs.map (frzA h k))
  | _ + 1, x => x
theorem frz_cells (h : List AObj) (k : Nat) (y : AV) (hl : (frzA h k y).cells.length = y.cells.length) (j : Nat) (hj : j < (frzA h k y).cells.length) (hj' : j < y.cells.length) : ∃ k', k' ≤ k ∧ (frzA h k y).cells[j] = frzA h k' (y.cells[j]) := by
  cases k with
  | zero =>
    refine ⟨0, Nat.le_refl _, ?_⟩
    have hj0 : j = 0 := by simp only [frzA, AV.cells, List.length_singleton] at hj; omega
    subst hj0
    simp [frzA, AV.cells]
  | succ k =>
    by_cases hag : ∃ cs, y = .agg cs
    · obtain ⟨cs, rfl⟩ := hag
      exact ⟨k, by omega, by simp [frzA, AV.cells]⟩
    · have h1 : y.cells = [y] := by cases y <;> first | rfl | exact absurd ⟨_, rfl⟩ hag
      have h2 : (frzA h (k + 1) y).cells = [frzA h (k + 1) y] := by
        cases y
        case agg cs => exact absurd ⟨_, rfl⟩ hag
        case sl t g s off len => simp only [frzA]; split <;> (try split) <;> rfl
        case ref t g s i j => simp only [frzA]; split <;> (try split) <;> rfl
        all_goals rfl
      refine ⟨k + 1, Nat.le_refl _, ?_⟩
      have hj0 : j = 0 := by rw [h1] at hj'; simpa using hj'
      subst hj0
      simp [h1, h2]

theorem frz_rep {β : Beta} {fr fr' : Nat → Prop} {H : Array Obj} {h : List AObj} (L : Lay β fr H h) (hfr : ∀ b, fr b → fr' b) (hown : ∀ b, Own h β b → fr' b) : ∀ (k : Nat) (x : AV) (v : Value), Rep β fr H x v → Rep β fr' H (frzA h k x) v := by
  have plain : ∀ (x : AV) (v : Value), Rep β fr H x v → Rep β fr' H x v := fun x v r => r.ext ⟨fun _ _ _ e => e, hfr, fun _ _ => rfl, fun _ _ _ c _ f _ e => ⟨c, f, e, rfl⟩⟩
  intro k
  induction k using Nat.strongRecOn with
  | ind k ih =>
    intro x v hr
    cases k with
    | zero => simp only [frzA, Rep]
    | succ k =>
      cases x
      case sl t g s off len =>
        simp only [frzA]
        split
        · rename_i g' s' l ht
          split
          · rename_i hc
            obtain ⟨rfl, rfl, hn, hcl⟩ := hc
            simp only [Rep] at hr ⊢
            have hlen : (((l.drop off).take len).map (frzA h k)).length = len := by simp; omega
            rcases hr with ⟨hb, rfl, rfl, rfl⟩ | ⟨b, c, e, f, cap, hb, hH, rfl, hcs, hlc⟩
            · exact ⟨none, 0, by simp, by simp, by simp, by simp⟩
            · refine ⟨some ⟨b, off * s, none⟩, cap, by rw [hlen], by rw [hlen]; exact hlc, by simp, fun hne => ?_⟩
              refine ⟨⟨b, off * s, none⟩, s, rfl, hown b ⟨t, _, g, ht, rfl, hb⟩, rfl, fun x hx => ?_, fun i hi j hj => ?_⟩
              · simp only [List.mem_map] at hx
                obtain ⟨y, hy, rfl⟩ := hx
                have hyl := List.mem_of_mem_drop (List.mem_of_mem_take hy)
                rw [hcl y hyl]
                rcases L.obj t _ ht with ⟨_, z⟩ | ⟨_, _, _, _, _, _, _, h4, _⟩
                · subst z; simp at hyl
                · exact h4 y hyl
              · have hi' : off + i < l.length := by simp at hi; omega
                have hge : (((l.drop off).take len).map (frzA h k))[i] = frzA h k (l[off + i]) := by simp
                have hlm := hcl _ (List.getElem_mem hi')
                have hj1 : j < (frzA h k (l[off + i])).cells.length := by rw [hge] at hj; exact hj
                obtain ⟨k', hk', he⟩ := frz_cells h k (l[off + i]) hlm j hj1 (by omega)
                obtain ⟨u, hu, hr'⟩ := L.arr ht hi' hb j (by omega)
                refine ⟨u, ?_, ?_⟩
                · rw [← hu]; congr 1; rw [Nat.add_mul]
                · have := ih k' (by omega) _ _ hr'
                  rw [← he] at this
                  simpa only [hge] using this
          · simp only [Rep]
        · simp only [Rep]
      case ref t g s i j =>
        simp only [frzA]
        split
        · rename_i g' s' l ht
          split
          · rename_i hc
            obtain ⟨rfl, rfl, hi, rfl, hcl⟩ := hc
            simp only [Rep] at hr ⊢
            obtain ⟨b, hb, rfl⟩ := hr
            refine ⟨_, rfl, hown b ⟨t, _, g, ht, rfl, hb⟩, rfl, fun j hj => ?_⟩
            rw [getD_get hi] at hcl
            have hge : frzA h k (l.getD i .any) = frzA h k (l[i]) := by rw [getD_get hi]
            have hj1 : j < (frzA h k (l[i])).cells.length := by rw [hge] at hj; exact hj
            obtain ⟨k', hk', he⟩ := frz_cells h k (l[i]) hcl j hj1 (by omega)
            obtain ⟨u, hu, hr'⟩ := L.arr ht hi hb j (by omega)
            refine ⟨u, by simpa using hu, ?_⟩
            have := ih k' (by omega) _ _ hr'
            rw [← he] at this
            simpa only [hge] using this
          · simp only [Rep]
        · simp only [Rep]
      case agg cs =>
        simp only [frzA, Rep] at hr ⊢
        obtain ⟨us, rfl, hs, hc⟩ := hr
        refine ⟨us, rfl, by simpa using hs, fun j hj => ?_⟩
        obtain ⟨u, hu, hr⟩ := hc j (by simpa using hj)
        exact ⟨u, hu, by simpa using ih k (by omega) _ _ hr⟩
      case tup cs =>
        simp only [frzA, Rep] at hr ⊢
        obtain ⟨us, rfl, hs, hc⟩ := hr
        refine ⟨us, rfl, by simpa using hs, fun j hj => ?_⟩
        obtain ⟨u, hu, hr⟩ := hc j (by simpa using hj)
        exact ⟨u, hu, by simpa using ih k (by omega) _ _ hr⟩
      all_goals exact plain _ _ hr

/-- All of the call's own memory is frozen, and forgotten. -/
theorem Close.freeze (n k : Nat) (x : AV) (h : List AObj) : Close n x h (frzA h k x) (deadH h) := fun H β fr v L R => by
  refine ⟨β, fun b => fr b ∨ Own h β b, ?_, frz_rep L (fun b e => .inl e) (fun b e => .inr e) k x v R, fun _ _ _ _ e => e, fun b e => .inl e, fun b o => (own_dead o).elim, fun b e => e⟩
  have D := lay_dead2 L
  exact { frlt := fun b hb => by
            rcases hb with q | ⟨t, o, g, h1, h2, h3⟩
            · exact L.frlt b q
            · exact L.lt _ _ _ h3
          ownfr := fun b o => (own_dead o).elim, lt := D.lt, inj := D.inj
          obj := fun t o h1 => by
            simp only [deadH, List.getElem?_map] at h1
            cases q : h[t]? with
            | none => rw [q] at h1; cases h1
            | some o' => rw [q] at h1; injection h1 with h1; subst h1; trivial
          dom := D.dom, top := D.top, tab := fun b cs q => ⟨.inl (L.tab b cs q).1, (L.tab b cs q).2⟩ }

theorem Fin_freeze {n : Nat} {x : AV} {h : List AObj} {K : AV → List AObj → Prop} {t : Tag K} (k : Nat) (kk : K (frzA h k x) (deadH h)) : finT x n h K t := ⟨_, _, Close.freeze n k x h, kk⟩
end Go.Proofs.Vale
