/- YthgafblmefjkdaaDoorVPart: a text of the proof of this claim, by its prover. -/
import Derived.Test.YthgafblmefjkdaaDoorVZ
set_option linter.unusedVariables false
set_option linter.unusedSimpArgs false
set_option maxHeartbeats 1000000
namespace Go.Proofs.Vale

/-! ### Freezing a part of the call's own memory -/
def frzT (T : Nat → Bool) (h : List AObj) : Nat → AV → AV
  | 0, _ => .any
  | k + 1, .sl t g s off len => if T t = false then .sl t g s off len else
    (match h[t]? with
    | some (.arr g' s' l) => if g = g' ∧ s = s' ∧ off + len ≤ l.length ∧ (∀ y ∈ l, (frzT T h k y).cells.length = y.cells.length) then .fz false (((l.drop off).take len).map (frzT T h k)) else .any
    | _ => .any)
  | k + 1, .ref t g s i j => if T t = false then .ref t g s i j else
    (match h[t]? with
    | some (.arr g' s' l) => if g = g' ∧ s = s' ∧ i < l.length ∧ j = 0 ∧ (frzT T h k (l.getD i .any)).cells.length = (l.getD i .any).cells.length then .ptr (frzT T h k (l.getD i .any)) else .any
    | _ => .any)
  | k + 1, .agg cs => .agg (cs.map (frzT T h k))
  | k + 1, .tup cs => .tup (cs.map (frzT T h k))
  | _ + 1, x => x
theorem frzT_cells (T : Nat → Bool) (h : List AObj) (k : Nat) (y : AV) (hl : (frzT T h k y).cells.length = y.cells.length) (j : Nat) (hj : j < (frzT T h k y).cells.length) (hj' : j < y.cells.length) : ∃ k', k' ≤ k ∧ (frzT T h k y).cells[j] = frzT T h k' (y.cells[j]) := by
  cases k with
  | zero =>
    refine ⟨0, Nat.le_refl _, ?_⟩
    have hj0 : j = 0 := by simp only [frzT, AV.cells, List.length_singleton] at hj; omega
    subst hj0
    simp [frzT, AV.cells]
  | succ k =>
    by_cases hag : ∃ cs, y = .agg cs
    · obtain ⟨cs, rfl⟩ := hag
      exact ⟨k, by omega, by simp [frzT, AV.cells]⟩
    · have h1 : y.cells = [y] := by cases y <;> first | rfl | exact absurd ⟨_, rfl⟩ hag
      have h2 : (frzT T h (k + 1) y).cells = [frzT T h (k + 1) y] := by
        cases y
        case agg cs => exact absurd ⟨_, rfl⟩ hag
        case sl t g s off len => simp only [frzT]; split <;> (try split) <;> (try split) <;> rfl
        case ref t g s i j => simp only [frzT]; split <;> (try split) <;> (try split) <;> rfl
        all_goals rfl
      refine ⟨k + 1, Nat.le_refl _, ?_⟩
      have hj0 : j = 0 := by rw [h1] at hj'; simpa using hj'
      subst hj0
      simp [h1, h2]

theorem frzT_rep {T : Nat → Bool} {β : Beta} {fr fr' : Nat → Prop} {H : Array Obj} {h : List AObj} (L : Lay β fr H h) (hfr : ∀ b, fr b → fr' b) (hown : ∀ t o g b, T t = true → h[t]? = some o → o.gen = some g → β t g = some (some b) → fr' b) : ∀ (k : Nat) (x : AV) (v : Value), Rep β fr H x v → Rep β fr' H (frzT T h k x) v := by
  have plain : ∀ (x : AV) (v : Value), Rep β fr H x v → Rep β fr' H x v := fun x v r => r.ext ⟨fun _ _ _ e => e, hfr, fun _ _ => rfl, fun _ _ _ c _ f _ e => ⟨c, f, e, rfl⟩⟩
  intro k
  induction k using Nat.strongRecOn with
  | ind k ih =>
    intro x v hr
    cases k with
    | zero => simp only [frzT, Rep]
    | succ k =>
      cases x
      case sl t g s off len =>
        simp only [frzT]
        by_cases hT : T t = false
        · rw [if_pos hT]; exact plain _ _ hr
        rw [if_neg hT]
        have hT : T t = true := by simpa using hT
        split
        · rename_i g' s' l ht
          split
          · rename_i hc
            obtain ⟨rfl, rfl, hn, hcl⟩ := hc
            simp only [Rep] at hr ⊢
            have hlen : (((l.drop off).take len).map (frzT T h k)).length = len := by simp; omega
            rcases hr with ⟨hb, rfl, rfl, rfl⟩ | ⟨b, c, e, f, cap, hb, hH, rfl, hcs, hlc⟩
            · exact ⟨none, 0, by simp, by simp, by simp, by simp⟩
            · refine ⟨some ⟨b, off * s, none⟩, cap, by rw [hlen], by rw [hlen]; exact hlc, by simp, fun hne => ?_⟩
              refine ⟨⟨b, off * s, none⟩, s, rfl, hown t _ g b hT ht rfl hb, rfl, fun x hx => ?_, fun i hi j hj => ?_⟩
              · simp only [List.mem_map] at hx
                obtain ⟨y, hy, rfl⟩ := hx
                have hyl := List.mem_of_mem_drop (List.mem_of_mem_take hy)
                rw [hcl y hyl]
                rcases L.obj t _ ht with ⟨_, z⟩ | ⟨_, _, _, _, _, _, _, h4, _⟩
                · subst z; simp at hyl
                · exact h4 y hyl
              · have hi' : off + i < l.length := by simp at hi; omega
                have hge : (((l.drop off).take len).map (frzT T h k))[i] = frzT T h k (l[off + i]) := by simp
                have hlm := hcl _ (List.getElem_mem hi')
                have hj1 : j < (frzT T h k (l[off + i])).cells.length := by rw [hge] at hj; exact hj
                obtain ⟨k', hk', he⟩ := frzT_cells T h k (l[off + i]) hlm j hj1 (by omega)
                obtain ⟨u, hu, hr'⟩ := L.arr ht hi' hb j (by omega)
                refine ⟨u, ?_, ?_⟩
                · rw [← hu]; congr 1; rw [Nat.add_mul]
                · have := ih k' (by omega) _ _ hr'
                  rw [← he] at this
                  simpa only [hge] using this
          · simp only [Rep]
        · simp only [Rep]
      case ref t g s i j =>
        simp only [frzT]
        by_cases hT : T t = false
        · rw [if_pos hT]; exact plain _ _ hr
        rw [if_neg hT]
        have hT : T t = true := by simpa using hT
        split
        · rename_i g' s' l ht
          split
          · rename_i hc
            obtain ⟨rfl, rfl, hi, rfl, hcl⟩ := hc
            simp only [Rep] at hr ⊢
            obtain ⟨b, hb, rfl⟩ := hr
            refine ⟨_, rfl, hown t _ g b hT ht rfl hb, rfl, fun j hj => ?_⟩
            rw [getD_get hi] at hcl
            have hge : frzT T h k (l.getD i .any) = frzT T h k (l[i]) := by rw [getD_get hi]
            have hj1 : j < (frzT T h k (l[i])).cells.length := by rw [hge] at hj; exact hj
            obtain ⟨k', hk', he⟩ := frzT_cells T h k (l[i]) hcl j hj1 (by omega)
            obtain ⟨u, hu, hr'⟩ := L.arr ht hi hb j (by omega)
            refine ⟨u, by simpa using hu, ?_⟩
            have := ih k' (by omega) _ _ hr'
            rw [← he] at this
            simpa only [hge] using this
          · simp only [Rep]
        · simp only [Rep]
      case agg cs =>
        simp only [frzT, Rep] at hr ⊢
        obtain ⟨us, rfl, hs, hc⟩ := hr
        refine ⟨us, rfl, by simpa using hs, fun j hj => ?_⟩
        obtain ⟨u, hu, hr⟩ := hc j (by simpa using hj)
        exact ⟨u, hu, by simpa using ih k (by omega) _ _ hr⟩
      case tup cs =>
        simp only [frzT, Rep] at hr ⊢
        obtain ⟨us, rfl, hs, hc⟩ := hr
        refine ⟨us, rfl, by simpa using hs, fun j hj => ?_⟩
        obtain ⟨u, hu, hr⟩ := hc j (by simpa using hj)
        exact ⟨u, hu, by simpa using ih k (by omega) _ _ hr⟩
      all_goals exact plain _ _ hr


/-- What may be left of the objects when those of T are frozen. -/
def PartO (T : Nat → Bool) (h : List AObj) (i : Nat) (o : AObj) : Prop :=
  o = .dead ∨ (T i = false ∧ (h[i]? = some o ∨ ∃ g s l k, h[i]? = some (.arr g s l) ∧ o = .arr g s (l.map (frzT T h k)) ∧ ∀ y ∈ l, (frzT T h k y).cells.length = y.cells.length))
theorem step_part {β : Beta} {fr : Nat → Prop} {h h2 : List AObj} {w : World} (T : Nat → Bool) (L : Lay β fr w.heap h) (hlen : h2.length = h.length) (hp : ∀ i o, h2[i]? = some o → PartO T h i o) :
    ∃ fr', (∀ b, fr b → fr' b) ∧ (∀ t o g b, T t = true → h[t]? = some o → o.gen = some g → β t g = some (some b) → fr' b) ∧ (∀ b, fr' b → fr b ∨ Own h β b) ∧ (∀ b, Own h2 β b → Own h β b) ∧ Lay β fr' w.heap h2 := by
  let fr' : Nat → Prop := fun b => fr b ∨ ∃ t o g, T t = true ∧ h[t]? = some o ∧ o.gen = some g ∧ β t g = some (some b)
  have base : ∀ i o g, h2[i]? = some o → o.gen = some g → T i = false ∧ ∃ o1, h[i]? = some o1 ∧ o1.gen = some g := by
    intro i o g ho hg
    rcases hp i o ho with rfl | ⟨hT, q | ⟨g1, s, l, k, q1, rfl, -⟩⟩
    · cases hg
    · exact ⟨hT, o, q, hg⟩
    · exact ⟨hT, _, q1, hg⟩
  have own2 : ∀ b, Own h2 β b → Own h β b := by
    rintro b ⟨t, o, g, h1, h2, h3⟩
    obtain ⟨-, o1, q1, q2⟩ := base t o g h1 h2
    exact ⟨t, o1, g, q1, q2, h3⟩
  refine ⟨fr', fun b e => .inl e, fun t o g b h1 h2 h3 h4 => .inr ⟨t, o, g, h1, h2, h3, h4⟩, ?_, own2, ?_⟩
  · rintro b (e | ⟨t, o, g, -, h2, h3, h4⟩)
    · exact .inl e
    · exact .inr ⟨t, o, g, h2, h3, h4⟩
  · refine { frlt := ?_, ownfr := ?_, lt := L.lt, inj := ?_, obj := ?_, dom := ?_, top := ?_, tab := fun b cs q => ⟨.inl (L.tab b cs q).1, (L.tab b cs q).2⟩ }
    · rintro b (e | ⟨t, o, g, -, h2, h3, h4⟩)
      · exact L.frlt b e
      · exact L.lt _ _ _ h4
    · rintro b ⟨t, o, g, h1, h2, h3⟩ hb
      obtain ⟨hT, o1, q1, q2⟩ := base t o g h1 h2
      rcases hb with e | ⟨t', o', g', hT', h1', h2', h3'⟩
      · exact L.ownfr b ⟨t, o1, g, q1, q2, h3⟩ e
      · have := L.inj _ _ _ _ _ _ _ q1 q2 h3 h1' h2' h3'
        subst this; rw [hT] at hT'; cases hT'
    · intro t t' o o' g g' b h1 h2 h3 h4 h5 h6
      obtain ⟨-, o1, q1, q2⟩ := base t o g h1 h2
      obtain ⟨-, o2, q3, q4⟩ := base t' o' g' h4 h5
      exact L.inj _ _ _ _ _ _ _ q1 q2 h3 q3 q4 h6
    · intro t o ho
      have E : Ext β fr w.heap β fr' w.heap := ⟨fun _ _ _ e => e, fun b e => .inl e, fun _ _ => rfl, fun _ _ _ c _ f _ e => ⟨c, f, e, rfl⟩⟩
      rcases hp t o ho with rfl | ⟨hT, q | ⟨g1, s, l, k, q1, rfl, hk⟩⟩
      · trivial
      · exact (L.obj t o q).ext E fun _ _ _ _ => rfl
      · rcases L.obj t _ q1 with ⟨z1, rfl⟩ | ⟨b, c, e, f, h1, h2, h3, h4, h5, h6⟩
        · exact .inl ⟨z1, rfl⟩
        · refine .inr ⟨b, c, e, f, h1, h2, h3, fun x hx => ?_, by simpa using h5, fun i hi j hj => ?_⟩
          · simp only [List.mem_map] at hx
            obtain ⟨y, hy, rfl⟩ := hx
            rw [hk y hy]; exact h4 y hy
          · have hi' : i < l.length := by simpa using hi
            have hge : (l.map (frzT T h k))[i] = frzT T h k (l[i]) := by simp
            have hj1 : j < (frzT T h k (l[i])).cells.length := by rw [hge] at hj; exact hj
            have hj2 : j < (l[i]).cells.length := by rw [← hk _ (List.getElem_mem hi')]; exact hj1
            obtain ⟨k', hk', he⟩ := frzT_cells T h k (l[i]) (hk _ (List.getElem_mem hi')) j hj1 hj2
            obtain ⟨u, hu, hr⟩ := h6 i hi' j hj2
            refine ⟨u, hu, ?_⟩
            have := frzT_rep (T := T) (fr' := fr') L (fun b e => .inl e) (fun t o g b h1 h2 h3 h4 => .inr ⟨t, o, g, h1, h2, h3, h4⟩) k' _ _ hr
            rw [← he] at this
            simpa only [hge] using this
    · intro t g r e; rw [hlen]; exact L.dom t g r e
    · intro t g s l h1 g' hg'
      rcases hp t _ h1 with q | ⟨-, q | ⟨g1, s1, l1, k, q1, q2, -⟩⟩
      · cases q
      · exact L.top t g s l q g' hg'
      · injection q2 with q2 q3 q4; subst q2; exact L.top t _ _ _ q1 g' hg'
theorem Close.part (T : Nat → Bool) (n k : Nat) (x : AV) (h h2 : List AObj) (hlen : h2.length = h.length) (hp : ∀ i o, h2[i]? = some o → PartO T h i o) : Close n x h (frzT T h k x) h2 := fun H β fr v L R => by
  obtain ⟨fr', e1, e2, e3, e4, L'⟩ := step_part (w := { (default : World) with heap := H }) T L hlen hp
  exact ⟨β, fr', L', frzT_rep L e1 e2 k x v R, fun _ _ _ _ e => e, e1, e4, e3⟩
theorem Fin_part {n : Nat} {x : AV} {h : List AObj} {K : AV → List AObj → Prop} {t : Tag K} (T : Nat → Bool) (k : Nat) (h2 : List AObj) (hlen : h2.length = h.length) (hp : ∀ i o, h2[i]? = some o → PartO T h i o) (kk : K (frzT T h k x) h2) : finT x n h K t := ⟨_, _, Close.part T n k x h h2 hlen hp, kk⟩
theorem frzT_flatX {T : Nat → Bool} {h : List AObj} {k : Nat} {x : AV} (hx : flatX x = true) : frzT T h (k + 1) x = x := by cases x <;> first | rfl | cases hx
theorem frzT_all {T : Nat → Bool} {h : List AObj} {k t g s n : Nat} {l : List AV} (ht : h[t]? = some (.arr g s l)) (hT : T t = true) (hl : n = l.length) (hf : ∀ y ∈ l, flatX y = true) : frzT T h (k + 2) (.sl t g s 0 n) = .fz false l := by
  subst hl
  have e : l.map (frzT T h (k + 1)) = l := by
    have : ∀ m : List AV, (∀ y ∈ m, flatX y = true) → m.map (frzT T h (k + 1)) = m := by
      intro m hm
      induction m with
      | nil => rfl
      | cons a m ih => rw [List.map_cons, frzT_flatX (hm a (by simp)), ih fun y hy => hm y (by simp [hy])]
    exact this _ hf
  simp only [frzT, hT, Bool.true_eq_false, if_false, ht, Nat.zero_add, List.drop_zero, List.take_length, e]
  rw [if_pos ⟨trivial, trivial, Nat.le_refl _, fun y hy => by rw [frzT_flatX (hf y hy)]⟩]
theorem PartO.same {T : Nat → Bool} {h : List AObj} {i : Nat} {o : AObj} (hT : T i = false) (h1 : h[i]? = some o) : PartO T h i o := .inr ⟨hT, .inl h1⟩
end Go.Proofs.Vale
