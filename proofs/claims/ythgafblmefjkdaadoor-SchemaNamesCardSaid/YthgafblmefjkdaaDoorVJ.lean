/- YthgafblmefjkdaaDoorVJ: a text of the proof of this claim, by its prover. -/
import Derived.Test.YthgafblmefjkdaaDoorVI
set_option linter.unusedVariables false
set_option linter.unusedSimpArgs false
namespace Go.Proofs.Vale

/-- A value that fits into one cell. -/
def AV.one : AV → Bool
  | .agg _ => false
  | .tup _ => false
  | .opt _ _ => false
  | .any => false
  | _ => true

theorem Rep_one {β : Beta} {fr : Nat → Prop} {H : Array Obj} {x : AV} {v : Value} (h : Rep β fr H x v) (ho : x.one = true) : v.oneCell' = true := by
  cases x <;> first | (cases ho; done) | skip
  all_goals
    simp only [Rep] at h
    first
      | (subst h; rfl)
      | (obtain ⟨_, rfl, _⟩ := h; rfl)
      | (obtain ⟨_, _, rfl, _⟩ := h; rfl)
      | (obtain ⟨_, _, rfl⟩ := h; rfl)
      | (rcases h with ⟨_, _, _, rfl⟩ | ⟨_, _, _, _, _, _, _, rfl, _⟩ <;> rfl)

/-- Storing cells into a block that may be written. -/
theorem run_storeCells {P : Program} (b o : Nat) (e : TypeId) (f : Nat × Nat) : ∀ (vs : List Value) (i : Nat) (c : Array Value) (w : World), w.heap[b]? = some (.cells c e f) → (∀ v ∈ vs, v.oneCell' = true) → o + i + vs.length ≤ c.size →
    (∀ j, j < c.size → (decide (f.1 ≤ j) && decide (j < f.2)) = false) →
    ∃ c' w', (storeCells ⟨b, o, none⟩ vs i).run P w = .ok () w' ∧ w'.heap[b]? = some (.cells c' e f) ∧ (∀ k, k ≠ b → w'.heap[k]? = w.heap[k]?) ∧ w'.heap.size = w.heap.size ∧ w'.os = w.os ∧ w'.tape = w.tape ∧ w'.output = w.output ∧
      c'.size = c.size ∧ ∀ j, c'[j]? = if o + i ≤ j ∧ j < o + i + vs.length then vs[j - (o + i)]? else c[j]?
  | [], i, c, w, hb, _, _, _ => ⟨c, w, rfl, hb, fun _ _ => rfl, rfl, rfl, rfl, rfl, rfl, fun j => by rw [if_neg (by rintro ⟨h1, h2⟩; simp only [List.length_nil] at h2; omega)]⟩
  | v :: vs, i, c, w, hb, hv, hl, hf => by
    simp only [List.length_cons] at hl
    have hbs : b < w.heap.size := (Array.getElem?_eq_some_iff.1 hb).1
    have hcell : w.cell? ⟨b, o + i, none⟩ = some (c[o + i]'(by omega)) := by
      rw [cell?_eq _ _ rfl]; simp only [cellAt, hb]; exact Array.getElem?_eq_getElem (by omega)
    have hfz : w.frozen? ⟨b, o + i, none⟩ = false := by
      simp only [World.frozen?, hb]
      exact hf (o + i) (by omega)
    let w1 := w.setCell ⟨b, o + i, none⟩ v
    have hrun : (store ⟨b, o + i, none⟩ v).run P w = .ok () w1 := by
      rw [run_store P w _ v .plain (hv v (by simp)), hcell]; simp [hfz, w1]
    have hb1 : w1.heap[b]? = some (.cells (c.setIfInBounds (o + i) v) e f) := by
      simp only [w1, World.setCell, Array.getElem?_modify, if_true, hb, Option.map_some]
      simp
    have hk1 : ∀ k, k ≠ b → w1.heap[k]? = w.heap[k]? := by
      intro k hk
      simp only [w1, World.setCell, Array.getElem?_modify]
      rw [if_neg (fun q => hk q.symm)]
    have hs1 : w1.heap.size = w.heap.size := by simp [w1, World.setCell]
    obtain ⟨c', w', h1, h2, h3, h4, h5, h6, h7, h8, h9⟩ := run_storeCells b o e f vs (i + 1) (c.setIfInBounds (o + i) v) w1 hb1 (fun v hv' => hv v (by simp [hv'])) (by simp; omega) (by simpa using hf)
    refine ⟨c', w', ?_, h2, fun k hk => (h3 k hk).trans (hk1 k hk), h4.trans hs1, h5, h6, h7, by rw [h8]; simp, fun j => ?_⟩
    · simp only [storeCells, Sem.run_bind]
      rw [add_none rfl, hrun]
      exact h1
    · rw [h9 j]
      simp only [List.length_cons]
      by_cases q : j = o + i
      · subst q
        rw [if_neg (by omega), if_pos (by omega)]
        simp [show o + i < c.size by omega]
      · by_cases q2 : o + (i + 1) ≤ j ∧ j < o + (i + 1) + vs.length
        · rw [if_pos q2, if_pos (by omega)]
          rw [show j - (o + i) = (j - (o + (i + 1))) + 1 by omega]; simp
        · rw [if_neg q2, if_neg (by omega)]
          rw [Array.getElem?_setIfInBounds_ne (by omega)]

/-- A row of elements as cells. -/
def RowAt (β : Beta) (fr : Nat → Prop) (H : Array Obj) (l : List AV) (s : Nat) (us : Array Value) : Prop :=
  us.size = l.length * s ∧ (∀ x ∈ l, x.cells.length = s) ∧ ∀ i (hi : i < l.length) j (hj : j < (l[i]).cells.length), ∃ u, us[i * s + j]? = some u ∧ Rep β fr H ((l[i]).cells[j]) u

theorem RowAt.ext {β β' : Beta} {fr fr' : Nat → Prop} {H H' : Array Obj} (e : Ext β fr H β' fr' H') {l : List AV} {s : Nat} {us : Array Value} (h : RowAt β fr H l s us) : RowAt β' fr' H' l s us :=
  ⟨h.1, h.2.1, fun i hi j hj => let ⟨u, hu, hr⟩ := h.2.2 i hi j hj; ⟨u, hu, hr.ext e⟩⟩

theorem RowAt.append {β : Beta} {fr : Nat → Prop} {H : Array Obj} {l m : List AV} {s : Nat} {us vs : Array Value} (h : RowAt β fr H l s us) (k : RowAt β fr H m s vs) : RowAt β fr H (l ++ m) s (us ++ vs) := by
  refine ⟨by simp [h.1, k.1, Nat.add_mul], fun x hx => ?_, fun i hi j hj => ?_⟩
  · rcases List.mem_append.1 hx with q | q
    · exact h.2.1 x q
    · exact k.2.1 x q
  · by_cases q : i < l.length
    · simp only [List.getElem_append_left q] at hj ⊢
      obtain ⟨u, hu, hr⟩ := h.2.2 i q j hj
      refine ⟨u, ?_, hr⟩
      rw [Array.getElem?_append_left]
      · exact hu
      · exact (Array.getElem?_eq_some_iff.1 hu).1
    · have hi' : i - l.length < m.length := by simp at hi; omega
      simp only [List.getElem_append_right (Nat.le_of_not_lt q)] at hj ⊢
      obtain ⟨u, hu, hr⟩ := k.2.2 (i - l.length) hi' j hj
      refine ⟨u, ?_, hr⟩
      have e : i * s = us.size + (i - l.length) * s := by
        rw [h.1, ← Nat.add_mul]; congr 1; omega
      rw [Array.getElem?_append_right (by omega)]
      rw [show i * s + j - us.size = (i - l.length) * s + j by omega]
      exact hu

/-- Cells of a row behind which others lie. -/
theorem RowAt.obj {β : Beta} {fr : Nat → Prop} {H : Array Obj} {l : List AV} {s t g b : Nat} {us c : Array Value} {e : TypeId} {f : Nat × Nat} (h : RowAt β fr H l s us) (hb : β t g = some (some b)) (hH : H[b]? = some (.cells c e f))
    (hf : ∀ i, i < c.size → (decide (f.1 ≤ i) && decide (i < f.2)) = false) (hc : ∀ k, k < us.size → c[k]? = us[k]?) (hn : us.size ≤ c.size) : ObjAt β fr H t (.arr g s l) := by
  refine .inr ⟨b, c, e, f, hb, hH, hf, h.2.1, by rw [← h.1]; exact hn, fun i hi j hj => ?_⟩
  obtain ⟨u, hu, hr⟩ := h.2.2 i hi j hj
  exact ⟨u, by rw [hc _ (Array.getElem?_eq_some_iff.1 hu).1]; exact hu, hr⟩

theorem idx_lt {i j s n : Nat} (hi : i < n) (hj : j < s) : i * s + j < n * s := by
  have : (i + 1) * s ≤ n * s := Nat.mul_le_mul_right s hi
  rw [Nat.add_mul] at this; omega

/-- Reading a row out of memory. -/
theorem run_loadRow {P : Program} {w : World} {β : Beta} {fr : Nat → Prop} {l : List AV} {s : Nat} {b o : Nat} (hs : ∀ x ∈ l, x.cells.length = s)
    (h : ∀ i (hi : i < l.length) j (hj : j < (l[i]).cells.length), ∃ u, cellAt w.heap b (o + i * s + j) = some u ∧ Rep β fr w.heap ((l[i]).cells[j]) u) :
    ∃ us, (∀ w' : World, w'.heap = w.heap → (loadCells ⟨b, o, none⟩ (l.length * s)).run P w' = .ok us w') ∧ RowAt β fr w.heap l s us := by
  refine ⟨_, fun w' hw' => run_loadCells w' _ (l.length * s) (fun k => (cellAt w.heap b (o + k)).getD undef) (fun k hk => ?_), ?_⟩
  · have hs0 : 0 < s := by rcases Nat.eq_zero_or_pos s with z | z; · subst z; simp at hk
                           exact z
    have hi : k / s < l.length := (Nat.div_lt_iff_lt_mul hs0).2 hk
    have hj : k % s < (l[k / s]).cells.length := by rw [hs _ (List.getElem_mem hi)]; exact Nat.mod_lt _ hs0
    obtain ⟨u, hu, hr⟩ := h _ hi _ hj
    have e : o + k / s * s + k % s = o + k := by rw [Nat.add_assoc, Nat.div_add_mod' k s]
    rw [e] at hu
    rw [add_none rfl, cell?_eq _ _ rfl, hw']
    simp [hu]
  · refine ⟨by simp, hs, fun i hi j hj => ?_⟩
    obtain ⟨u, hu, hr⟩ := h i hi j hj
    have hlt : i * s + j < l.length * s := idx_lt hi (by rw [← hs _ (List.getElem_mem hi)]; exact hj)
    refine ⟨u, ?_, hr⟩
    simp [hlt, show o + (i * s + j) = o + i * s + j by omega, hu]

theorem growBy_le (n : Nat) : ∀ r c, Builtin.growBy n r c ≤ max c (n + (n + 768) / 4)
  | 0, c => by simp [Builtin.growBy]; omega
  | r + 1, c => by
    unfold Builtin.growBy
    split
    · omega
    · have := growBy_le n r (c + (c + 768) / 4)
      omega

theorem nextslicecap_le {n c : Nat} (h : c < n) : Builtin.nextslicecap n c ≤ 2 * n + 192 := by
  unfold Builtin.nextslicecap
  split
  · omega
  · split
    · omega
    · have := growBy_le n 4 c
      omega

end Go.Proofs.Vale
