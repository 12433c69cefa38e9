/- YthgafblmefjkdaaDoorVK: a text of the proof of this claim, by its prover. -/
import Derived.Test.YthgafblmefjkdaaDoorVJ
set_option linter.unusedVariables false
set_option linter.unusedSimpArgs false
namespace Go.Proofs.Vale

/-- The elements that a slice, or a string, hands to append. -/
def rdA (h : List AObj) (x : AV) : Option (Prop × List AV) :=
  match x with
  | .fz c l => some (True, l)
  | .sl t g s off len => (match h[t]? with | some (.arr g' s' l) => some (g = g' ∧ s = s' ∧ off + len ≤ l.length, (l.drop off).take len) | _ => none)
  | .str s => some (True, bytesA s)
  | _ => none

theorem bytesA_cells {s : List UInt8} : ∀ x ∈ bytesA s, x.cells.length = 1 := by
  intro x hx
  simp only [bytesA, List.mem_map] at hx
  obtain ⟨b, _, rfl⟩ := hx; rfl

theorem rdA_run {P : Program} {w : World} {β : Beta} {fr : Nat → Prop} {h : List AObj} {x : AV} {v : Value} {p : Prop} {ys : List AV} {s : Nat} (L : Lay β fr w.heap h) (hx : Rep β fr w.heap x v) (he : rdA h x = some (p, ys)) (hp : p) (hs : ∀ y ∈ ys, y.cells.length = s) :
    (∀ w' : World, (Builtin.lenOf v).run P w' = .ok ys.length w') ∧ ∃ us, (∀ w' : World, w'.heap = w.heap → (Builtin.firstCells s ys.length v).run P w' = .ok us w') ∧ RowAt β fr w.heap ys s us := by
  unfold rdA at he
  split at he
  · rename_i c l
    injection he with he; injection he with h1 h2; subst h2
    simp only [Rep] at hx
    obtain ⟨ao, cap, rfl, h3, h4, h5⟩ := hx
    refine ⟨fun _ => rfl, ?_⟩
    cases l with
    | nil =>
      cases ao with
      | none => exact ⟨#[], fun _ _ => rfl, by simp, by simp, by simp⟩
      | some ad => exact ⟨#[], fun _ _ => by simp [Builtin.firstCells, loadCells, loadCellsFrom], by simp, by simp, by simp⟩
    | cons y l =>
      obtain ⟨ad, s', rfl, hf, hsp, hu, hc⟩ := h5 (by simp)
      have : s' = s := by rw [← hu y (by simp), hs y (by simp)]
      subst this
      obtain ⟨bk, of, sp⟩ := ad
      simp only at hsp; subst hsp
      exact run_loadRow hs hc
  · rename_i t g s' off len
    split at he
    · rename_i g' s'' l ht
      injection he with he; injection he with h1 h2; subst h2; rw [← h1] at hp
      obtain ⟨rfl, rfl, hn⟩ := hp
      simp only [Rep] at hx
      rcases hx with ⟨hb, rfl, rfl, rfl⟩ | ⟨b, c, e, f, cap, hb, hH, rfl, hcs, hl⟩
      · refine ⟨fun _ => by simp [Builtin.lenOf], #[], fun _ _ => by simp [Builtin.firstCells], by simp, by simp, by simp⟩
      · have hlen : ((l.drop off).take len).length = len := by simp; omega
        refine ⟨fun _ => by simp only [Builtin.lenOf, hlen]; rfl, ?_⟩
        have := run_loadRow (P := P) (w := w) (β := β) (fr := fr) (l := (l.drop off).take len) (s := s) (b := b) (o := off * s') hs (fun i hi j hj => by
          have hi' : off + i < l.length := by simp at hi; omega
          simp only [List.getElem_take, List.getElem_drop] at hj ⊢
          obtain ⟨u, hu, hr⟩ := L.arr ht hi' hb j hj
          refine ⟨u, ?_, hr⟩
          have hss : s' = s := by
            have ho := L.obj t _ ht
            rcases ho with ⟨_, z⟩ | ⟨_, _, _, _, _, _, _, h4, _⟩
            · subst z; simp at hi'
            · rw [← h4 _ (List.getElem_mem hi'), ← hs (l[off + i]) (by
                have := List.getElem_mem hi
                simpa only [List.getElem_take, List.getElem_drop] using this)]
          subst hss
          rw [← hu]; congr 1; rw [Nat.add_mul])
        simpa [Builtin.firstCells] using this
    · cases he
  · rename_i bs
    injection he with he; injection he with h1 h2; subst h2
    simp only [Rep] at hx
    obtain ⟨b, rfl, rfl⟩ := hx
    refine ⟨fun _ => by simp [Builtin.lenOf, bytesA], ?_⟩
    cases hz : b.data.toList with
    | nil =>
      have : b.size = 0 := by have : b.data.toList.length = 0 := by rw [hz]; rfl
                              simpa using this
      refine ⟨((b.extract 0 0).data.map fun b => .int .u8 b.toNat), fun _ _ => ?_, by simp [bytesA], by simp [bytesA], by simp [bytesA]⟩
      simp [Builtin.firstCells, bytesA]
    | cons y l =>
      have hs1 : s = 1 := by
        rw [← hs (.int .u8 y.toNat) (by simp [bytesA, hz])]; rfl
      subst hs1
      refine ⟨((b.extract 0 (bytesA (y :: l)).length).data.map fun b => .int .u8 b.toNat), fun _ _ => rfl, ?_⟩
      rw [← hz]
      have hlen : (bytesA b.data.toList).length = b.size := by simp [bytesA]
      have hex : (b.extract 0 (bytesA b.data.toList).length).data = b.data := by
        rw [hlen]; simp
      rw [hex]
      refine ⟨by simp [bytesA], bytesA_cells, fun i hi j hj => ?_⟩
      have hi' : i < b.data.size := by rw [hlen] at hi; exact hi
      have hc := bytesA_cells _ (List.getElem_mem hi)
      have : j = 0 := by omega
      subst this
      refine ⟨.int .u8 (b.data[i]).toNat, by rw [Nat.mul_one, Nat.add_zero, Array.getElem?_map, Array.getElem?_eq_getElem hi']; rfl, ?_⟩
      simp only [bytesA, List.getElem_map, AV.cells, List.getElem_cons_zero, Rep]; simp
  · cases he

def apTy (P : Program) (ts : Array TypeId) : Bool :=
  match ts[0]?, ts[1]? with
  | some _, some t1 => (match tk P t1 with | .sl _ => true | .str => true | _ => false)
  | _, _ => false

def okEl (s : Nat) (y : AV) : Bool := y.cells.length == s && y.cells.all AV.one

/-- append of so many elements that are zero. -/
def mkTy (P : Program) (ts : Array TypeId) : Bool :=
  match ts[1]? with
  | some t => (match tk P t with | .int _ => true | _ => false)
  | none => false

/-- append. -/
def apK (P : Program) (ts : Array TypeId) (a x : AV) (h : List AObj) (K : AV → List AObj → Prop) : Prop :=
  match eI P (ts.getD 0 0), rdA h x, a with
  | some (e, s, by_), some (p, ys), .sl t g s' off len =>
    (match h[t]? with
    | some (.arr g' s'' l) => (apTy P ts = true ∧ p ∧ g = g' ∧ s' = s ∧ s'' = s ∧ off = 0 ∧ len = l.length ∧ (l.length + ys.length + 96) * by_ ≤ 140737488355328 ∧ l.length + ys.length ≤ 4611686018427387904 ∧ ys.all (okEl s) = true) ∧
        K (.sl t (g + 1) s 0 (l.length + ys.length)) (h.set t (.arr (g + 1) s (l ++ ys)))
    | _ => False)
  | some (e, s, by_), some (p, ys), .fz true l => (apTy P ts = true ∧ p ∧ (l.length + ys.length + 96) * by_ ≤ 140737488355328 ∧ l.length + ys.length ≤ 4611686018427387904 ∧ ys.all (okEl s) = true ∧ (l.all fun y => y.cells.length == s) = true) ∧
      (ys = [] → K (.fz true l) h) ∧ (ys ≠ [] → K (.sl h.length 0 s 0 (l.length + ys.length)) (h ++ [.arr 0 s (l ++ ys)]))
  | some (e, s, by_), none, .fz true l => (match l, x with
    | [], .int _ n => (mkTy P ts = true ∧ 0 < n ∧ (n.toNat + 96) * by_ ≤ 140737488355328 ∧ n ≤ 4611686018427387904) ∧ K (.sl h.length 0 s 0 n.toNat) (h ++ [.arr 0 s []])
    | _, _ => False)
  | _, _, _ => False

theorem okEl_spec {s : Nat} {ys : List AV} (h : ys.all (okEl s) = true) : (∀ y ∈ ys, y.cells.length = s) ∧ (∀ y ∈ ys, ∀ c ∈ y.cells, c.one = true) := by
  refine ⟨fun y hy => ?_, fun y hy c hc => ?_⟩
  · have := List.all_eq_true.1 h y hy
    simp only [okEl, Bool.and_eq_true, beq_iff_eq] at this; exact this.1
  · have := List.all_eq_true.1 h y hy
    simp only [okEl, Bool.and_eq_true, beq_iff_eq] at this
    exact List.all_eq_true.1 this.2 c hc

theorem RowAt.one {β : Beta} {fr : Nat → Prop} {H : Array Obj} {l : List AV} {s : Nat} {us : Array Value} (h : RowAt β fr H l s us) (ho : ∀ y ∈ l, ∀ c ∈ y.cells, c.one = true) : ∀ v ∈ us.toList, v.oneCell' = true := by
  intro v hv
  obtain ⟨k, hk, rfl⟩ := List.getElem_of_mem hv
  have hk' : k < l.length * s := by rw [← h.1]; simpa using hk
  have hs0 : 0 < s := by rcases Nat.eq_zero_or_pos s with z | z; · subst z; simp at hk'
                         exact z
  have hi : k / s < l.length := (Nat.div_lt_iff_lt_mul hs0).2 hk'
  have hj : k % s < (l[k / s]).cells.length := by rw [h.2.1 _ (List.getElem_mem hi)]; exact Nat.mod_lt _ hs0
  obtain ⟨u, hu, hr⟩ := h.2.2 _ hi _ hj
  rw [Nat.div_add_mod' k s] at hu
  have hus : k < us.size := by simpa using hk
  rw [Array.getElem?_eq_getElem hus] at hu
  injection hu with hu
  have := Rep_one hr (ho _ (List.getElem_mem hi) _ (List.getElem_mem hj))
  rw [← hu] at this
  simpa using this

/-- append's run where it grows. -/
theorem run_append_grow {P : Program} {w : World} {t1 t e s by_ : Nat} {ts : Array TypeId} {ty : TypeId} (hts : ts[0]? = some t) (hei : eI P t = some (e, s, by_)) (hty : apTy P ts = true)
    {base : Option Addr} {n m cap : Nat} {vx : Value} {old new : Array Value} (hx : (Builtin.lenOf vx).run P w = .ok m w) (hold : ∀ w' : World, w'.heap = w.heap → (Builtin.firstCells s n (.slice base n cap)).run P w' = .ok old w') (hnew : ∀ w' : World, w'.heap = w.heap → (Builtin.firstCells s m vx).run P w' = .ok new w')
    (hg : cap < n + m) (hb : (n + m + 96) * by_ ≤ 140737488355328) (hby : n + m ≤ 4611686018427387904) :
    ∃ nc rest w', (Builtin.append_ ts ty #[.slice base n cap, vx]).run P w = .ok (.slice (some ⟨w.heap.size, 0, none⟩) (n + m) nc) w' ∧ w'.heap = w.heap.push (.cells (old ++ new ++ rest) e (0, 0)) ∧ w'.os = w.os ∧ w'.tape = w.tape ∧ w'.output = w.output ∧ n + m ≤ nc ∧ rest.size = (nc - (n + m)) * s := by
  obtain ⟨ht, i, z, hi, his, hib, hz, hzs⟩ := ei_full hei
  have hint : ∃ t1 d, ts[1]? = some t1 ∧ P.underlying t1 = some d ∧ ∀ k, d ≠ .int k := by
    unfold apTy at hty
    rw [hts] at hty
    cases h1 : ts[1]? with
    | none => rw [h1] at hty; cases hty
    | some t1 =>
      rw [h1] at hty
      simp only at hty
      split at hty
      · rename_i e' q; exact ⟨t1, _, rfl, tk_sl q, by simp⟩
      · rename_i q; exact ⟨t1, _, rfl, tk_str q, by simp⟩
      · cases hty
  obtain ⟨t1, d, h1, hd, hdn⟩ := hint
  have hzz : (match d with | .int _ => true | _ => false) = false := by
    cases d <;> first | rfl | exact absurd rfl (hdn _)
  have hnext : ¬ (Builtin.nextslicecap (n + m) cap * i.bytes > 2 ^ 48) := by
    have := nextslicecap_le hg
    rw [hib]
    have h2 : Builtin.nextslicecap (n + m) cap * by_ ≤ (2 * (n + m) + 192) * by_ := Nat.mul_le_mul_right _ this
    have h3 : (2 * (n + m) + 192) * by_ = 2 * ((n + m + 96) * by_) := by rw [← Nat.mul_assoc]; congr 1
    omega
  have hbig : ¬ (((n + m : Nat) : Int) > IntKind.i64.max ∧ (false = true ∨ i.bytes = 0)) := by
    rintro ⟨q, -⟩
    have e : IntKind.i64.max = 9223372036854775807 := by decide
    rw [e] at q; omega
  let q : Question := .appendCap (n + m) cap e
  let nc := q.cut (w.tape w.drawn q)
  let w1 : World := { w with drawn := w.drawn + 1 }
  have hnc : n + m ≤ nc := by show n + m ≤ (n + m) + _; omega
  refine ⟨nc, Builtin.zeroCells z.cells (nc - (n + m)), { w1 with heap := w1.heap.push (.cells (old ++ new ++ Builtin.zeroCells z.cells (nc - (n + m))) e) }, ?_, rfl, rfl, rfl, rfl, hnc, ?_⟩
  · unfold Builtin.append_
    simp only [hts, h1, List.getElem?_toArray, List.getElem?_cons_zero, List.getElem?_cons_succ, Sem.run_bind, run_underlying ht, run_underlying hd, Result.andThen_ok, run_sizeOf' hi, his, Sem.run_pure, hzz, Bool.false_eq_true, if_false, hx]
    have hq : ¬ (n + m ≤ cap) := by omega
    simp only [hq, if_false, Sem.run_bind, Sem.run_ite, run_typeInfo' hi, Result.andThen_ok]
    have hbig' : ¬ (((n + m : Nat) : Int) > IntKind.i64.max ∧ (False ∨ i.bytes = 0)) := fun q => hbig ⟨q.1, by simpa using q.2⟩
    have hch : (choose (.appendCap (n + m) cap e)).run P w = .ok nc w1 := rfl
    have hzr : ∀ w', (zeroValue e).run P w' = .ok z w' := fun w' => by simp [zeroValue, typeInfo, hi, hz]
    rw [if_neg hbig', if_neg hnext]
    simp only [hch, Result.andThen_ok, run_askRoom, hold w1 rfl, hnew w1 rfl, Bool.not_false, if_true, hzr, newRow, Sem.run_bind, run_newObj, Sem.run_pure]
    rfl
  · simp [Builtin.zeroCells, hzs]


theorem apTy_spec {P : Program} {ts : Array TypeId} {t : TypeId} (hts : ts[0]? = some t) (hty : apTy P ts = true) : ∃ t1 d, ts[1]? = some t1 ∧ P.underlying t1 = some d ∧ ∀ k, d ≠ .int k := by
  unfold apTy at hty
  rw [hts] at hty
  cases h1 : ts[1]? with
  | none => rw [h1] at hty; cases hty
  | some t1 =>
    rw [h1] at hty
    simp only at hty
    split at hty
    · rename_i e' q; exact ⟨t1, _, rfl, tk_sl q, by simp⟩
    · rename_i q; exact ⟨t1, _, rfl, tk_str q, by simp⟩
    · cases hty

/-- append's run where there is room. -/
theorem run_append_room {P : Program} {w : World} {t e s by_ : Nat} {ts : Array TypeId} {ty : TypeId} (hts : ts[0]? = some t) (hei : eI P t = some (e, s, by_)) (hty : apTy P ts = true)
    {base : Option Addr} {n m cap : Nat} {vx : Value} {new : Array Value} (hx : (Builtin.lenOf vx).run P w = .ok m w) (hnew : (Builtin.firstCells s m vx).run P w = .ok new w)
    (hg : n + m ≤ cap) {w' : World} (hst : (match base with | some a => (storeCells (a.add (n * s)) new.toList).run P w | none => .ok () w) = .ok () w') :
    (Builtin.append_ ts ty #[.slice base n cap, vx]).run P w = .ok (.slice base (n + m) cap) w' := by
  obtain ⟨ht, i, z, hi, his, hib, hz, hzs⟩ := ei_full hei
  obtain ⟨t1, d, h1, hd, hdn⟩ := apTy_spec hts hty
  have hzz : (match d with | .int _ => true | _ => false) = false := by
    cases d <;> first | rfl | exact absurd rfl (hdn _)
  unfold Builtin.append_
  simp only [hts, h1, List.getElem?_toArray, List.getElem?_cons_zero, List.getElem?_cons_succ, Sem.run_bind, run_underlying ht, run_underlying hd, Result.andThen_ok, run_sizeOf' hi, his, Sem.run_pure, hzz, Bool.false_eq_true, if_false, hx]
  rw [if_pos hg]
  simp only [Bool.not_false, if_true, Sem.run_bind, hnew, Result.andThen_ok]
  cases base with
  | none => simp only at hst; injection hst with _ hst; subst hst; rfl
  | some a => simp only at hst ⊢; rw [Sem.run_bind, hst]; rfl

theorem run_append_zero {P : Program} {w : World} {t e s by_ : Nat} {ts : Array TypeId} {ty : TypeId} (hts : ts[0]? = some t) (hei : eI P t = some (e, s, by_)) (hty : mkTy P ts = true)
    {base : Option Addr} {k : IntKind} {n : Int} (h0 : 0 < n) (hb : (n.toNat + 96) * by_ ≤ 140737488355328) (hn : n ≤ 4611686018427387904) :
    ∃ nc cells w', (Builtin.append_ ts ty #[.slice base 0 0, .int k n]).run P w = .ok (.slice (some ⟨w.heap.size, 0, none⟩) n.toNat nc) w' ∧ w'.heap = w.heap.push (.cells cells e (0, 0)) ∧ w'.os = w.os ∧ w'.tape = w.tape ∧ w'.output = w.output ∧ n.toNat ≤ nc ∧ cells.size = nc * s := by
  obtain ⟨ht, i, z, hi, his, hib, hz, hzs⟩ := ei_full hei
  obtain ⟨t1, k1, h1, hd⟩ : ∃ t1 k1, ts[1]? = some t1 ∧ P.underlying t1 = some (.int k1) := by
    unfold mkTy at hty
    cases q : ts[1]? with
    | none => rw [q] at hty; cases hty
    | some t1 =>
      rw [q] at hty; simp only at hty
      split at hty
      · rename_i k1 q2; exact ⟨t1, k1, rfl, tk_int q2⟩
      · cases hty
  obtain ⟨m, rfl⟩ : ∃ m : Nat, n = (m : Int) := ⟨n.toNat, by omega⟩
  simp only [Int.toNat_natCast] at hb ⊢
  have hw : IntKind.i64.wrap (m : Int) = m := by simp [IntKind.wrap, IntKind.signed, IntKind.bits]; omega
  have hmb : m * by_ + 96 * by_ ≤ 140737488355328 := by rw [← Nat.add_mul]; exact hb
  have hbig : ¬ ((m : Int) * (i.bytes : Int) > 2 ^ 48) := by
    rw [hib]
    have : (m : Int) * (by_ : Int) = ((m * by_ : Nat) : Int) := by simp
    rw [this]; omega
  have hnext : ¬ (Builtin.nextslicecap (0 + m) 0 * i.bytes > 2 ^ 48) := by
    have := nextslicecap_le (n := 0 + m) (c := 0) (by omega)
    rw [hib]
    have h2 : Builtin.nextslicecap (0 + m) 0 * by_ ≤ (2 * (0 + m) + 192) * by_ := Nat.mul_le_mul_right _ this
    have h3 : (2 * (0 + m) + 192) * by_ = 2 * ((m + 96) * by_) := by rw [← Nat.mul_assoc]; congr 1; omega
    omega
  let q : Question := .appendCap (0 + m) 0 e
  let nc := q.cut (w.tape w.drawn q)
  let w1 : World := { w with drawn := w.drawn + 1 }
  have hnc : m ≤ nc := by show m ≤ (0 + m) + _; omega
  have hold : ∀ w', (Builtin.firstCells s 0 (.slice base 0 0)).run P w' = .ok #[] w' := by
    intro w'
    cases base with
    | none => simp [Builtin.firstCells]
    | some a => simp [Builtin.firstCells, loadCells, loadCellsFrom]
  have hzr : ∀ w', (zeroValue e).run P w' = .ok z w' := fun w' => by simp [zeroValue, typeInfo, hi, hz]
  have happ : ∀ w', (if m * s = 0 then (pure #[] : Sem (Array Value)) else (do pure (Builtin.zeroCells (← zeroValue e).cells m))).run P w' = .ok (if m * s = 0 then #[] else Builtin.zeroCells z.cells m) w' := by
    intro w'
    by_cases hq : m * s = 0
    · simp [hq]
    · simp [hq, hzr]
  let new : Array Value := if m * s = 0 then #[] else Builtin.zeroCells z.cells m
  have hns : new.size = m * s := by
    simp only [new]
    split
    · rename_i hq; rw [hq]; rfl
    · simp [Builtin.zeroCells, hzs]
  refine ⟨nc, #[] ++ new ++ Builtin.zeroCells z.cells (nc - (0 + m)), { w1 with heap := w1.heap.push (.cells (#[] ++ new ++ Builtin.zeroCells z.cells (nc - (0 + m))) e) }, ?_, rfl, rfl, rfl, rfl, hnc, ?_⟩
  · unfold Builtin.append_
    simp only [hts, h1, List.getElem?_toArray, List.getElem?_cons_zero, List.getElem?_cons_succ, Sem.run_bind, run_underlying ht, run_underlying hd, Result.andThen_ok, run_sizeOf' hi, his, Sem.run_pure, if_true, asInt, hw]
    have hneg : ¬ ((m : Int) < 0) := by omega
    simp only [asIntOf, Sem.run_pure, Result.andThen_ok, hw]
    rw [if_neg hneg]
    simp only [Sem.run_bind, Sem.run_ite, run_typeInfo' hi, Result.andThen_ok, Sem.run_pure]
    rw [if_neg hbig]
    simp only [Sem.run_bind, Sem.run_ite, run_typeInfo' hi, Result.andThen_ok, Sem.run_pure, Int.toNat_natCast]
    have hm0 : ¬ (0 + m ≤ 0) := by omega
    have hmx : ¬ (((0 + m : Nat) : Int) > IntKind.i64.max ∧ (True ∨ i.bytes = 0)) := by
      rintro ⟨q, -⟩
      have e : IntKind.i64.max = 9223372036854775807 := by decide
      rw [e] at q; omega
    have hch : (choose (.appendCap (0 + m) 0 e)).run P w = .ok nc w1 := rfl
    have hnew : (if m * s = 0 then Result.ok #[] w1 else (Sem.run P (zeroValue e) w1).andThen fun a w' => Result.ok (Builtin.zeroCells a.cells m) w') = Result.ok new w1 := by
      simp only [new]
      by_cases hq : m * s = 0
      · simp [hq]
      · simp [hq, hzr]
    rw [if_neg hm0, if_neg hmx, if_neg hnext]
    simp only [hch, Result.andThen_ok, run_askRoom, hold, Bool.not_true, Bool.false_eq_true, if_false, hnew, hzr, newRow, Sem.run_bind, run_newObj, Sem.run_pure, Nat.zero_add]
    have hch2 : (choose (.appendCap m 0 e)).run P w = .ok nc w1 := by
      have := hch
      rw [Nat.zero_add] at this; exact this
    have hnew2 : ∀ w', (if m * s = 0 then Result.ok #[] w' else Result.ok (Builtin.zeroCells z.cells m) w') = Result.ok new w' := by
      intro w'
      simp only [new]
      split <;> rfl
    simp only [hch2, Result.andThen_ok, hnew2]
    rfl
  · simp [Builtin.zeroCells, hzs, hns, ← Nat.add_mul]; congr 1; omega

theorem ap_ok {P : Program} {o : Oper} {c : Call} {A X : Operand} {ev : Operand → AV} {h : List AObj} {K : AV → List AObj → Prop} (ho : o.op = .call c) (hc : c.callee = .builtin .append) (ha : c.args = #[A, X]) (hk : apK P c.argTypes (ev A) (ev X) h K) : OpK P o ev h K := by
  refine OpK.of_run fun a w β fr L hr => ?_
  rw [ho] at hr
  have hA := hr A (by simp [Op.operands, Call.operands, hc, ha])
  have hX := hr X (by simp [Op.operands, Call.operands, hc, ha])
  have hrun : ∀ {v w'}, (Builtin.append_ c.argTypes o.type #[a.eval A, a.eval X]).run P w = .ok v w' → (execOp a.eval o).run P w = .ok (.value v) w' := by
    intro v w' e
    simp only [execOp, ho, Go.resolve, hc, Sem.run_bind, Sem.run_pure, Result.andThen_ok, Go.invoke, Go.builtin]
    rw [show c.args.map a.eval = #[a.eval A, a.eval X] by rw [ha]; simp, e]; rfl
  unfold apK at hk
  split at hk
  · -- onto what is the call's own
    rename_i e s by_ p ys t g s' off len hei hrd e1
    split at hk
    · rename_i g' s'' l ht
      obtain ⟨⟨hty, hp, rfl, rfl, rfl, rfl, rfl, hlen, hby, hel⟩, hK⟩ := hk
      obtain ⟨hs, hone⟩ := okEl_spec hel
      obtain ⟨t0, hts⟩ : ∃ t0, c.argTypes[0]? = some t0 := by
        unfold apTy at hty; cases q : c.argTypes[0]? with
        | none => rw [q] at hty; cases hty
        | some t0 => exact ⟨t0, rfl⟩
      have hei' : eI P t0 = some (e, s'', by_) := by
        rw [Array.getD_eq_getD_getElem?, hts] at hei; exact hei
      obtain ⟨hlx, us, hus, hrow⟩ := rdA_run (P := P) L hX hrd hp hs
      rw [e1] at hA; simp only [Rep] at hA
      have htl : t < h.length := (List.getElem?_eq_some_iff.1 ht).1
      have hfresh : ∀ g1, g < g1 → β t g1 = none := L.top t g s'' l ht
      rcases hA with ⟨hb, -, hl0, hv⟩ | ⟨b, cc, el, f, cap, hb, hH, hv, hcs, hlc⟩
      · -- nothing yet
        have hl : l = [] := List.eq_nil_of_length_eq_zero hl0
        subst hl
        by_cases hz : ys = []
        · subst hz
          have hus0 : us = #[] := by have := hrow.1; simp at this; exact this
          have r1 := run_append_room (P := P) (w := w) (ty := o.type) (base := none) (n := 0) (m := 0) (cap := 0) hts hei' hty (hlx w) (hus w rfl) (by simp) (w' := w) rfl
          rw [← hv] at r1
          obtain ⟨L', S'⟩ := L.turn (w' := w) (β' := betaSet β t (g + 1) none) (g' := g + 1) (o' := .arr (g + 1) s'' []) (r := none) ht rfl rfl (fun _ _ _ => .inr trivial)
            (fun t1 g1 x e => by rw [betaSet_other (by rintro ⟨rfl, rfl⟩; rw [hfresh _ (by omega)] at e; cases e)]; exact e)
            (fun t1 g1 x e => by by_cases q : t1 = t ∧ g1 = g + 1; · exact .inr q
                                 · rw [betaSet_other q] at e; exact .inl e)
            (betaSet_same _ _ _ _) (fun b e => by cases e) (fun _ _ _ => rfl) (Nat.le_refl _) (fun b c e f _ e' => ⟨c, f, e', rfl⟩) rfl rfl rfl
            (fun _ => .inl ⟨betaSet_same _ _ _ _, rfl⟩) (fun g1 hg1 => by rw [betaSet_other (by omega)]; exact hfresh _ (by omega))
          refine ⟨_, _, w, _, _, _, .inl (hrun r1), hK, L', ?_, S'⟩
          simp only [Rep]
          exact .inl ⟨betaSet_same _ _ _ _, trivial, rfl, hv⟩
        · have hpos : 0 < ys.length := List.length_pos_iff.2 hz
          obtain ⟨nc, rest, w', r1, r2, r3, r4, r5, r6, r7⟩ := run_append_grow (P := P) (w := w) (ty := o.type) (t1 := 0) (base := none) (n := 0) (cap := 0) (old := #[]) hts hei' hty (hlx w) (fun _ _ => rfl) hus (by omega) (by simpa using hlen) hby
          rw [← hv] at r1
          have hc0 : #[] ++ us ++ rest = us ++ rest := by simp
          rw [hc0] at r2
          obtain ⟨L', S'⟩ := L.turn (w' := w') (β' := betaSet β t (g + 1) (some w.heap.size)) (g' := g + 1) (o' := .arr (g + 1) s'' ([] ++ ys)) (r := some w.heap.size) ht rfl rfl (fun _ _ _ => .inr trivial)
            (fun t1 g1 x e => by rw [betaSet_other (by rintro ⟨rfl, rfl⟩; rw [hfresh _ (by omega)] at e; cases e)]; exact e)
            (fun t1 g1 x e => by by_cases q : t1 = t ∧ g1 = g + 1; · exact .inr q
                                 · rw [betaSet_other q] at e; exact .inl e)
            (betaSet_same _ _ _ _) (fun b e => by injection e with e; subst e; exact ⟨.inr (Nat.le_refl _), by rw [r2]; simp⟩) (fun b hb _ => by rw [r2, Array.getElem?_push, if_neg (by omega)]) (by rw [r2]; simp) (fun b c e f q _ => by rw [hb] at q; cases q) r3 r4 r5
            (fun E => (hrow.ext E).obj (c := us ++ rest) (e := e) (f := (0, 0)) (betaSet_same _ _ _ _) (by rw [r2]; simp) (fun i _ => by simp) (fun k hk => by rw [Array.getElem?_append_left hk]) (by simp))
            (fun g1 hg1 => by rw [betaSet_other (by omega)]; exact hfresh _ (by omega))
          refine ⟨_, _, w', _, _, _, .inl (hrun r1), hK, L', ?_, S'⟩
          simp only [Rep]
          refine .inr ⟨w.heap.size, us ++ rest, e, (0, 0), nc, betaSet_same _ _ _ _, by rw [r2]; simp, by simp, ?_, by simp at r6 ⊢; omega⟩
          rw [Array.size_append, r7, hrow.1, ← Nat.add_mul]
          congr 1; simp at r6 ⊢; omega
      · have hold : ObjAt β fr w.heap t (.arr g s'' l) := L.obj t _ ht
        rcases hold with ⟨q, -⟩ | ⟨b', cc', el', f', q, hH', hfz, hls, hln, hlc'⟩
        · rw [hb] at q; cases q
        · rw [hb] at q; injection q with q; injection q with q; subst q
          rw [hH] at hH'; injection hH' with hH'; injection hH' with q1 q2 q3; subst q1 q2 q3
          have hbl : b < w.heap.size := L.lt _ _ _ hb
          simp only [Nat.zero_add, Nat.zero_mul] at hcs hv
          have hbnf : ¬ fr b := L.ownfr b ⟨t, _, g, ht, rfl, hb⟩
          by_cases hroom : l.length + ys.length ≤ cap
          · -- there is room
            obtain ⟨c2, w', s1, s2, s3, s4, s5, s6, s7, s8, s9⟩ := run_storeCells (P := P) b (l.length * s'') el f us.toList 0 cc w hH (hrow.one hone) (by
              have : (l.length + ys.length) * s'' ≤ cap * s'' := Nat.mul_le_mul_right _ hroom
              rw [Nat.add_mul] at this
              have := hrow.1
              simp; omega) hfz
            have r1 := run_append_room (P := P) (w := w) (ty := o.type) (base := some ⟨b, 0, none⟩) (n := l.length) (m := ys.length) (cap := cap) hts hei' hty (hlx w) (hus w rfl) hroom (w' := w') (by show (storeCells ((⟨b, 0, none⟩ : Addr).add (l.length * s'')) us.toList).run P w = _; rw [add_none rfl]; simpa using s1)
            rw [← hv] at r1
            obtain ⟨L', S'⟩ := L.turn (w' := w') (β' := betaSet β t (g + 1) (some b)) (g' := g + 1) (o' := .arr (g + 1) s'' (l ++ ys)) (r := some b) ht rfl rfl (fun _ _ _ => .inr trivial)
              (fun t1 g1 x e => by rw [betaSet_other (by rintro ⟨rfl, rfl⟩; rw [hfresh _ (by omega)] at e; cases e)]; exact e)
              (fun t1 g1 x e => by by_cases q : t1 = t ∧ g1 = g + 1; · exact .inr q
                                   · rw [betaSet_other q] at e; exact .inl e)
              (betaSet_same _ _ _ _) (fun b e => by injection e with e; subst e; exact ⟨.inl hb, by omega⟩) (fun k _ hk => s3 k (fun q => hk (by rw [q]; exact hb))) (by omega)
              (fun b1 c1 e1 f1 q q' => by
                rw [hb] at q; injection q with q; injection q with q; subst q
                rw [hH] at q'; injection q' with q'; injection q' with q1 q2 q3; subst q1 q2 q3
                exact ⟨c2, f, s2, s8⟩) s5 s6 s7
              (fun E => by
                refine .inr ⟨b, c2, el, f, betaSet_same _ _ _ _, s2, by rw [s8]; exact hfz, ?_, ?_, fun i hi j hj => ?_⟩
                · intro x hx; rcases List.mem_append.1 hx with q | q
                  · exact hls x q
                  · exact hs x q
                · rw [s8, ← hcs, List.length_append]; exact Nat.mul_le_mul_right _ hroom
                · by_cases q : i < l.length
                  · simp only [List.getElem_append_left q] at hj ⊢
                    obtain ⟨u, hu, hr'⟩ := hlc' i q j hj
                    refine ⟨u, ?_, hr'.ext E⟩
                    rw [s9, if_neg]
                    · exact hu
                    · have := idx_lt q (show j < s'' by rw [← hls _ (List.getElem_mem q)]; exact hj)
                      omega
                  · have hi' : i - l.length < ys.length := by simp at hi; omega
                    simp only [List.getElem_append_right (Nat.le_of_not_lt q)] at hj ⊢
                    obtain ⟨u, hu, hr'⟩ := hrow.2.2 (i - l.length) hi' j hj
                    refine ⟨u, ?_, hr'.ext E⟩
                    have hul := (Array.getElem?_eq_some_iff.1 hu).1
                    have e1 : i * s'' = l.length * s'' + (i - l.length) * s'' := by rw [← Nat.add_mul]; congr 1; omega
                    rw [s9, if_pos (by simp; omega)]
                    rw [show i * s'' + j - (l.length * s'' + 0) = (i - l.length) * s'' + j by omega]
                    simpa using hu)
              (fun g1 hg1 => by rw [betaSet_other (by omega)]; exact hfresh _ (by omega))
            refine ⟨_, _, w', _, _, _, .inl (hrun r1), hK, L', ?_, S'⟩
            simp only [Rep]
            exact .inr ⟨b, c2, el, f, cap, betaSet_same _ _ _ _, s2, by simp, by rw [s8, ← hcs]; simp, hroom⟩
          · -- it grows
            obtain ⟨old, ho1, ho2⟩ := run_loadRow (P := P) (w := w) (β := β) (fr := fr) (l := l) (s := s'') (b := b) (o := 0) hls (fun i hi j hj => by
              obtain ⟨u, hu, hr'⟩ := hlc' i hi j hj
              exact ⟨u, by simp [cellAt, hH, hu], hr'⟩)
            obtain ⟨nc, rest, w', r1, r2, r3, r4, r5, r6, r7⟩ := run_append_grow (P := P) (w := w) (ty := o.type) (t1 := 0) (base := some ⟨b, 0, none⟩) (n := l.length) (cap := cap) (old := old) hts hei' hty (hlx w) (fun w' hw' => by simpa [Builtin.firstCells] using ho1 w' hw') hus (by omega) hlen hby
            rw [← hv] at r1
            have hboth := ho2.append hrow
            obtain ⟨L', S'⟩ := L.turn (w' := w') (β' := betaSet β t (g + 1) (some w.heap.size)) (g' := g + 1) (o' := .arr (g + 1) s'' (l ++ ys)) (r := some w.heap.size) ht rfl rfl (fun _ _ _ => .inr trivial)
              (fun t1 g1 x e => by rw [betaSet_other (by rintro ⟨rfl, rfl⟩; rw [hfresh _ (by omega)] at e; cases e)]; exact e)
              (fun t1 g1 x e => by by_cases q : t1 = t ∧ g1 = g + 1; · exact .inr q
                                   · rw [betaSet_other q] at e; exact .inl e)
              (betaSet_same _ _ _ _) (fun b e => by injection e with e; subst e; exact ⟨.inr (Nat.le_refl _), by rw [r2]; simp⟩) (fun b hb _ => by rw [r2, Array.getElem?_push, if_neg (by omega)]) (by rw [r2]; simp)
              (fun b1 c1 e1 f1 q q' => ⟨c1, f1, by rw [r2, Array.getElem?_push, if_neg (by have := L.lt _ _ _ q; omega)]; exact q', rfl⟩) r3 r4 r5
              (fun E => (hboth.ext E).obj (c := old ++ us ++ rest) (e := e) (f := (0, 0)) (betaSet_same _ _ _ _) (by rw [r2]; simp) (fun i _ => by simp) (fun k hk => by rw [Array.getElem?_append_left hk]) (by simp))
              (fun g1 hg1 => by rw [betaSet_other (by omega)]; exact hfresh _ (by omega))
            refine ⟨_, _, w', _, _, _, .inl (hrun r1), hK, L', ?_, S'⟩
            simp only [Rep]
            refine .inr ⟨w.heap.size, old ++ us ++ rest, e, (0, 0), nc, betaSet_same _ _ _ _, by rw [r2]; simp, by simp, ?_, r6⟩
            rw [Array.size_append, r7, hboth.1, ← Nat.add_mul, List.length_append]
            congr 1; omega
    · cases hk
  · -- onto what is full
    rename_i e s by_ p ys l hei hrd e1
    obtain ⟨⟨hty, hp, hlen, hby, hel, hls⟩, hK0, hK1⟩ := hk
    obtain ⟨hs, hone⟩ := okEl_spec hel
    obtain ⟨t0, hts⟩ : ∃ t0, c.argTypes[0]? = some t0 := by
      unfold apTy at hty; cases q : c.argTypes[0]? with
      | none => rw [q] at hty; cases hty
      | some t0 => exact ⟨t0, rfl⟩
    have hei' : eI P t0 = some (e, s, by_) := by
      rw [Array.getD_eq_getD_getElem?, hts] at hei; exact hei
    obtain ⟨hlx, us, hus, hrow⟩ := rdA_run (P := P) L hX hrd hp hs
    rw [e1] at hA
    have hA0 := hA
    simp only [Rep] at hA
    obtain ⟨ao, cap, hv, h4, h5, h6⟩ := hA
    have hcap : cap = l.length := h5 trivial
    subst hcap
    by_cases hz : ys = []
    · subst hz
      have hus0 : us = #[] := by have := hrow.1; simp at this; exact this
      subst hus0
      have r1 := run_append_room (P := P) (w := w) (ty := o.type) (base := ao) (n := l.length) (m := 0) (cap := l.length) hts hei' hty (hlx w) (hus w rfl) (by simp) (w' := w) (by cases ao <;> rfl)
      rw [← hv] at r1
      rw [hv] at hA0
      exact ⟨_, _, w, h, β, fr, .inl (hrun r1), hK0 rfl, L, by simpa using hA0, Step1.refl _ _ _ _⟩
    · have hpos : 0 < ys.length := List.length_pos_iff.2 hz
      have hls' : ∀ y ∈ l, y.cells.length = s := fun y hy => by simpa using List.all_eq_true.1 hls y hy
      obtain ⟨-, old, ho1, ho2⟩ := rdA_run (P := P) (h := h) (x := .fz true l) (p := True) (ys := l) (s := s) L hA0 rfl trivial hls'
      rw [hv] at ho1
      obtain ⟨nc, rest, w', r1, r2, r3, r4, r5, r6, r7⟩ := run_append_grow (P := P) (w := w) (ty := o.type) (t1 := 0) (base := ao) (n := l.length) (cap := l.length) (old := old) hts hei' hty (hlx w) ho1 hus (by omega) hlen hby
      rw [← hv] at r1
      have hboth := ho2.append hrow
      have hnew : ∀ E : Ext β fr w.heap (betaSet β h.length 0 (some w.heap.size)) fr w'.heap, ObjAt (betaSet β h.length 0 (some w.heap.size)) fr w'.heap h.length (.arr 0 s (l ++ ys)) := fun E =>
        (hboth.ext E).obj (c := old ++ us ++ rest) (e := e) (f := (0, 0)) (betaSet_same _ _ _ _) (by rw [r2]; simp) (fun i _ => by simp) (fun k hk => by rw [Array.getElem?_append_left hk]) (by simp)
      have E : Ext β fr w.heap (betaSet β h.length 0 (some w.heap.size)) fr w'.heap :=
        { beta := fun t' g' r e => by rw [betaSet_other (by have := L.dom _ _ _ e; omega)]; exact e
          frm := fun _ e => e
          cells := fun b hb => by rw [r2, Array.getElem?_push, if_neg (by have := L.frlt b hb; omega)]
          shape := fun t' g' b c' e f hb hc => ⟨c', f, by rw [r2, Array.getElem?_push, if_neg (by have := L.lt _ _ _ hb; omega)]; exact hc, rfl⟩ }
      obtain ⟨L', S'⟩ := L.push (o := .arr 0 s (l ++ ys)) (g := 0) rfl r2 r3 r4 r5 (hnew E)
      refine ⟨_, _, w', _, _, _, .inl (hrun r1), hK1 hz, L', ?_, S'⟩
      simp only [Rep]
      refine .inr ⟨w.heap.size, old ++ us ++ rest, e, (0, 0), nc, betaSet_same _ _ _ _, by rw [r2]; simp, by simp, ?_, r6⟩
      rw [Array.size_append, r7, hboth.1, ← Nat.add_mul, List.length_append]
      congr 1; omega
  · -- so many that are zero
    rename_i e s by_ l hei hrd e1
    split at hk
    · rename_i k n e2
      obtain ⟨⟨hty, h0, hb, hn⟩, hK⟩ := hk
      obtain ⟨t0, hts⟩ : ∃ t0, c.argTypes[0]? = some t0 := by
        unfold mkTy at hty; cases q : c.argTypes[1]? with
        | none => rw [q] at hty; cases hty
        | some t1 =>
          have := (Array.getElem?_eq_some_iff.1 q).1
          exact ⟨c.argTypes[0], Array.getElem?_eq_getElem (by omega)⟩
      have hei' : eI P t0 = some (e, s, by_) := by
        rw [Array.getD_eq_getD_getElem?, hts] at hei; exact hei
      rw [e1] at hA; simp only [Rep] at hA
      obtain ⟨ao, cap, hv, hlc, hcc, -⟩ := hA
      have hcap : cap = 0 := hcc trivial
      subst hcap
      rw [e2] at hX; simp only [Rep] at hX
      obtain ⟨nc, cells, w', r1, r2, r3, r4, r5, r6, r7⟩ := run_append_zero (P := P) (w := w) (ty := o.type) (base := ao) (k := k) hts hei' hty h0 hb hn
      have r1' : (Builtin.append_ c.argTypes o.type #[a.eval A, a.eval X]).run P w = .ok (.slice (some ⟨w.heap.size, 0, none⟩) n.toNat nc) w' := by rw [hv, hX]; exact r1
      obtain ⟨L', S'⟩ := L.push (o := .arr 0 s []) (g := 0) rfl r2 r3 r4 r5 (.inr ⟨w.heap.size, cells, e, (0, 0), betaSet_same _ _ _ _, by rw [r2]; simp, by simp, by simp, by simp, by simp⟩)
      refine ⟨_, _, w', _, _, _, .inl (hrun r1'), hK, L', ?_, S'⟩
      simp only [Rep]
      exact .inr ⟨w.heap.size, cells, e, (0, 0), nc, betaSet_same _ _ _ _, by rw [r2]; simp, by simp, by rw [r7]; simp, r6⟩
    · cases hk
  · cases hk

end Go.Proofs.Vale
