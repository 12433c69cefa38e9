/- YthgafblmefjkdaaDoorVE: a text of the proof of this claim, by its prover. -/
import Derived.Test.YthgafblmefjkdaaDoorVD
set_option linter.unusedVariables false
set_option linter.unusedSimpArgs false
namespace Go.Proofs.Vale

theorem AV.cells_agg (cs : List AV) : (AV.agg cs).cells = cs := rfl

def leaf : AV → Bool
  | .agg _ => false
  | _ => true

theorem leaf_cells {x : AV} (h : leaf x = true) : x.cells = [x] := by cases x <;> simp_all [leaf, AV.cells]

def ldA (P : Program) (t : TypeId) (h : List AObj) (x : AV) : PV :=
  match tI P t, x with
  | some (n, ag), .ptr y => some (n ≤ y.cells.length ∧ (ag = false → n = 1), partA y 0 n ag)
  | some (n, ag), .ref tt g s i j =>
    match h[tt]? with
    | some (.arr g' s' l) => some (g = g' ∧ s = s' ∧ i < l.length ∧ j + n ≤ (l.getD i .any).cells.length ∧ (ag = false → n = 1), partA (l.getD i .any) j n ag)
    | _ => none
  | _, _ => none

def faA (P : Program) (s f : Nat) (x : AV) : PV :=
  match fI P s f, x with
  | some (off, n, ag), .ptr y => some (off + n ≤ y.cells.length ∧ (ag = false → n = 1 ∧ leaf (y.cells.getD off .any) = true), .ptr (partA y off n ag))
  | some (off, n, ag), .ref t g s i j => some (True, .ref t g s i (j + off))
  | _, _ => none

def fdA (P : Program) (s f : Nat) (x : AV) : PV :=
  match fI P s f, x with
  | some (off, n, ag), .agg cs => some (off + n ≤ cs.length ∧ (ag = false → n = 1), partA (.agg cs) off n ag)
  | _, _ => none

def ixA (P : Program) (t : TypeId) (x i : AV) : PV :=
  match eI P t, x, i with
  | some (e, es, by_), .fz c l, .int k n => some (0 ≤ n ∧ n < l.length ∧ (l.getD n.toNat .any).cells.length = es, .ptr (l.getD n.toNat .any))
  | some (e, es, by_), .sl tt g s off len, .int k n => some (0 ≤ n ∧ n < len ∧ s = es, .ref tt g s (off + n.toNat) 0)
  | _, _, _ => none

/-- An array type: how many, an element's cells, whether it has parts. -/
def aI (P : Program) (t : TypeId) : Option (Nat × Nat × Bool) :=
  match P.underlying t with
  | some (.array n e) => (match tI P e with | some (s, a) => some (n, s, a) | none => none)
  | _ => none

def inA (P : Program) (t : TypeId) (x i : AV) : PV :=
  match x, i with
  | .str s, .int k n => some (tk P t = .str ∧ 0 ≤ n ∧ n < s.length, .int .u8 (s.getD n.toNat 0).toNat)
  | .agg cs, .int k n => (match aI P t with
    | some (m, s, ag) => some (0 ≤ n ∧ n < m ∧ n.toNat * s + s ≤ cs.length ∧ (ag = false → s = 1), partA (.agg cs) (n.toNat * s) s ag)
    | none => none)
  | _, _ => none

def obA (o : Option AV) (d : Int) : Option Int :=
  match o with
  | none => some d
  | some (.int _ n) => some n
  | _ => none

def slA (P : Program) (t : TypeId) (x : AV) (lo hi mx : Option AV) : PV :=
  match x with
  | .str s =>
    match mx, obA lo 0, obA hi s.length with
    | none, some l, some h => some (tk P t = .str ∧ 0 ≤ l ∧ l ≤ h ∧ h ≤ s.length, .str ((s.take h.toNat).drop l.toNat))
    | _, _, _ => none
  | .fz c xs =>
    match eI P t, mx, obA lo 0, obA hi xs.length with
    | some (e, es, by_), none, some l, some h => some (0 ≤ l ∧ l ≤ h ∧ h ≤ xs.length ∧ (∀ x ∈ xs, x.cells.length = es), .fz (c && decide (h = xs.length)) ((xs.take h.toNat).drop l.toNat))
    | some (e, es, by_), some (.int _ m), some l, some h => some (hi.isSome = true ∧ 0 ≤ l ∧ l ≤ h ∧ h ≤ m ∧ m ≤ xs.length ∧ (∀ x ∈ xs, x.cells.length = es), .fz (decide (m = h)) ((xs.take h.toNat).drop l.toNat))
    | _, _, _, _ => none
  | .sl tt g s off len =>
    match eI P t, lo, mx, obA hi len with
    | some (e, es, by_), none, none, some h => some (0 ≤ h ∧ h ≤ len, .sl tt g s off h.toNat)
    | _, _, _, _ => none
  | _ => none

def byteOf : AV → UInt8
  | .int _ n => UInt8.ofNat n.toNat
  | _ => 0

def isByte : AV → Bool
  | .int .u8 _ => true
  | _ => false

def bytesA (s : List UInt8) : List AV := s.map fun b => .int .u8 b.toNat

theorem bytesA_ok (s : List UInt8) : (bytesA s).all isByte = true := by simp [bytesA, isByte]
theorem bytesA_byteOf (s : List UInt8) : (bytesA s).map byteOf = s := by
  simp [bytesA, byteOf, Function.comp_def]

def cvA (P : Program) (src dst : TypeId) (h : List AObj) (x : AV) : PV :=
  match x with
  | .int k n => (match tk P dst with | .int k' => some ((∃ d, P.underlying src = some d), .int k' (k'.wrap n)) | _ => none)
  | .str s => (match tk P dst with | .str => some ((∃ d, P.underlying src = some d), .str s) | _ => none)
  | .fz c l => (match tk P src, tk P dst with | .sl e, .str => some (tk P e = .int .u8 ∧ l.all isByte = true, .str (l.map byteOf)) | _, _ => none)
  | .sl t g s off len => (match tk P src, tk P dst, h[t]? with
    | .sl e, .str, some (.arr g' s' l) => some (tk P e = .int .u8 ∧ g = g' ∧ s = 1 ∧ s' = 1 ∧ off + len ≤ l.length ∧ l.all isByte = true, .str (((l.drop off).take len).map byteOf))
    | _, _, _ => none)
  | _ => none

/-! Their proofs -/

theorem Lay.arr {β : Beta} {fr : Nat → Prop} {H : Array Obj} {h : List AObj} (L : Lay β fr H h) {t g s i : Nat} {l : List AV} (ht : h[t]? = some (.arr g s l)) (hi : i < l.length) {b : Nat} (hb : β t g = some (some b)) :
    VarAt β fr H (l[i]) b (i * s) := by
  have := L.obj t _ ht
  rcases this with ⟨h1, h2⟩ | ⟨b', c, e, f, h1, h2, h3, h4, h5, h6⟩
  · subst h2; simp at hi
  · rw [hb] at h1; injection h1 with h1; injection h1 with h1; subst h1
    intro j hj
    obtain ⟨u, hu, hr⟩ := h6 i hi j hj
    exact ⟨u, by simp [cellAt, h2, hu], hr⟩

theorem getD_get {l : List AV} {i : Nat} (h : i < l.length) : l.getD i .any = l[i] := by
  rw [List.getD_eq_getElem?_getD, List.getElem?_eq_getElem h]; rfl

theorem ld_ok {P : Program} {o : Oper} {t : TypeId} {x : Operand} {ev : Operand → AV} {h : List AObj} {p : Prop} {r : AV} (ho : o.op = .load t x) (hb : ldA P t h (ev x) = some (p, r)) : PopOk P o ev h p r := by
  intro hp a w β fr L hr
  rw [ho] at hr
  have hx := hr x (by simp [Op.operands])
  simp only [execOp, ho, Instr.loadAt]
  suffices key : ∃ (ad : Addr) (v : Value), a.eval x = .pointer (some ad) ∧ (loadVar t ad).run P w = .ok v w ∧ Rep β fr w.heap r v by
    obtain ⟨ad, v, h1, h2, h3⟩ := key
    refine ⟨v, w, ?_, rfl, rfl, rfl, rfl, h3⟩
    simp [h1, Instr.sureAddr, h2]
  unfold ldA at hb
  split at hb
  · rename_i n ag y e1 e2
    injection hb with hb; injection hb with hq hr'; subst hr'
    rw [← hq] at hp
    rw [e2] at hx; simp only [Rep] at hx
    obtain ⟨ad, hv, hf, hs, hc⟩ := hx
    obtain ⟨v, h1, h2⟩ := run_loadPart (β := β) (fr := fr) (x := y) (a := ad) (j := 0) e1 hs hc (by omega) hp.2 (a' := ad) (by obtain ⟨b, o, s⟩ := ad; simp only at hs; subst hs; rfl)
    exact ⟨ad, v, hv, h1, h2⟩
  · rename_i n ag tt g s i j e1 e2
    split at hb
    · rename_i g' s' l ht
      injection hb with hb; injection hb with hq hr'; subst hr'
      rw [← hq] at hp
      obtain ⟨rfl, rfl, hi, hn, h1⟩ := hp
      rw [e2] at hx; simp only [Rep] at hx
      obtain ⟨b, hb, hv⟩ := hx
      rw [getD_get hi] at hn ⊢
      obtain ⟨v, h3, h4⟩ := run_loadPart (β := β) (fr := fr) (x := l[i]) (a := ⟨b, i * s, none⟩) (j := j) e1 rfl (L.arr ht hi hb) hn h1 (a' := ⟨b, i * s + j, none⟩) rfl
      exact ⟨_, v, hv, h3, h4⟩
    · cases hb
  · cases hb

theorem run_fieldPlace {P : Program} {s f off n : Nat} {ag : Bool} (h : fI P s f = some (off, n, ag)) : ∃ fs fd, P.underlying s = some (.struct fs) ∧ fs[f]? = some fd ∧ tI P fd.type = some (n, ag) ∧ fd.offset = off ∧ n ≠ 0 := by
  unfold fI at h
  split at h
  · rename_i fs hs
    split at h
    · rename_i fd hf
      split at h
      · rename_i n' a' ht
        split at h
        · cases h
        · rename_i hn
          injection h with h; injection h with h1 h2; injection h2 with h2 h3; subst h1 h2 h3
          exact ⟨fs, fd, hs, hf, ht, rfl, hn⟩
      · cases h
    · cases h
  · cases h

theorem fa_ok {P : Program} {o : Oper} {s f : Nat} {x : Operand} {ev : Operand → AV} {h : List AObj} {p : Prop} {r : AV} (ho : o.op = .fieldAddr s x f) (hb : faA P s f (ev x) = some (p, r)) : PopOk P o ev h p r := by
  intro hp a w β fr L hr
  rw [ho] at hr
  have hx := hr x (by simp [Op.operands])
  simp only [execOp, ho, Instr.fieldAt]
  unfold faA at hb
  split at hb
  · rename_i off n ag y e1 e2
    injection hb with hb; injection hb with hq hr'; subst hr'
    rw [← hq] at hp
    rw [e2] at hx; simp only [Rep] at hx
    obtain ⟨ad, hv, hf, hs, hc⟩ := hx
    obtain ⟨fs, fd, h1, h2, h3, h4, h5⟩ := run_fieldPlace e1
    refine ⟨.pointer (some (ad.add off)), w, ?_, rfl, rfl, rfl, rfl, ?_⟩
    · simp [run_underlying h1, h2, hv, Instr.sureAddr, fieldPlace, run_sizeOf h3, h5, h4]
    · simp only [Rep]
      refine ⟨_, rfl, by rw [add_none hs]; exact hf, by rw [add_none hs], ?_⟩
      rw [add_none hs]
      cases ag with
      | false =>
        obtain ⟨h6, h7⟩ := hp.2 rfl
        simp only [partA, Bool.false_eq_true, if_false]
        intro j hj
        have hj' := hj
        rw [leaf_cells h7] at hj'
        have : j = 0 := by simpa using hj'
        subst this
        obtain ⟨u, hu, hr⟩ := hc off (by omega)
        refine ⟨u, by simpa using hu, ?_⟩
        simp only [leaf_cells h7, List.getElem_cons_zero]
        rw [getD_get (by omega)]; exact hr
      | true =>
        simp only [partA, if_true, AV.cells_agg]
        intro j hj
        have hj' : j < n := by simp at hj; omega
        obtain ⟨u, hu, hr⟩ := hc (off + j) (by omega)
        refine ⟨u, by rw [Nat.add_assoc]; exact hu, ?_⟩
        simpa using hr
  · rename_i off n ag t g s' i j e1 e2
    injection hb with hb; injection hb with hq hr'; subst hr'
    rw [e2] at hx; simp only [Rep] at hx
    obtain ⟨b, hb, hv⟩ := hx
    obtain ⟨fs, fd, h1, h2, h3, h4, h5⟩ := run_fieldPlace e1
    refine ⟨.pointer (some ((⟨b, i * s' + j, none⟩ : Addr).add off)), w, ?_, rfl, rfl, rfl, rfl, ?_⟩
    · simp [run_underlying h1, h2, hv, Instr.sureAddr, fieldPlace, run_sizeOf h3, h5, h4]
    · simp only [Rep]
      exact ⟨b, hb, by rw [add_none rfl]; simp [Nat.add_assoc]⟩
  · cases hb

theorem fd_ok {P : Program} {o : Oper} {s f : Nat} {x : Operand} {ev : Operand → AV} {h : List AObj} {p : Prop} {r : AV} (ho : o.op = .field s x f) (hb : fdA P s f (ev x) = some (p, r)) : PopOk P o ev h p r := by
  intro hp a w β fr L hr
  rw [ho] at hr
  have hx := hr x (by simp [Op.operands])
  simp only [execOp, ho, Instr.field]
  unfold fdA at hb
  split at hb
  · rename_i off n ag cs e1 e2
    injection hb with hb; injection hb with hq hr'; subst hr'
    rw [← hq] at hp
    rw [e2] at hx; simp only [Rep] at hx
    obtain ⟨us, hv, hs, hc⟩ := hx
    obtain ⟨fs, fd, h1, h2, h3, h4, h5⟩ := run_fieldPlace e1
    obtain ⟨v, h6, h7⟩ := run_part (β := β) (fr := fr) (w := w) h3 hs hc hp.1 hp.2
    refine ⟨v, w, ?_, rfl, rfl, rfl, rfl, h7⟩
    simp [run_underlying h1, h2, hv, asAgg, h4, h6]
  · cases hb

theorem ei_full {P : Program} {t e es b : Nat} (h : eI P t = some (e, es, b)) : P.underlying t = some (.slice e) ∧ ∃ i z, P.info? e = some i ∧ i.size = es ∧ i.bytes = b ∧ i.zero = some z ∧ z.cells.size = es := by
  unfold eI at h
  split at h
  · rename_i e' ht
    split at h
    · rename_i i hi
      split at h
      · rename_i z hz
        split at h
        · rename_i hs
          simp only [Option.some.injEq, Prod.mk.injEq] at h
          obtain ⟨rfl, h2, h3⟩ := h
          exact ⟨ht, i, z, hi, h2, h3, hz, hs.trans h2⟩
        · cases h
      · cases h
    · cases h
  · cases h

theorem ei_spec {P : Program} {t e es b : Nat} (h : eI P t = some (e, es, b)) : P.underlying t = some (.slice e) ∧ ∃ i, P.info? e = some i ∧ i.size = es ∧ i.bytes = b := by
  obtain ⟨h1, i, z, h2, h3, h4, -⟩ := ei_full h
  exact ⟨h1, i, h2, h3, h4⟩

theorem run_sizeOf' {P : Program} {e : TypeId} {i : TypeInfo} (h : P.info? e = some i) (w : World) : (Go.sizeOf e).run P w = .ok i.size w := by simp [Go.sizeOf, typeInfo, h]
theorem run_typeInfo' {P : Program} {e : TypeId} {i : TypeInfo} (h : P.info? e = some i) (w : World) : (typeInfo e).run P w = .ok i w := by simp [typeInfo, h]

theorem ix_ok {P : Program} {o : Oper} {t : TypeId} {x i : Operand} {ev : Operand → AV} {h : List AObj} {p : Prop} {r : AV} (ho : o.op = .indexAddr t x i) (hb : ixA P t (ev x) (ev i) = some (p, r)) : PopOk P o ev h p r := by
  intro hp a w β fr L hr
  rw [ho] at hr
  have hx := hr x (by simp [Op.operands])
  have hi := hr i (by simp [Op.operands])
  simp only [execOp, ho, Instr.indexAt]
  unfold ixA at hb
  split at hb
  · rename_i e es by_ c l k n e1 e2 e3
    injection hb with hb; injection hb with hq hr'; subst hr'
    rw [← hq] at hp
    obtain ⟨h0, h1, h2⟩ := hp
    rw [e2] at hx; rw [e3] at hi; simp only [Rep] at hx hi
    obtain ⟨ao, cap, hv, h3, h4, h5⟩ := hx
    have hn : n.toNat < l.length := by omega
    obtain ⟨ad, s, rfl, hf, hs, hu, hc⟩ := h5 (by intro e; subst e; simp at hn)
    obtain ⟨ht, inf, hi1, hi2, hi3⟩ := ei_spec e1
    have hss : s = es := by rw [getD_get hn] at h2; rw [← hu _ (List.getElem_mem hn)]; exact h2
    subst hss
    refine ⟨.pointer (some (ad.add (n.toNat * s))), w, ?_, rfl, rfl, rfl, rfl, ?_⟩
    · simp [hi, hv, asIntOf, run_underlying ht, run_sizeOf' hi1, hi2, h0, h1]
    · simp only [Rep]
      refine ⟨_, rfl, by rw [add_none hs]; exact hf, by rw [add_none hs], ?_⟩
      rw [add_none hs, getD_get hn]
      intro j hj
      obtain ⟨u, hu, hr⟩ := hc _ hn j hj
      exact ⟨u, hu, hr⟩
  · rename_i e es by_ tt g s off len k n e1 e2 e3
    injection hb with hb; injection hb with hq hr'; subst hr'
    rw [← hq] at hp
    obtain ⟨h0, h1, rfl⟩ := hp
    rw [e2] at hx; rw [e3] at hi; simp only [Rep] at hx hi
    obtain ⟨ht, inf, hi1, hi2, hi3⟩ := ei_spec e1
    rcases hx with ⟨_, _, h6, _⟩ | ⟨b, c, el, f, cap, hb, hH, hv, hs, hl⟩
    · omega
    · refine ⟨.pointer (some ((⟨b, off * s, none⟩ : Addr).add (n.toNat * s))), w, ?_, rfl, rfl, rfl, rfl, ?_⟩
      · simp [hi, hv, asIntOf, run_underlying ht, run_sizeOf' hi1, hi2, h0, h1]
      · simp only [Rep]
        exact ⟨b, hb, by rw [add_none rfl]; simp [Nat.add_mul]⟩
  · cases hb

theorem in_ok {P : Program} {o : Oper} {t : TypeId} {x i : Operand} {ev : Operand → AV} {h : List AObj} {p : Prop} {r : AV} (ho : o.op = .index t x i) (hb : inA P t (ev x) (ev i) = some (p, r)) : PopOk P o ev h p r := by
  intro hp a w β fr L hr
  rw [ho] at hr
  have hx := hr x (by simp [Op.operands])
  have hi := hr i (by simp [Op.operands])
  simp only [execOp, ho, Instr.index]
  unfold inA at hb
  split at hb
  · rename_i s k n e2 e3
    injection hb with hb; injection hb with hq hr'; subst hr'
    rw [← hq] at hp
    obtain ⟨ht, h0, h1⟩ := hp
    rw [e2] at hx; rw [e3] at hi; simp only [Rep] at hx hi
    obtain ⟨b, hv, rfl⟩ := hx
    have hn : n.toNat < b.data.size := by have e : b.data.toList.length = b.data.size := by simp
                                          omega
    refine ⟨.int .u8 (b.data[n.toNat]).toNat, w, ?_, rfl, rfl, rfl, rfl, ?_⟩
    · have hg : b[n.toNat]? = some (b.data[n.toNat]) := by
        have hn' : n.toNat < b.size := hn
        rw [getElem?_pos b n.toNat hn']; rfl
      simp [hi, hv, asIntOf, run_underlying (tk_str ht), h0, hg]
    · simp only [Rep]
      rw [List.getD_eq_getElem?_getD, List.getElem?_eq_getElem (by simpa using hn)]
      simp
  · rename_i cs k n e2 e3
    split at hb
    · rename_i m s ag ha
      injection hb with hb; injection hb with hq hr'; subst hr'
      rw [← hq] at hp
      obtain ⟨h0, h1, h2, h3⟩ := hp
      rw [e2] at hx; rw [e3] at hi; simp only [Rep] at hx hi
      obtain ⟨us, hv, hs, hc⟩ := hx
      unfold aI at ha
      split at ha
      · rename_i m' e ht
        split at ha
        · rename_i s' a' hti
          injection ha with ha; injection ha with ha1 ha2; injection ha2 with ha2 ha3; subst ha1 ha2 ha3
          obtain ⟨v, h6, h7⟩ := run_part (β := β) (fr := fr) (w := w) hti hs hc h2 h3
          refine ⟨v, w, ?_, rfl, rfl, rfl, rfl, h7⟩
          simp [hi, hv, asIntOf, run_underlying ht, h0, h1, run_sizeOf hti, h6]
        · cases ha
      · cases ha
    · cases hb
  · cases hb

end Go.Proofs.Vale
