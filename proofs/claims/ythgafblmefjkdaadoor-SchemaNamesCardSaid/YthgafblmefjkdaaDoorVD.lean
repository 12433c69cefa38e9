/- YthgafblmefjkdaaDoorVD: a text of the proof of this claim, by its prover. -/
import Derived.Test.YthgafblmefjkdaaDoorVC
set_option linter.unusedVariables false
set_option linter.unusedSimpArgs false
namespace Go.Proofs.Vale

/-- A struct type of plain fields, one cell each, that '==' takes one by one. -/
def flatI (P : Program) (t : TypeId) : Bool :=
  match P.underlying t with
  | some (.struct fs) => !P.stoodInHeld t && !P.eqGuardType P.depth t && fs.toList.zipIdx.all fun (f, j) => f.offset == j && decide (f.name ≠ "_")
  | _ => false

def flatK (P : Program) (t : TypeId) : List TK :=
  match P.underlying t with
  | some (.struct fs) => fs.toList.map fun f => tk P f.type
  | _ => []

def avK : AV → TK
  | .int k _ => .int k
  | .bool _ => .bool
  | .str _ => .str
  | _ => .other

theorem tk_int {P : Program} {t : TypeId} {k : IntKind} (h : tk P t = .int k) : P.underlying t = some (.int k) := by
  unfold tk at h; split at h <;> simp_all
theorem tk_bool {P : Program} {t : TypeId} (h : tk P t = .bool) : P.underlying t = some .bool := by
  unfold tk at h; split at h <;> simp_all
theorem tk_str {P : Program} {t : TypeId} (h : tk P t = .str) : P.underlying t = some .string := by
  unfold tk at h; split at h <;> simp_all
theorem tk_ptr {P : Program} {t : TypeId} (h : tk P t = .ptr) : ∃ e, P.underlying t = some (.pointer e) := by
  unfold tk at h; split at h <;> simp_all
theorem tk_sl {P : Program} {t e : TypeId} (h : tk P t = .sl e) : P.underlying t = some (.slice e) := by
  unfold tk at h; split at h <;> simp_all

def eqo (P : Program) (t : TypeId) (x y : AV) : Option (Prop × Bool) :=
  match x, y with
  | .bool a, .bool b => some (tk P t = .bool, a == b)
  | .nilp, .nilp => some (tk P t = .ptr, true)
  | .nilp, .ptr _ => some (tk P t = .ptr, false)
  | .ptr _, .nilp => some (tk P t = .ptr, false)
  | .nilp, .ref .. => some (tk P t = .ptr, false)
  | .ref .., .nilp => some (tk P t = .ptr, false)
  | .agg xs, .agg ys => (match eqCells xs ys with | some b => some (flatI P t = true ∧ xs.map avK = flatK P t, b) | none => none)
  | _, _ => none

theorem run_equalIn_cell {P : Program} {w : World} {β : Beta} {fr : Nat → Prop} {t : TypeId} {d : Nat} {x y : AV} {u v : Value} {b : Bool} (ht : avK x = tk P t) (e : eqA x y = some b) (ru : Rep β fr w.heap x u) (rv : Rep β fr w.heap y v) :
    (isAgg t).run P w = .ok false w ∧ (Op.equalIn (d + 1) t u v).run P w = .ok b w := by
  unfold eqA at e
  split at e
  · rename_i k a k' a'
    split at e
    · rename_i hk; subst hk
      injection e with e; subst e
      have q := tk_int ht.symm
      simp only [Rep] at ru rv; subst ru rv
      exact ⟨by simp [isAgg, run_underlying q], run_equalIn_int w d t k k a a' q⟩
    · cases e
  · injection e with e; subst e
    have q := tk_bool ht.symm
    simp only [Rep] at ru rv; subst ru rv
    exact ⟨by simp [isAgg, run_underlying q], run_equalIn_bool' w d t _ _ q⟩
  · injection e with e; subst e
    have q := tk_str ht.symm
    simp only [Rep] at ru rv
    obtain ⟨u1, rfl, rfl⟩ := ru
    obtain ⟨v1, rfl, rfl⟩ := rv
    refine ⟨by simp [isAgg, run_underlying q], ?_⟩
    rw [run_equalIn_string w d t _ _ q, toList_data, toList_data]
  · cases e

theorem run_eqFields {P : Program} {w : World} {β : Beta} {fr : Nat → Prop} (us vs : Array Value) : ∀ (fs : List Field) (k d : Nat) (xs ys : List AV) (b : Bool),
    (fs.zipIdx k).all (fun (f, j) => f.offset == j && decide (f.name ≠ "_")) = true →
    eqCells xs ys = some b → xs.map avK = fs.map (fun f => tk P f.type) →
    (∀ i (h : i < xs.length), ∃ u, us[k + i]? = some u ∧ Rep β fr w.heap (xs[i]) u) → (∀ i (h : i < ys.length), ∃ u, vs[k + i]? = some u ∧ Rep β fr w.heap (ys[i]) u) →
    (Op.eqFields (d + 1) us vs fs).run P w = .ok b w
  | [], k, d, xs, ys, b, hf, he, hl, hx, hy => by
    obtain rfl : xs = [] := by simpa using hl
    cases ys with
    | nil => simp [eqCells] at he; subst he; rfl
    | cons y ys => simp [eqCells] at he
  | f :: fs, k, d, xs, ys, b, hf, he, hl, hx, hy => by
    cases xs with
    | nil => simp at hl
    | cons x xs =>
      cases ys with
      | nil => simp [eqCells] at he
      | cons y ys =>
        simp only [List.zipIdx_cons, List.all_cons, Bool.and_eq_true, beq_iff_eq, decide_eq_true_eq] at hf
        obtain ⟨⟨h1, h2⟩, h4⟩ := hf
        simp only [List.map_cons, List.cons.injEq] at hl
        simp only [eqCells] at he
        split at he
        · rename_i b1 b2 e1 e2
          injection he with he; subst he
          have ih := run_eqFields (P := P) (w := w) (β := β) (fr := fr) us vs fs (k + 1) d xs ys b2 h4 e2 hl.2
            (fun i hi => by have := hx (i + 1) (by simp; omega); rw [show k + (i + 1) = k + 1 + i by omega] at this; exact this)
            (fun i hi => by have := hy (i + 1) (by simp; omega); rw [show k + (i + 1) = k + 1 + i by omega] at this; exact this)
          obtain ⟨u, hu, ru⟩ := hx 0 (by simp)
          obtain ⟨v, hv, rv⟩ := hy 0 (by simp)
          simp only [Nat.add_zero] at hu hv
          simp only [List.getElem_cons_zero] at ru rv
          obtain ⟨nag, heq⟩ := run_equalIn_cell (P := P) (w := w) (d := d) hl.1 e1 ru rv
          have hp1 : (part f.type us f.offset).run P w = .ok u w := by simp [part, nag, h1, hu]
          have hp2 : (part f.type vs f.offset).run P w = .ok v w := by simp [part, nag, h1, hv]
          simp only [Op.eqFields, if_pos h2, Sem.run_bind, hp1, hp2, heq, Result.andThen_ok]
          cases b1 with
          | true => simpa using ih
          | false => simp
        · cases he

theorem run_equalIn_nil1 {P : Program} {w : World} {t el : TypeId} (d : Nat) (q : P.underlying t = some (.pointer el)) (b : Option Addr) : (Op.equalIn (d + 1) t (.pointer none) (.pointer b)).run P w = .ok b.isNone w := by
  simp only [Op.equalIn, Sem.run_bind, run_underlying q, Result.andThen_ok, Sem.run_pure]
theorem run_equalIn_nil2 {P : Program} {w : World} {t el : TypeId} (d : Nat) (q : P.underlying t = some (.pointer el)) (a : Addr) : (Op.equalIn (d + 1) t (.pointer (some a)) (.pointer none)).run P w = .ok false w := by
  simp only [Op.equalIn, Sem.run_bind, run_underlying q, Result.andThen_ok, Sem.run_pure]

theorem run_equal {P : Program} {w : World} {β : Beta} {fr : Nat → Prop} {t : TypeId} {x y : AV} {u v : Value} {p : Prop} {b : Bool} (e : eqo P t x y = some (p, b)) (hp : p) (ru : Rep β fr w.heap x u) (rv : Rep β fr w.heap y v) (op : BinOp) (X Y : Operand) :
    (eqGuard op t X Y u v).run P w = .ok () w ∧ (Op.equal t u v).run P w = .ok b w := by
  have hd : Op.maxDepth = 9998 + 1 + 1 := rfl
  unfold eqo at e
  split at e
  · injection e with e; injection e with e1 e2; subst e1 e2
    simp only [Rep] at ru rv; subst ru rv
    exact ⟨run_eqGuard_not (by simp) (by simp), run_equalIn_bool' w _ t _ _ (tk_bool hp)⟩
  · injection e with e; injection e with e1 e2; subst e1 e2
    simp only [Rep] at ru rv; subst ru rv
    obtain ⟨el, q⟩ := tk_ptr hp
    exact ⟨run_eqGuard_not (by simp) (by simp), run_equalIn_nil1 _ q _⟩
  · injection e with e; injection e with e1 e2; subst e1 e2
    simp only [Rep] at ru rv; subst ru; obtain ⟨a, rfl, -⟩ := rv
    obtain ⟨el, q⟩ := tk_ptr hp
    exact ⟨run_eqGuard_not (by simp) (by simp), run_equalIn_nil1 _ q _⟩
  · injection e with e; injection e with e1 e2; subst e1 e2
    simp only [Rep] at ru rv; subst rv; obtain ⟨a, rfl, -⟩ := ru
    obtain ⟨el, q⟩ := tk_ptr hp
    exact ⟨run_eqGuard_not (by simp) (by simp), run_equalIn_nil2 _ q _⟩
  · injection e with e; injection e with e1 e2; subst e1 e2
    simp only [Rep] at ru rv; subst ru; obtain ⟨a, -, rfl⟩ := rv
    obtain ⟨el, q⟩ := tk_ptr hp
    exact ⟨run_eqGuard_not (by simp) (by simp), run_equalIn_nil1 _ q _⟩
  · injection e with e; injection e with e1 e2; subst e1 e2
    simp only [Rep] at ru rv; subst rv; obtain ⟨a, -, rfl⟩ := ru
    obtain ⟨el, q⟩ := tk_ptr hp
    exact ⟨run_eqGuard_not (by simp) (by simp), run_equalIn_nil2 _ q _⟩
  · rename_i xs ys
    split at e
    · rename_i b1 hb
      injection e with e; injection e with e1 e2; subst e1 e2
      simp only [Rep] at ru rv
      obtain ⟨us, rfl, hu, ru⟩ := ru
      obtain ⟨vs, rfl, hv, rv⟩ := rv
      obtain ⟨h1, h2⟩ := hp
      unfold flatI at h1
      unfold flatK at h2
      split at h1
      · rename_i fs q
        rw [q] at h2
        simp only [Bool.and_eq_true, Bool.not_eq_true'] at h1
        obtain ⟨⟨h3, h4⟩, h5⟩ := h1
        have hfo : P.fieldsOf t = fs := by simp [Program.fieldsOf, q]
        refine ⟨?_, ?_⟩
        · unfold eqGuard
          split <;> simp [h4]
        · rw [Op.equal, hd, run_equalIn_struct w _ t us vs (by rw [hfo]; exact q) h3, hfo]
          exact run_eqFields us vs fs.toList 0 _ xs ys b1 h5 hb h2 (fun i hi => by simpa using ru i hi) (fun i hi => by simpa using rv i hi)
      · cases h1
    · cases e
  · cases e

end Go.Proofs.Vale
