/- YthgafblmefjkdaaDoorVC: a text of the proof of this claim, by its prover. -/
import Derived.Test.YthgafblmefjkdaaDoorVB
set_option linter.unusedVariables false
set_option linter.unusedSimpArgs false
namespace Go.Proofs.Vale

/-! ### Operations that only compute and read -/

abbrev PV := Option (Prop × AV)

/-- The operation o, at operands that read as ev tells, hands back what reads as x, if p; memory stays. -/
def PopOk (P : Program) (o : Oper) (ev : Operand → AV) (h : List AObj) (p : Prop) (x : AV) : Prop :=
  p → ∀ (a : Act) (w : World) (β : Beta) (fr : Nat → Prop), Lay β fr w.heap h → (∀ y, y ∈ o.op.operands → Rep β fr w.heap (ev y) (a.eval y)) →
    ∃ v w', (execOp a.eval o).run P w = .ok (.value v) w' ∧ w'.heap = w.heap ∧ w'.os = w.os ∧ w'.tape = w.tape ∧ w'.output = w.output ∧ Rep β fr w.heap x v

def intBitsA (op : BinOp) (k : IntKind) (x y : Int) : Int :=
  let a := BitVec.ofInt k.bits x
  let b := BitVec.ofInt k.bits y
  match op with
  | .and => k.wrap (a &&& b).toNat
  | .or => k.wrap (a ||| b).toNat
  | .xor => k.wrap (a ^^^ b).toNat
  | _ => k.wrap (a &&& ~~~b).toNat

/-- Equality of two values of one cell each; none: not told. -/
def eqA : AV → AV → Option Bool
  | .int k a, .int k' b => if k = k' then some (a == b) else none
  | .bool a, .bool b => some (a == b)
  | .str a, .str b => some (a == b)
  | _, _ => none

def eqCells : List AV → List AV → Option Bool
  | [], [] => some true
  | x :: xs, y :: ys => match eqA x y, eqCells xs ys with
    | some a, some b => some (a && b)
    | _, _ => none
  | _, _ => none

def bin (op : BinOp) (x y : AV) : PV :=
  match x, y with
  | .int k a, .int k' b =>
    match op with
    | .add => some (k = k', .int k (k.wrap (a + b)))
    | .sub => some (k = k', .int k (k.wrap (a - b)))
    | .mul => some (k = k', .int k (k.wrap (a * b)))
    | .quo => some (k = k' ∧ b ≠ 0, .int k (k.wrap (a.tdiv b)))
    | .rem => some (k = k' ∧ b ≠ 0, .int k (a.tmod b))
    | .and => some (k = k', .int k (intBitsA .and k a b))
    | .or => some (k = k', .int k (intBitsA .or k a b))
    | .xor => some (k = k', .int k (intBitsA .xor k a b))
    | .andNot => some (k = k', .int k (intBitsA .andNot k a b))
    | .shl => some (0 ≤ b, .int k (k.wrap (a * 2 ^ (min b.toNat k.bits))))
    | .shr => some (0 ≤ b, .int k (a.fdiv (2 ^ (min b.toNat k.bits))))
    | .eql => some (k = k', .bool (a == b))
    | .neq => some (k = k', .bool (a != b))
    | .lss => some (k = k', .bool (decide (a < b)))
    | .leq => some (k = k', .bool (decide (a ≤ b)))
    | .gtr => some (k = k', .bool (decide (b < a)))
    | .geq => some (k = k', .bool (decide (b ≤ a)))
  | .str a, .str b =>
    match op with
    | .add => some (((a.length + b.length : Nat) : Int) ≤ 9223372036854775807, .str (a ++ b))
    | .eql => some (True, .bool (a == b))
    | .neq => some (True, .bool (a != b))
    | .lss => some (True, .bool (Op.bytesLess a b))
    | .leq => some (True, .bool (!Op.bytesLess b a))
    | .gtr => some (True, .bool (Op.bytesLess b a))
    | .geq => some (True, .bool (!Op.bytesLess a b))
    | _ => none
  | _, _ => none

theorem toList_data (b : ByteArray) : b.toList = b.data.toList := by rw [ByteArray.toList_eq]

theorem bytesLess_irrefl : ∀ l, Op.bytesLess l l = false
  | [] => by simp [Op.bytesLess]
  | a :: l => by simp [Op.bytesLess, bytesLess_irrefl l]

theorem bytesLess_total : ∀ a b, a ≠ b → (Op.bytesLess a b = !Op.bytesLess b a)
  | [], [], h => absurd rfl h
  | [], _ :: _, _ => by simp [Op.bytesLess]
  | _ :: _, [], _ => by simp [Op.bytesLess]
  | x :: a, y :: b, h => by
    simp only [Op.bytesLess]
    by_cases e : x = y
    · subst e
      have := bytesLess_total a b (fun e => h (by rw [e]))
      simp [this]
    · have e' : ¬ y = x := fun q => e q.symm
      simp only [show (x == y) = false by simp [e], show (y == x) = false by simp [e'], Bool.false_and, Bool.or_false]
      have : x.toNat ≠ y.toNat := fun q => e (UInt8.toNat_inj.1 q)
      rw [Bool.eq_iff_iff]
      simp only [decide_eq_true_eq, Bool.not_eq_true', decide_eq_false_iff_not, UInt8.lt_iff_toNat_lt]
      omega

theorem le_less (a b : List UInt8) : (Op.bytesLess a b || a == b) = !Op.bytesLess b a := by
  by_cases e : a = b
  · subst e; simp [bytesLess_irrefl]
  · rw [bytesLess_total a b e]; simp [e]

theorem run_eqGuard_not {P : Program} {w : World} {op : BinOp} {t : TypeId} {x y : Operand} {a b : Value} (h1 : a ≠ .nilIface) (h2 : ∀ c, a ≠ .agg c) : (eqGuard op t x y a b).run P w = .ok () w := by
  unfold eqGuard
  split
  all_goals (cases a <;> first | exact absurd rfl h1 | exact absurd rfl (h2 _) | simp)

theorem bin_ok {P : Program} {o : Oper} {op : BinOp} {t yt : TypeId} {x y : Operand} {ev : Operand → AV} {h : List AObj} {p : Prop} {r : AV} (ho : o.op = .binOp op t x y yt) (hb : bin op (ev x) (ev y) = some (p, r)) : PopOk P o ev h p r := by
  intro hp a w β fr L hr
  rw [ho] at hr
  have hx := hr x (by simp [Op.operands])
  have hy := hr y (by simp [Op.operands])
  simp only [execOp, ho]
  unfold bin at hb
  split at hb
  · rename_i k a1 k' b1 e1 e2
    rw [e1] at hx; rw [e2] at hy
    simp only [Rep] at hx hy
    rw [hx, hy]
    simp only [Sem.run_bind, run_eqGuard_not (P := P) (w := w) (op := op) (t := t) (x := x) (y := y) (a := .int k a1) (b := .int k' b1) (by simp) (by simp), Result.andThen_ok]
    suffices key : ∃ v, (Go.binOp op t (.int k a1) (.int k' b1)).run P w = .ok v w ∧ Rep β fr w.heap r v by
      obtain ⟨v, h1, h2⟩ := key
      exact ⟨v, w, by rw [h1]; rfl, rfl, rfl, rfl, rfl, h2⟩
    cases op <;> simp only [Option.some.injEq, Prod.mk.injEq] at hb <;> obtain ⟨hq, rfl⟩ := hb <;> rw [← hq] at hp <;> simp only [Rep, exists_eq_right]
    case shl => simp [Go.binOp, Op.shift, show ¬ b1 < 0 from by omega]
    case shr => simp [Go.binOp, Op.shift, show ¬ b1 < 0 from by omega]
    case quo => simp [Go.binOp, Op.intDiv, hp.1, hp.2]
    case rem => simp [Go.binOp, Op.intDiv, hp.1, hp.2]
    all_goals subst hp
    all_goals simp [Go.binOp, Op.intArith, Op.intBits, Op.intCmp, intBitsA]
  · rename_i a1 b1 e1 e2
    rw [e1] at hx; rw [e2] at hy
    simp only [Rep] at hx hy
    obtain ⟨s1, hx, rfl⟩ := hx
    obtain ⟨s2, hy, rfl⟩ := hy
    rw [hx, hy]
    simp only [Sem.run_bind, run_eqGuard_not (P := P) (w := w) (op := op) (t := t) (x := x) (y := y) (a := .string s1) (b := .string s2) (by simp) (by simp), Result.andThen_ok]
    cases op <;> simp only [Option.some.injEq, Prod.mk.injEq, reduceCtorEq] at hb <;> obtain ⟨hq, rfl⟩ := hb <;> rw [← hq] at hp
    all_goals simp only [Go.binOp, Op.stringOp, toList_data, le_less]
    case add =>
      have hz : ¬ (((s1.size + s2.size : Nat) : Int) > IntKind.i64.max) := by
        have e : IntKind.i64.max = 9223372036854775807 := by decide
        rw [e]
        have e1 : s1.size = s1.data.toList.length := by simp
        have e2 : s2.size = s2.data.toList.length := by simp
        omega
      rw [if_neg hz]
      exact ⟨_, w, rfl, rfl, rfl, rfl, rfl, by simp [Rep]⟩
    all_goals exact ⟨_, w, rfl, rfl, rfl, rfl, rfl, by simp [Rep, bne, le_less]⟩
  · cases hb

end Go.Proofs.Vale
