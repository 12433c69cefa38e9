/- YtplehleekabbaaaGreatDoorVRe: a text of the proof of this claim, by its prover. -/
import Derived.Test.YtplehleekabbaaaGreatDoorVRw
set_option linter.unusedVariables false
set_option linter.unusedSimpArgs false
namespace Go.Proofs.Vale

/-! ### A call worked out by the kernel: memory as a tree -/
inductive PT where
  | leaf
  | node (l : PT) (v : Option AObj) (r : PT)
  deriving Inhabited

def PT.get : PT → Nat → Option AObj
  | .leaf, _ => none
  | .node l v r, k => match k with
    | 0 => v
    | k + 1 => bif Nat.beq (k % 2) 0 then l.get (k / 2) else r.get (k / 2)
def PT.left : PT → PT
  | .leaf => .leaf
  | .node l _ _ => l
def PT.right : PT → PT
  | .leaf => .leaf
  | .node _ _ r => r
theorem PT.left_node (l : PT) (v : Option AObj) (r : PT) : (PT.node l v r).left = l := rfl
theorem PT.right_node (l : PT) (v : Option AObj) (r : PT) : (PT.node l v r).right = r := rfl
def PT.val : PT → Option AObj
  | .leaf => none
  | .node _ v _ => v
theorem PT.get_zero (t : PT) : t.get 0 = t.val := by cases t <;> rfl
theorem PT.get_succ (t : PT) (k : Nat) : t.get (k + 1) = bif Nat.beq (k % 2) 0 then t.left.get (k / 2) else t.right.get (k / 2) := by
  cases t with
  | leaf => simp [PT.get, PT.left, PT.right]
  | node l v r => rfl

def PT.set (o : AObj) : Nat → PT → Nat → PT
  | 0, t, _ => t
  | f + 1, t, k => match k with
    | 0 => .node t.left (some o) t.right
    | k + 1 => bif Nat.beq (k % 2) 0 then .node (PT.set o f t.left (k / 2)) t.val t.right else .node t.left t.val (PT.set o f t.right (k / 2))

theorem PT.get_set (o : AObj) : ∀ (f : Nat) (t : PT) (k j : Nat), k + 1 < 2 ^ f → (PT.set o f t k).get j = if j = k then some o else t.get j
  | 0, t, k, j, h => by simp at h
  | f + 1, t, 0, j, h => by
    cases j with
    | zero => simp [PT.set, PT.get]
    | succ j => rw [PT.get_succ, PT.get_succ]; simp [PT.set, PT.left, PT.right]
  | f + 1, t, k + 1, j, h => by
    have hk : k / 2 + 1 < 2 ^ f := by rw [Nat.pow_succ] at h; omega
    cases j with
    | zero =>
      rw [PT.get_zero, PT.get_zero]
      simp only [PT.set]
      cases Nat.beq (k % 2) 0 <;> simp [PT.val]
    | succ j =>
      rw [PT.get_succ, PT.get_succ]
      simp only [PT.set]
      cases hkb : Nat.beq (k % 2) 0 <;> simp only [cond_true, cond_false]
      · have e1 : k % 2 ≠ 0 := fun e => by rw [e] at hkb; cases hkb
        cases hjb : Nat.beq (j % 2) 0 <;> simp only [cond_true, cond_false, PT.left_node, PT.right_node]
        · rw [PT.get_set o f t.right (k / 2) (j / 2) hk]
          have e2 : j % 2 ≠ 0 := fun e => by rw [e] at hjb; cases hjb
          by_cases q : j / 2 = k / 2
          · rw [if_pos q, if_pos (by omega)]
          · rw [if_neg q, if_neg (by omega)]
        · have e2 : j % 2 = 0 := Nat.eq_of_beq_eq_true hjb
          rw [if_neg (by omega)]
      · have e1 : k % 2 = 0 := Nat.eq_of_beq_eq_true hkb
        cases hjb : Nat.beq (j % 2) 0 <;> simp only [cond_true, cond_false, PT.left_node, PT.right_node]
        · have e2 : j % 2 ≠ 0 := fun e => by rw [e] at hjb; cases hjb
          rw [if_neg (by omega)]
        · rw [PT.get_set o f t.left (k / 2) (j / 2) hk]
          have e2 : j % 2 = 0 := Nat.eq_of_beq_eq_true hjb
          by_cases q : j / 2 = k / 2
          · rw [if_pos q, if_pos (by omega)]
          · rw [if_neg q, if_neg (by omega)]

structure Mem where
  n : Nat
  t : PT

def oDead : Option AObj → AObj
  | some o => o
  | none => .dead
def Mem.at (m : Mem) (k : Nat) : AObj := bif Nat.blt k m.n then oDead (m.t.get k) else .dead
/-- The objects of one's own. -/
def Mem.L (m : Mem) : List AObj := (List.range m.n).map fun k => oDead (m.t.get k)
def Mem.lim : Nat := 16777200
def Mem.set (m : Mem) (k : Nat) (o : AObj) : Mem := ⟨m.n, m.t.set o 24 k⟩
def Mem.push (m : Mem) (o : AObj) : Mem := ⟨m.n + 1, m.t.set o 24 m.n⟩
def Mem.ok (m : Mem) : Bool := Nat.blt m.n Mem.lim

theorem blt_iff {a b : Nat} : Nat.blt a b = true ↔ a < b := by simp [Nat.blt]; omega
theorem Mem.L_len (m : Mem) : m.L.length = m.n := by simp [Mem.L]
theorem Mem.L_get (m : Mem) (k : Nat) (h : k < m.n) : m.L[k]? = some (oDead (m.t.get k)) := by simp [Mem.L, h]
theorem Mem.at_get {m : Mem} {k : Nat} (h : m.at k ≠ .dead) : m.L[k]? = some (m.at k) := by
  unfold Mem.at at *
  cases e : Nat.blt k m.n with
  | true => rw [e] at h; rw [Mem.L_get m k (blt_iff.1 e)]; rfl
  | false => rw [e] at h; exact absurd rfl h
theorem Mem.set_L {m : Mem} {k : Nat} (o : AObj) (h : m.ok = true) (hk : k < m.n) : (m.set k o).L = m.L.set k o := by
  have h1 := blt_iff.1 h
  unfold Mem.lim at h1
  apply List.ext_getElem
  · simp [Mem.L, Mem.set]
  · intro j h2 h3
    have hj : j < m.n := by simpa [Mem.L, Mem.set] using h2
    simp only [Mem.L, Mem.set, List.getElem_map, List.getElem_range, List.getElem_set]
    rw [PT.get_set o 24 m.t k j (by simp; omega)]
    by_cases e : j = k
    · subst e; simp [oDead]
    · rw [if_neg e, if_neg (fun q => e q.symm)]
theorem Mem.push_L {m : Mem} (o : AObj) (h : m.ok = true) : (m.push o).L = m.L ++ [o] := by
  have h1 := blt_iff.1 h
  unfold Mem.lim at h1
  apply List.ext_getElem
  · simp [Mem.L, Mem.push]
  · intro j h2 h3
    have hj : j < m.n + 1 := by simpa [Mem.L, Mem.push] using h2
    simp only [Mem.L, Mem.push, List.getElem_map, List.getElem_range]
    rw [PT.get_set o 24 m.t m.n j (by simp; omega)]
    by_cases e : j = m.n
    · subst e; simp [oDead]
    · rw [if_neg e, List.getElem_append_left (by simp; omega)]; simp

/-! ### Truths -/
def ileB : Int → Int → Bool
  | .ofNat a, .ofNat b => Nat.ble a b
  | .negSucc a, .negSucc b => Nat.ble b a
  | .negSucc _, .ofNat _ => true
  | .ofNat _, .negSucc _ => false
theorem ileB_eq (a b : Int) : ileB a b = decide (a ≤ b) := by
  cases a <;> cases b <;> simp only [ileB]
  · rw [Bool.eq_iff_iff]; simp
  · rw [Bool.eq_iff_iff]; simp; omega
  · rw [Bool.eq_iff_iff]; simp; omega
  · rw [Bool.eq_iff_iff]; simp; omega
def ieqB : Int → Int → Bool
  | .ofNat a, .ofNat b => Nat.beq a b
  | .negSucc a, .negSucc b => Nat.beq a b
  | _, _ => false
theorem ieqB_eq (a b : Int) : ieqB a b = (a == b) := by
  rw [Bool.eq_iff_iff, beq_iff_eq]
  cases a <;> cases b <;> simp [ieqB] <;> omega
def iltB (a b : Int) : Bool := !ileB b a
theorem iltB_eq (a b : Int) : iltB a b = decide (a < b) := by
  rw [Bool.eq_iff_iff]; simp [iltB, ileB_eq]
theorem ileB_iff {a b : Int} : ileB a b = true ↔ a ≤ b := by simp [ileB_eq]
def kB (a b : IntKind) : Bool := decide (a = b)
theorem kB_iff {a b : IntKind} : kB a b = true ↔ a = b := by simp [kB]
/-- What wraps, where most don't. -/
def wrapB (k : IntKind) (n : Int) : Int :=
  match k, n with
  | .i64, .ofNat a => bif Nat.blt a 9223372036854775808 then .ofNat a else IntKind.wrap .i64 (.ofNat a)
  | .u64, .ofNat a => .ofNat (a % 18446744073709551616)
  | .u8, .ofNat a => .ofNat (a % 256)
  | k, n => k.wrap n
theorem wrapB_eq (k : IntKind) (n : Int) : wrapB k n = k.wrap n := by
  unfold wrapB
  split
  · rename_i a
    cases e : Nat.blt a 9223372036854775808 with
    | false => simp only [cond_false]
    | true => have := blt_iff.1 e; simp only [cond_true]; exact (wrap_id (by have : (0 : Int) ≤ Int.ofNat a := Int.natCast_nonneg a; omega) (by have : Int.ofNat a = (a : Int) := rfl; omega)).symm
  · rename_i a
    simp only [IntKind.wrap, IntKind.signed, IntKind.bits, Bool.false_and, Bool.false_eq_true, if_false]
    rw [show ((2 : Int) ^ 64) = ((18446744073709551616 : Nat) : Int) from by rfl]
    exact (Int.natCast_emod a 18446744073709551616)
  · rename_i a
    simp only [IntKind.wrap, IntKind.signed, IntKind.bits, Bool.false_and, Bool.false_eq_true, if_false]
    rw [show ((2 : Int) ^ 8) = ((256 : Nat) : Int) from by decide]
    exact (Int.natCast_emod a 256)
  · rfl

def nthA : List AV → Nat → AV
  | [], _ => .any
  | x :: l, k => match k with
    | 0 => x
    | k + 1 => nthA l k
theorem nthA_eq : ∀ (l : List AV) (k : Nat), nthA l k = l.getD k .any
  | [], k => by simp [nthA]
  | x :: l, 0 => rfl
  | x :: l, k + 1 => by rw [List.getD_cons_succ]; exact nthA_eq l k
def setA : List AV → Nat → AV → List AV
  | [], _, _ => []
  | y :: l, k, x => match k with
    | 0 => x :: l
    | k + 1 => y :: setA l k x
theorem setA_eq : ∀ (l : List AV) (k : Nat) (x : AV), setA l k x = l.set k x
  | [], k, x => by simp [setA]
  | y :: l, 0, x => rfl
  | y :: l, k + 1, x => by rw [List.set_cons_succ]; exact congrArg _ (setA_eq l k x)
def lenB {α : Type} : List α → Nat
  | [] => 0
  | _ :: l => lenB l + 1
theorem lenB_eq {α : Type} : ∀ (l : List α), lenB l = l.length
  | [] => rfl
  | _ :: l => by simp [lenB, lenB_eq l]
def evB (env : List AV) : Operand → AV
  | .tmp t => nthA env t
  | .const v => ofVal v
  | .func f => .func (.func f) [] []
  | .global _ => .any
theorem evB_eq (env : List AV) : evB env = evA env := by
  funext x; cases x <;> simp [evB, evA, nthA_eq]
def putB (env : List AV) (dst : Option Nat) (x : AV) : List AV :=
  match dst with
  | some d => setA env d x
  | none => env
theorem putB_eq (env : List AV) (dst : Option Nat) (x : AV) : putB env dst x = putA env dst x := by
  cases dst <;> simp [putB, putA, setA_eq]

/-! ### Are two values one? -/
mutual
def AV.same : AV → AV → Bool
  | .int k a, .int k' b => kB k k' && ieqB a b
  | .bool a, .bool b => a == b
  | .str a, .str b => a == b
  | .nilp, .nilp => true
  | .ptr a, .ptr b => a.same b
  | .fz c l, .fz d m => c == d && sameL l m
  | .ref t g s i j, .ref t' g' s' i' j' => Nat.beq t t' && Nat.beq g g' && Nat.beq s s' && Nat.beq i i' && Nat.beq j j'
  | .sl t g s i j, .sl t' g' s' i' j' => Nat.beq t t' && Nat.beq g g' && Nat.beq s s' && Nat.beq i i' && Nat.beq j j'
  | .mp a, .mp b => Nat.beq a b
  | .nilm, .nilm => true
  | .agg l, .agg m => sameL l m
  | .tup l, .tup m => sameL l m
  | .nilf, .nilf => true
  | .func (.func f) a b, .func (.func g) c d => Nat.beq f g && sameL a c && sameL b d
  | .nili, .nili => true
  | .iface t a, .iface u b => Nat.beq t u && a.same b
  | _, _ => false
def sameL : List AV → List AV → Bool
  | [], [] => true
  | x :: l, y :: m => x.same y && sameL l m
  | _, _ => false
end
mutual
theorem AV.same_eq : ∀ (x y : AV), x.same y = true → x = y
  | .int k a, y, h => by cases y <;> simp [AV.same, kB_iff, ieqB_eq] at h; rw [h.1, h.2]
  | .bool a, y, h => by cases y <;> simp [AV.same] at h; rw [h]
  | .str a, y, h => by cases y <;> simp [AV.same] at h; rw [h]
  | .nilp, y, h => by cases y <;> simp [AV.same] at h; rfl
  | .ptr a, y, h => by cases y <;> simp [AV.same] at h; rw [AV.same_eq a _ h]
  | .fz c l, y, h => by cases y <;> simp [AV.same] at h; rw [h.1, sameL_eq l _ h.2]
  | .ref t g s i j, y, h => by cases y <;> simp [AV.same] at h; obtain ⟨⟨⟨⟨rfl, rfl⟩, rfl⟩, rfl⟩, rfl⟩ := h; rfl
  | .sl t g s i j, y, h => by cases y <;> simp [AV.same] at h; obtain ⟨⟨⟨⟨rfl, rfl⟩, rfl⟩, rfl⟩, rfl⟩ := h; rfl
  | .mp a, y, h => by cases y <;> simp [AV.same] at h; rw [h]
  | .it a, y, h => by cases y <;> simp [AV.same] at h
  | .nilm, y, h => by cases y <;> simp [AV.same] at h; rfl
  | .agg l, y, h => by cases y <;> simp [AV.same] at h; rw [sameL_eq l _ h]
  | .tup l, y, h => by cases y <;> simp [AV.same] at h; rw [sameL_eq l _ h]
  | .func fn a b, y, h => by
    cases y <;> try (simp [AV.same] at h; done)
    rename_i gn c d
    cases fn <;> cases gn <;> simp [AV.same] at h
    obtain ⟨⟨rfl, h1⟩, h2⟩ := h
    rw [sameL_eq a _ h1, sameL_eq b _ h2]
  | .nilf, y, h => by cases y <;> simp [AV.same] at h; rfl
  | .nili, y, h => by cases y <;> simp [AV.same] at h; rfl
  | .iface t a, y, h => by cases y <;> simp [AV.same] at h; obtain ⟨rfl, h⟩ := h; rw [AV.same_eq a _ h]
  | .opt _ _, y, h => by cases y <;> simp [AV.same] at h
  | .any, y, h => by cases y <;> simp [AV.same] at h
theorem sameL_eq : ∀ (l m : List AV), sameL l m = true → l = m
  | [], m, h => by cases m <;> simp [sameL] at h; rfl
  | x :: l, m, h => by cases m <;> simp [sameL] at h; rw [AV.same_eq x _ h.1, sameL_eq l _ h.2]
end
end Go.Proofs.Vale

set_option linter.unusedVariables false
set_option linter.unusedSimpArgs false
namespace Go.Proofs.Vale

/-! ### Operations that only compute and read, worked out -/
abbrev PB := Option (Bool × AV)
/-- What is worked out is told. -/
def Sim (a : PB) (b : PV) : Prop := ∀ r, a = some (true, r) → ∃ p, b = some (p, r) ∧ p
theorem Sim.none (b : PV) : Sim none b := fun _ h => by cases h
theorem Sim.some {q : Bool} {p : Prop} {x y : AV} (h : q = true → p) (e : x = y) : Sim (some (q, x)) (some (p, y)) := by
  rintro r h1; injection h1 with h1; injection h1 with h1 h2; subst h1 h2 e; exact ⟨p, rfl, h rfl⟩
def tkB (a b : TK) : Bool := decide (a = b)
theorem tkB_iff {a b : TK} : tkB a b = true ↔ a = b := by simp [tkB]

def p2 (n : Nat) : Int := Int.ofNat (2 ^ n)
theorem p2_eq (n : Nat) : p2 n = 2 ^ n := by simp [p2]

def pbin (op : BinOp) (x y : AV) : PB :=
  match x, y with
  | .int k a, .int k' b =>
    match op with
    | .add => some (kB k k', .int k (wrapB k (a + b)))
    | .sub => some (kB k k', .int k (wrapB k (a - b)))
    | .mul => some (kB k k', .int k (wrapB k (a * b)))
    | .quo => some (kB k k' && !ieqB b 0, .int k (wrapB k (a.tdiv b)))
    | .rem => some (kB k k' && !ieqB b 0, .int k (a.tmod b))
    | .and => some (kB k k', .int k (intBitsA .and k a b))
    | .or => some (kB k k', .int k (intBitsA .or k a b))
    | .xor => some (kB k k', .int k (intBitsA .xor k a b))
    | .andNot => some (kB k k', .int k (intBitsA .andNot k a b))
    | .shl => some (ileB 0 b, .int k (wrapB k (a * p2 (min b.toNat k.bits))))
    | .shr => some (ileB 0 b, .int k (a.fdiv (p2 (min b.toNat k.bits))))
    | .eql => some (kB k k', .bool (ieqB a b))
    | .neq => some (kB k k', .bool (!ieqB a b))
    | .lss => some (kB k k', .bool (iltB a b))
    | .leq => some (kB k k', .bool (ileB a b))
    | .gtr => some (kB k k', .bool (iltB b a))
    | .geq => some (kB k k', .bool (ileB b a))
  | .str a, .str b =>
    match op with
    | .add => some (Nat.ble (a.length + b.length) 9223372036854775807, .str (a ++ b))
    | .eql => some (true, .bool (a == b))
    | .neq => some (true, .bool (!(a == b)))
    | .lss => some (true, .bool (Op.bytesLess a b))
    | .leq => some (true, .bool (!Op.bytesLess b a))
    | .gtr => some (true, .bool (Op.bytesLess b a))
    | .geq => some (true, .bool (!Op.bytesLess a b))
    | _ => none
  | _, _ => none
theorem pbin_ok (op : BinOp) (x y : AV) : Sim (pbin op x y) (bin op x y) := by
  unfold pbin bin
  split
  · rename_i k a k' b
    cases op <;> simp only <;> refine Sim.some (fun h => ?_) ?_
    all_goals first
      | exact kB_iff.1 h
      | (simp only [wrapB_eq, ieqB_eq, iltB_eq, ileB_eq, p2_eq, bne]; done)
      | rfl
      | exact ileB_iff.1 h
      | (rw [Bool.and_eq_true] at h; refine ⟨kB_iff.1 h.1, fun e => ?_⟩; subst e; simp [ieqB_eq] at h)
  · rename_i a b
    cases op <;> simp only <;> first | exact Sim.none _ | refine Sim.some (fun h => ?_) ?_
    all_goals first
      | trivial
      | rfl
      | (have := Nat.le_of_ble_eq_true h; omega)
      | (simp [bne]; done)
  · exact Sim.none _

def peqA : AV → AV → Option Bool
  | .int k a, .int k' b => bif kB k k' then some (ieqB a b) else none
  | .bool a, .bool b => some (a == b)
  | .str a, .str b => some (a == b)
  | _, _ => none
theorem peqA_eq (x y : AV) : peqA x y = eqA x y := by
  cases x <;> cases y <;> first | rfl | skip
  rename_i k a k' b
  unfold peqA eqA
  by_cases e : k = k'
  · simp [e, kB, ieqB_eq]
  · simp [e, kB]
def peqC : List AV → List AV → Option Bool
  | [], [] => some true
  | x :: xs, y :: ys => match peqA x y, peqC xs ys with
    | some a, some b => some (a && b)
    | _, _ => none
  | _, _ => none
theorem peqC_eq : ∀ (l m : List AV), peqC l m = eqCells l m
  | [], [] => rfl
  | [], _ :: _ => rfl
  | _ :: _, [] => rfl
  | x :: xs, y :: ys => by simp only [peqC, eqCells, peqA_eq, peqC_eq xs ys]; cases eqA x y <;> cases eqCells xs ys <;> rfl
def tksB : List TK → List TK → Bool
  | [], [] => true
  | a :: l, b :: m => tkB a b && tksB l m
  | _, _ => false
theorem tksB_eq : ∀ {l m : List TK}, tksB l m = true → l = m
  | [], [], _ => rfl
  | [], _ :: _, h => by cases h
  | _ :: _, [], h => by cases h
  | a :: l, b :: m, h => by rw [tksB, Bool.and_eq_true] at h; rw [tkB_iff.1 h.1, tksB_eq h.2]

def peqo (P : Program) (t : TypeId) (x y : AV) : Option (Bool × Bool) :=
  match x, y with
  | .bool a, .bool b => some (tkB (tk P t) .bool, a == b)
  | .nilp, .nilp => some (tkB (tk P t) .ptr, true)
  | .nilp, .ptr _ => some (tkB (tk P t) .ptr, false)
  | .ptr _, .nilp => some (tkB (tk P t) .ptr, false)
  | .nilp, .ref .. => some (tkB (tk P t) .ptr, false)
  | .ref .., .nilp => some (tkB (tk P t) .ptr, false)
  | .agg xs, .agg ys => (match peqC xs ys with | some b => some (flatI P t && tksB (xs.map avK) (flatK P t), b) | none => none)
  | _, _ => none
def peqR (op : BinOp) (r : Option (Bool × Bool)) : PB :=
  match op, r with
  | .eql, some (p, b) => some (p, .bool b)
  | .neq, some (p, b) => some (p, .bool (!b))
  | _, _ => none
theorem peqo_ok {P : Program} {t : TypeId} {x y : AV} {b : Bool} (h : peqo P t x y = some (true, b)) : ∃ p, eqo P t x y = some (p, b) ∧ p := by
  unfold peqo at h
  split at h
  case h_7 xs ys =>
   rw [peqC_eq] at h
   split at h
   · rename_i b1 e
     simp only [Option.some.injEq, Prod.mk.injEq, Bool.and_eq_true] at h
     obtain ⟨⟨h1, h2⟩, rfl⟩ := h
     exact ⟨flatI P t = true ∧ xs.map avK = flatK P t, by simp only [eqo, e], h1, tksB_eq h2⟩
   · cases h
  all_goals first | (cases h; done) | (simp only [Option.some.injEq, Prod.mk.injEq] at h; obtain ⟨h1, rfl⟩ := h; exact ⟨_, rfl, tkB_iff.1 h1⟩)
theorem peqR_ok (P : Program) (op : BinOp) (t : TypeId) (x y : AV) : Sim (peqR op (peqo P t x y)) (eqR op (eqo P t x y)) := by
  intro r h
  unfold peqR at h
  split at h <;> simp only [Option.some.injEq, Prod.mk.injEq, reduceCtorEq] at h
  · rename_i p b e
    obtain ⟨rfl, rfl⟩ := h
    obtain ⟨p, hp, hpp⟩ := peqo_ok e
    exact ⟨p, by rw [hp]; rfl, hpp⟩
  · rename_i p b e
    obtain ⟨rfl, rfl⟩ := h
    obtain ⟨p, hp, hpp⟩ := peqo_ok e
    exact ⟨p, by rw [hp]; rfl, hpp⟩

/-! Places -/
def pcells : AV → Nat
  | .agg cs => lenB cs
  | _ => 1
theorem pcells_eq (x : AV) : pcells x = x.cells.length := by
  cases x <;> simp [pcells, AV.cells, lenB_eq]
def pPart (x : AV) (j n : Nat) (ag : Bool) : AV :=
  match ag with
  | true => .agg ((x.cells.drop j).take n)
  | false => nthA x.cells j
theorem pPart_eq (x : AV) (j n : Nat) (ag : Bool) : pPart x j n ag = partA x j n ag := by
  cases ag <;> simp [pPart, partA, nthA_eq]
def agOk (ag : Bool) (n : Nat) : Bool := ag || Nat.beq n 1
theorem agOk_iff {ag : Bool} {n : Nat} (h : agOk ag n = true) : ag = false → n = 1 := by
  intro e; subst e; simpa [agOk] using h
theorem ble_iff {a b : Nat} : Nat.ble a b = true ↔ a ≤ b := by simp
theorem beq_iff {a b : Nat} : Nat.beq a b = true ↔ a = b := by simp
def pld (ti : Option (Nat × Bool)) (g : Nat → AObj) (x : AV) : PB :=
  match ti, x with
  | some (n, ag), .ptr y => some (Nat.ble n (pcells y) && agOk ag n, pPart y 0 n ag)
  | some (n, ag), .ref tt gg s i j =>
    match g tt with
    | .arr g' s' l => let e := nthA l i
      some (Nat.beq gg g' && Nat.beq s s' && Nat.blt i (lenB l) && Nat.ble (j + n) (pcells e) && agOk ag n, pPart e j n ag)
    | _ => none
  | _, _ => none
theorem pld_ok {P : Program} {t : TypeId} {m : Mem} (x : AV) : Sim (pld (tI P t) m.at x) (ldA P t m.L x) := by
  intro r h
  unfold pld at h
  split at h
  · rename_i n ag y e
    simp only [Option.some.injEq, Prod.mk.injEq, Bool.and_eq_true, ble_iff, pcells_eq, pPart_eq] at h
    obtain ⟨⟨h1, h2⟩, rfl⟩ := h
    refine ⟨_, by simp only [ldA, e] <;> rfl, ?_⟩; exact ⟨h1, agOk_iff h2⟩
  · rename_i n ag tt gg s i j e
    split at h
    · rename_i g' s' l hg
      simp only [Option.some.injEq, Prod.mk.injEq, Bool.and_eq_true, ble_iff, blt_iff, beq_iff, pcells_eq, pPart_eq, lenB_eq, nthA_eq] at h
      obtain ⟨⟨⟨⟨⟨h1, h2⟩, h3⟩, h4⟩, h5⟩, rfl⟩ := h
      have := m.at_get (k := tt) (by rw [hg]; simp)
      rw [hg] at this
      refine ⟨_, by simp only [ldA, e, this] <;> rfl, ?_⟩; exact ⟨h1, h2, h3, h4, agOk_iff h5⟩
    · cases h
  · cases h
def pfa (fi : Option (Nat × Nat × Bool)) (x : AV) : PB :=
  match fi, x with
  | some (off, n, ag), .ptr y => some (Nat.ble (off + n) (pcells y) && (ag || (Nat.beq n 1 && leaf (nthA y.cells off))), .ptr (pPart y off n ag))
  | some (off, n, ag), .ref t g s i j => some (true, .ref t g s i (j + off))
  | _, _ => none
theorem pfa_ok {P : Program} {s f : Nat} (x : AV) : Sim (pfa (fI P s f) x) (faA P s f x) := by
  intro r h
  unfold pfa at h
  split at h
  · rename_i off n ag y e
    simp only [Option.some.injEq, Prod.mk.injEq, Bool.and_eq_true, ble_iff, pcells_eq, pPart_eq, nthA_eq] at h
    obtain ⟨⟨h1, h2⟩, rfl⟩ := h
    refine ⟨_, by simp only [faA, e] <;> rfl, ?_⟩; exact ⟨h1, fun q => by subst q; simpa using h2⟩
  · rename_i off n ag t g s i j e
    simp only [Option.some.injEq, Prod.mk.injEq, true_and] at h
    subst h
    refine ⟨_, by simp only [faA, e] <;> rfl, ?_⟩; exact trivial
  · cases h
def pfd (fi : Option (Nat × Nat × Bool)) (x : AV) : PB :=
  match fi, x with
  | some (off, n, ag), .agg cs => some (Nat.ble (off + n) (lenB cs) && agOk ag n, pPart (.agg cs) off n ag)
  | _, _ => none
theorem pfd_ok {P : Program} {s f : Nat} (x : AV) : Sim (pfd (fI P s f) x) (fdA P s f x) := by
  intro r h
  unfold pfd at h
  split at h
  · rename_i off n ag cs e
    simp only [Option.some.injEq, Prod.mk.injEq, Bool.and_eq_true, ble_iff, lenB_eq, pPart_eq] at h
    obtain ⟨⟨h1, h2⟩, rfl⟩ := h
    refine ⟨_, by simp only [fdA, e] <;> rfl, ?_⟩; exact ⟨h1, agOk_iff h2⟩
  · cases h
def pix (ei : Option (TypeId × Nat × Nat)) (ai : Option (Nat × Nat × Bool)) (x i : AV) : PB :=
  match ei, x, i with
  | some (e, es, by_), .fz c l, .int k n => let y := nthA l n.toNat
    some (ileB 0 n && Nat.blt n.toNat (lenB l) && Nat.beq (pcells y) es, .ptr y)
  | some (e, es, by_), .sl tt g s off len, .int k n => some (ileB 0 n && Nat.blt n.toNat len && Nat.beq s es, .ref tt g s (off + n.toNat) 0)
  | none, .ref tt g s i j, .int k n => (match ai with
    | some (m, es, _) => some (ileB 0 n && Nat.blt n.toNat m, .ref tt g s i (j + n.toNat * es))
    | none => none)
  | none, .ptr y, .int k n => (match ai with
    | some (m, es, ag) => some (ileB 0 n && Nat.blt n.toNat m && Nat.ble (n.toNat * es + es) (pcells y) && (ag || (Nat.beq es 1 && leaf (nthA y.cells (n.toNat * es)))), .ptr (pPart y (n.toNat * es) es ag))
    | none => none)
  | _, _, _ => none
theorem pix_ok {P : Program} {t : TypeId} (x i : AV) : Sim (pix (eI P t) (aI P t) x i) (ixA P t x i) := by
  intro r h
  unfold pix at h
  split at h
  · rename_i e es by_ c l k n e1
    simp only [Option.some.injEq, Prod.mk.injEq, Bool.and_eq_true, ileB_iff, blt_iff, beq_iff, pcells_eq, lenB_eq, nthA_eq] at h
    obtain ⟨⟨⟨h1, h2⟩, h3⟩, rfl⟩ := h
    refine ⟨_, by simp only [ixA, e1] <;> rfl, ?_⟩; exact ⟨h1, by omega, h3⟩
  · rename_i e es by_ tt g s off len k n e1
    simp only [Option.some.injEq, Prod.mk.injEq, Bool.and_eq_true, ileB_iff, blt_iff, beq_iff] at h
    obtain ⟨⟨⟨h1, h2⟩, h3⟩, rfl⟩ := h
    refine ⟨_, by simp only [ixA, e1] <;> rfl, ?_⟩; exact ⟨h1, by omega, h3⟩
  · rename_i tt g s i j k n e1
    split at h
    · rename_i m es ag e2
      simp only [Option.some.injEq, Prod.mk.injEq, Bool.and_eq_true, ileB_iff, blt_iff] at h
      obtain ⟨⟨h1, h2⟩, rfl⟩ := h
      refine ⟨_, by simp only [ixA, e1, e2] <;> rfl, ?_⟩; exact ⟨h1, by omega⟩
    · cases h
  · rename_i y k n e1
    split at h
    · rename_i m es ag e2
      simp only [Option.some.injEq, Prod.mk.injEq, Bool.and_eq_true, ileB_iff, blt_iff, ble_iff, pcells_eq, pPart_eq, nthA_eq] at h
      obtain ⟨⟨⟨⟨h1, h2⟩, h3⟩, h4⟩, rfl⟩ := h
      refine ⟨_, by simp only [ixA, e1, e2] <;> rfl, ?_⟩; exact ⟨h1, by omega, h3, fun q => by subst q; simpa using h4⟩
    · cases h
  · cases h
def pin (P : Program) (t : TypeId) (x i : AV) : PB :=
  match x, i with
  | .str s, .int k n => some (tkB (tk P t) .str && ileB 0 n && Nat.blt n.toNat (lenB s), .int .u8 (s.getD n.toNat 0).toNat)
  | .agg cs, .int k n => (match aI P t with
    | some (m, s, ag) => some (ileB 0 n && Nat.blt n.toNat m && Nat.ble (n.toNat * s + s) (lenB cs) && agOk ag s, pPart (.agg cs) (n.toNat * s) s ag)
    | none => none)
  | _, _ => none
theorem pin_ok {P : Program} {t : TypeId} (x i : AV) : Sim (pin P t x i) (inA P t x i) := by
  intro r h
  unfold pin at h
  split at h
  · rename_i s k n
    simp only [Option.some.injEq, Prod.mk.injEq, Bool.and_eq_true, ileB_iff, blt_iff, tkB_iff, lenB_eq] at h
    obtain ⟨⟨⟨h1, h2⟩, h3⟩, rfl⟩ := h
    exact ⟨_, rfl, h1, h2, by omega⟩
  · rename_i cs k n
    split at h
    · rename_i m s ag e
      simp only [Option.some.injEq, Prod.mk.injEq, Bool.and_eq_true, ileB_iff, blt_iff, ble_iff, lenB_eq, pPart_eq] at h
      obtain ⟨⟨⟨⟨h1, h2⟩, h3⟩, h4⟩, rfl⟩ := h
      refine ⟨_, by simp only [inA, e] <;> rfl, ?_⟩; exact ⟨h1, by omega, h3, agOk_iff h4⟩
    · cases h
  · cases h
def allC (l : List AV) (es : Nat) : Bool :=
  match l with
  | [] => true
  | x :: l => Nat.beq (pcells x) es && allC l es
theorem allC_iff : ∀ {l : List AV} {es : Nat}, allC l es = true → ∀ x ∈ l, x.cells.length = es
  | [], es, _, x, hx => by cases hx
  | y :: l, es, h, x, hx => by
    rw [allC, Bool.and_eq_true, beq_iff, pcells_eq] at h
    rcases List.mem_cons.1 hx with rfl | hx
    · exact h.1
    · exact allC_iff h.2 x hx
def psl (P : Program) (t : TypeId) (x : AV) (lo hi mx : Option AV) : PB :=
  match x with
  | .str s => (match mx with
    | none => (match obA lo 0 with
      | some l => (match obA hi s.length with
        | some h => some (tkB (tk P t) .str && ileB 0 l && ileB l h && ileB h s.length, .str ((s.take h.toNat).drop l.toNat))
        | none => none)
      | none => none)
    | some _ => none)
  | .fz c xs => (match eI P t with
    | some (e, es, by_) => (match obA lo 0 with
      | some l => (match obA hi xs.length with
        | some h => (match mx with
          | none => some (ileB 0 l && ileB l h && ileB h xs.length && allC xs es, .fz (c && ieqB h xs.length) ((xs.take h.toNat).drop l.toNat))
          | some (.int _ m) => some (hi.isSome && ileB 0 l && ileB l h && ileB h m && ileB m xs.length && allC xs es, .fz (ieqB m h) ((xs.take h.toNat).drop l.toNat))
          | _ => none)
        | none => none)
      | none => none)
    | none => none)
  | .sl tt g s off len => (match eI P t with
    | some (e, es, by_) => (match obA hi len with
      | some h => (match mx with
        | none => (match lo with
          | none => some (ileB 0 h && ileB h len, .sl tt g s off h.toNat)
          | some (.int _ l) => some (ileB 0 l && ileB l h && ileB h len && Nat.beq s es, bif ieqB l 0 then .sl tt g s off h.toNat else bif iltB l h then .sl tt g s (off + l.toNat) (h - l).toNat else .fz false [])
          | _ => none)
        | some (.int _ m) => (match obA lo 0 with
          | some l => some (hi.isSome && ieqB l 0 && ileB 0 h && ileB h m && ileB m len, bif ieqB m 0 then .fz true [] else .sl tt g s off h.toNat)
          | none => none)
        | _ => none)
      | none => none)
    | none => none)
  | _ => none
theorem ieqB_iff {a b : Int} : ieqB a b = true ↔ a = b := by simp [ieqB_eq]
theorem psl_ok {P : Program} {t : TypeId} (x : AV) (lo hi mx : Option AV) : Sim (psl P t x lo hi mx) (slA P t x lo hi mx) := by
  intro r h
  cases x <;> simp only [psl] at h <;> try (cases h; done)
  case str s =>
    cases mx with
    | some _ => cases h
    | none =>
      cases e2 : obA lo 0 with
      | none => rw [e2] at h; cases h
      | some l =>
        cases e3 : obA hi s.length with
        | none => rw [e2, e3] at h; cases h
        | some hh =>
          rw [e2, e3] at h
          simp only [Option.some.injEq, Prod.mk.injEq, Bool.and_eq_true, ileB_iff, tkB_iff] at h
          obtain ⟨⟨⟨⟨h1, h2⟩, h3⟩, h4⟩, rfl⟩ := h
          exact ⟨tk P t = .str ∧ 0 ≤ l ∧ l ≤ hh ∧ hh ≤ s.length, by simp only [slA, e2, e3], h1, h2, h3, h4⟩
  case fz c xs =>
    cases e1 : eI P t with
    | none => rw [e1] at h; cases h
    | some q =>
      obtain ⟨e, es, by_⟩ := q
      cases e2 : obA lo 0 with
      | none => rw [e1, e2] at h; cases h
      | some l =>
        cases e3 : obA hi xs.length with
        | none => rw [e1, e2, e3] at h; cases h
        | some hh =>
          rw [e1, e2, e3] at h
          cases mx with
          | none =>
            simp only [Option.some.injEq, Prod.mk.injEq, Bool.and_eq_true, ileB_iff] at h
            obtain ⟨⟨⟨⟨h1, h2⟩, h3⟩, h4⟩, rfl⟩ := h
            exact ⟨0 ≤ l ∧ l ≤ hh ∧ hh ≤ xs.length ∧ (∀ x ∈ xs, x.cells.length = es), by simp only [slA, e1, e2, e3, ieqB_eq]; rfl, h1, h2, h3, allC_iff h4⟩
          | some z =>
            cases z <;> try (cases h; done)
            rename_i k m
            simp only [Option.some.injEq, Prod.mk.injEq, Bool.and_eq_true, ileB_iff] at h
            obtain ⟨⟨⟨⟨⟨⟨h1, h2⟩, h3⟩, h4⟩, h5⟩, h6⟩, rfl⟩ := h
            exact ⟨hi.isSome = true ∧ 0 ≤ l ∧ l ≤ hh ∧ hh ≤ m ∧ m ≤ xs.length ∧ (∀ x ∈ xs, x.cells.length = es), by simp only [slA, e1, e2, e3, ieqB_eq]; rfl, h1, h2, h3, h4, h5, allC_iff h6⟩
  case sl tt g s off len =>
    cases e1 : eI P t with
    | none => rw [e1] at h; cases h
    | some q =>
      obtain ⟨e, es, by_⟩ := q
      cases e3 : obA hi len with
      | none => rw [e1, e3] at h; cases h
      | some hh =>
        rw [e1, e3] at h
        cases mx with
        | none =>
          cases lo with
          | none =>
            simp only [Option.some.injEq, Prod.mk.injEq, Bool.and_eq_true, ileB_iff] at h
            obtain ⟨⟨h1, h2⟩, rfl⟩ := h
            exact ⟨0 ≤ hh ∧ hh ≤ len, by simp only [slA, slOwn, e1, e3], h1, h2⟩
          | some x =>
            cases x <;> try (cases h; done)
            rename_i k l
            simp only [Option.some.injEq, Prod.mk.injEq, Bool.and_eq_true, ileB_iff, beq_iff] at h
            obtain ⟨⟨⟨⟨h1, h2⟩, h3⟩, h4⟩, rfl⟩ := h
            refine ⟨0 ≤ l ∧ l ≤ hh ∧ hh ≤ len ∧ s = es, ?_, h1, h2, h3, h4⟩
            simp only [slA, slOwn, e1, e3, slT, ieqB_eq, iltB_eq]
            by_cases q : l = 0
            · simp [q]
            · have q3 : (l == 0) = false := by simp [q]
              by_cases q2 : l < hh
              · simp [q, q2, q3]
              · simp [q, q2, q3]
        | some x =>
          cases x <;> try (cases h; done)
          rename_i k m
          cases e4 : obA lo 0 with
          | none => rw [e4] at h; cases h
          | some l =>
            rw [e4] at h
            simp only [Option.some.injEq, Prod.mk.injEq, Bool.and_eq_true, ieqB_iff, ileB_iff] at h
            obtain ⟨⟨⟨⟨⟨h1, h2⟩, h3⟩, h4⟩, h5⟩, rfl⟩ := h
            refine ⟨hi.isSome = true ∧ l = 0 ∧ 0 ≤ hh ∧ hh ≤ m ∧ m ≤ len, ?_, h1, h2, h3, h4, h5⟩
            simp only [slA, slOwn, e1, e3, e4, slT3, ieqB_eq]
            by_cases q : m = 0
            · simp [q]
            · have q3 : (m == 0) = false := by simp [q]
              simp [q, q3]
def undI (P : Program) (t : TypeId) : Bool := (P.underlying t).isSome
theorem undI_iff {P : Program} {t : TypeId} (h : undI P t = true) : ∃ d, P.underlying t = some d := Option.isSome_iff_exists.1 h
def pcv (P : Program) (src dst : TypeId) (g : Nat → AObj) (x : AV) : PB :=
  match x with
  | .int k n => (match tk P dst with | .int k' => some (undI P src, .int k' (wrapB k' n)) | .str => (match tk P src with | .int _ => some (true, .str (encA n)) | _ => none) | _ => none)
  | .str s => (match tk P dst with | .str => some (undI P src, .str s) | _ => none)
  | .fz c l => (match tk P src, tk P dst with | .sl e, .str => some (tkB (tk P e) (.int .u8) && l.all isByte, .str (l.map byteOf)) | _, _ => none)
  | .sl t gg s off len => (match tk P src, tk P dst, g t with
    | .sl e, .str, .arr g' s' l => some (tkB (tk P e) (.int .u8) && Nat.beq gg g' && Nat.beq s 1 && Nat.beq s' 1 && Nat.ble (off + len) (lenB l) && l.all isByte, .str (((l.drop off).take len).map byteOf))
    | _, _, _ => none)
  | _ => none
theorem pcv_ok {P : Program} {src dst : TypeId} {m : Mem} (x : AV) : Sim (pcv P src dst m.at x) (cvA P src dst m.L x) := by
  intro r h
  unfold pcv at h
  split at h
  · rename_i k n
    split at h
    · rename_i k' e
      simp only [Option.some.injEq, Prod.mk.injEq, wrapB_eq] at h
      obtain ⟨h1, rfl⟩ := h
      refine ⟨_, by simp only [cvA, e] <;> rfl, ?_⟩; exact undI_iff h1
    · rename_i e
      split at h
      · rename_i k2 e2
        simp only [Option.some.injEq, Prod.mk.injEq, true_and] at h
        subst h
        refine ⟨_, by simp only [cvA, e, e2] <;> rfl, ?_⟩; exact trivial
      · cases h
    · cases h
  · rename_i s
    split at h
    · rename_i e
      simp only [Option.some.injEq, Prod.mk.injEq] at h
      obtain ⟨h1, rfl⟩ := h
      refine ⟨_, by simp only [cvA, e] <;> rfl, ?_⟩; exact undI_iff h1
    · cases h
  · rename_i c l
    split at h
    · rename_i e e1 e2
      simp only [Option.some.injEq, Prod.mk.injEq, Bool.and_eq_true, tkB_iff] at h
      obtain ⟨⟨h1, h2⟩, rfl⟩ := h
      refine ⟨_, by simp only [cvA, e1, e2] <;> rfl, ?_⟩; exact ⟨h1, h2⟩
    · cases h
  · rename_i t gg s off len
    split at h
    · rename_i e g' s' l e1 e2 e3
      simp only [Option.some.injEq, Prod.mk.injEq, Bool.and_eq_true, tkB_iff, beq_iff, ble_iff, lenB_eq] at h
      obtain ⟨⟨⟨⟨⟨⟨h1, h2⟩, h3⟩, h4⟩, h5⟩, h6⟩, rfl⟩ := h
      have := m.at_get (k := t) (by rw [e3]; simp)
      rw [e3] at this
      refine ⟨_, by simp only [cvA, e1, e2, this] <;> rfl, ?_⟩; exact ⟨h1, h2, h3, h4, h5, h6⟩
    · cases h
  · cases h
def punA (op : UnOp) (x : AV) : PB :=
  match op, x with
  | .neg, .int k n => some (true, .int k (wrapB k (0 - n)))
  | .not, .bool b => some (true, .bool (!b))
  | .xor, .int k n => some (true, .int k (intBitsA .xor k (if k.signed then -1 else k.max) n))
  | _, _ => none
theorem punA_ok (op : UnOp) (x : AV) : Sim (punA op x) (unA op x) := by
  unfold punA unA
  split <;> first | exact Sim.none _ | exact Sim.some (fun _ => trivial) (by simp only [wrapB_eq]) | exact Sim.some (fun _ => trivial) rfl
def pncA (x : AV) : PB :=
  match x with
  | .ptr y => some (true, .ptr y)
  | .ref t g s i j => some (true, .ref t g s i j)
  | .func (.func f) fs cs => some (true, .func (.func f) fs cs)
  | _ => none
theorem pncA_ok (x : AV) : Sim (pncA x) (ncA x) := by
  unfold pncA ncA
  split <;> first | exact Sim.none _ | exact Sim.some (fun _ => trivial) rfl
def ptaA (P : Program) (x : AV) (t : TypeId) (ok : Bool) : PB :=
  match x with
  | .iface t' y => some (Nat.beq t' t && P.concrete t, if ok then .tup [y, .bool true] else y)
  | _ => none
theorem ptaA_ok (P : Program) (x : AV) (t : TypeId) (ok : Bool) : Sim (ptaA P x t ok) (taA P x t ok) := by
  unfold ptaA taA
  split
  · refine Sim.some (fun h => ?_) rfl
    rw [Bool.and_eq_true, beq_iff] at h; exact h
  · exact Sim.none _
def pexA (x : AV) (i : Nat) : PB :=
  match x with
  | .tup vs => some (Nat.blt i (lenB vs), nthA vs i)
  | _ => none
theorem pexA_ok (x : AV) (i : Nat) : Sim (pexA x i) (exA x i) := by
  unfold pexA exA
  split
  · refine Sim.some (fun h => ?_) (by rw [nthA_eq])
    rw [blt_iff, lenB_eq] at h; exact h
  · exact Sim.none _
def sures : List (Nat × AV) → Bool
  | [] => true
  | x :: l => x.2.sure && sures l
theorem sures_eq : ∀ l : List (Nat × AV), sures l = l.all fun x => x.2.sure
  | [] => rfl
  | x :: l => by simp [sures, sures_eq l]
def pbuA (bi : Option (List (Nat × Nat) × List AV)) (parts : List (Nat × AV)) : PB :=
  match bi with
  | some (ps, z) => (match fillA ps z parts with | some r => some (sures parts, .agg r) | none => none)
  | none => none
theorem pbuA_ok (P : Program) (t : TypeId) (parts : List (Nat × AV)) : Sim (pbuA (bI P t) parts) (buA P t parts) := by
  intro r h
  unfold pbuA at h
  split at h
  · rename_i ps z e
    split at h
    · rename_i q e2
      simp only [Option.some.injEq, Prod.mk.injEq, sures_eq] at h
      obtain ⟨h1, rfl⟩ := h
      refine ⟨_, by simp only [buA, e, e2] <;> rfl, ?_⟩; exact h1
    · cases h
  · cases h
def isSl : TK → Bool
  | .sl _ => true
  | _ => false
theorem isSl_iff {d : TK} (h : isSl d = true) : ∃ e, d = .sl e := by cases d <;> simp [isSl] at h; exact ⟨_, rfl⟩
def pbltA (P : Program) (b : Builtin) (ts : Array TypeId) (xs : List AV) : PB :=
  match b, xs with
  | .len, [x] => (match x with
    | .str s => some (tkB (tk P (ts.getD 0 0)) .str, .int .i64 (lenB s))
    | .fz c l => some (isSl (tk P (ts.getD 0 0)), .int .i64 (lenB l))
    | .sl _ _ _ _ n => some (isSl (tk P (ts.getD 0 0)), .int .i64 n)
    | _ => none)
  | .min, [.int k a, .int k' b] => some (true, .int k (bif iltB b a then b else a))
  | .max, [.int k a, .int k' b] => some (true, .int k (bif iltB a b then b else a))
  | .cap, [.fz true l] => some (isSl (tk P (ts.getD 0 0)), .int .i64 (lenB l))
  | _, _ => none
theorem pbltA_ok (P : Program) (b : Builtin) (ts : Array TypeId) (xs : List AV) : Sim (pbltA P b ts xs) (bltA P b ts xs) := by
  intro r h
  unfold pbltA at h
  split at h
  · split at h
    · simp only [Option.some.injEq, Prod.mk.injEq, lenB_eq, tkB_iff] at h
      obtain ⟨h1, rfl⟩ := h
      exact ⟨_, rfl, h1⟩
    · simp only [Option.some.injEq, Prod.mk.injEq, lenB_eq] at h
      obtain ⟨h1, rfl⟩ := h
      exact ⟨_, rfl, isSl_iff h1⟩
    · simp only [Option.some.injEq, Prod.mk.injEq] at h
      obtain ⟨h1, rfl⟩ := h
      exact ⟨_, rfl, isSl_iff h1⟩
    · cases h
  · rename_i k a k' b
    simp only [Option.some.injEq, Prod.mk.injEq, true_and] at h
    subst h
    exact ⟨True, by simp only [bltA, mnA, iltB_eq, Bool.cond_decide], trivial⟩
  · rename_i k a k' b
    simp only [Option.some.injEq, Prod.mk.injEq, true_and] at h
    subst h
    exact ⟨True, by simp only [bltA, mxA, iltB_eq, Bool.cond_decide, gt_iff_lt], trivial⟩
  · simp only [Option.some.injEq, Prod.mk.injEq, lenB_eq] at h
    obtain ⟨h1, rfl⟩ := h
    exact ⟨_, rfl, isSl_iff h1⟩
  · cases h
def porP (a b : PB) : PB :=
  match a with
  | some r => some r
  | none => b
end Go.Proofs.Vale

set_option linter.unusedVariables false
set_option linter.unusedSimpArgs false
namespace Go.Proofs.Vale

/-! ### One operation -/
inductive OV where
  | none
  | val (x : AV) (m : Mem)

theorem bifv {b : Bool} {X : OV} {x : AV} {m' : Mem} (h : (bif b then X else OV.none) = .val x m') : b = true ∧ X = .val x m' := by
  cases b with
  | false => cases h
  | true => exact ⟨rfl, h⟩
def mapB {α β : Type} (f : α → β) : List α → List β
  | [] => []
  | a :: l => f a :: mapB f l
def ppop (P : Program) (op : Op) (ev : Operand → AV) (g : Nat → AObj) : PB :=
  match op with
  | .move x => some (true, ev x)
  | .assign x => some (true, ev x)
  | .load t x => pld (tI P t) g (ev x)
  | .nilCheck x => pncA (ev x)
  | .binOp op t x y _ => porP (pbin op (ev x) (ev y)) (peqR op (peqo P t (ev x) (ev y)))
  | .unOp op _ x => punA op (ev x)
  | .convert s d x => pcv P s d g (ev x)
  | .makeInterface t x => some (P.concrete t, .iface t (ev x))
  | .makeFunc fn f c => some (true, .func fn (f.toList.map ev) (c.toList.map ev))
  | .slice t x lo hi mx => psl P t (ev x) (lo.map ev) (hi.map ev) (mx.map ev)
  | .fieldAddr s x f => pfa (fI P s f) (ev x)
  | .field s x f => pfd (fI P s f) (ev x)
  | .indexAddr t x i => pix (eI P t) (aI P t) (ev x) (ev i)
  | .index t x i => pin P t (ev x) (ev i)
  | .typeAssert x _ t ok => ptaA P (ev x) t ok
  | .extract x i => pexA (ev x) i
  | .build t parts => pbuA (bI P t) (parts.toList.map fun x => (x.1, ev x.2))
  | .call c => (match c.callee with | .builtin b => if c.argTypes.size = 0 then none else pbltA P b c.argTypes (c.args.toList.map ev) | _ => none)
  | _ => none
theorem ppop_ok {P : Program} {op : Op} {ev : Operand → AV} {m : Mem} : Sim (ppop P op ev m.at) (pop P op ev m.L) := by
  unfold ppop pop
  cases op <;> simp only <;> try exact Sim.none _
  case move => exact Sim.some (fun _ => trivial) rfl
  case assign => exact Sim.some (fun _ => trivial) rfl
  case load => exact pld_ok _
  case nilCheck => exact pncA_ok _
  case binOp op t x y yt =>
    intro r h
    unfold porP at h
    split at h
    · rename_i q e
      injection h with h; subst h
      obtain ⟨p, hp, hpp⟩ := pbin_ok _ _ _ _ e
      exact ⟨p, by rw [hp]; rfl, hpp⟩
    · rename_i e
      obtain ⟨p, hp, hpp⟩ := peqR_ok _ _ _ _ _ _ h
      have hn : bin op (ev x) (ev y) = none := by
        cases e2 : bin op (ev x) (ev y) with
        | none => rfl
        | some q =>
          exfalso
          revert e2 e hp
          unfold bin pbin eqR eqo
          cases ev x <;> cases ev y <;> simp <;> cases op <;> simp
      exact ⟨p, by rw [hn]; exact hp, hpp⟩
  case unOp => exact punA_ok _ _
  case convert => exact pcv_ok _
  case makeInterface => exact Sim.some (fun h => h) rfl
  case makeFunc => exact Sim.some (fun _ => trivial) rfl
  case slice => exact psl_ok _ _ _ _
  case fieldAddr => exact pfa_ok _
  case field => exact pfd_ok _
  case indexAddr => exact pix_ok _ _
  case index => exact pin_ok _ _
  case typeAssert => exact ptaA_ok _ _ _ _
  case extract => exact pexA_ok _ _
  case build => exact pbuA_ok _ _ _
  case call c =>
    split
    · split
      · exact Sim.none _
      · rename_i b hcb _
        have := pbltA_ok P b c.argTypes (c.args.toList.map ev)
        rename_i hz
        simp only [hcb]
        exact this
    · exact Sim.none _

/-- Which of two values is taken, whatever they are. -/
theorem OpK_pick {P : Program} {o : Oper} {c x y : Operand} {ev : Operand → AV} {h : List AObj} {b : Bool} {K : AV → List AObj → Prop} (ho : o.op = .pick c x y) (hc : ev c = .bool b) (k : K (if b then ev x else ev y) h) : OpK P o ev h K := by
  refine OpK.of_run fun a w β fr L hr => ?_
  rw [ho] at hr
  have h1 := hr c (by simp [Op.operands])
  have h2 := hr x (by simp [Op.operands])
  have h3 := hr y (by simp [Op.operands])
  rw [hc] at h1; simp only [Rep] at h1
  refine ⟨if b then a.eval x else a.eval y, _, w, h, β, fr, .inl ?_, k, L, ?_, Step1.refl _ _ _ _⟩
  · simp only [execOp, ho, h1]
    cases b <;> simp [asBool]
  · cases b
    · exact h3
    · exact h2

/-! Memory -/
def pbx (x : AV) (m : Mem) : OV :=
  bif x.sure && m.ok then .val (.ref m.n 0 (pcells x) 0 0) (m.push (.arr 0 (pcells x) [x])) else .none
def Told (r : OV) (G : (AV → List AObj → Prop) → Prop) (m : Mem) : Prop := ∀ x m', r = .val x m' → G fun y g => y = x ∧ g = m'.L
theorem pbx_ok (x : AV) (m : Mem) : Told (pbx x m) (bxK x m.L) m := by
  intro r m' h
  unfold pbx at h
  cases e : x.sure && m.ok with
  | false => rw [e] at h; cases h
  | true =>
    rw [e] at h
    simp only [cond_true, OV.val.injEq] at h
    obtain ⟨rfl, rfl⟩ := h
    rw [Bool.and_eq_true] at e
    rw [pcells_eq]
    exact ⟨e.1, by rw [m.L_len], by rw [Mem.push_L _ e.2]⟩
def pst (ti : Option (Nat × Bool)) (a x : AV) (m : Mem) : OV :=
  match ti, a with
  | some (n, ag), .ref tt g s i j =>
    (match m.at tt with
    | .arr g' s' l => let e := nthA l i
      bif Nat.beq g g' && Nat.beq s s' && Nat.blt i (lenB l) && x.sure && Nat.beq (pcells x) n && Nat.blt 0 n && Nat.ble (j + n) (pcells e) && x.cells.all AV.one && m.ok
      then .val (.tup []) (m.set tt (.arr g' s' (setA l i (upA e j x)))) else .none
    | _ => .none)
  | _, _ => .none
theorem Mem.at_lt {m : Mem} {k : Nat} (h : m.at k ≠ .dead) : k < m.n := by
  unfold Mem.at at h
  cases e : Nat.blt k m.n with
  | true => exact blt_iff.1 e
  | false => rw [e] at h; exact absurd rfl h
theorem pst_ok {P : Program} {t : TypeId} (a x : AV) (m : Mem) : Told (pst (tI P t) a x m) (stK P t a x m.L) m := by
  intro r m' h
  unfold pst at h
  split at h
  · rename_i n ag tt g s i j e
    split at h
    · rename_i g' s' l hg
      obtain ⟨hb, h⟩ := bifv h
      · simp only [OV.val.injEq] at h
        obtain ⟨rfl, rfl⟩ := h
        simp only [Bool.and_eq_true, beq_iff, blt_iff, ble_iff, pcells_eq, lenB_eq, nthA_eq] at hb
        obtain ⟨⟨⟨⟨⟨⟨⟨⟨h1, h2⟩, h3⟩, h4⟩, h5⟩, h6⟩, h7⟩, h8⟩, h9⟩ := hb
        have hd : m.at tt ≠ .dead := by rw [hg]; simp
        have hget := m.at_get hd
        rw [hg] at hget
        simp only [stK, e, hget]
        refine ⟨⟨h1, h2, h3, h4, h5, h6, h7, h8⟩, by trivial, ?_⟩
        rw [Mem.set_L _ h9 (m.at_lt hd), setA_eq, nthA_eq]
    · cases h
  · cases h
def bytesB : List UInt8 → List AV
  | [] => []
  | b :: l => .int .u8 b.toNat :: bytesB l
theorem bytesB_eq : ∀ l, bytesB l = bytesA l
  | [] => rfl
  | b :: l => by simp [bytesB, bytesA, bytesB_eq l]
def psb (P : Program) (dst : TypeId) (x : AV) (m : Mem) : OV :=
  match x, tk P dst with
  | .str s, .sl e => bif tkB (tk P e) (.int .u8) && m.ok then .val (.sl m.n 0 1 0 (lenB s)) (m.push (.arr 0 1 (bytesB s))) else .none
  | _, _ => .none
theorem psb_ok {P : Program} {dst : TypeId} (x : AV) (m : Mem) : Told (psb P dst x m) (sbK P dst x m.L) m := by
  intro r m' h
  unfold psb at h
  split at h
  · rename_i s e e1
    cases hb : tkB (tk P e) (.int .u8) && m.ok with
    | false => rw [hb] at h; cases h
    | true =>
      rw [hb] at h
      simp only [cond_true, OV.val.injEq] at h
      obtain ⟨rfl, rfl⟩ := h
      rw [Bool.and_eq_true, tkB_iff] at hb
      simp only [sbK, e1]
      exact ⟨hb.1, by rw [m.L_len, lenB_eq], by rw [Mem.push_L _ hb.2, bytesB_eq]⟩
  · cases h
def isRgB : Nat → List (Nat × AV) → Nat → Nat → Bool
  | k, [], n, _ => Nat.beq k n
  | k, x :: l, n, s => Nat.beq x.1 k && x.2.sure && Nat.beq (pcells x.2) s && isRgB (k + 1) l n s
theorem isRgB_ok : ∀ (l : List (Nat × AV)) (k n s : Nat), isRgB k l n s = true → k ≤ n ∧ l.map (·.1) = List.range' k (n - k) ∧ (l.all fun x => x.2.sure && x.2.cells.length == s) = true
  | [], k, n, s, h => by
    simp only [isRgB, beq_iff] at h; subst h; simp
  | x :: l, k, n, s, h => by
    simp only [isRgB, Bool.and_eq_true, beq_iff, pcells_eq] at h
    obtain ⟨⟨⟨h1, h2⟩, h3⟩, h4⟩ := h
    obtain ⟨h5, h6, h7⟩ := isRgB_ok l (k + 1) n s h4
    refine ⟨by omega, ?_, ?_⟩
    · rw [List.map_cons, h6, h1, show n - k = (n - (k + 1)) + 1 by omega, List.range'_succ]
    · rw [List.all_cons, h7, h2, h3]; simp
def pbs (ei : Option (TypeId × Nat × Nat)) (n : Nat) (parts : List (Nat × AV)) (m : Mem) : OV :=
  match ei with
  | some (e, s, by_) => bif Nat.ble (n * s) 16777216 && isRgB 0 parts n s && m.ok then .val (.sl m.n 0 s 0 n) (m.push (.arr 0 s (parts.map (·.2)))) else .none
  | none => .none
theorem pbs_ok {P : Program} {t n : Nat} (parts : List (Nat × AV)) (m : Mem) : Told (pbs (eI P t) n parts m) (bsK P t n parts m.L) m := by
  intro r m' h
  unfold pbs at h
  split at h
  · rename_i e s by_ e1
    cases hb : Nat.ble (n * s) 16777216 && isRgB 0 parts n s && m.ok with
    | false => rw [hb] at h; cases h
    | true =>
      rw [hb] at h
      simp only [cond_true, OV.val.injEq] at h
      obtain ⟨rfl, rfl⟩ := h
      simp only [Bool.and_eq_true, ble_iff] at hb
      obtain ⟨⟨h1, h2⟩, h3⟩ := hb
      obtain ⟨h4, h5, h6⟩ := isRgB_ok _ _ _ _ h2
      simp only [bsK, e1]
      exact ⟨⟨h1, by rw [h5, List.range_eq_range']; rfl, h6⟩, by rw [m.L_len], by rw [Mem.push_L _ h3]⟩
  · cases h
/-- Written out in values that name no memory of the call's own: frozen at once. -/
def bsv (parts : List (Nat × AV)) : Bool := lowL 0 (parts.map (·.2))
def pbz (ei : Option (TypeId × Nat × Nat)) (n : Nat) (parts : List (Nat × AV)) (m : Mem) : OV :=
  match ei with
  | some (e, s, by_) => bif Nat.ble (n * s) 16777216 && isRgB 0 parts n s then .val (.fz true (parts.map (·.2))) m else .none
  | none => .none
theorem pbz_ok {P : Program} {t n : Nat} {parts : List (Nat × AV)} {m m' : Mem} {r : AV} (h : pbz (eI P t) n parts m = .val r m') : bsK P t n parts m.L (fun _ _ => True) ∧ r = .fz true (parts.map (·.2)) ∧ m' = m := by
  unfold pbz at h
  split at h
  · rename_i e s by_ e1
    cases hb : Nat.ble (n * s) 16777216 && isRgB 0 parts n s with
    | false => rw [hb] at h; cases h
    | true =>
      rw [hb] at h
      simp only [cond_true, OV.val.injEq] at h
      obtain ⟨rfl, rfl⟩ := h
      simp only [Bool.and_eq_true, ble_iff] at hb
      obtain ⟨h1, h2⟩ := hb
      obtain ⟨h4, h5, h6⟩ := isRgB_ok _ _ _ _ h2
      refine ⟨?_, rfl, rfl⟩
      simp only [bsK, e1]
      exact ⟨⟨h1, by rw [h5, List.range_eq_range']; rfl, h6⟩, trivial⟩
  · cases h
/-! append -/
def prd (g : Nat → AObj) (x : AV) : Option (Bool × List AV) :=
  match x with
  | .fz c l => some (true, l)
  | .sl t gg s off len => (match g t with | .arr g' s' l => some (Nat.beq gg g' && Nat.beq s s' && Nat.ble (off + len) (lenB l), (l.drop off).take len) | _ => none)
  | .str s => some (true, bytesB s)
  | _ => none
theorem prd_ok {m : Mem} {x : AV} {l : List AV} (h : prd m.at x = some (true, l)) : ∃ p, rdA m.L x = some (p, l) ∧ p := by
  unfold prd at h
  split at h
  · simp only [Option.some.injEq, Prod.mk.injEq, true_and] at h; subst h; exact ⟨True, rfl, trivial⟩
  · rename_i t gg s off len
    split at h
    · rename_i g' s' l' hg
      simp only [Option.some.injEq, Prod.mk.injEq, Bool.and_eq_true, beq_iff, ble_iff, lenB_eq] at h
      obtain ⟨⟨⟨h1, h2⟩, h3⟩, rfl⟩ := h
      have hget := m.at_get (k := t) (by rw [hg]; simp)
      rw [hg] at hget
      exact ⟨gg = g' ∧ s = s' ∧ off + len ≤ l'.length, by simp only [rdA, hget], h1, h2, h3⟩
    · cases h
  · rename_i s
    simp only [Option.some.injEq, Prod.mk.injEq, true_and, bytesB_eq] at h; subst h; exact ⟨True, rfl, trivial⟩
  · cases h
def okEls (s : Nat) : List AV → Bool
  | [] => true
  | y :: l => Nat.beq (pcells y) s && y.cells.all AV.one && okEls s l
theorem okEls_eq (s : Nat) : ∀ l, okEls s l = l.all (okEl s)
  | [] => rfl
  | y :: l => by
    rw [okEls, List.all_cons, okEls_eq s l, okEl, pcells_eq]
    have : Nat.beq y.cells.length s = (y.cells.length == s) := by rw [Bool.eq_iff_iff]; simp
    rw [this]
theorem allC_eq : ∀ (l : List AV) (s : Nat), allC l s = (l.all fun y => y.cells.length == s)
  | [], s => rfl
  | y :: l, s => by
    rw [allC, List.all_cons, allC_eq l s, pcells_eq]
    have : Nat.beq y.cells.length s = (y.cells.length == s) := by rw [Bool.eq_iff_iff]; simp
    rw [this]
def isNilL : List AV → Bool
  | [] => true
  | _ => false
def pap (P : Program) (ts : Array TypeId) (a x : AV) (m : Mem) : OV :=
  match eI P (ts.getD 0 0), a with
  | some (e, s, by_), .sl t g s' off len =>
    (match prd m.at x with
    | some (true, ys) =>
      (match m.at t with
      | .arr g' s'' l => let n := lenB l + lenB ys
        bif apTy P ts && Nat.beq g g' && Nat.beq s' s && Nat.beq s'' s && Nat.beq off 0 && Nat.beq len (lenB l) && Nat.ble ((n + 96) * by_) 140737488355328 && Nat.ble n 4611686018427387904 && okEls s ys && m.ok
        then .val (.sl t (g + 1) s 0 n) (m.set t (.arr (g + 1) s (l ++ ys))) else .none
      | _ => .none)
    | _ => .none)
  | some (e, s, by_), .fz true l =>
    (match prd m.at x with
    | some (true, ys) => let n := lenB l + lenB ys
      bif apTy P ts && Nat.ble ((n + 96) * by_) 140737488355328 && Nat.ble n 4611686018427387904 && okEls s ys && allC l s && m.ok
      then (match isNilL ys with
        | true => .val (.fz true l) m
        | false => .val (.sl m.n 0 s 0 n) (m.push (.arr 0 s (l ++ ys)))) else .none
    | _ => .none)
  | _, _ => .none
theorem pap_ok {P : Program} {ts : Array TypeId} (a x : AV) (m : Mem) : Told (pap P ts a x m) (apK P ts a x m.L) m := by
  intro r m' h
  unfold pap at h
  split at h
  · rename_i e s by_ t g s' off len e1
    split at h
    · rename_i ys e2
      obtain ⟨p, hp, hpp⟩ := prd_ok e2
      split at h
      · rename_i g' s'' l hg
        obtain ⟨hb, h⟩ := bifv h
        · simp only [OV.val.injEq] at h
          obtain ⟨rfl, rfl⟩ := h
          simp only [Bool.and_eq_true, beq_iff, ble_iff, lenB_eq, okEls_eq] at hb
          obtain ⟨⟨⟨⟨⟨⟨⟨⟨⟨h1, h2⟩, h3⟩, h4⟩, h5⟩, h6⟩, h7⟩, h8⟩, h9⟩, h10⟩ := hb
          have hd : m.at t ≠ .dead := by rw [hg]; simp
          have hget := m.at_get hd
          rw [hg] at hget
          simp only [apK, e1, hp, hget]
          exact ⟨⟨h1, hpp, h2, h3, h4, h5, h6, h7, h8, h9⟩, by rw [lenB_eq, lenB_eq], by rw [Mem.set_L _ h10 (m.at_lt hd)]⟩
      · cases h
    · cases h
  · rename_i e s by_ l e1
    split at h
    · rename_i ys e2
      obtain ⟨p, hp, hpp⟩ := prd_ok e2
      obtain ⟨hb, h⟩ := bifv h
      · simp only [Bool.and_eq_true, ble_iff, lenB_eq, okEls_eq, allC_eq] at hb
        obtain ⟨⟨⟨⟨⟨h1, h2⟩, h3⟩, h4⟩, h5⟩, h6⟩ := hb
        simp only [apK, e1, hp]
        refine ⟨⟨h1, hpp, h2, h3, h4, h5⟩, ?_⟩
        cases ys with
        | nil =>
          simp only [isNilL, OV.val.injEq] at h
          obtain ⟨rfl, rfl⟩ := h
          exact ⟨fun _ => ⟨rfl, rfl⟩, fun q => absurd rfl q⟩
        | cons y ys =>
          simp only [isNilL, OV.val.injEq] at h
          obtain ⟨rfl, rfl⟩ := h
          exact ⟨fun q => (by cases q), fun _ => ⟨by rw [m.L_len, lenB_eq, lenB_eq], by rw [Mem.push_L _ h6]⟩⟩
    · cases h
  · cases h
/-! Runes of a text; maps -/
def prg (P : Program) (t : TypeId) (x : AV) (m : Mem) : OV :=
  match tk P t, x with
  | .str, .str s => bif m.ok then .val (.it m.n) (m.push (.it s 0)) else .none
  | .map _ _, .mp mt => (match m.at mt with
    | .map l => bif m.ok then .val (.it m.n) (m.push (.mit (some mt) (lenB l) [])) else .none
    | _ => .none)
  | .map _ _, .nilm => bif m.ok then .val (.it m.n) (m.push (.mit none 0 [])) else .none
  | _, _ => .none
theorem prg_ok {P : Program} {t : TypeId} (x : AV) (m : Mem) : Told (prg P t x m) (rgK P t x m.L) m := by
  intro r m' h
  unfold prg at h
  split at h
  · rename_i s e
    cases hb : m.ok with
    | false => rw [hb] at h; cases h
    | true =>
      rw [hb] at h
      simp only [cond_true, OV.val.injEq] at h
      obtain ⟨rfl, rfl⟩ := h
      simp only [rgK, e]
      exact ⟨by rw [m.L_len], by rw [Mem.push_L _ hb]⟩
  · rename_i mt e
    split at h
    · rename_i l hg
      have hget := m.at_get (k := mt) (by rw [hg]; simp)
      rw [hg] at hget
      cases hb : m.ok with
      | false => rw [hb] at h; cases h
      | true =>
        rw [hb] at h
        simp only [cond_true, OV.val.injEq] at h
        obtain ⟨rfl, rfl⟩ := h
        simp only [rgK, e, hget]
        exact ⟨by rw [m.L_len], by rw [Mem.push_L _ hb, lenB_eq]⟩
    · cases h
  · rename_i e
    cases hb : m.ok with
    | false => rw [hb] at h; cases h
    | true =>
      rw [hb] at h
      simp only [cond_true, OV.val.injEq] at h
      obtain ⟨rfl, rfl⟩ := h
      simp only [rgK, e]
      exact ⟨by rw [m.L_len], by rw [Mem.push_L _ hb]⟩
  · cases h
/-- What has not been seen yet, below n. -/
def memB (k : Nat) : List Nat → Bool
  | [] => false
  | x :: l => bif Nat.beq k x then true else memB k l
theorem memB_iff {k : Nat} : ∀ {l : List Nat}, memB k l = true ↔ k ∈ l
  | [] => by simp [memB]
  | x :: l => by
    rw [memB, List.mem_cons]
    cases h : Nat.beq k x with
    | true => simp [beq_iff.1 h]
    | false => simp only [cond_false]; rw [memB_iff]; exact ⟨.inr, fun q => q.resolve_left fun e => by rw [beq_iff.2 e] at h; cases h⟩
def unseen (seen : List Nat) : Nat → List Nat
  | 0 => []
  | n + 1 => bif memB n seen then unseen seen n else n :: unseen seen n
theorem mem_unseen {seen : List Nat} {i : Nat} : ∀ {n : Nat}, i ∈ unseen seen n ↔ i < n ∧ i ∉ seen
  | 0 => by simp [unseen]
  | n + 1 => by
    rw [unseen]
    cases h : memB n seen with
    | true =>
      simp only [cond_true]
      rw [mem_unseen]
      refine ⟨fun ⟨a, b⟩ => ⟨by omega, b⟩, fun ⟨a, b⟩ => ⟨?_, b⟩⟩
      rcases Nat.lt_succ_iff_lt_or_eq.1 a with q | rfl
      · exact q
      · exact absurd (memB_iff.1 h) b
    | false =>
      simp only [cond_false, List.mem_cons]
      rw [mem_unseen]
      constructor
      · rintro (rfl | ⟨a, b⟩)
        · exact ⟨by omega, fun q => by rw [memB_iff.2 q] at h; cases h⟩
        · exact ⟨by omega, b⟩
      · rintro ⟨a, b⟩
        rcases Nat.lt_succ_iff_lt_or_eq.1 a with q | rfl
        · exact .inr ⟨q, b⟩
        · exact .inl rfl
def pairAt (l : List (AV × AV)) (i : Nat) : AV × AV := l.getD i (.any, .any)
def pnm (t : Nat) (m : Mem) : AObj → OV
  | .ctl (.mit o n seen) => (match o with
    | none => .val (.tup [.bool false]) m
    | some mt => (match m.at mt with
      | .map l => bif Nat.beq (lenB l) n && m.ok then (match unseen seen n with
        | [] => .val (.tup [.bool false]) m
        | [i] => .val (.tup [.bool true, (pairAt l i).1, (pairAt l i).2]) (m.set t (.mit (some mt) n (seen ++ [i])))
        | _ => .none) else .none
      | _ => .none))
  | _ => .none
theorem pnm_ok (t : Nat) (m : Mem) : Told (pnm t m (m.at t)) (nxK (.it t) false m.L) m := by
  intro r m' h
  cases hg : m.at t with
  | ctl c =>
   cases c with
   | loop _ _ _ _ _ => rw [hg] at h; cases h
   | mit o n seen =>
    have hd : m.at t ≠ .dead := by rw [hg]; simp
    have hget := m.at_get hd
    rw [hg] at hget h
    cases o with
    | none =>
      simp only [pnm, OV.val.injEq] at h
      obtain ⟨rfl, rfl⟩ := h
      unfold nxK
      simp only [hget]
      trivial
    | some mt =>
      simp only [pnm] at h
      split at h
      · rename_i l hgm
        have hgetm := m.at_get (k := mt) (by rw [hgm]; simp)
        rw [hgm] at hgetm
        unfold nxK
        simp only [hget, hgetm]
        cases hb : (Nat.beq (lenB l) n && m.ok) with
        | false => rw [hb] at h; cases h
        | true =>
          rw [hb] at h
          rw [Bool.and_eq_true, beq_iff, lenB_eq] at hb
          simp only [cond_true] at h
          refine ⟨hb.1, ?_⟩
          split at h
          · rename_i hu
            simp only [OV.val.injEq] at h
            obtain ⟨rfl, rfl⟩ := h
            refine ⟨fun i h1 h2 => ?_, fun _ => ⟨rfl, rfl⟩⟩
            have := (mem_unseen (seen := seen) (i := i) (n := n)).2 ⟨h1, h2⟩
            rw [hu] at this; simp at this
          · rename_i i hu
            simp only [OV.val.injEq] at h
            obtain ⟨rfl, rfl⟩ := h
            have hi := (mem_unseen (seen := seen) (i := i) (n := n)).1 (by rw [hu]; simp)
            refine ⟨fun j h1 h2 => ?_, fun q => absurd (q i hi.1) hi.2⟩
            have := (mem_unseen (seen := seen) (i := j) (n := n)).2 ⟨h1, h2⟩
            rw [hu, List.mem_singleton] at this
            subst this
            exact ⟨rfl, by rw [Mem.set_L _ hb.2 (m.at_lt hd)]⟩
          · cases h
      · cases h
  | _ => rw [hg] at h; cases h
def pen (x : AV) (g : Nat → AObj) : Option AV :=
  match x with
  | .it t => (match g t with
    | .ctl (.mit o n seen) => (match o with
      | none => none
      | some mt => (match seen.getLast? with
        | none => none
        | some i => (match g mt with
          | .map l => bif Nat.beq (lenB l) n && Nat.blt i n then some (.tup [(pairAt l i).1, (pairAt l i).2]) else none
          | _ => none)))
    | _ => none)
  | _ => none
theorem pen_ok {x r : AV} {m : Mem} (h : pen x m.at = some r) : enK x m.L fun y g => y = r ∧ g = m.L := by
  unfold pen at h
  split at h
  case h_2 => cases h
  rename_i t
  cases hg : m.at t with
  | ctl c =>
   cases c with
   | loop _ _ _ _ _ => rw [hg] at h; cases h
   | mit o n seen =>
    have hget := m.at_get (k := t) (by rw [hg]; simp)
    rw [hg] at hget h
    simp only at h
    cases o with
    | none => cases h
    | some mt =>
      simp only at h
      cases hl : seen.getLast? with
      | none => rw [hl] at h; cases h
      | some i =>
        rw [hl] at h
        simp only at h
        split at h
        · rename_i l hgm
          have hgetm := m.at_get (k := mt) (by rw [hgm]; simp)
          rw [hgm] at hgetm
          simp only [enK, hget, hl, hgetm]
          cases hb : (Nat.beq (lenB l) n && Nat.blt i n) with
          | false => rw [hb] at h; cases h
          | true =>
            rw [hb] at h
            rw [Bool.and_eq_true, beq_iff, lenB_eq, blt_iff] at hb
            simp only [cond_true, Option.some.injEq] at h
            subst h
            exact ⟨hb, rfl, trivial⟩
        · cases h
  | _ => rw [hg] at h; cases h
def pnx (x : AV) (b : Bool) (m : Mem) : OV :=
  match x, b with
  | .it t, true => (match m.at t with
    | .it s pos => bif Nat.blt pos (lenB s) then (let d := dcA s pos; bif m.ok then .val (.tup [.bool true, .int .i64 pos, .int .i32 d.1]) (m.set t (.it s (pos + d.2))) else .none) else .val (.tup [.bool false]) m
    | _ => .none)
  | .it t, false => pnm t m (m.at t)
  | _, _ => .none
theorem pnx_ok (x : AV) (b : Bool) (m : Mem) : Told (pnx x b m) (nxK x b m.L) m := by
  intro r m' h
  unfold pnx at h
  split at h
  · rename_i t
    split at h
    · rename_i s pos hg
      have hd : m.at t ≠ .dead := by rw [hg]; simp
      have hget := m.at_get hd
      rw [hg] at hget
      simp only [nxK, hget]
      cases hb : Nat.blt pos (lenB s) with
      | true =>
        rw [hb] at h
        rw [blt_iff, lenB_eq] at hb
        cases hk : m.ok with
        | false => rw [hk] at h; cases h
        | true =>
          rw [hk] at h
          simp only [cond_true, OV.val.injEq] at h
          obtain ⟨rfl, rfl⟩ := h
          exact ⟨fun _ => ⟨rfl, by rw [Mem.set_L _ hk (m.at_lt hd)]⟩, fun q => by omega⟩
      | false =>
        have hb2 : ¬ pos < s.length := fun q => by rw [← lenB_eq, ← blt_iff, hb] at q; cases q
        rw [hb] at h
        simp only [cond_false, OV.val.injEq] at h
        obtain ⟨rfl, rfl⟩ := h
        exact ⟨fun q => absurd q hb2, fun _ => ⟨rfl, rfl⟩⟩
    · cases h
  · rename_i t
    exact pnm_ok t m _ _ h
  · cases h
def pmm (m : Mem) : OV := bif m.ok then .val (.mp m.n) (m.push (.map [])) else .none
theorem pmm_ok (m : Mem) : Told (pmm m) (mmK m.L) m := by
  intro r m' h
  unfold pmm at h
  cases hb : m.ok with
  | false => rw [hb] at h; cases h
  | true =>
    rw [hb] at h
    simp only [cond_true, OV.val.injEq] at h
    obtain ⟨rfl, rfl⟩ := h
    exact ⟨by rw [m.L_len], by rw [Mem.push_L _ hb]⟩
def plu (P : Program) (t : TypeId) (x k : AV) (ok : Bool) (g : Nat → AObj) : Option AV :=
  match tk P t with
  | .map kt et => bif keyOk (tk P kt) k then (match zI P et with
    | some z => (match x with
      | .mp tg => (match g tg with
        | .map l => (match findM k l 0 with
          | some (some i) => some (luR ok (l.getD i (.any, .any)).2 true)
          | some none => some (luR ok z false)
          | none => none)
        | _ => none)
      | .nilm => some (luR ok z false)
      | _ => none)
    | none => none) else none
  | _ => none
theorem plu_ok {P : Program} {t : TypeId} {x k : AV} {ok : Bool} {m : Mem} {r : AV} (h : plu P t x k ok m.at = some r) : luK P t x k ok m.L fun y g => y = r ∧ g = m.L := by
  unfold plu at h
  unfold luK
  split at h
  · rename_i kt et e
    simp only [e]
    cases hk : keyOk (tk P kt) k with
    | false => rw [hk] at h; cases h
    | true =>
      rw [hk] at h
      simp only [cond_true] at h
      refine ⟨rfl, ?_⟩
      split at h
      · rename_i z ez
        simp only [ez]
        split at h
        · rename_i tg
          split at h
          · rename_i l hg
            have hget := m.at_get (k := tg) (by rw [hg]; simp)
            rw [hg] at hget
            simp only [hget, luG]
            split at h
            · rename_i i ei; simp only [ei]; injection h with h; exact ⟨h, by trivial⟩
            · rename_i ei; simp only [ei]; injection h with h; exact ⟨h, by trivial⟩
            · cases h
          · cases h
        · injection h with h; exact ⟨h, by trivial⟩
        · cases h
      · cases h
  · cases h
def pmu (P : Program) (t : TypeId) (x k v : AV) (m : Mem) : OV :=
  match tk P t, x with
  | .map kt et, .mp tg => bif keyOk (tk P kt) k && m.ok then (match m.at tg with
    | .map l => (match findM k l 0 with
      | some (some i) => .val (.tup []) (m.set tg (.map (l.set i (k, v))))
      | some none => .val (.tup []) (m.set tg (.map (l ++ [(k, v)])))
      | none => .none)
    | _ => .none) else .none
  | _, _ => .none
theorem pmu_ok {P : Program} {t : TypeId} (x k v : AV) (m : Mem) : Told (pmu P t x k v m) (muK P t x k v m.L) m := by
  intro r m' h
  unfold pmu at h
  split at h
  · rename_i kt et tg e
    cases hk : keyOk (tk P kt) k && m.ok with
    | false => rw [hk] at h; cases h
    | true =>
      rw [hk] at h
      simp only [cond_true] at h
      rw [Bool.and_eq_true] at hk
      simp only [muK, e]
      refine ⟨hk.1, ?_⟩
      split at h
      · rename_i l hg
        have hd : m.at tg ≠ .dead := by rw [hg]; simp
        have hget := m.at_get hd
        rw [hg] at hget
        simp only [hget, muG]
        split at h
        · rename_i i ei
          simp only [ei]
          simp only [OV.val.injEq] at h
          obtain ⟨rfl, rfl⟩ := h
          exact ⟨rfl, by rw [Mem.set_L _ hk.2 (m.at_lt hd)]⟩
        · rename_i ei
          simp only [ei]
          simp only [OV.val.injEq] at h
          obtain ⟨rfl, rfl⟩ := h
          exact ⟨rfl, by rw [Mem.set_L _ hk.2 (m.at_lt hd)]⟩
        · cases h
      · cases h
  · cases h
def pme (P : Program) (t : TypeId) (x k : AV) (m : Mem) : OV :=
  match tk P t, x with
  | .map kt et, .mp tg => bif keyOk (tk P kt) k && m.ok then (match zI P et with
    | some z => (match m.at tg with
      | .map l => (match findM k l 0 with
        | some (some i) => .val (.tup [(l.getD i (.any, .any)).2, .int .i64 (i : Int)]) (m.set tg (.map (l.set i (k, (l.getD i (.any, .any)).2))))
        | some none => .val (.tup [z, .int .i64 (l.length : Int)]) (m.set tg (.map (l ++ [(k, z)])))
        | none => .none)
      | _ => .none)
    | none => .none) else .none
  | _, _ => .none
theorem pme_ok {P : Program} {t : TypeId} (x k : AV) (m : Mem) : Told (pme P t x k m) (meK P t x k m.L) m := by
  intro r m' h
  unfold pme at h
  split at h
  · rename_i kt et tg e
    cases hk : keyOk (tk P kt) k && m.ok with
    | false => rw [hk] at h; cases h
    | true =>
      rw [hk] at h
      simp only [cond_true] at h
      rw [Bool.and_eq_true] at hk
      simp only [meK, e]
      refine ⟨hk.1, ?_⟩
      split at h
      · rename_i z ez
        simp only [ez]
        split at h
        · rename_i l hg
          have hd : m.at tg ≠ .dead := by rw [hg]; simp
          have hget := m.at_get hd
          rw [hg] at hget
          simp only [hget, meG]
          split at h
          · rename_i i ei
            simp only [ei]
            simp only [OV.val.injEq] at h
            obtain ⟨rfl, rfl⟩ := h
            exact ⟨rfl, by rw [Mem.set_L _ hk.2 (m.at_lt hd)]⟩
          · rename_i ei
            simp only [ei]
            simp only [OV.val.injEq] at h
            obtain ⟨rfl, rfl⟩ := h
            exact ⟨rfl, by rw [Mem.set_L _ hk.2 (m.at_lt hd)]⟩
          · cases h
        · cases h
      · cases h
  · cases h
def pes (x s v : AV) (m : Mem) : OV :=
  match x, s with
  | .mp tg, .int .i64 n => (match m.at tg with
    | .map l => bif ileB 0 n && Nat.blt n.toNat l.length && m.ok then .val (.tup []) (m.set tg (.map (l.set n.toNat ((l.getD n.toNat (.any, .any)).1, v)))) else .none
    | _ => .none)
  | _, _ => .none
theorem pes_ok (x s v : AV) (m : Mem) : Told (pes x s v m) (esK x s v m.L) m := by
  intro r m' h
  unfold pes at h
  split at h
  · rename_i tg n
    split at h
    · rename_i l hg
      have hd : m.at tg ≠ .dead := by rw [hg]; simp
      have hget := m.at_get hd
      rw [hg] at hget
      simp only [esK, hget]
      cases hb : ileB 0 n && Nat.blt n.toNat l.length && m.ok with
      | false => rw [hb] at h; cases h
      | true =>
        rw [hb] at h
        simp only [cond_true, OV.val.injEq] at h
        obtain ⟨rfl, rfl⟩ := h
        simp only [Bool.and_eq_true, ileB_iff, blt_iff] at hb
        exact ⟨⟨hb.1.1, by omega⟩, rfl, by rw [Mem.set_L _ hb.2 (m.at_lt hd)]⟩
    · cases h
  · cases h
/-! Comparing with nil: told where the length tells it. -/
def pnq (P : Program) (op : BinOp) (t : TypeId) (x : AV) : Option AV :=
  match x with
  | .fz c (_ :: _) => bif isSl (tk P t) then some (.bool (eqB op false)) else none
  | .sl _ _ _ _ (_ + 1) => bif isSl (tk P t) then some (.bool (eqB op false)) else none
  | _ => none
theorem pnq_ok {P : Program} {op : BinOp} {t : TypeId} {x r : AV} {m : Mem} (h : pnq P op t x = some r) : nqK P op t x m.L fun y g => y = r ∧ g = m.L := by
  unfold pnq at h
  split at h
  · cases hb : isSl (tk P t) with
    | false => rw [hb] at h; cases h
    | true =>
      rw [hb] at h; simp only [cond_true, Option.some.injEq] at h; subst h
      refine ⟨isSl_iff hb, fun b hbb => ?_⟩
      cases b with
      | false => exact ⟨rfl, rfl⟩
      | true => exact absurd (hbb rfl) (by simp)
  · cases hb : isSl (tk P t) with
    | false => rw [hb] at h; cases h
    | true =>
      rw [hb] at h; simp only [cond_true, Option.some.injEq] at h; subst h
      refine ⟨isSl_iff hb, fun b hbb => ?_⟩
      cases b with
      | false => exact ⟨rfl, rfl⟩
      | true => exact absurd (hbb rfl) (by simp)
  · cases h
def pni (P : Program) (op : BinOp) (t : TypeId) (x : AV) : Option AV :=
  match x with
  | .nili => bif tkB (tk P t) .iface then some (.bool (eqB op true)) else none
  | .iface _ _ => bif tkB (tk P t) .iface then some (.bool (eqB op false)) else none
  | _ => none
theorem pni_ok {P : Program} {op : BinOp} {t : TypeId} {x r : AV} {m : Mem} (h : pni P op t x = some r) : niK P op t x m.L fun y g => y = r ∧ g = m.L := by
  unfold pni at h
  split at h
  · cases hb : tkB (tk P t) .iface with
    | false => rw [hb] at h; cases h
    | true => rw [hb] at h; simp only [cond_true, Option.some.injEq] at h; subst h; exact ⟨tkB_iff.1 hb, rfl, rfl⟩
  · cases hb : tkB (tk P t) .iface with
    | false => rw [hb] at h; cases h
    | true => rw [hb] at h; simp only [cond_true, Option.some.injEq] at h; subst h; exact ⟨tkB_iff.1 hb, rfl, rfl⟩
  · cases h

/-! make, clear, copy -/
def repB : Nat → AV → List AV
  | 0, _ => []
  | n + 1, x => x :: repB n x
theorem repB_eq : ∀ n x, repB n x = List.replicate n x
  | 0, x => rfl
  | n + 1, x => by rw [repB, List.replicate_succ, repB_eq n x]
def pms (P : Program) (t : TypeId) (l c : AV) (m : Mem) : OV :=
  match eI P t, l, c with
  | some (e, s, by_), .int .i64 n, .int .i64 k => (match zI P e with
    | some z => bif ileB 0 n && ileB n k && Nat.ble (k.toNat * by_) 140737488355328 && ileB k 9223372036854775807 && Nat.beq (pcells z) s && z.sure && m.ok then .val (.sl m.n 0 s 0 n.toNat) (m.push (.arr 0 s (repB n.toNat z))) else .none
    | none => .none)
  | _, _, _ => .none
theorem pms_ok {P : Program} {t : TypeId} (l c : AV) (m : Mem) : Told (pms P t l c m) (msK P t l c m.L) m := by
  intro r m' h
  unfold pms at h
  split at h
  · rename_i e s by_ n k e1
    split at h
    · rename_i z hz
      obtain ⟨hb, h⟩ := bifv h
      simp only [OV.val.injEq] at h
      obtain ⟨rfl, rfl⟩ := h
      simp only [Bool.and_eq_true, ileB_iff, ble_iff, beq_iff, pcells_eq] at hb
      obtain ⟨⟨⟨⟨⟨⟨h1, h2⟩, h3⟩, h4⟩, h5⟩, h6⟩, h7⟩ := hb
      simp only [msK, e1, hz]
      exact ⟨⟨h1, h2, h3, h4, h5, h6⟩, by rw [m.L_len], by rw [Mem.push_L _ h7, repB_eq]⟩
    · cases h
  · cases h
def pcr (P : Program) (ts : Array TypeId) (x : AV) (m : Mem) : OV :=
  match eI P (ts.getD 0 0), x with
  | some (e, s, by_), .sl t g s' off len => (match m.at t, zI P e with
    | .arr g' s'' l, some z => bif !(Nat.beq ts.size 0) && Nat.beq g g' && Nat.beq s' s && Nat.beq s'' s && Nat.ble (off + len) (lenB l) && Nat.beq (pcells z) s && z.sure && z.cells.all AV.one && m.ok then .val (.tup []) (m.set t (.arr g' s'' (l.take off ++ repB len z ++ l.drop (off + len)))) else .none
    | _, _ => .none)
  | some _, .fz c l => bif !(Nat.beq ts.size 0) && isNilL l then .val (.tup []) m else .none
  | _, _ => .none
theorem pcr_ok {P : Program} {ts : Array TypeId} (x : AV) (m : Mem) : Told (pcr P ts x m) (crK P ts x m.L) m := by
  intro r m' h
  unfold pcr at h
  split at h
  · rename_i e s by_ t g s' off len e1
    split at h
    · rename_i g' s'' l z hg hz
      obtain ⟨hb, h⟩ := bifv h
      simp only [OV.val.injEq] at h
      obtain ⟨rfl, rfl⟩ := h
      simp only [Bool.and_eq_true, ble_iff, beq_iff, pcells_eq, lenB_eq, Bool.not_eq_true'] at hb
      obtain ⟨⟨⟨⟨⟨⟨⟨⟨h1, h2⟩, h3⟩, h4⟩, h5⟩, h6⟩, h7⟩, h8⟩, h9⟩ := hb
      have hd : m.at t ≠ .dead := by rw [hg]; simp
      have hget := m.at_get hd
      rw [hg] at hget
      simp only [crK, e1, hget, hz]
      exact ⟨⟨fun q => (by rw [beq_iff.2 q] at h1; cases h1), h2, h3, h4, h5, h6, h7, h8⟩, by trivial, by rw [Mem.set_L _ h9 (m.at_lt hd), repB_eq]⟩
    · cases h
  · rename_i q c l e1
    obtain ⟨hb, h⟩ := bifv h
    simp only [OV.val.injEq] at h
    obtain ⟨rfl, rfl⟩ := h
    simp only [Bool.and_eq_true, Bool.not_eq_true'] at hb
    simp only [crK, e1]
    refine ⟨⟨fun q => (by rw [beq_iff.2 q] at hb; cases hb.1), ?_⟩, by trivial, by trivial⟩
    cases l with
    | nil => rfl
    | cons a l => cases hb.2
  · cases h
def pcp (P : Program) (ts : Array TypeId) (d x : AV) (m : Mem) : OV :=
  match eI P (ts.getD 0 0), d with
  | some (e, s, by_), .sl t g s' off len => (match prd m.at x, m.at t with
    | some (true, ys), .arr g' s'' l => let n := min (lenB ys) len
      bif !(Nat.beq ts.size 0) && Nat.beq g g' && Nat.beq s' s && Nat.beq s'' s && Nat.ble (off + len) (lenB l) && okEls s ys && m.ok then .val (.int .i64 (n : Nat)) (m.set t (.arr g' s'' (l.take off ++ ys.take len ++ l.drop (off + n)))) else .none
    | _, _ => .none)
  | _, _ => .none
theorem pcp_ok {P : Program} {ts : Array TypeId} (d x : AV) (m : Mem) : Told (pcp P ts d x m) (cpK P ts d x m.L) m := by
  intro r m' h
  unfold pcp at h
  split at h
  · rename_i e s by_ t g s' off len e1
    split at h
    · rename_i ys g' s'' l e2 hg
      obtain ⟨p, hp, hpp⟩ := prd_ok e2
      obtain ⟨hb, h⟩ := bifv h
      simp only [OV.val.injEq] at h
      obtain ⟨rfl, rfl⟩ := h
      simp only [Bool.and_eq_true, ble_iff, beq_iff, lenB_eq, okEls_eq, Bool.not_eq_true'] at hb
      obtain ⟨⟨⟨⟨⟨⟨h1, h2⟩, h3⟩, h4⟩, h5⟩, h6⟩, h7⟩ := hb
      have hd : m.at t ≠ .dead := by rw [hg]; simp
      have hget := m.at_get hd
      rw [hg] at hget
      simp only [cpK, e1, hp, hget]
      exact ⟨⟨fun q => (by rw [beq_iff.2 q] at h1; cases h1), hpp, h2, h3, h4, h5, h6⟩, by rw [lenB_eq], by rw [Mem.set_L _ h7 (m.at_lt hd), lenB_eq]⟩
    · cases h
  · cases h
end Go.Proofs.Vale

set_option linter.unusedVariables false
set_option linter.unusedSimpArgs false
namespace Go.Proofs.Vale
/-- The number by which a call of yield goes. -/
def yid : FuncId := 4294967295
def enB (P : Program) (f : FuncId) : Bool := entersB P f && !Nat.beq f yid
theorem enB_ok {P : Program} {f : FuncId} (h : enB P f = true) : entersB P f = true ∧ f ≠ yid := by
  unfold enB at h
  rw [Bool.and_eq_true, Bool.not_eq_true'] at h
  refine ⟨h.1, fun e => ?_⟩
  have h2 := h.2
  rw [e] at h2
  exact absurd h2 (by decide)

/-! ### An operation, a region, a function -/
def qn (P : Program) (op : Op) (ev : Operand → AV) : Option AV :=
  match op with
  | .binOp op t x y _ => (match op, y with
    | .eql, .const (.slice none 0 0) => pnq P .eql t (ev x)
    | .neq, .const (.slice none 0 0) => pnq P .neq t (ev x)
    | .eql, .const .nilIface => pni P .eql t (ev x)
    | .neq, .const .nilIface => pni P .neq t (ev x)
    | _, _ => none)
  | _ => none
def qpp (P : Program) (op : Op) (ev : Operand → AV) (g : Nat → AObj) : Option AV :=
  match ppop P op ev g with
  | some (true, x) => some x
  | some (false, _) => none
  | none => qn P op ev
/-- What leaves memory as it is. -/
def qo (P : Program) (op : Op) (ev : Operand → AV) (g : Nat → AObj) : Option AV :=
  match op with
  | .pick c a b => (match ev c with | .bool true => some (ev a) | .bool false => some (ev b) | _ => none)
  | .lookup t x k ok => plu P t (ev x) (ev k) ok g
  | op => qpp P op ev g
theorem qpp_ok {P : Program} {o : Oper} {ev : Operand → AV} {m : Mem} {r : AV} (h : qpp P o.op ev m.at = some r) : OpK P o ev m.L fun y g => y = r ∧ g = m.L := by
  unfold qpp at h
  split at h
  · rename_i x e
    injection h with h; subst h
    obtain ⟨p, hp, hpp⟩ := ppop_ok _ e
    exact OpK.of_pop (pop_ok hp) hpp ⟨rfl, rfl⟩
  · cases h
  · unfold qn at h
    split at h
    · rename_i op t x y yt ho
      split at h
      · exact nq_ok ho (.inl rfl) (pnq_ok h)
      · exact nq_ok ho (.inr rfl) (pnq_ok h)
      · exact ni_ok ho (.inl rfl) (pni_ok h)
      · exact ni_ok ho (.inr rfl) (pni_ok h)
      · cases h
    · cases h
theorem qo_ok {P : Program} {o : Oper} {ev : Operand → AV} {m : Mem} {r : AV} (h : qo P o.op ev m.at = some r) : OpK P o ev m.L fun y g => y = r ∧ g = m.L := by
  unfold qo at h
  split at h
  · rename_i c a b ho
    split at h
    · rename_i e; injection h with h; subst h
      exact OpK_pick ho e ⟨rfl, rfl⟩
    · rename_i e; injection h with h; subst h
      exact OpK_pick ho e ⟨rfl, rfl⟩
    · cases h
  · rename_i t x k ok ho
    exact lu_ok ho (plu_ok h)
  · exact qpp_ok h

def bsE' (ei : Option (TypeId × Nat × Nat)) (n : Nat) (parts : List (Nat × AV)) (m : Mem) : OV := bif bsv parts then pbz ei n parts m else pbs ei n parts m
def penV (o : Option AV) (m : Mem) : OV :=
  match o with
  | some r => .val r m
  | none => .none
/-- What turns memory, or calls. -/
def mo (P : Program) (call : FuncId → List AV → Mem → OV) (op : Op) (ev : Operand → AV) (m : Mem) : OV :=
  match op with
  | .alloc t => (match zI P t with | some x => pbx x m | none => .none)
  | .box _ v => pbx (ev v) m
  | .buildSlice t n parts => bsE' (eI P t) n (parts.toList.map fun x => (x.1, ev x.2)) m
  | .store t a x => pst (tI P t) (ev a) (ev x) m
  | .convert s d x => bif undI P s then psb P d (ev x) m else .none
  | .range t x => prg P t (ev x) m
  | .next x b => pnx (ev x) b m
  | .entry x => penV (pen (ev x) m.at) m
  | .makeMap _ none => pmm m
  | .makeSlice t l c => pms P t (ev l) (ev c) m
  | .mapUpdate t x k v => pmu P t (ev x) (ev k) (ev v) m
  | .insert t x k v => pmu P t (ev x) (ev k) (ev v) m
  | .mapEntry t x k => pme P t (ev x) (ev k) m
  | .entryStore _ x s v => pes (ev x) (ev s) (ev v) m
  | .call c => (match c.callee with
    | .builtin .append => (match c.args.toList with | [A, X] => pap P c.argTypes (ev A) (ev X) m | _ => .none)
    | .value f => (match ev f with
      | .func (.func f) first cap => bif enB P f then call f (first ++ c.args.toList.map ev ++ cap) m else .none
      | .yl t => call yid (.yl t :: c.args.toList.map ev) m
      | _ => .none)
    | .builtin .clear => (match c.args.toList with | [X] => pcr P c.argTypes (ev X) m | _ => .none)
    | .builtin .copy => (match c.args.toList with | [D, X] => pcp P c.argTypes (ev D) (ev X) m | _ => .none)
    | .invoke r name => (match ev r with
      | .iface t y => (match mI P t name with
        | some f => bif enB P f then call f (y :: c.args.toList.map ev) m else .none
        | none => .none)
      | _ => .none)
    | _ => .none)
  | _ => .none
/-- What calls come to is told. -/
def CallOk (P : Program) (call : FuncId → List AV → Mem → OV) : Prop := ∀ f as m x m', call f as m = .val x m' → (f ≠ yid → ACall P f as m.L fun y g => y = x ∧ g = m'.L) ∧ ∀ t l, f = yid → as = .yl t :: l → ylK P t l m.L fun y g => y = x ∧ g = m'.L
theorem mo_ok {P : Program} {call : FuncId → List AV → Mem → OV} (hc : CallOk P call) {o : Oper} {ev : Operand → AV} {m m' : Mem} {x : AV} (h : mo P call o.op ev m = .val x m') : OpK P o ev m.L fun y g => y = x ∧ g = m'.L := by
  unfold mo at h
  split at h
  · rename_i t ho
    split at h
    · rename_i z hz; exact al_ok ho hz (pbx_ok _ _ _ _ h)
    · cases h
  · rename_i t v ho; exact bx_ok ho (pbx_ok _ _ _ _ h)
  · rename_i t n parts ho
    unfold bsE' at h
    cases hb : bsv (parts.toList.map fun x => (x.1, ev x.2)) with
    | false => rw [hb] at h; exact bs_ok ho (pbs_ok _ _ _ _ h)
    | true =>
      rw [hb] at h
      obtain ⟨h1, rfl, rfl⟩ := pbz_ok h
      have e : (parts.toList.map fun x => (x.1, ev x.2)).map (·.2) = parts.toList.map fun x => ev x.2 := by rw [List.map_map]; rfl
      rw [e]
      exact bs_frz ho h1
  · rename_i t a z ho; exact st_ok ho (pst_ok _ _ _ _ _ h)
  · rename_i s d z ho
    obtain ⟨h1, h2⟩ := bifv h
    exact sb_ok ho (undI_iff h1) (psb_ok _ _ _ _ h2)
  · rename_i t z ho; exact rg_ok ho (prg_ok _ _ _ _ h)
  · rename_i z b ho; exact nx_ok ho (pnx_ok _ _ _ _ _ h)
  · rename_i z ho
    cases hp : pen (ev z) m.at with
    | none => rw [hp] at h; cases h
    | some r =>
      rw [hp] at h
      simp only [penV, OV.val.injEq] at h
      obtain ⟨rfl, rfl⟩ := h
      exact en_ok ho (pen_ok hp)
  · rename_i t ho; exact mm_ok ho (pmm_ok _ _ _ h)
  · rename_i t l c ho; exact ms_ok ho (pms_ok _ _ _ _ _ h)
  · rename_i t z k v ho; exact mu_ok (.inl ho) (pmu_ok _ _ _ _ _ _ h)
  · rename_i t z k v ho; exact mu_ok (.inr ho) (pmu_ok _ _ _ _ _ _ h)
  · rename_i t z k ho; exact me_ok ho (pme_ok _ _ _ _ _ h)
  · rename_i t z s v ho; exact es_ok ho (pes_ok _ _ _ _ _ _ h)
  · rename_i c ho
    split at h
    · rename_i hcb
      split at h
      · rename_i A X ha
        exact ap_ok ho hcb (by rw [← Array.toArray_toList (xs := c.args), ha]) (pap_ok _ _ _ _ _ h)
      · cases h
    · rename_i f hcv
      split at h
      · rename_i fi first cap hf
        obtain ⟨h1, h2⟩ := bifv h
        obtain ⟨h1, h3⟩ := enB_ok h1
        refine cl_ok ho hcv ?_
        rw [hf]
        exact ⟨h1, (hc _ _ _ _ _ h2).1 h3⟩
      · rename_i t hf
        exact yl_ok ho hcv hf ((hc _ _ _ _ _ h).2 t _ rfl rfl)
      · cases h
    · rename_i hcb
      split at h
      · rename_i X ha
        exact cr_ok ho hcb (by rw [← Array.toArray_toList (xs := c.args), ha]) (pcr_ok _ _ _ _ h)
      · cases h
    · rename_i hcb
      split at h
      · rename_i D X ha
        exact cp_ok ho hcb (by rw [← Array.toArray_toList (xs := c.args), ha]) (pcp_ok _ _ _ _ _ h)
      · cases h
    · rename_i r name hcv
      split at h
      · rename_i t y hr
        split at h
        · rename_i fi hm
          obtain ⟨h1, h2⟩ := bifv h
          obtain ⟨h1, h3⟩ := enB_ok h1
          refine iv_ok ho hcv ?_
          rw [hr]
          simp only [ivK, hm]
          exact ⟨h1, (hc _ _ _ _ _ h2).1 h3⟩
        · cases h
      · cases h
    · cases h
  · cases h

def ro (P : Program) (call : FuncId → List AV → Mem → OV) (op : Op) (ev : Operand → AV) (m : Mem) : OV :=
  match qo P op ev m.at with
  | some x => .val x m
  | none => mo P call op ev m
theorem ro_ok {P : Program} {call : FuncId → List AV → Mem → OV} (hc : CallOk P call) {o : Oper} {ev : Operand → AV} {m m' : Mem} {x : AV} (h : ro P call o.op ev m = .val x m') : OpK P o ev m.L fun y g => y = x ∧ g = m'.L := by
  unfold ro at h
  split at h
  · rename_i y e
    simp only [OV.val.injEq] at h
    obtain ⟨rfl, rfl⟩ := h
    exact qo_ok e
  · exact mo_ok hc h

/-! Guards -/
def gdB (x : AV) (want : Bool) : Option Bool :=
  match x with
  | .bool g => some (g == want)
  | .tup _ => some false
  | _ => none
theorem gdB_ok {x : AV} {want b : Bool} (h : gdB x want = some b) : gdA x want = some b := by
  unfold gdB at h
  split at h
  · exact h
  · exact h
  · cases h
def nthO : List Oper → Nat → Option Oper
  | [], _ => none
  | o :: l, k => match k with
    | 0 => some o
    | k + 1 => nthO l k
theorem nthO_eq : ∀ (l : List Oper) (k : Nat), nthO l k = l[k]?
  | [], k => by simp [nthO]
  | o :: l, 0 => rfl
  | o :: l, k + 1 => by rw [List.getElem?_cons_succ]; exact nthO_eq l k
def guardB (env : List AV) (all : List Oper) (i : Nat) (g : Option (Nat × Bool)) : Option Bool :=
  match g with
  | none => some true
  | some (j, want) => bif Nat.blt j i then (match nthO all j with
    | some o => (match o.dst with
      | some d => gdB (nthA env d) want
      | none => none)
    | none => none) else none
theorem guardB_ok {env : List AV} {all : List Oper} {i : Nat} {g : Option (Nat × Bool)} {b : Bool} (h : guardB env all i g = some b) : gdv env ((all.take i).map (·.dst)).reverse g = some b := by
  unfold guardB at h
  unfold gdv
  split at h
  · exact h
  · rename_i j want
    cases hb : Nat.blt j i with
    | false => rw [hb] at h; cases h
    | true =>
      rw [hb] at h; simp only [cond_true] at h
      rw [blt_iff] at hb
      split at h
      · rename_i o ho
        rw [nthO_eq] at ho
        split at h
        · rename_i d hd
          simp only [gv, List.reverse_reverse, List.getElem?_map, List.getElem?_take, if_pos hb, ho, Option.map_some, hd]
          rw [← nthA_eq]
          exact gdB_ok h
        · cases h
      · cases h

/-! A region in the text's order -/
inductive OE where
  | none
  | ok (env : List AV) (m : Mem)
def seqB (P : Program) (call : FuncId → List AV → Mem → OV) (all : List Oper) : List Oper → Nat → List AV → Mem → OE
  | [], _, env, m => .ok env m
  | o :: os, i, env, m =>
    match guardB env all i o.guard with
    | some true => (match ro P call o.op (evB env) m with
      | .val x m' => seqB P call all os (i + 1) (putB env o.dst x) m'
      | .none => .none)
    | some false => seqB P call all os (i + 1) (putB env o.dst (.tup [])) m
    | none => .none
theorem seqB_ok {P : Program} {call : FuncId → List AV → Mem → OV} (hc : CallOk P call) {all : List Oper} : ∀ (os done : List Oper) (env : List AV) (m : Mem) (env' : List AV) (m' : Mem), all = done ++ os → seqB P call all os done.length env m = .ok env' m' → QSL P ((done.map (·.dst)).reverse) os env m.L env' m'.L
  | [], done, env, m, env', m', he, h => by
    simp only [seqB, OE.ok.injEq] at h
    obtain ⟨rfl, rfl⟩ := h
    exact ⟨rfl, rfl⟩
  | o :: os, done, env, m, env', m', he, h => by
    have he' : all = (done ++ [o]) ++ os := by simp [he]
    have hds : (o.dst :: (done.map (·.dst)).reverse) = ((done ++ [o]).map (·.dst)).reverse := by simp
    have htk : all.take done.length = done := by rw [he]; simp
    simp only [seqB] at h
    split at h
    · rename_i hg
      have hg := guardB_ok hg
      rw [htk] at hg
      split at h
      · rename_i x m1 hr
        refine ⟨x, m1.L, ⟨true, hg, fun _ => ?_, fun q => by cases q⟩, ?_⟩
        · rw [← evB_eq]; exact ro_ok hc hr
        · rw [hds, ← putB_eq]
          exact seqB_ok hc os (done ++ [o]) _ m1 env' m' he' (by simpa using h)
      · cases h
    · rename_i hg
      have hg := guardB_ok hg
      rw [htk] at hg
      refine ⟨.tup [], m.L, ⟨false, hg, fun q => (by cases q), fun _ => ⟨rfl, rfl⟩⟩, ?_⟩
      rw [hds, ← putB_eq]
      exact seqB_ok hc os (done ++ [o]) _ m env' m' he' (by simpa using h)
    · cases h

/-! A region whose order is drawn -/
/-- Operations that may turn memory. -/
def isT (op : Op) : Bool :=
  match op with
  | .move _ | .assign _ | .pick .. | .load .. | .nilCheck _ | .binOp .. | .unOp .. | .convert .. | .makeInterface .. | .makeFunc .. | .slice .. | .fieldAddr .. | .field .. | .indexAddr .. | .index .. | .typeAssert .. | .extract .. | .build .. | .lookup .. => false
  | .call c => (match c.callee with | .builtin .len => false | .builtin .cap => false | .builtin .min => false | .builtin .max => false | _ => true)
  | _ => true
def tuB (all : List Oper) (i : Nat) : Bool := match nthO all i with | some o => isT o.op | none => false
structure Ent where
  env : List AV
  x : AV
  m : Mem
inductive OP where
  | none
  | ok (es : List Ent) (env : List AV) (m : Mem)
def consE (e : Ent) : OP → OP
  | .ok es env m => .ok (e :: es) env m
  | .none => .none
def lenP (m m' : Mem) (r : OP) : OP := bif Nat.ble m.n m'.n then r else .none
theorem lenP_ok {m m' : Mem} {r : OP} {es : List Ent} {env : List AV} {m2 : Mem} (h : lenP m m' r = .ok es env m2) : m.n ≤ m'.n ∧ r = .ok es env m2 := by
  unfold lenP at h
  cases hb : Nat.ble m.n m'.n with
  | false => rw [hb] at h; cases h
  | true => rw [hb] at h; exact ⟨ble_iff.1 hb, h⟩
def passB (P : Program) (call : FuncId → List AV → Mem → OV) (all : List Oper) : List Oper → Nat → List AV → Mem → OP
  | [], _, env, m => .ok [] env m
  | o :: os, i, env, m =>
    match guardB env all i o.guard with
    | some true => (match isT o.op with
      | true => (match ro P call o.op (evB env) m with
        | .val x m' => lenP m m' (consE ⟨env, x, m⟩ (passB P call all os (i + 1) (putB env o.dst x) m'))
        | .none => .none)
      | false => (match qo P o.op (evB env) m.at with
        | some x => consE ⟨env, x, m⟩ (passB P call all os (i + 1) (putB env o.dst x) m)
        | none => .none))
    | some false => consE ⟨env, .tup [], m⟩ (passB P call all os (i + 1) (putB env o.dst (.tup [])) m)
    | none => .none
def envAt (env' : List AV) : List Ent → Nat → List AV
  | [], _ => env'
  | e :: es, k => match k with
    | 0 => e.env
    | k + 1 => envAt env' es k
def memAt (m' : Mem) : List Ent → Nat → Mem
  | [], _ => m'
  | e :: es, k => match k with
    | 0 => e.m
    | k + 1 => memAt m' es k
def xAt : List Ent → Nat → AV
  | [], _ => .any
  | e :: es, k => match k with
    | 0 => e.x
    | k + 1 => xAt es k
theorem passB_ok {P : Program} {call : FuncId → List AV → Mem → OV} (hc : CallOk P call) {all : List Oper} : ∀ (os done : List Oper) (env : List AV) (m : Mem) (es : List Ent) (env' : List AV) (m' : Mem), all = done ++ os → passB P call all os done.length env m = .ok es env' m' →
    envAt env' es 0 = env ∧ memAt m' es 0 = m ∧ memAt m' es os.length = m' ∧ envAt env' es os.length = env' ∧ ∀ j o, os[j]? = some o → envAt env' es (j + 1) = putA (envAt env' es j) o.dst (xAt es j) ∧
      (isT o.op = false → memAt m' es (j + 1) = memAt m' es j) ∧ (isT o.op = true → QS P ((all.take (done.length + j)).map (·.dst)).reverse o (envAt env' es j) (memAt m' es j).L (xAt es j) (memAt m' es (j + 1)).L) ∧
      (guardB (envAt env' es j) all (done.length + j) o.guard = some true ∨ (guardB (envAt env' es j) all (done.length + j) o.guard = some false ∧ xAt es j = .tup [])) ∧ (memAt m' es j).n ≤ (memAt m' es (j + 1)).n ∧
      (isT o.op = true → guardB (envAt env' es j) all (done.length + j) o.guard = some true → ro P call o.op (evB (envAt env' es j)) (memAt m' es j) = .val (xAt es j) (memAt m' es (j + 1)))
  | [], done, env, m, es, env', m', he, h => by
    simp only [passB, OP.ok.injEq] at h
    obtain ⟨rfl, rfl, rfl⟩ := h
    exact ⟨rfl, rfl, rfl, rfl, fun j o ho => by simp at ho⟩
  | o :: os, done, env, m, es, env', m', he, h => by
    have he' : all = (done ++ [o]) ++ os := by simp [he]
    have htk : all.take done.length = done := by rw [he]; simp
    have hl : (done ++ [o]).length = done.length + 1 := by simp
    have step : ∀ x m1 r, r = passB P call all os (done.length + 1) (putB env o.dst x) m1 → consE ⟨env, x, m⟩ r = .ok es env' m' →
        (isT o.op = false → m1 = m) → (isT o.op = true → QS P ((all.take done.length).map (·.dst)).reverse o env m.L x m1.L) → (guardB env all done.length o.guard = some true ∨ (guardB env all done.length o.guard = some false ∧ x = .tup [])) → m.n ≤ m1.n → (isT o.op = true → guardB env all done.length o.guard = some true → ro P call o.op (evB env) m = .val x m1) →
        envAt env' es 0 = env ∧ memAt m' es 0 = m ∧ memAt m' es (os.length + 1) = m' ∧ envAt env' es (os.length + 1) = env' ∧ ∀ j q, (o :: os)[j]? = some q → envAt env' es (j + 1) = putA (envAt env' es j) q.dst (xAt es j) ∧
          (isT q.op = false → memAt m' es (j + 1) = memAt m' es j) ∧ (isT q.op = true → QS P ((all.take (done.length + j)).map (·.dst)).reverse q (envAt env' es j) (memAt m' es j).L (xAt es j) (memAt m' es (j + 1)).L) ∧
          (guardB (envAt env' es j) all (done.length + j) q.guard = some true ∨ (guardB (envAt env' es j) all (done.length + j) q.guard = some false ∧ xAt es j = .tup [])) ∧ (memAt m' es j).n ≤ (memAt m' es (j + 1)).n ∧
          (isT q.op = true → guardB (envAt env' es j) all (done.length + j) q.guard = some true → ro P call q.op (evB (envAt env' es j)) (memAt m' es j) = .val (xAt es j) (memAt m' es (j + 1))) := by
      intro x m1 r hr hcons hq ht hg hle hro
      cases r with
      | none => cases hcons
      | ok es1 env1 m2 =>
        simp only [consE, OP.ok.injEq] at hcons
        obtain ⟨rfl, rfl, rfl⟩ := hcons
        rw [← hl] at hr
        obtain ⟨i1, i2, i3, i4, i5⟩ := passB_ok hc os (done ++ [o]) _ m1 es1 env1 m2 he' hr.symm
        refine ⟨rfl, rfl, i3, i4, fun j q hjq => ?_⟩
        cases j with
        | zero =>
          simp only [List.getElem?_cons_zero, Option.some.injEq] at hjq
          subst hjq
          refine ⟨?_, fun e => ?_, fun e => ?_, ?_, ?_, ?_⟩
          · show envAt env1 es1 0 = _
            rw [i1, putB_eq]; rfl
          · show memAt m2 es1 0 = m
            rw [i2, hq e]
          · show QS P _ _ env m.L x (memAt m2 es1 0).L
            rw [i2]; exact ht e
          · exact hg
          · show m.n ≤ (memAt m2 es1 0).n
            rw [i2]; exact hle
          · show isT o.op = true → guardB env all (done.length + 0) o.guard = some true → ro P call o.op (evB env) m = .val x (memAt m2 es1 0)
            rw [i2]; exact hro
        | succ j =>
          rw [List.getElem?_cons_succ] at hjq
          have := i5 j q hjq
          rw [hl] at this
          rw [show done.length + (j + 1) = done.length + 1 + j by omega]
          exact this
    simp only [passB] at h
    split at h
    · rename_i hg
      have hg2 := guardB_ok hg
      split at h
      · rename_i ht
        split at h
        · rename_i x m1 hr
          obtain ⟨hle, h⟩ := lenP_ok h
          exact step x m1 _ rfl h (fun q => by rw [ht] at q; cases q) (fun _ => ⟨true, hg2, fun _ => by rw [← evB_eq]; exact ro_ok hc hr, fun q => by cases q⟩) (.inl hg) hle (fun _ _ => hr)
        · cases h
      · rename_i ht
        split at h
        · rename_i x hr
          exact step x m _ rfl h (fun _ => rfl) (fun q => by rw [ht] at q; cases q) (.inl hg) (Nat.le_refl _) (fun q => by rw [ht] at q; cases q)
        · cases h
    · rename_i hg
      have hg2 := guardB_ok hg
      exact step (.tup []) m _ rfl h (fun _ => rfl) (fun _ => ⟨false, hg2, fun q => (by cases q), fun _ => ⟨rfl, rfl⟩⟩) (.inr ⟨hg, rfl⟩) (Nat.le_refl _) (fun _ q => by rw [hg] at q; cases q)
    · cases h

/-- Operations whose answer does not hang on memory. -/
def memFree (op : Op) (ev : Operand → AV) : Bool :=
  match op with
  | .load _ x => (match ev x with | .ref .. => false | _ => true)
  | .convert _ _ x => (match ev x with | .sl .. => false | _ => true)
  | .lookup _ x _ _ => (match ev x with | .mp _ => false | _ => true)
  | _ => true
theorem memFree_ok {P : Program} {op : Op} {ev : Operand → AV} (h : memFree op ev = true) (g g' : Nat → AObj) : qo P op ev g = qo P op ev g' := by
  cases op <;> try rfl
  case load t x =>
    simp only [memFree] at h
    simp only [qo, qpp, ppop]
    have : pld (tI P t) g (ev x) = pld (tI P t) g' (ev x) := by
      unfold pld
      generalize ev x = y at h
      cases tI P t with
      | none => rfl
      | some q => obtain ⟨n, ag⟩ := q; cases y <;> first | rfl | cases h
    rw [this]
  case convert s d x =>
    simp only [memFree] at h
    simp only [qo, qpp, ppop]
    have : pcv P s d g (ev x) = pcv P s d g' (ev x) := by
      unfold pcv
      generalize ev x = y at h
      cases y <;> first | rfl | cases h
    rw [this]
  case lookup t x k ok =>
    simp only [memFree] at h
    simp only [qo]
    unfold plu
    generalize ev x = y at h
    cases y <;> first | rfl | cases h
/-- May the operation i be run at memory k? -/
def winB (A : List (List Nat)) (all : List Oper) (n i k : Nat) : Bool :=
  Nat.ble k n && (List.range n).all fun t => !tuB all t || ((!((A.getD i []).contains t) || Nat.blt t k) && (!((A.getD t []).contains i) || Nat.ble k t))
/-- The memories that are to be looked at: behind those that turn it. -/
def wins (A : List (List Nat)) (all : List Oper) (n i : Nat) : List Nat :=
  (List.range (n + 1)).filter fun k => (match k with | 0 => true | t + 1 => tuB all t) && winB A all n i k
def winL (all : List Oper) (n : Nat) : List (List Nat) := let A := ancL all []; (List.range n).map (wins A all n)
def chkL (P : Program) (op : Op) (ev : Operand → AV) (x : AV) (m' : Mem) (es : List Ent) : List Nat → Bool
  | [] => true
  | k :: ks => (match qo P op ev (memAt m' es k).at with | some y => y.same x | none => false) && chkL P op ev x m' es ks
theorem chkL_ok {P : Program} {op : Op} {ev : Operand → AV} {x : AV} {m' : Mem} {es : List Ent} : ∀ {l : List Nat}, chkL P op ev x m' es l = true → ∀ k ∈ l, qo P op ev (memAt m' es k).at = some x
  | [], _, k, hk => by cases hk
  | j :: l, h, k, hk => by
    rw [chkL, Bool.and_eq_true] at h
    rcases List.mem_cons.1 hk with rfl | hk
    · have h1 := h.1
      split at h1
      · rename_i y e; rw [e, AV.same_eq _ _ h1]
      · cases h1
    · exact chkL_ok h.2 k hk
/-- Each operation that leaves memory comes to the same wherever it may be run. -/
def chkB (P : Program) (all : List Oper) (n : Nat) (env' : List AV) (m' : Mem) (es : List Ent) : List Ent → List Oper → List (List Nat) → Nat → Bool
  | e :: fs, o :: os, w :: ws, i =>
    (isT o.op || (match guardB e.env all i o.guard with
      | some false => true
      | _ => memFree o.op (evB e.env) || chkL P o.op (evB e.env) e.x m' es w)) && chkB P all n env' m' es fs os ws (i + 1)
  | _, _, _, _ => true
theorem chkB_ok {P : Program} {all : List Oper} {n : Nat} {env' : List AV} {m' : Mem} {es : List Ent} : ∀ (fs : List Ent) (os : List Oper) (ws : List (List Nat)) (i : Nat), chkB P all n env' m' es fs os ws i = true → ∀ (j : Nat) (e : Ent) (o : Oper) (w : List Nat), fs[j]? = some e → os[j]? = some o → ws[j]? = some w → isT o.op = false →
    guardB e.env all (i + j) o.guard = some false ∨ memFree o.op (evB e.env) = true ∨ ∀ k ∈ w, qo P o.op (evB e.env) (memAt m' es k).at = some e.x
  | [], os, ws, i, h, j, e, o, w, h1, h2, h3, h4 => by simp at h1
  | f :: fs, [], ws, i, h, j, e, o, w, h1, h2, h3, h4 => by simp at h2
  | f :: fs, q :: os, [], i, h, j, e, o, w, h1, h2, h3, h4 => by simp at h3
  | f :: fs, q :: os, v :: ws, i, h, j, e, o, w, h1, h2, h3, h4 => by
    rw [chkB, Bool.and_eq_true] at h
    cases j with
    | zero =>
      simp only [List.getElem?_cons_zero, Option.some.injEq] at h1 h2 h3
      subst h1 h2 h3
      have h5 := h.1
      rw [h4, Bool.false_or] at h5
      split at h5
      · rename_i hg; exact .inl hg
      · rw [Bool.or_eq_true] at h5
        rcases h5 with h5 | h5
        · exact .inr (.inl h5)
        · exact .inr (.inr (chkL_ok h5))
    | succ j =>
      rw [List.getElem?_cons_succ] at h1 h2 h3
      rw [show i + (j + 1) = i + 1 + j by omega]
      exact chkB_ok fs os ws (i + 1) h.2 j e o w h1 h2 h3 h4
theorem Ent_get {env' : List AV} : ∀ {es : List Ent} {j : Nat}, j < es.length → ∃ e, es[j]? = some e ∧ envAt env' es j = e.env ∧ xAt es j = e.x
  | [], j, h => by simp at h
  | e :: es, 0, h => ⟨e, rfl, rfl, rfl⟩
  | e :: es, j + 1, h => by
    obtain ⟨f, h1, h2, h3⟩ := Ent_get (env' := env') (es := es) (j := j) (by simp at h; omega)
    exact ⟨f, by rw [List.getElem?_cons_succ]; exact h1, h2, h3⟩
theorem passB_len {P : Program} {call : FuncId → List AV → Mem → OV} {all : List Oper} : ∀ (os : List Oper) (i : Nat) (env : List AV) (m : Mem) (es : List Ent) (env' : List AV) (m' : Mem), passB P call all os i env m = .ok es env' m' → es.length = os.length
  | [], i, env, m, es, env', m', h => by
    simp only [passB, OP.ok.injEq] at h; rw [← h.1]; rfl
  | o :: os, i, env, m, es, env', m', h => by
    have step : ∀ e r, (∀ es1 env1 m1, r = .ok es1 env1 m1 → es1.length = os.length) → consE e r = .ok es env' m' → es.length = os.length + 1 := by
      intro e r hr hcons
      cases r with
      | none => cases hcons
      | ok es1 env1 m2 =>
        simp only [consE, OP.ok.injEq] at hcons
        obtain ⟨rfl, rfl, rfl⟩ := hcons
        rw [List.length_cons, hr _ _ _ rfl]
    simp only [passB] at h
    split at h
    · split at h
      · split at h
        · exact step _ _ (fun es1 env1 m1 q => passB_len os _ _ _ es1 env1 m1 q) (lenP_ok h).2
        · cases h
      · split at h
        · exact step _ _ (fun es1 env1 m1 q => passB_len os _ _ _ es1 env1 m1 q) h
        · cases h
    · exact step _ _ (fun es1 env1 m1 q => passB_len os _ _ _ es1 env1 m1 q) h
    · cases h
/-- Operations that only lay a new block. -/
def isFree (op : Op) : Bool :=
  match op with
  | .alloc _ => true
  | .box _ _ => true
  | .makeMap _ none => true
  | _ => false
def noGuard (g : Option (Nat × Bool)) : Bool := match g with | none => true | some _ => false
def feB (all : List Oper) (i : Nat) : Bool := match nthO all i with | some o => isFree o.op && noGuard o.guard | none => false
theorem newB_mm' {P : Program} {o : Oper} {t : TypeId} {ev : Operand → AV} {m : List AObj} (ho : o.op = .makeMap t none) : NewB P o ev m (fun k => .mp k) (.map []) := by
  intro a w β fr L hr
  refine ⟨.map (some w.heap.size), { w with heap := w.heap.push (.map #[] 0) }, .map #[] 0, ?_, rfl, rfl, rfl, rfl, fun β' tg E hb => ⟨?_, ?_⟩⟩
  · simp [execOp, ho, Instr.makeMap]
  · exact ⟨w.heap.size, #[], hb, by simp, rfl, fun i hi => by simp at hi⟩
  · simp only [Rep]; exact ⟨_, hb, rfl⟩
theorem free_ok {P : Program} {call : FuncId → List AV → Mem → OV} {o : Oper} {ev : Operand → AV} {m m' : Mem} {r : AV} (hf : isFree o.op = true) (h : ro P call o.op ev m = .val r m') :
    ∃ (X : Nat → AV) (ob : AObj), r = X m.L.length ∧ m'.L = m.L ++ [ob] ∧ ob.gen = some 0 ∧ ∀ mm, NewB P o ev mm X ob := by
  have box : ∀ x : AV, pbx x m = .val r m' → x.sure = true ∧ r = .ref m.L.length 0 x.cells.length 0 0 ∧ m'.L = m.L ++ [.arr 0 x.cells.length [x]] := by
    intro x hx
    have k := pbx_ok x m r m' hx
    exact ⟨k.1, k.2.1.symm, k.2.2.symm⟩
  obtain ⟨dst, op, ty, pos, after, guard⟩ := o
  cases op <;> first | (cases hf; done) | skip
  case alloc t =>
    simp only [ro, qo, qpp, ppop, qn, mo] at h
    split at h
    · rename_i x hz
      obtain ⟨h1, h2, h3⟩ := box x h
      exact ⟨_, _, h2, h3, rfl, fun mm => newB_alloc rfl hz h1⟩
    · cases h
  case box t x =>
    simp only [ro, qo, qpp, ppop, qn, mo] at h
    obtain ⟨h1, h2, h3⟩ := box (ev x) h
    exact ⟨_, _, h2, h3, rfl, fun mm => newB_box rfl h1⟩
  case makeMap t z =>
    cases z with
    | some z => cases hf
    | none =>
      simp only [ro, qo, qpp, ppop, qn, mo] at h
      have k := pmm_ok m r m' h
      exact ⟨fun k => .mp k, _, k.1.symm, k.2.symm, rfl, fun mm => newB_mm' rfl⟩
def okD (ops : Array Oper) : Bool := okDraw ops && okFree ops (tuB ops.toList) (feB ops.toList)
def drawB (P : Program) (call : FuncId → List AV → Mem → OV) (ops : Array Oper) (env : List AV) (m : Mem) : OE :=
  bif okD ops then (match passB P call ops.toList ops.toList 0 env m with
    | .ok es env' m' => bif chkB P ops.toList ops.size env' m' es es ops.toList (winL ops.toList ops.size) 0 then .ok env' m' else .none
    | .none => .none) else .none
theorem bifo {b : Bool} {X : OE} {env : List AV} {m' : Mem} (h : (bif b then X else OE.none) = .ok env m') : b = true ∧ X = .ok env m' := by
  cases b with
  | false => cases h
  | true => exact ⟨rfl, h⟩
theorem drawB_ok {P : Program} (hm : P.follows .mixedOrders = true) {call : FuncId → List AV → Mem → OV} (hc : CallOk P call) {ops : Array Oper} {env : List AV} {m : Mem} {env' : List AV} {m' : Mem} (h : drawB P call ops env m = .ok env' m') :
    ADraw P ops (fun e g => e = env' ∧ g = m'.L) env m.L := by
  unfold drawB at h
  obtain ⟨hok, h⟩ := bifo h
  rw [okD, Bool.and_eq_true] at hok
  split at h
  case h_2 => cases h
  rename_i es env1 m1 hp
  obtain ⟨hk, h⟩ := bifo h
  simp only [OE.ok.injEq] at h
  obtain ⟨rfl, rfl⟩ := h
  obtain ⟨f1, f2, f3, f4, f5⟩ := passB_ok (all := ops.toList) hc ops.toList [] env m es env1 m1 rfl hp
  have hlen := passB_len _ _ _ _ _ _ _ hp
  have hsz : ops.toList.length = ops.size := by simp
  have htu : ∀ i o, ops.toList[i]? = some o → tuB ops.toList i = isT o.op := by
    intro i o ho; simp only [tuB, nthO_eq, ho]
  have hmix : ∀ i, i ≤ ops.size → mix ops.toList (xAt es) (fun _ => true) env i = envAt env1 es i := by
    intro i
    induction i with
    | zero => intro _; rw [f1]; rfl
    | succ i ih =>
      intro hi
      have ho : ops.toList[i]? = some (ops.toList[i]'(by omega)) := List.getElem?_eq_getElem (by omega)
      simp only [mix, if_true]
      rw [ih (by omega), (f5 i _ ho).1]
      simp [dstAt, ho]
  have hH : ∀ i, tuB ops.toList i = false → (memAt m1 es (i + 1)).L = (memAt m1 es i).L := by
    intro i hi
    by_cases q : i < ops.size
    · have ho : ops.toList[i]? = some (ops.toList[i]'(by omega)) := List.getElem?_eq_getElem (by omega)
      rw [htu i _ ho] at hi
      rw [(f5 i _ ho).2.1 hi]
    · have far : ∀ (es : List Ent) (k : Nat), es.length ≤ k → memAt m1 es k = m1 := by
        intro es
        induction es with
        | nil => intro k _; rfl
        | cons e es ih => intro k hk; cases k with
          | zero => simp at hk
          | succ k => exact ih k (by simp at hk; omega)
      rw [far es _ (by omega), far es _ (by omega)]
  have hwin : ∀ i k, i < ops.size → Win ops (tuB ops.toList) i k → ∃ k', k' ∈ wins (ancL ops.toList []) ops.toList ops.size i ∧ (memAt m1 es k).L = (memAt m1 es k').L := by
    intro i k hi hw
    obtain ⟨hkn, hw⟩ := hw
    refine ⟨curK (tuB ops.toList) (fun _ => true) k, ?_, ?_⟩
    · have hle := curK_le (tuB ops.toList) (fun _ => true) k
      unfold wins
      rw [List.mem_filter, List.mem_range]
      refine ⟨by omega, ?_⟩
      rw [Bool.and_eq_true]
      refine ⟨?_, ?_⟩
      · rcases curK_cases (tuB ops.toList) (fun _ => true) k with e | ⟨t, q1, q2, q3, q4⟩
        · rw [e]
        · rw [q4]; exact q2
      · unfold winB
        rw [Bool.and_eq_true]
        refine ⟨by rw [ble_iff]; omega, ?_⟩
        rw [List.all_eq_true]
        intro t ht
        rw [List.mem_range] at ht
        cases htt : tuB ops.toList t with
        | false => rfl
        | true =>
          obtain ⟨a, b⟩ := hw t ht htt
          simp only [Bool.not_true, Bool.false_or, Bool.and_eq_true, Bool.or_eq_true, Bool.not_eq_true', blt_iff, ble_iff]
          refine ⟨?_, ?_⟩
          · cases hc1 : ((ancL ops.toList []).getD i []).contains t with
            | false => exact .inl rfl
            | true => exact .inr (curK_gt htt rfl k (a (by simpa using hc1)))
          · cases hc1 : ((ancL ops.toList []).getD t []).contains i with
            | false => exact .inl rfl
            | true => have := b (by simpa using hc1); exact .inr (by omega)
    · refine chain_mem (H := fun k => (memAt m1 es k).L) hH k _ (curK_le _ _ _) fun t h1 h2 => ?_
      cases e : tuB ops.toList t with
      | false => rfl
      | true => have := curK_gt (tu := tuB ops.toList) (S := fun _ => true) e rfl k h2; omega
  have hfe : ∀ i, feB ops.toList i = true → tuB ops.toList i = true := by
    intro i hi
    unfold feB at hi; unfold tuB
    split at hi
    · rw [Bool.and_eq_true] at hi
      have := hi.1
      unfold isFree at this
      split at this <;> first | (rename_i e; rw [e]; rfl) | cases this
    · cases hi
  have hfree : ∀ i o, ops.toList[i]? = some o → feB ops.toList i = true → o.guard = none ∧ ∃ (X : Nat → AV) (ob : AObj), xAt es i = X (memAt m1 es i).L.length ∧ (memAt m1 es (i + 1)).L = (memAt m1 es i).L ++ [ob] ∧ ob.gen = some 0 ∧ ∀ mm, NewB P o (evA (envAt env1 es i)) mm X ob := by
    intro i o ho hi
    have hi2 := hfe i hi
    rw [htu i o ho] at hi2
    unfold feB at hi
    rw [nthO_eq, ho] at hi
    simp only [Bool.and_eq_true] at hi
    have hg : o.guard = none := by
      have := hi.2
      unfold noGuard at this
      split at this
      · assumption
      · cases this
    obtain ⟨_, _, _, _, _, hro⟩ := f5 i o ho
    have := free_ok hi.1 (hro hi2 (by rw [hg]; rfl))
    rw [evB_eq] at this
    exact ⟨hg, this⟩
  have hO : ∀ i, i < ops.size → feB ops.toList i = true → (((memAt m1 es (i + 1)).L.getD (memAt m1 es i).L.length .dead).gen = some 0 ∧ (memAt m1 es (i + 1)).L = (memAt m1 es i).L ++ [(memAt m1 es (i + 1)).L.getD (memAt m1 es i).L.length .dead]) := by
    intro i hi hf
    have ho : ops.toList[i]? = some (ops.toList[i]'(by omega)) := List.getElem?_eq_getElem (by omega)
    obtain ⟨_, X, ob, h1, h2, h3, h4⟩ := hfree i _ ho hf
    have : (memAt m1 es (i + 1)).L.getD (memAt m1 es i).L.length .dead = ob := by rw [h2]; simp
    rw [this]; exact ⟨h3, h2⟩
  have hlenH : ∀ i, ((memAt m1 es i).L).length ≤ ((memAt m1 es (i + 1)).L).length := by
    intro i
    by_cases q : i < ops.size
    · have ho : ops.toList[i]? = some (ops.toList[i]'(by omega)) := List.getElem?_eq_getElem (by omega)
      obtain ⟨_, _, _, _, hle, _⟩ := f5 i _ ho
      rw [Mem.L_len, Mem.L_len]; exact hle
    · have : tuB ops.toList i = false := by
        unfold tuB
        rw [nthO_eq, List.getElem?_eq_none (by omega)]
      rw [hH i this]; exact Nat.le_refl _
  have := ADraw.free (K := fun e g => e = env1 ∧ g = m1.L) (tu := tuB ops.toList) (fe := feB ops.toList) (xs := xAt es) (H := fun k => (memAt m1 es k).L) (O := fun i => (memAt m1 es (i + 1)).L.getD (memAt m1 es i).L.length .dead) (env := env) hm hok.1 hok.2 hH hfe hO hlenH ?_ ?_ ?_ ?_
  · rw [f2] at this; exact this
  · intro i o ho hti k hw
    have hi : i < ops.size := by rw [← hsz]; exact (List.getElem?_eq_some_iff.1 ho).1
    rw [htu i o ho] at hti
    rw [hmix i (by omega)]
    obtain ⟨g1, g2, g3, g4, -, -⟩ := f5 i o ho
    simp only [List.length_nil, Nat.zero_add, List.nil_append] at g4
    obtain ⟨e, he1, he2, he3⟩ := Ent_get (env' := env1) (es := es) (j := i) (by omega)
    rcases g4 with g4 | ⟨g4, gx⟩
    · refine ⟨true, guardB_ok g4, fun _ => ?_, fun q => by cases q⟩
      obtain ⟨k', hk', hke⟩ := hwin i k hi hw
      have hws : (winL ops.toList ops.size)[i]? = some (wins (ancL ops.toList []) ops.toList ops.size i) := by simp [winL, hi]
      have hchk := chkB_ok es ops.toList (winL ops.toList ops.size) 0 hk i e o _ he1 ho hws hti
      rw [Nat.zero_add, ← he2, ← he3] at hchk
      rcases hchk with c | c | c
      · rw [g4] at c; cases c
      · -- the answer at the text's place
        have hown : ∃ y, qo P o.op (evB (envAt env1 es i)) (memAt m1 es i).at = some y ∧ y = xAt es i := by
          have key : ∀ (os done : List Oper) (env : List AV) (m : Mem) (es : List Ent) (env' : List AV) (m' : Mem) (j : Nat) (o : Oper), ops.toList = done ++ os → passB P call ops.toList os done.length env m = .ok es env' m' → os[j]? = some o → isT o.op = false → guardB (envAt env' es j) ops.toList (done.length + j) o.guard = some true → qo P o.op (evB (envAt env' es j)) (memAt m' es j).at = some (xAt es j) := by
            intro os
            induction os with
            | nil => intro done env m es env' m' j o _ _ hj; simp at hj
            | cons q os ih =>
              intro done env m es env' m' j o he hpass hj hT hG
              have he' : ops.toList = (done ++ [q]) ++ os := by simp [he]
              have hl : (done ++ [q]).length = done.length + 1 := by simp
              have stepS : ∀ x m1 r, r = passB P call ops.toList os (done.length + 1) (putB env q.dst x) m1 → consE ⟨env, x, m⟩ r = .ok es env' m' → (isT q.op = false → guardB env ops.toList done.length q.guard = some true → qo P q.op (evB env) m.at = some x) → qo P o.op (evB (envAt env' es j)) (memAt m' es j).at = some (xAt es j) := by
                intro x m1 r hr hcons hx
                cases r with
                | none => cases hcons
                | ok es1 env2 m2 =>
                  simp only [consE, OP.ok.injEq] at hcons
                  obtain ⟨rfl, rfl, rfl⟩ := hcons
                  cases j with
                  | zero =>
                    simp only [List.getElem?_cons_zero, Option.some.injEq] at hj
                    subst hj
                    exact hx hT hG
                  | succ j =>
                    rw [List.getElem?_cons_succ] at hj
                    rw [← hl] at hr
                    exact ih (done ++ [q]) _ m1 es1 env2 m2 j o he' hr.symm hj hT (by rw [hl, show done.length + 1 + j = done.length + (j + 1) by omega]; exact hG)
              simp only [passB] at hpass
              split at hpass
              · rename_i hg
                split at hpass
                · rename_i ht
                  split at hpass
                  · exact stepS _ _ _ rfl (lenP_ok hpass).2 (fun q1 => by rw [ht] at q1; cases q1)
                  · cases hpass
                · rename_i ht
                  split at hpass
                  · rename_i x hr; exact stepS _ _ _ rfl hpass (fun _ _ => hr)
                  · cases hpass
              · rename_i hg
                exact stepS _ _ _ rfl hpass (fun _ q1 => by rw [hg] at q1; cases q1)
              · cases hpass
          exact ⟨_, key ops.toList [] env m es env1 m1 i o rfl hp ho hti (by simpa using g4), rfl⟩
        obtain ⟨y, hy, rfl⟩ := hown
        rw [memFree_ok c _ (memAt m1 es k).at] at hy
        rw [← evB_eq]; exact qo_ok hy
      · have := c k' hk'
        rw [hke, ← evB_eq]
        exact qo_ok this
    · refine ⟨false, guardB_ok g4, fun q => (by cases q), fun _ => ⟨gx, rfl⟩⟩
  · intro i o ho hti _
    have hi : i < ops.size := by rw [← hsz]; exact (List.getElem?_eq_some_iff.1 ho).1
    rw [htu i o ho] at hti
    rw [hmix i (by omega)]
    have := (f5 i o ho).2.2.1 hti
    simpa using this
  · intro i o ho hfi
    have hi : i < ops.size := by rw [← hsz]; exact (List.getElem?_eq_some_iff.1 ho).1
    rw [hmix i (by omega)]
    obtain ⟨hg, X, ob, h1, h2, h3, h4⟩ := hfree i o ho hfi
    have : (memAt m1 es (i + 1)).L.getD (memAt m1 es i).L.length .dead = ob := by rw [h2]; simp
    refine ⟨hg, X, h1, fun mm => ?_⟩
    simp only [this]
    exact h4 mm
  · rw [hmix _ (Nat.le_refl _)]
    rw [hsz] at f3 f4
    exact ⟨f4, by rw [f3]⟩
end Go.Proofs.Vale
