/- YtmhcmpeffhlaeaaGreatVDictB: a text of the proof of this claim, by its prover. -/
import Derived.Test.YtmhcmpeffhlaeaaGreatVY
import Derived.Test.YtmhcmpeffhlaeaaGreatVTy
import Derived.Test.YtmhcmpeffhlaeaaGreatVDictS
import Derived.Lib.RowBridge
set_option linter.unusedVariables false
set_option linter.unusedSimpArgs false
set_option maxHeartbeats 4000000
set_option maxRecDepth 100000
namespace Go.Proofs.Vale
open Go.Proofs Go.Proofs.YtmhcmpeffhlaeaaGreatT
attribute [local irreducible] acode aopsL aopsT dopsL dopsT pop popG aop ALoop ADraw ACall AWP AFin acondT ALoopT ADrawT ACallT doP doG doGd

theorem mixedOrdersD : Tryz.prog.follows .mixedOrders = true := by kernel_rfl
abbrev Str := List UInt8
def strs (l : List Str) : List AV := l.map .str
theorem strs_len (l : List Str) : (strs l).length = l.length := by simp [strs]
theorem strs_get (l : List Str) (k : Nat) (h : k < l.length) : (strs l).getD k .any = .str l[k] := by simp [strs, List.getD_eq_getElem?_getD, h]
theorem strs_out (l : List Str) (k : Nat) (h : l.length ≤ k) : (strs l).getD k .any = .any := by simp [strs, List.getD_eq_getElem?_getD, h]
theorem strs_cells (l : List Str) : ∀ x, x ∈ strs l → x.cells.length = 1 := by
  intro x hx; simp only [strs, List.mem_map] at hx; obtain ⟨n, _, rfl⟩ := hx; rfl
theorem flatS (l : List Str) : ∀ y ∈ strs l, flatX y = true := flatX_strs l
theorem low_strs (n : Nat) : ∀ l : List Str, lowL n (strs l) = true
  | [] => rfl
  | s :: l => by simp only [strs, List.map_cons, lowL, AV.low, Bool.true_and]; exact low_strs n l
theorem low_bytes (n : Nat) : ∀ l : List UInt8, lowL n (bytesA l) = true
  | [] => rfl
  | s :: l => by simp only [bytesA, List.map_cons, lowL, AV.low, Bool.true_and]; exact low_bytes n l
attribute [go_sem] strs_len
@[go_sem] theorem take_strs (l : List Str) : List.take l.length (strs l) = strs l := by rw [← strs_len l, List.take_length]
@[go_sem] theorem take_bytes (l : Str) : List.take l.length (bytesA l) = bytesA l := by rw [← bytesA_len l, List.take_length]
/-- s is below t. -/
abbrev sLt (s t : Str) : Bool := Op.bytesLess s t
def dfits (s : Str) : Bool := !(s == []) && decide (s.length ≤ 24)

theorem dfits_ok (s : Str) (h : List AObj) : ACall Tryz.prog 70 [.str s] h (fun r _ => r = .bool (dfits s)) := by
  (refine ACall.of_code Tryz.func70 rfl ?_; simp only [Tryz.f70]; simp only [go_sem, Nat.reduceMul, Nat.reduceLT, Nat.reduceLeDiff, Nat.reduceEqDiff, Nat.reduceBEq, Int.toNat_natCast, Int.reduceToNat, Int.reduceNeg, Int.reduceLT, Int.reduceLE, Int.reduceBEq, Int.reduceBNe, decide_true, decide_false, Bool.false_eq_true, false_imp_iff, Nat.lt_irrefl])
  refine Fin_plain ?_
  have e : decide ((s.length : Int) ≤ 24) = decide (s.length ≤ 24) := by congr 1; simp; omega
  simp only [dfits, e]
  cases s <;> simp [bne]
theorem rfits_ok (s : Str) (h : List AObj) : ACall Tryz.prog 75 [.str s] h (fun r _ => r = .bool (dfits s)) := by
  (refine ACall.of_code Tryz.func75 rfl ?_; simp only [Tryz.f75]; simp only [go_sem, Nat.reduceMul, Nat.reduceLT, Nat.reduceLeDiff, Nat.reduceEqDiff, Nat.reduceBEq, Int.toNat_natCast, Int.reduceToNat, Int.reduceNeg, Int.reduceLT, Int.reduceLE, Int.reduceBEq, Int.reduceBNe, decide_true, decide_false, Bool.false_eq_true, false_imp_iff, Nat.lt_irrefl])
  refine Fin_plain ?_
  have e : decide ((s.length : Int) ≤ 24) = decide (s.length ≤ 24) := by congr 1; simp; omega
  have e2 : decide (1 ≤ (s.length : Int)) = !(s == []) := by
    cases s with
    | nil => rfl
    | cons a s => simp; omega
  simp only [dfits, e, e2]
  cases (!(s == [])) <;> rfl
theorem new1_ok (s : Str) (h : List AObj) : ACall Tryz.prog 69 [.str s] h (fun r _ => r = .bool (!dfits s)) := by
  (refine ACall.of_code Tryz.func69 rfl ?_; simp only [Tryz.f69]; simp only [go_sem, Nat.reduceMul, Nat.reduceLT, Nat.reduceLeDiff, Nat.reduceEqDiff, Nat.reduceBEq, Int.toNat_natCast, Int.reduceToNat, Int.reduceNeg, Int.reduceLT, Int.reduceLE, Int.reduceBEq, Int.reduceBNe, decide_true, decide_false, Bool.false_eq_true, false_imp_iff, Nat.lt_irrefl])
  (refine ACallT.pure (by simp only [go_sem, Nat.reduceMul, Nat.reduceLT, Nat.reduceLeDiff, Nat.reduceEqDiff, Nat.reduceBEq, Int.toNat_natCast, Int.reduceToNat, Int.reduceNeg, Int.reduceLT, Int.reduceLE, Int.reduceBEq, Int.reduceBNe, decide_true, decide_false, Bool.false_eq_true, false_imp_iff, Nat.lt_irrefl]; rfl) (by first | trivial | assumption | (simp only [go_sem, Nat.reduceMul, Nat.reduceLT, Nat.reduceLeDiff, Nat.reduceEqDiff, Nat.reduceBEq, Int.toNat_natCast, Int.reduceToNat, Int.reduceNeg, Int.reduceLT, Int.reduceLE, Int.reduceBEq, Int.reduceBNe, decide_true, decide_false, Bool.false_eq_true, false_imp_iff, Nat.lt_irrefl]; done) | (simp only [go_sem, Nat.reduceMul, Nat.reduceLT, Nat.reduceLeDiff, Nat.reduceEqDiff, Nat.reduceBEq, Int.toNat_natCast, Int.reduceToNat, Int.reduceNeg, Int.reduceLT, Int.reduceLE, Int.reduceBEq, Int.reduceBNe, decide_true, decide_false, Bool.false_eq_true, false_imp_iff, Nat.lt_irrefl]; first | trivial | assumption | omega | decide | (refine ⟨?_, ?_⟩ <;> first | trivial | assumption | omega | decide))) (dfits_ok s _) ?_; refine fun _ _ e => ?_; subst e; refine ⟨rfl, ?_⟩; simp only [go_sem, Nat.reduceMul, Nat.reduceLT, Nat.reduceLeDiff, Nat.reduceEqDiff, Nat.reduceBEq, Int.toNat_natCast, Int.reduceToNat, Int.reduceNeg, Int.reduceLT, Int.reduceLE, Int.reduceBEq, Int.reduceBNe, decide_true, decide_false, Bool.false_eq_true, false_imp_iff, Nat.lt_irrefl])
  refine Fin_plain rfl
theorem isNaN_ok (s : Str) (h : List AObj) : ACall Tryz.prog 142 [.str s] h (fun r _ => r = .bool false) := by
  (refine ACall.of_code Tryz.func142 rfl ?_; simp only [Tryz.f142]; simp only [go_sem, Nat.reduceMul, Nat.reduceLT, Nat.reduceLeDiff, Nat.reduceEqDiff, Nat.reduceBEq, Int.toNat_natCast, Int.reduceToNat, Int.reduceNeg, Int.reduceLT, Int.reduceLE, Int.reduceBEq, Int.reduceBNe, decide_true, decide_false, Bool.false_eq_true, false_imp_iff, Nat.lt_irrefl])
  refine Fin_plain ?_
  simp
theorem isNaN2_ok (s : Str) (h : List AObj) : ACall Tryz.prog 134 [.str s] h (fun r _ => r = .bool false) := by
  (refine ACall.of_code Tryz.func134 rfl ?_; simp only [Tryz.f134]; simp only [go_sem, Nat.reduceMul, Nat.reduceLT, Nat.reduceLeDiff, Nat.reduceEqDiff, Nat.reduceBEq, Int.toNat_natCast, Int.reduceToNat, Int.reduceNeg, Int.reduceLT, Int.reduceLE, Int.reduceBEq, Int.reduceBNe, decide_true, decide_false, Bool.false_eq_true, false_imp_iff, Nat.lt_irrefl])
  refine Fin_plain ?_
  simp
theorem less_ok (s t : Str) (h : List AObj) : ACall Tryz.prog 130 [.str s, .str t] h (fun r _ => r = .bool (sLt s t)) := by
  (refine ACall.of_code Tryz.func130 rfl ?_; simp only [Tryz.f130]; simp only [go_sem, Nat.reduceMul, Nat.reduceLT, Nat.reduceLeDiff, Nat.reduceEqDiff, Nat.reduceBEq, Int.toNat_natCast, Int.reduceToNat, Int.reduceNeg, Int.reduceLT, Int.reduceLE, Int.reduceBEq, Int.reduceBNe, decide_true, decide_false, Bool.false_eq_true, false_imp_iff, Nat.lt_irrefl])
  (refine ACallT.pure (by simp only [go_sem, Nat.reduceMul, Nat.reduceLT, Nat.reduceLeDiff, Nat.reduceEqDiff, Nat.reduceBEq, Int.toNat_natCast, Int.reduceToNat, Int.reduceNeg, Int.reduceLT, Int.reduceLE, Int.reduceBEq, Int.reduceBNe, decide_true, decide_false, Bool.false_eq_true, false_imp_iff, Nat.lt_irrefl]; rfl) (by first | trivial | assumption | (simp only [go_sem, Nat.reduceMul, Nat.reduceLT, Nat.reduceLeDiff, Nat.reduceEqDiff, Nat.reduceBEq, Int.toNat_natCast, Int.reduceToNat, Int.reduceNeg, Int.reduceLT, Int.reduceLE, Int.reduceBEq, Int.reduceBNe, decide_true, decide_false, Bool.false_eq_true, false_imp_iff, Nat.lt_irrefl]; done) | (simp only [go_sem, Nat.reduceMul, Nat.reduceLT, Nat.reduceLeDiff, Nat.reduceEqDiff, Nat.reduceBEq, Int.toNat_natCast, Int.reduceToNat, Int.reduceNeg, Int.reduceLT, Int.reduceLE, Int.reduceBEq, Int.reduceBNe, decide_true, decide_false, Bool.false_eq_true, false_imp_iff, Nat.lt_irrefl]; first | trivial | assumption | omega | decide | (refine ⟨?_, ?_⟩ <;> first | trivial | assumption | omega | decide))) (isNaN_ok s _) ?_; refine fun _ _ e => ?_; subst e; refine ⟨rfl, ?_⟩; simp only [go_sem, Nat.reduceMul, Nat.reduceLT, Nat.reduceLeDiff, Nat.reduceEqDiff, Nat.reduceBEq, Int.toNat_natCast, Int.reduceToNat, Int.reduceNeg, Int.reduceLT, Int.reduceLE, Int.reduceBEq, Int.reduceBNe, decide_true, decide_false, Bool.false_eq_true, false_imp_iff, Nat.lt_irrefl])
  refine Fin_plain ?_
  rfl
theorem all_ok (c : Bool) (l : List Str) (h : List AObj) : ACall Tryz.prog 35 [.ptr (.agg [.fz c (strs l)])] h (fun r _ => r = .fz c (strs l)) := by
  (refine ACall.of_code Tryz.func35 rfl ?_; simp only [Tryz.f35]; simp only [go_sem, Nat.reduceMul, Nat.reduceLT, Nat.reduceLeDiff, Nat.reduceEqDiff, Nat.reduceBEq, Int.toNat_natCast, Int.reduceToNat, Int.reduceNeg, Int.reduceLT, Int.reduceLE, Int.reduceBEq, Int.reduceBNe, decide_true, decide_false, Bool.false_eq_true, false_imp_iff, Nat.lt_irrefl])
  refine Fin_plain rfl
theorem all_nil (h : List AObj) : ACall Tryz.prog 35 [.nilp] h (fun r _ => r = .fz true []) := by
  (refine ACall.of_code Tryz.func35 rfl ?_; simp only [Tryz.f35]; simp only [go_sem, Nat.reduceMul, Nat.reduceLT, Nat.reduceLeDiff, Nat.reduceEqDiff, Nat.reduceBEq, Int.toNat_natCast, Int.reduceToNat, Int.reduceNeg, Int.reduceLT, Int.reduceLE, Int.reduceBEq, Int.reduceBNe, decide_true, decide_false, Bool.false_eq_true, false_imp_iff, Nat.lt_irrefl])
  refine Fin_plain rfl
/-- The dictionary of the texts l: nil where d says so. -/
def dictA (d : Option Bool) (l : List Str) : AV :=
  match d with
  | none => .nilp
  | some c => .ptr (.agg [.fz c (strs l)])
def dictL (d : Option Bool) (l : List Str) : List Str :=
  match d with
  | none => []
  | some _ => l
def dictC (d : Option Bool) : Bool :=
  match d with
  | none => true
  | some c => c
@[go_sem] theorem dict_strip (d : Option Bool) (l : List Str) : (dictA d l).strip = dictA d l := by cases d <;> rfl
@[go_sem] theorem dict_stripT (d : Option Bool) (l : List Str) : (dictA d l).stripT = dictA d l := by cases d <;> rfl
@[go_sem] theorem dict_okS (d : Option Bool) (l : List Str) : (dictA d l).okS = True := by cases d <;> simp [dictA, AV.okS]
@[go_sem] theorem dict_lend (d : Option Bool) (l : List Str) (h : List AObj) : lendA h (dictA d l) = some (True, dictA d l) := by cases d <;> rfl
theorem all_ok' (d : Option Bool) (l : List Str) (h : List AObj) : ACall Tryz.prog 35 [dictA d l] h (fun r _ => r = .fz (dictC d) (strs (dictL d l))) := by
  cases d with
  | none => exact all_nil h
  | some c => exact all_ok c l h
theorem len_ok (d : Option Bool) (l : List Str) (h : List AObj) : ACall Tryz.prog 17 [dictA d l] h (fun r _ => r = .int .i64 (dictL d l).length) := by
  (refine ACall.of_code Tryz.func17 rfl ?_; simp only [Tryz.f17]; simp only [go_sem, Nat.reduceMul, Nat.reduceLT, Nat.reduceLeDiff, Nat.reduceEqDiff, Nat.reduceBEq, Int.toNat_natCast, Int.reduceToNat, Int.reduceNeg, Int.reduceLT, Int.reduceLE, Int.reduceBEq, Int.reduceBNe, decide_true, decide_false, Bool.false_eq_true, false_imp_iff, Nat.lt_irrefl])
  (refine ACallT.frame (all_ok' d l _) ?_; refine fun _ _ e => ?_; subst e; refine ⟨by (first | rfl | (simp only [AV.low, lowL, low_strs, low_bytes, Bool.and_true, Bool.and_self])), ?_⟩; simp only [go_sem, Nat.reduceMul, Nat.reduceLT, Nat.reduceLeDiff, Nat.reduceEqDiff, Nat.reduceBEq, Int.toNat_natCast, Int.reduceToNat, Int.reduceNeg, Int.reduceLT, Int.reduceLE, Int.reduceBEq, Int.reduceBNe, decide_true, decide_false, Bool.false_eq_true, false_imp_iff, Nat.lt_irrefl])
  refine Fin_plain rfl
theorem text_ok (d : Option Bool) (l : List Str) (i : Int) (h : List AObj) : ACall Tryz.prog 15 [dictA d l, .int .i64 i] h (fun r _ => r = if 0 ≤ i ∧ i < (dictL d l).length then .tup [.str ((dictL d l).getD i.toNat []), .bool true] else .tup [.str [], .bool false]) := by
  (refine ACall.of_code Tryz.func15 rfl ?_; simp only [Tryz.f15]; simp only [go_sem, Nat.reduceMul, Nat.reduceLT, Nat.reduceLeDiff, Nat.reduceEqDiff, Nat.reduceBEq, Int.toNat_natCast, Int.reduceToNat, Int.reduceNeg, Int.reduceLT, Int.reduceLE, Int.reduceBEq, Int.reduceBNe, decide_true, decide_false, Bool.false_eq_true, false_imp_iff, Nat.lt_irrefl])
  generalize hb : decide (i < 0) = b
  cases b with
  | true =>
    simp only [go_sem, Nat.reduceMul, Nat.reduceLT, Nat.reduceLeDiff, Nat.reduceEqDiff, Nat.reduceBEq, Int.toNat_natCast, Int.reduceToNat, Int.reduceNeg, Int.reduceLT, Int.reduceLE, Int.reduceBEq, Int.reduceBNe, decide_true, decide_false, Bool.false_eq_true, false_imp_iff, Nat.lt_irrefl]
    have hk : ¬ 0 ≤ i := by have := of_decide_eq_true hb; omega
    refine Fin_plain ?_
    rw [if_neg fun q => hk q.1]
  | false =>
    have hk : ¬ i < 0 := of_decide_eq_false hb
    simp only [go_sem, Nat.reduceMul, Nat.reduceLT, Nat.reduceLeDiff, Nat.reduceEqDiff, Nat.reduceBEq, Int.toNat_natCast, Int.reduceToNat, Int.reduceNeg, Int.reduceLT, Int.reduceLE, Int.reduceBEq, Int.reduceBNe, decide_true, decide_false, Bool.false_eq_true, false_imp_iff, Nat.lt_irrefl]
    (refine ACallT.pure (by simp only [go_sem, Nat.reduceMul, Nat.reduceLT, Nat.reduceLeDiff, Nat.reduceEqDiff, Nat.reduceBEq, Int.toNat_natCast, Int.reduceToNat, Int.reduceNeg, Int.reduceLT, Int.reduceLE, Int.reduceBEq, Int.reduceBNe, decide_true, decide_false, Bool.false_eq_true, false_imp_iff, Nat.lt_irrefl]; rfl) (by first | trivial | assumption | (simp only [go_sem, Nat.reduceMul, Nat.reduceLT, Nat.reduceLeDiff, Nat.reduceEqDiff, Nat.reduceBEq, Int.toNat_natCast, Int.reduceToNat, Int.reduceNeg, Int.reduceLT, Int.reduceLE, Int.reduceBEq, Int.reduceBNe, decide_true, decide_false, Bool.false_eq_true, false_imp_iff, Nat.lt_irrefl]; done) | (simp only [go_sem, Nat.reduceMul, Nat.reduceLT, Nat.reduceLeDiff, Nat.reduceEqDiff, Nat.reduceBEq, Int.toNat_natCast, Int.reduceToNat, Int.reduceNeg, Int.reduceLT, Int.reduceLE, Int.reduceBEq, Int.reduceBNe, decide_true, decide_false, Bool.false_eq_true, false_imp_iff, Nat.lt_irrefl]; first | trivial | assumption | omega | decide | (refine ⟨?_, ?_⟩ <;> first | trivial | assumption | omega | decide))) (len_ok d l _) ?_; refine fun _ _ e => ?_; subst e; refine ⟨rfl, ?_⟩; simp only [go_sem, Nat.reduceMul, Nat.reduceLT, Nat.reduceLeDiff, Nat.reduceEqDiff, Nat.reduceBEq, Int.toNat_natCast, Int.reduceToNat, Int.reduceNeg, Int.reduceLT, Int.reduceLE, Int.reduceBEq, Int.reduceBNe, decide_true, decide_false, Bool.false_eq_true, false_imp_iff, Nat.lt_irrefl])
    generalize hb2 : decide (((dictL d l).length : Int) ≤ i) = b
    cases b with
    | true =>
      have := of_decide_eq_true hb2
      simp only [go_sem, Nat.reduceMul, Nat.reduceLT, Nat.reduceLeDiff, Nat.reduceEqDiff, Nat.reduceBEq, Int.toNat_natCast, Int.reduceToNat, Int.reduceNeg, Int.reduceLT, Int.reduceLE, Int.reduceBEq, Int.reduceBNe, decide_true, decide_false, Bool.false_eq_true, false_imp_iff, Nat.lt_irrefl]
      refine Fin_plain ?_
      rw [if_neg fun q => by omega]
    | false =>
      have := of_decide_eq_false hb2
      cases d with
      | none => exfalso; simp [dictL] at this; omega
      | some c =>
        simp only [dictL] at this ⊢
        simp only [dictA]
        simp only [go_sem, Nat.reduceMul, Nat.reduceLT, Nat.reduceLeDiff, Nat.reduceEqDiff, Nat.reduceBEq, Int.toNat_natCast, Int.reduceToNat, Int.reduceNeg, Int.reduceLT, Int.reduceLE, Int.reduceBEq, Int.reduceBNe, decide_true, decide_false, Bool.false_eq_true, false_imp_iff, Nat.lt_irrefl]
        have hlt : i.toNat < l.length := by omega
        rw [strs_get l _ hlt]
        simp only [go_sem, Nat.reduceMul, Nat.reduceLT, Nat.reduceLeDiff, Nat.reduceEqDiff, Nat.reduceBEq, Int.toNat_natCast, Int.reduceToNat, Int.reduceNeg, Int.reduceLT, Int.reduceLE, Int.reduceBEq, Int.reduceBNe, decide_true, decide_false, Bool.false_eq_true, false_imp_iff, Nat.lt_irrefl]
        refine ⟨⟨by omega, by omega⟩, ?_⟩
        refine Fin_plain ?_
        have q : 0 ≤ i ∧ i < ((dictL (some c) l).length : Int) := ⟨by omega, by show i < (l.length : Int); omega⟩
        exact (if_pos q).symm ▸ (by rw [List.getD_eq_getElem?_getD, List.getElem?_eq_getElem hlt]; rfl)
/-- How many of a rising list are below s: by halving. -/
def bsF (l : List Str) (s : Str) : Nat := (l.takeWhile fun t => sLt t s).length
theorem sLt_trans {a b c : Str} (h : sLt a b = true) (k : sLt b c = true) : sLt a c = true := by
  induction a generalizing b c with
  | nil =>
    cases c with
    | nil => cases b <;> simp [sLt, Op.bytesLess] at k
    | cons z c => rfl
  | cons x a ih =>
    cases b with
    | nil => simp [sLt, Op.bytesLess] at h
    | cons y b =>
      cases c with
      | nil => simp [sLt, Op.bytesLess] at k
      | cons z c =>
        simp only [sLt, Op.bytesLess, Bool.or_eq_true, Bool.and_eq_true, decide_eq_true_eq, beq_iff_eq] at h k ⊢
        rcases h with h | ⟨rfl, h⟩ <;> rcases k with k | ⟨rfl, k⟩
        · exact .inl (UInt8.lt_trans h k)
        · exact .inl h
        · exact .inl k
        · exact .inr ⟨rfl, ih h k⟩
theorem bsF_eq (l : List Str) (s : Str) : ∀ (i : Nat) (hi : i ≤ l.length) (h1 : ∀ k, (hk : k < l.length) → k < i → sLt l[k] s = true) (h2 : ∀ k, (hk : k < l.length) → i ≤ k → sLt l[k] s = false), bsF l s = i := by
  induction l with
  | nil => intro i hi h1 h2; simp at hi; subst hi; rfl
  | cons x l ih =>
    intro i hi h1 h2
    simp only [bsF, List.takeWhile_cons]
    cases i with
    | zero =>
      have := h2 0 (by simp) (by simp)
      simp only [List.getElem_cons_zero] at this
      rw [this]; rfl
    | succ i =>
      have := h1 0 (by simp) (by simp)
      simp only [List.getElem_cons_zero] at this
      rw [this]
      have e := ih i (by simp at hi; exact hi) (fun k hk q => h1 (k + 1) (by simp; omega) (by omega)) (fun k hk q => h2 (k + 1) (by simp; omega) (by omega))
      simp only [if_true, List.length_cons]
      exact congrArg (· + 1) e
theorem bsF_eq2 (l : List Str) (s : Str) : ∀ (i : Nat) (hi : i ≤ l.length) (h1 : ∀ k, (hk : k < l.length) → k < i → sLt l[k] s = true) (h2 : ∀ hk : i < l.length, sLt l[i] s = false), bsF l s = i := by
  induction l with
  | nil => intro i hi h1 h2; simp at hi; subst hi; rfl
  | cons x l ih =>
    intro i hi h1 h2
    simp only [bsF, List.takeWhile_cons]
    cases i with
    | zero =>
      have := h2 (by simp)
      simp only [List.getElem_cons_zero] at this
      rw [this]; rfl
    | succ i =>
      have := h1 0 (by simp) (by simp)
      simp only [List.getElem_cons_zero] at this
      rw [this]
      have e := ih i (by simp at hi; exact hi) (fun k hk q => h1 (k + 1) (by simp; omega) (by omega)) (fun hk => h2 (by simp; omega))
      simp only [if_true, List.length_cons]
      exact congrArg (· + 1) e
theorem bsF_le (l : List Str) (s : Str) : bsF l s ≤ l.length := (List.takeWhile_sublist _).length_le
theorem bsearch_ok (c : Bool) (l : List Str) (s : Str) (h : List AObj) (hl : l.length ≤ 4611686018427387904) (hs : l.Pairwise fun a b => sLt a b = true) : ACall Tryz.prog 108 [.fz c (strs l), .str s] h (fun r _ => r = .tup [.int .i64 (bsF l s), .bool (l.getD (bsF l s) [] == s && decide (bsF l s < l.length))]) := by
  (refine ACall.of_code Tryz.func108 rfl ?_; simp only [Tryz.f108]; simp only [go_sem, Nat.reduceMul, Nat.reduceLT, Nat.reduceLeDiff, Nat.reduceEqDiff, Nat.reduceBEq, Int.toNat_natCast, Int.reduceToNat, Int.reduceNeg, Int.reduceLT, Int.reduceLE, Int.reduceBEq, Int.reduceBNe, decide_true, decide_false, Bool.false_eq_true, false_imp_iff, Nat.lt_irrefl])
  refine ALoop.over [7, 8, 9, 13, 14, 15, 16, 17, 18, 19, 20, 21, 22, 23, 24, 25, 26, 27, 28, 29, 30] (fun e h' => ∃ i j : Nat, i ≤ j ∧ j ≤ l.length ∧ e.getD 7 .any = .int .i64 i ∧ e.getD 8 .any = .int .i64 j ∧ (∀ k, (hk : k < l.length) → k < i → sLt l[k] s = true) ∧ (∀ k, (hk : k < l.length) → j ≤ k → sLt l[k] s = false)) (fun e _ => natA (e.getD 8 .any) - natA (e.getD 7 .any)) ⟨0, l.length, by simp, by simp, rfl, rfl, fun k hk h => by omega, fun k hk h => by omega⟩ ?_
  simp only [List.length_cons, List.length_nil, Nat.reduceAdd, allL_succ, allL_zero]
  intro y7 y8 y9 y13 y14 y15 y16 y17 y18 y19 y20 y21 y22 y23 y24 y25 y26 y27 y28 y29 y30 h' hI
  simp only [go_sem] at hI
  obtain ⟨i, j, hij, hj, rfl, rfl, hlo, hhi⟩ := hI
  simp only [go_sem, Nat.reduceMul, Nat.reduceLT, Nat.reduceLeDiff, Nat.reduceEqDiff, Nat.reduceBEq, Int.toNat_natCast, Int.reduceToNat, Int.reduceNeg, Int.reduceLT, Int.reduceLE, Int.reduceBEq, Int.reduceBNe, decide_true, decide_false, Bool.false_eq_true, false_imp_iff, Nat.lt_irrefl]
  refine acond_intro (fun hc => ?_) (fun hc => ?_)
  · have hlt : i < j := by simpa using hc
    simp only [go_sem, Nat.reduceMul, Nat.reduceLT, Nat.reduceLeDiff, Nat.reduceEqDiff, Nat.reduceBEq, Int.toNat_natCast, Int.reduceToNat, Int.reduceNeg, Int.reduceLT, Int.reduceLE, Int.reduceBEq, Int.reduceBNe, decide_true, decide_false, Bool.false_eq_true, false_imp_iff, Nat.lt_irrefl]
    generalize hm : IntKind.i64.wrap ((IntKind.u64.wrap (IntKind.i64.wrap ((i : Int) + (j : Int)))).fdiv (2 ^ min 1 64)) = m
    have hm : m = (((i + j) / 2 : Nat) : Int) := by
      rw [← hm, wrap_id (x := (i : Int) + (j : Int)) (by omega) (by omega), wrap_u64 (by omega) (by omega)]
      have e : (2 : Int) ^ min 1 64 = 2 := by decide
      rw [e, Int.fdiv_eq_ediv_of_nonneg _ (by decide), wrap_id (by omega) (by omega)]
      omega
    subst hm
    have hml : (i + j) / 2 < l.length := by omega
    simp only [go_sem, strs_get l _ hml, Nat.reduceMul, Nat.reduceLT, Nat.reduceLeDiff, Nat.reduceEqDiff, Nat.reduceBEq, Int.toNat_natCast, Int.reduceToNat, Int.reduceNeg, Int.reduceLT, Int.reduceLE, Int.reduceBEq, Int.reduceBNe, decide_true, decide_false, Bool.false_eq_true, false_imp_iff, Nat.lt_irrefl]
    refine ⟨⟨by omega, by omega⟩, ?_⟩
    (refine ACallT.pure (by simp only [go_sem, Nat.reduceMul, Nat.reduceLT, Nat.reduceLeDiff, Nat.reduceEqDiff, Nat.reduceBEq, Int.toNat_natCast, Int.reduceToNat, Int.reduceNeg, Int.reduceLT, Int.reduceLE, Int.reduceBEq, Int.reduceBNe, decide_true, decide_false, Bool.false_eq_true, false_imp_iff, Nat.lt_irrefl]; rfl) (by first | trivial | assumption | (simp only [go_sem, Nat.reduceMul, Nat.reduceLT, Nat.reduceLeDiff, Nat.reduceEqDiff, Nat.reduceBEq, Int.toNat_natCast, Int.reduceToNat, Int.reduceNeg, Int.reduceLT, Int.reduceLE, Int.reduceBEq, Int.reduceBNe, decide_true, decide_false, Bool.false_eq_true, false_imp_iff, Nat.lt_irrefl]; done) | (simp only [go_sem, Nat.reduceMul, Nat.reduceLT, Nat.reduceLeDiff, Nat.reduceEqDiff, Nat.reduceBEq, Int.toNat_natCast, Int.reduceToNat, Int.reduceNeg, Int.reduceLT, Int.reduceLE, Int.reduceBEq, Int.reduceBNe, decide_true, decide_false, Bool.false_eq_true, false_imp_iff, Nat.lt_irrefl]; first | trivial | assumption | omega | decide | (refine ⟨?_, ?_⟩ <;> first | trivial | assumption | omega | decide))) (less_ok _ s _) ?_; refine fun _ _ e => ?_; subst e; refine ⟨rfl, ?_⟩)
    generalize hb : sLt l[(i + j) / 2] s = b
    cases b with
    | true =>
      simp only [go_sem, Nat.reduceMul, Nat.reduceLT, Nat.reduceLeDiff, Nat.reduceEqDiff, Nat.reduceBEq, Int.toNat_natCast, Int.reduceToNat, Int.reduceNeg, Int.reduceLT, Int.reduceLE, Int.reduceBEq, Int.reduceBNe, decide_true, decide_false, Bool.false_eq_true, false_imp_iff, Nat.lt_irrefl]
      rw [wrap_id (x := (((i + j) / 2 : Nat) : Int) + 1) (by omega) (by omega)]
      refine ⟨⟨(i + j) / 2 + 1, j, by omega, hj, by simp, rfl, fun k hk h => ?_, hhi⟩, by omega⟩
      rcases Nat.lt_or_ge k ((i + j) / 2) with q | q
      · have := List.pairwise_iff_getElem.1 hs k ((i + j) / 2) hk hml q
        exact sLt_trans this hb
      · have : k = (i + j) / 2 := by omega
        subst this; exact hb
    | false =>
      simp only [go_sem, Nat.reduceMul, Nat.reduceLT, Nat.reduceLeDiff, Nat.reduceEqDiff, Nat.reduceBEq, Int.toNat_natCast, Int.reduceToNat, Int.reduceNeg, Int.reduceLT, Int.reduceLE, Int.reduceBEq, Int.reduceBNe, decide_true, decide_false, Bool.false_eq_true, false_imp_iff, Nat.lt_irrefl]
      refine ⟨⟨i, (i + j) / 2, by omega, by omega, rfl, rfl, hlo, fun k hk h => ?_⟩, by omega⟩
      rcases Nat.lt_or_ge ((i + j) / 2) k with q | q
      · have := List.pairwise_iff_getElem.1 hs ((i + j) / 2) k hml hk q
        cases e : sLt l[k] s with
        | false => rfl
        | true => rw [sLt_trans this e] at hb; cases hb
      · have : k = (i + j) / 2 := by omega
        subst this; exact hb
  · have hge : ¬ i < j := by simpa using hc
    have hij : i = j := by omega
    subst hij
    have he : bsF l s = i := bsF_eq l s i hj hlo hhi
    simp only [go_sem, Nat.reduceMul, Nat.reduceLT, Nat.reduceLeDiff, Nat.reduceEqDiff, Nat.reduceBEq, Int.toNat_natCast, Int.reduceToNat, Int.reduceNeg, Int.reduceLT, Int.reduceLE, Int.reduceBEq, Int.reduceBNe, decide_true, decide_false, Bool.false_eq_true, false_imp_iff, Nat.lt_irrefl]
    generalize hb : decide ((i : Int) < (l.length : Int)) = b
    cases b with
    | false =>
      have hge := of_decide_eq_false hb
      have hil : i = l.length := by omega
      simp only [go_sem, strs_out l i (by omega), Nat.reduceMul, Nat.reduceLT, Nat.reduceLeDiff, Nat.reduceEqDiff, Nat.reduceBEq, Int.toNat_natCast, Int.reduceToNat, Int.reduceNeg, Int.reduceLT, Int.reduceLE, Int.reduceBEq, Int.reduceBNe, decide_true, decide_false, Bool.false_eq_true, false_imp_iff, Nat.lt_irrefl]
      refine Fin_plain ?_
      rw [he]; subst hil; simp
    | true =>
      have hlt : i < l.length := by have := of_decide_eq_true hb; omega
      simp only [go_sem, strs_get l _ hlt, Nat.reduceMul, Nat.reduceLT, Nat.reduceLeDiff, Nat.reduceEqDiff, Nat.reduceBEq, Int.toNat_natCast, Int.reduceToNat, Int.reduceNeg, Int.reduceLT, Int.reduceLE, Int.reduceBEq, Int.reduceBNe, decide_true, decide_false, Bool.false_eq_true, false_imp_iff, Nat.lt_irrefl]
      refine ⟨⟨by omega, by omega⟩, ?_⟩
      have he2 : (l.getD (bsF l s) [] == s && decide (bsF l s < l.length)) = (l[i] == s) := by
        rw [he, List.getD_eq_getElem?_getD, List.getElem?_eq_getElem hlt]; simp [hlt]
      rw [he2]
      generalize hb3 : (l[i] == s) = b3
      cases b3 with
      | true =>
        simp only [go_sem, Nat.reduceMul, Nat.reduceLT, Nat.reduceLeDiff, Nat.reduceEqDiff, Nat.reduceBEq, Int.toNat_natCast, Int.reduceToNat, Int.reduceNeg, Int.reduceLT, Int.reduceLE, Int.reduceBEq, Int.reduceBNe, decide_true, decide_false, Bool.false_eq_true, false_imp_iff, Nat.lt_irrefl]
        refine Fin_plain ?_
        rw [he]
      | false =>
        simp only [go_sem, Nat.reduceMul, Nat.reduceLT, Nat.reduceLeDiff, Nat.reduceEqDiff, Nat.reduceBEq, Int.toNat_natCast, Int.reduceToNat, Int.reduceNeg, Int.reduceLT, Int.reduceLE, Int.reduceBEq, Int.reduceBNe, decide_true, decide_false, Bool.false_eq_true, false_imp_iff, Nat.lt_irrefl]
        refine ⟨⟨by omega, by omega⟩, ?_⟩
        (refine ACallT.pure (by simp only [go_sem, Nat.reduceMul, Nat.reduceLT, Nat.reduceLeDiff, Nat.reduceEqDiff, Nat.reduceBEq, Int.toNat_natCast, Int.reduceToNat, Int.reduceNeg, Int.reduceLT, Int.reduceLE, Int.reduceBEq, Int.reduceBNe, decide_true, decide_false, Bool.false_eq_true, false_imp_iff, Nat.lt_irrefl]; rfl) (by first | trivial | assumption | (simp only [go_sem, Nat.reduceMul, Nat.reduceLT, Nat.reduceLeDiff, Nat.reduceEqDiff, Nat.reduceBEq, Int.toNat_natCast, Int.reduceToNat, Int.reduceNeg, Int.reduceLT, Int.reduceLE, Int.reduceBEq, Int.reduceBNe, decide_true, decide_false, Bool.false_eq_true, false_imp_iff, Nat.lt_irrefl]; done) | (simp only [go_sem, Nat.reduceMul, Nat.reduceLT, Nat.reduceLeDiff, Nat.reduceEqDiff, Nat.reduceBEq, Int.toNat_natCast, Int.reduceToNat, Int.reduceNeg, Int.reduceLT, Int.reduceLE, Int.reduceBEq, Int.reduceBNe, decide_true, decide_false, Bool.false_eq_true, false_imp_iff, Nat.lt_irrefl]; first | trivial | assumption | omega | decide | (refine ⟨?_, ?_⟩ <;> first | trivial | assumption | omega | decide))) (isNaN2_ok l[i] _) ?_; refine fun _ _ e => ?_; subst e; refine ⟨rfl, ?_⟩; simp only [go_sem, Nat.reduceMul, Nat.reduceLT, Nat.reduceLeDiff, Nat.reduceEqDiff, Nat.reduceBEq, Int.toNat_natCast, Int.reduceToNat, Int.reduceNeg, Int.reduceLT, Int.reduceLE, Int.reduceBEq, Int.reduceBNe, decide_true, decide_false, Bool.false_eq_true, false_imp_iff, Nat.lt_irrefl])
        refine Fin_plain ?_
        rw [he]

theorem find_ok (d : Option Bool) (l : List Str) (s : Str) (h : List AObj) (hl : l.length ≤ 4611686018427387904) (hs : (dictL d l).Pairwise fun a b => sLt a b = true) : ACall Tryz.prog 72 [dictA d l, .str s] h (fun r _ => r = if ((dictL d l).getD (bsF (dictL d l) s) [] == s && decide (bsF (dictL d l) s < (dictL d l).length)) then .tup [.int .i64 (bsF (dictL d l) s), .bool true] else .tup [.int .i64 0, .bool false]) := by
  have hl2 : (dictL d l).length ≤ 4611686018427387904 := by cases d <;> simp [dictL, hl]
  (refine ACall.of_code Tryz.func72 rfl ?_; simp only [Tryz.f72]; simp only [go_sem, Nat.reduceMul, Nat.reduceLT, Nat.reduceLeDiff, Nat.reduceEqDiff, Nat.reduceBEq, Int.toNat_natCast, Int.reduceToNat, Int.reduceNeg, Int.reduceLT, Int.reduceLE, Int.reduceBEq, Int.reduceBNe, decide_true, decide_false, Bool.false_eq_true, false_imp_iff, Nat.lt_irrefl])
  (refine ACallT.frame (all_ok' d l _) ?_; refine fun _ _ e => ?_; subst e; refine ⟨by (first | rfl | (simp only [AV.low, lowL, low_strs, low_bytes, Bool.and_true, Bool.and_self])), ?_⟩; simp only [go_sem, Nat.reduceMul, Nat.reduceLT, Nat.reduceLeDiff, Nat.reduceEqDiff, Nat.reduceBEq, Int.toNat_natCast, Int.reduceToNat, Int.reduceNeg, Int.reduceLT, Int.reduceLE, Int.reduceBEq, Int.reduceBNe, decide_true, decide_false, Bool.false_eq_true, false_imp_iff, Nat.lt_irrefl])
  (refine ACallT.pure (by simp only [go_sem, Nat.reduceMul, Nat.reduceLT, Nat.reduceLeDiff, Nat.reduceEqDiff, Nat.reduceBEq, Int.toNat_natCast, Int.reduceToNat, Int.reduceNeg, Int.reduceLT, Int.reduceLE, Int.reduceBEq, Int.reduceBNe, decide_true, decide_false, Bool.false_eq_true, false_imp_iff, Nat.lt_irrefl]; rfl) (by first | trivial | assumption | (simp only [go_sem, Nat.reduceMul, Nat.reduceLT, Nat.reduceLeDiff, Nat.reduceEqDiff, Nat.reduceBEq, Int.toNat_natCast, Int.reduceToNat, Int.reduceNeg, Int.reduceLT, Int.reduceLE, Int.reduceBEq, Int.reduceBNe, decide_true, decide_false, Bool.false_eq_true, false_imp_iff, Nat.lt_irrefl]; done) | (simp only [go_sem, Nat.reduceMul, Nat.reduceLT, Nat.reduceLeDiff, Nat.reduceEqDiff, Nat.reduceBEq, Int.toNat_natCast, Int.reduceToNat, Int.reduceNeg, Int.reduceLT, Int.reduceLE, Int.reduceBEq, Int.reduceBNe, decide_true, decide_false, Bool.false_eq_true, false_imp_iff, Nat.lt_irrefl]; first | trivial | assumption | omega | decide | (refine ⟨?_, ?_⟩ <;> first | trivial | assumption | omega | decide))) (bsearch_ok (dictC d) (dictL d l) s _ hl2 hs) ?_; refine fun _ _ e => ?_; subst e; refine ⟨rfl, ?_⟩; simp only [go_sem, Nat.reduceMul, Nat.reduceLT, Nat.reduceLeDiff, Nat.reduceEqDiff, Nat.reduceBEq, Int.toNat_natCast, Int.reduceToNat, Int.reduceNeg, Int.reduceLT, Int.reduceLE, Int.reduceBEq, Int.reduceBNe, decide_true, decide_false, Bool.false_eq_true, false_imp_iff, Nat.lt_irrefl])
  generalize ((dictL d l).getD (bsF (dictL d l) s) [] == s && decide (bsF (dictL d l) s < (dictL d l).length)) = b
  cases b with
  | true => simp only [go_sem, Nat.reduceMul, Nat.reduceLT, Nat.reduceLeDiff, Nat.reduceEqDiff, Nat.reduceBEq, Int.toNat_natCast, Int.reduceToNat, Int.reduceNeg, Int.reduceLT, Int.reduceLE, Int.reduceBEq, Int.reduceBNe, decide_true, decide_false, Bool.false_eq_true, false_imp_iff, Nat.lt_irrefl]; refine Fin_plain rfl
  | false => simp only [go_sem, Nat.reduceMul, Nat.reduceLT, Nat.reduceLeDiff, Nat.reduceEqDiff, Nat.reduceBEq, Int.toNat_natCast, Int.reduceToNat, Int.reduceNeg, Int.reduceLT, Int.reduceLE, Int.reduceBEq, Int.reduceBNe, decide_true, decide_false, Bool.false_eq_true, false_imp_iff, Nat.lt_irrefl]; refine Fin_plain rfl
/-! ### The list's own tests -/
theorem rupto_ok (l : List Str) (c : Bool) (s : Str) (h : List AObj) (hl : l.length ≤ 4611686018427387904) : ACall Tryz.prog 76 [.fz c (strs l), .str s] h (fun r _ => r = .int .i64 (bsF l s)) := by
  (refine ACall.of_code Tryz.func76 rfl ?_; simp only [Tryz.f76]; simp only [go_sem, Nat.reduceMul, Nat.reduceLT, Nat.reduceLeDiff, Nat.reduceEqDiff, Nat.reduceBEq, Int.toNat_natCast, Int.reduceToNat, Int.reduceNeg, Int.reduceLT, Int.reduceLE, Int.reduceBEq, Int.reduceBNe, decide_true, decide_false, Bool.false_eq_true, false_imp_iff, Nat.lt_irrefl])
  refine ALoop.over [5, 6, 7, 8, 9, 10, 11, 12, 13, 14, 15, 16, 17, 18, 19] (fun e h' => ∃ k : Nat, k ≤ l.length ∧ e.getD 5 .any = .int .i64 k ∧ (∀ i, (hi : i < l.length) → i < k → sLt l[i] s = true)) (fun e _ => l.length - natA (e.getD 5 .any)) ⟨0, by simp, rfl, fun i hi h => by omega⟩ ?_
  simp only [List.length_cons, List.length_nil, Nat.reduceAdd, allL_succ, allL_zero]
  intro y5 y6 y7 y8 y9 y10 y11 y12 y13 y14 y15 y16 y17 y18 y19 h' hI
  simp only [go_sem] at hI
  obtain ⟨k, hk, rfl, hlo⟩ := hI
  simp only [go_sem, Nat.reduceMul, Nat.reduceLT, Nat.reduceLeDiff, Nat.reduceEqDiff, Nat.reduceBEq, Int.toNat_natCast, Int.reduceToNat, Int.reduceNeg, Int.reduceLT, Int.reduceLE, Int.reduceBEq, Int.reduceBNe, decide_true, decide_false, Bool.false_eq_true, false_imp_iff, Nat.lt_irrefl]
  generalize hb : decide ((k : Int) < (l.length : Int)) = b
  cases b with
  | false =>
    have hge := of_decide_eq_false hb
    simp only [go_sem, strs_out l k (by omega), Nat.reduceMul, Nat.reduceLT, Nat.reduceLeDiff, Nat.reduceEqDiff, Nat.reduceBEq, Int.toNat_natCast, Int.reduceToNat, Int.reduceNeg, Int.reduceLT, Int.reduceLE, Int.reduceBEq, Int.reduceBNe, decide_true, decide_false, Bool.false_eq_true, false_imp_iff, Nat.lt_irrefl]
    refine Fin_plain ?_
    rw [bsF_eq2 l s k hk hlo (fun q => by omega)]
  | true =>
    have hlt : k < l.length := by have := of_decide_eq_true hb; omega
    simp only [go_sem, strs_get l _ hlt, Nat.reduceMul, Nat.reduceLT, Nat.reduceLeDiff, Nat.reduceEqDiff, Nat.reduceBEq, Int.toNat_natCast, Int.reduceToNat, Int.reduceNeg, Int.reduceLT, Int.reduceLE, Int.reduceBEq, Int.reduceBNe, decide_true, decide_false, Bool.false_eq_true, false_imp_iff, Nat.lt_irrefl]
    refine ⟨⟨by omega, by omega⟩, ?_⟩
    refine acond_intro (fun hc => ?_) (fun hc => ?_)
    · simp only [go_sem, Nat.reduceMul, Nat.reduceLT, Nat.reduceLeDiff, Nat.reduceEqDiff, Nat.reduceBEq, Int.toNat_natCast, Int.reduceToNat, Int.reduceNeg, Int.reduceLT, Int.reduceLE, Int.reduceBEq, Int.reduceBNe, decide_true, decide_false, Bool.false_eq_true, false_imp_iff, Nat.lt_irrefl]
      rw [wrap_id (by omega) (by omega)]
      refine ⟨⟨k + 1, by omega, rfl, fun i hi q => ?_⟩, by omega⟩
      rcases Nat.lt_or_ge i k with q2 | q2
      · exact hlo i hi q2
      · have : i = k := by omega
        subst this; exact hc
    · simp only [go_sem, Nat.reduceMul, Nat.reduceLT, Nat.reduceLeDiff, Nat.reduceEqDiff, Nat.reduceBEq, Int.toNat_natCast, Int.reduceToNat, Int.reduceNeg, Int.reduceLT, Int.reduceLE, Int.reduceBEq, Int.reduceBNe, decide_true, decide_false, Bool.false_eq_true, false_imp_iff, Nat.lt_irrefl]
      refine Fin_plain ?_
      rw [bsF_eq2 l s k hk hlo (fun q => hc)]
theorem rfind_ok (l : List Str) (c : Bool) (s : Str) (h : List AObj) (hl : l.length ≤ 4611686018427387904) : ACall Tryz.prog 44 [.fz c (strs l), .str s] h (fun r _ => r = if (l.getD (bsF l s) [] == s && decide (bsF l s < l.length)) then .tup [.int .i64 (bsF l s), .bool true] else .tup [.int .i64 0, .bool false]) := by
  (refine ACall.of_code Tryz.func44 rfl ?_; simp only [Tryz.f44]; simp only [go_sem, Nat.reduceMul, Nat.reduceLT, Nat.reduceLeDiff, Nat.reduceEqDiff, Nat.reduceBEq, Int.toNat_natCast, Int.reduceToNat, Int.reduceNeg, Int.reduceLT, Int.reduceLE, Int.reduceBEq, Int.reduceBNe, decide_true, decide_false, Bool.false_eq_true, false_imp_iff, Nat.lt_irrefl])
  (refine ACallT.pure (by simp only [go_sem, Nat.reduceMul, Nat.reduceLT, Nat.reduceLeDiff, Nat.reduceEqDiff, Nat.reduceBEq, Int.toNat_natCast, Int.reduceToNat, Int.reduceNeg, Int.reduceLT, Int.reduceLE, Int.reduceBEq, Int.reduceBNe, decide_true, decide_false, Bool.false_eq_true, false_imp_iff, Nat.lt_irrefl]; rfl) (by first | trivial | assumption | (simp only [go_sem, Nat.reduceMul, Nat.reduceLT, Nat.reduceLeDiff, Nat.reduceEqDiff, Nat.reduceBEq, Int.toNat_natCast, Int.reduceToNat, Int.reduceNeg, Int.reduceLT, Int.reduceLE, Int.reduceBEq, Int.reduceBNe, decide_true, decide_false, Bool.false_eq_true, false_imp_iff, Nat.lt_irrefl]; done) | (simp only [go_sem, Nat.reduceMul, Nat.reduceLT, Nat.reduceLeDiff, Nat.reduceEqDiff, Nat.reduceBEq, Int.toNat_natCast, Int.reduceToNat, Int.reduceNeg, Int.reduceLT, Int.reduceLE, Int.reduceBEq, Int.reduceBNe, decide_true, decide_false, Bool.false_eq_true, false_imp_iff, Nat.lt_irrefl]; first | trivial | assumption | omega | decide | (refine ⟨?_, ?_⟩ <;> first | trivial | assumption | omega | decide))) (rupto_ok l c s _ hl) ?_; refine fun _ _ e => ?_; subst e; refine ⟨rfl, ?_⟩; simp only [go_sem, Nat.reduceMul, Nat.reduceLT, Nat.reduceLeDiff, Nat.reduceEqDiff, Nat.reduceBEq, Int.toNat_natCast, Int.reduceToNat, Int.reduceNeg, Int.reduceLT, Int.reduceLE, Int.reduceBEq, Int.reduceBNe, decide_true, decide_false, Bool.false_eq_true, false_imp_iff, Nat.lt_irrefl])
  have hle := bsF_le l s
  generalize bsF l s = n at *
  generalize hb : ((n : Int) == (l.length : Int)) = b
  cases b with
  | true =>
    have : n = l.length := by have := eq_of_beq hb; omega
    subst this
    simp only [go_sem, strs_out l l.length (by omega), Nat.reduceMul, Nat.reduceLT, Nat.reduceLeDiff, Nat.reduceEqDiff, Nat.reduceBEq, Int.toNat_natCast, Int.reduceToNat, Int.reduceNeg, Int.reduceLT, Int.reduceLE, Int.reduceBEq, Int.reduceBNe, decide_true, decide_false, Bool.false_eq_true, false_imp_iff, Nat.lt_irrefl]
    refine Fin_plain ?_
    simp
  | false =>
    have hlt : n < l.length := by
      have : (n : Int) ≠ (l.length : Int) := fun e => by rw [e] at hb; simp at hb
      omega
    simp only [go_sem, strs_get l _ hlt, Nat.reduceMul, Nat.reduceLT, Nat.reduceLeDiff, Nat.reduceEqDiff, Nat.reduceBEq, Int.toNat_natCast, Int.reduceToNat, Int.reduceNeg, Int.reduceLT, Int.reduceLE, Int.reduceBEq, Int.reduceBNe, decide_true, decide_false, Bool.false_eq_true, false_imp_iff, Nat.lt_irrefl]
    refine ⟨⟨by omega, by omega⟩, ?_⟩
    have he2 : (l.getD n [] == s && decide (n < l.length)) = (l[n] == s) := by
      rw [List.getD_eq_getElem?_getD, List.getElem?_eq_getElem hlt]; simp [hlt]
    have he3 : (l[n] != s) = !(l[n] == s) := rfl
    rw [he2, he3]
    generalize (l[n] == s) = b
    cases b with
    | true => simp only [go_sem, Nat.reduceMul, Nat.reduceLT, Nat.reduceLeDiff, Nat.reduceEqDiff, Nat.reduceBEq, Int.toNat_natCast, Int.reduceToNat, Int.reduceNeg, Int.reduceLT, Int.reduceLE, Int.reduceBEq, Int.reduceBNe, decide_true, decide_false, Bool.false_eq_true, false_imp_iff, Nat.lt_irrefl]; refine Fin_plain rfl
    | false => simp only [go_sem, Nat.reduceMul, Nat.reduceLT, Nat.reduceLeDiff, Nat.reduceEqDiff, Nat.reduceBEq, Int.toNat_natCast, Int.reduceToNat, Int.reduceNeg, Int.reduceLT, Int.reduceLE, Int.reduceBEq, Int.reduceBNe, decide_true, decide_false, Bool.false_eq_true, false_imp_iff, Nat.lt_irrefl]; refine Fin_plain rfl
theorem rtexts_ok (a b : List Str) (c c' : Bool) (h : List AObj) (hl : a.length ≤ 4611686018427387904) : ACall Tryz.prog 11 [.fz c (strs a), .fz c' (strs b)] h (fun r _ => r = .bool (a == b)) := by
  (refine ACall.of_code Tryz.func11 rfl ?_; simp only [Tryz.f11]; simp only [go_sem, Nat.reduceMul, Nat.reduceLT, Nat.reduceLeDiff, Nat.reduceEqDiff, Nat.reduceBEq, Int.toNat_natCast, Int.reduceToNat, Int.reduceNeg, Int.reduceLT, Int.reduceLE, Int.reduceBEq, Int.reduceBNe, decide_true, decide_false, Bool.false_eq_true, false_imp_iff, Nat.lt_irrefl])
  have he : ((a.length : Int) != (b.length : Int)) = !(decide (a.length = b.length)) := by
    simp only [bne]; congr 1
    by_cases q : a.length = b.length
    · simp [q]
    · simp [q]; omega
  rw [he]
  by_cases hq : a.length = b.length
  · simp only [hq, decide_true, Bool.not_true]
    simp only [go_sem, Nat.reduceMul, Nat.reduceLT, Nat.reduceLeDiff, Nat.reduceEqDiff, Nat.reduceBEq, Int.toNat_natCast, Int.reduceToNat, Int.reduceNeg, Int.reduceLT, Int.reduceLE, Int.reduceBEq, Int.reduceBNe, decide_true, decide_false, Bool.false_eq_true, false_imp_iff, Nat.lt_irrefl]
    refine ALoop.over [4, 5, 11, 12, 13, 14, 15, 16, 17, 18, 19, 20, 21, 22, 23, 24, 25] (fun e h' => ∃ k : Nat, k ≤ a.length ∧ e.getD 5 .any = .int .i64 k ∧ a.take k = b.take k) (fun e _ => a.length - natA (e.getD 5 .any)) ⟨0, by simp, rfl, by simp⟩ ?_
    simp only [List.length_cons, List.length_nil, Nat.reduceAdd, allL_succ, allL_zero]
    intro y4 y5 y11 y12 y13 y14 y15 y16 y17 y18 y19 y20 y21 y22 y23 y24 y25 h' hI
    simp only [go_sem] at hI
    obtain ⟨k, hk, rfl, hlo⟩ := hI
    simp only [go_sem, Nat.reduceMul, Nat.reduceLT, Nat.reduceLeDiff, Nat.reduceEqDiff, Nat.reduceBEq, Int.toNat_natCast, Int.reduceToNat, Int.reduceNeg, Int.reduceLT, Int.reduceLE, Int.reduceBEq, Int.reduceBNe, decide_true, decide_false, Bool.false_eq_true, false_imp_iff, Nat.lt_irrefl]
    refine acond_intro (fun hc => ?_) (fun hc => ?_)
    · have hlt : k < a.length := by have := of_decide_eq_true hc; omega
      simp only [go_sem, Nat.reduceMul, Nat.reduceLT, Nat.reduceLeDiff, Nat.reduceEqDiff, Nat.reduceBEq, Int.toNat_natCast, Int.reduceToNat, Int.reduceNeg, Int.reduceLT, Int.reduceLE, Int.reduceBEq, Int.reduceBNe, decide_true, decide_false, Bool.false_eq_true, false_imp_iff, Nat.lt_irrefl]
      refine ADrawT.quiet mixedOrdersD (by kernel_rfl) ?_
      simp only [go_sem, strs_get a _ hlt, strs_get b _ (hq ▸ hlt), Nat.reduceMul, Nat.reduceLT, Nat.reduceLeDiff, Nat.reduceEqDiff, Nat.reduceBEq, Int.toNat_natCast, Int.reduceToNat, Int.reduceNeg, Int.reduceLT, Int.reduceLE, Int.reduceBEq, Int.reduceBNe, decide_true, decide_false, Bool.false_eq_true, false_imp_iff, Nat.lt_irrefl]
      refine ⟨⟨by omega, by omega⟩, ⟨by omega, by omega⟩, ?_⟩
      refine acond_intro (fun hc => ?_) (fun hc => ?_)
      · simp only [go_sem, Nat.reduceMul, Nat.reduceLT, Nat.reduceLeDiff, Nat.reduceEqDiff, Nat.reduceBEq, Int.toNat_natCast, Int.reduceToNat, Int.reduceNeg, Int.reduceLT, Int.reduceLE, Int.reduceBEq, Int.reduceBNe, decide_true, decide_false, Bool.false_eq_true, false_imp_iff, Nat.lt_irrefl]
        refine Fin_plain ?_
        have hne : a ≠ b := fun e => by subst e; simp at hc
        simp [hne]
      · simp only [go_sem, Nat.reduceMul, Nat.reduceLT, Nat.reduceLeDiff, Nat.reduceEqDiff, Nat.reduceBEq, Int.toNat_natCast, Int.reduceToNat, Int.reduceNeg, Int.reduceLT, Int.reduceLE, Int.reduceBEq, Int.reduceBNe, decide_true, decide_false, Bool.false_eq_true, false_imp_iff, Nat.lt_irrefl]
        rw [wrap_id (by omega) (by omega)]
        refine ⟨⟨k + 1, by omega, rfl, ?_⟩, by omega⟩
        rw [List.take_succ_eq_append_getElem hlt, List.take_succ_eq_append_getElem (hq ▸ hlt), hlo]
        have : a[k] = b[k]'(hq ▸ hlt) := by simpa using hc
        rw [this]
    · have hge : k = a.length := by have := of_decide_eq_false hc; omega
      simp only [go_sem, Nat.reduceMul, Nat.reduceLT, Nat.reduceLeDiff, Nat.reduceEqDiff, Nat.reduceBEq, Int.toNat_natCast, Int.reduceToNat, Int.reduceNeg, Int.reduceLT, Int.reduceLE, Int.reduceBEq, Int.reduceBNe, decide_true, decide_false, Bool.false_eq_true, false_imp_iff, Nat.lt_irrefl]
      refine Fin_plain ?_
      subst hge
      rw [List.take_length, List.take_of_length_le (by omega)] at hlo
      simp [hlo]
  · simp only [hq, decide_false, Bool.not_false]
    simp only [go_sem, Nat.reduceMul, Nat.reduceLT, Nat.reduceLeDiff, Nat.reduceEqDiff, Nat.reduceBEq, Int.toNat_natCast, Int.reduceToNat, Int.reduceNeg, Int.reduceLT, Int.reduceLE, Int.reduceBEq, Int.reduceBNe, decide_true, decide_false, Bool.false_eq_true, false_imp_iff, Nat.lt_irrefl]
    refine Fin_plain ?_
    have hne : a ≠ b := fun e => hq (by rw [e])
    simp [hne]
end Go.Proofs.Vale

set_option linter.unusedVariables false
set_option linter.unusedSimpArgs false
set_option maxHeartbeats 4000000
set_option maxRecDepth 100000
namespace Go.Proofs.Vale
open Go.Proofs Go.Proofs.YtmhcmpeffhlaeaaGreatT
attribute [local irreducible] acode aopsL aopsT dopsL dopsT pop popG aop ALoop ADraw ACall AWP AFin acondT ALoopT ADrawT ACallT doP doG doGd

theorem clone_ok (l : List Str) (c : Bool) (h : List AObj) (hl : l.length ≤ 8796093022000) : ACall Tryz.prog 30 [.fz c (strs l)] h (fun r h' => (l = [] ∧ r = .fz true [] ∧ h' = h) ∨ ∃ g, r = .sl h.length g 1 0 l.length ∧ h' = h ++ [.arr g 1 (strs l)]) := by
  (refine ACall.of_code Tryz.func30 rfl ?_; simp only [Tryz.f30]; simp only [go_sem, Nat.reduceMul, Nat.reduceLT, Nat.reduceLeDiff, Nat.reduceEqDiff, Nat.reduceBEq, Int.toNat_natCast, Int.reduceToNat, Int.reduceNeg, Int.reduceLT, Int.reduceLE, Int.reduceBEq, Int.reduceBNe, decide_true, decide_false, Bool.false_eq_true, false_imp_iff, Nat.lt_irrefl])
  intro b hb
  cases b with
  | true =>
    simp only [go_sem, Nat.reduceMul, Nat.reduceLT, Nat.reduceLeDiff, Nat.reduceEqDiff, Nat.reduceBEq, Int.toNat_natCast, Int.reduceToNat, Int.reduceNeg, Int.reduceLT, Int.reduceLE, Int.reduceBEq, Int.reduceBNe, decide_true, decide_false, Bool.false_eq_true, false_imp_iff, Nat.lt_irrefl]
    have : l = [] := by have := hb rfl; cases l with
      | nil => rfl
      | cons a l => simp [strs] at this
    refine Fin_plain (.inl ⟨this, rfl, rfl⟩)
  | false =>
    simp only [go_sem, Nat.reduceMul, Nat.reduceLT, Nat.reduceLeDiff, Nat.reduceEqDiff, Nat.reduceBEq, Int.toNat_natCast, Int.reduceToNat, Int.reduceNeg, Int.reduceLT, Int.reduceLE, Int.reduceBEq, Int.reduceBNe, decide_true, decide_false, Bool.false_eq_true, false_imp_iff, Nat.lt_irrefl]
    have hall : (strs l).all (okEl 1) = true := by simp [strs, okEl, AV.cells, AV.one]
    refine ⟨⟨by omega, by omega, hall⟩, ?_⟩
    refine Fin_plain (.inr ⟨1, rfl, rfl⟩)
theorem sort_ok (ss : List Str) (t g : Nat) (h : List AObj) (hl : ss.length < 4611686018427387904) (ht : h[t]? = some (.arr g 1 (strs ss))) : ACall Tryz.prog 66 [.sl t g 1 0 ss.length] h (fun r h' => r = .tup [] ∧ h' = h.set t (.arr g 1 (strs (ss.mergeSort fun x y => decide (x ≤ y))))) := by
  refine inplace_ok (R := .tup []) (rv := fun _ _ => .tuple #[]) (by simp) ht ?_ ?_ ?_
  · intro blk cap w hH hb hc
    exact Tryz.slices_Sort_string blk 0 cap ss w hH hb hl
  · intro w hss; subst hss
    exact Tryz.slices_Sort_string_none none 0 w
  · intro β fr H a cap _
    simp [Rep]
theorem compact_ok (ss : List Str) (t g : Nat) (h : List AObj) (hl : ss.length < 4611686018427387904) (ht : h[t]? = some (.arr g 1 (strs ss))) : ACall Tryz.prog 67 [.sl t g 1 0 ss.length] h (fun r h' => r = .sl t g 1 0 (Lib.compact ss).length ∧ h' = h.set t (.arr g 1 (strs (Lib.compact ss ++ List.replicate (ss.length - (Lib.compact ss).length) [])))) := by
  have hle : (Lib.compact ss).length ≤ ss.length := Lib.compact_length_le ss
  refine inplace_ok (R := .sl t g 1 0 (Lib.compact ss).length) (rv := fun a c => .slice a (Lib.compact ss).length c) (by simp; omega) ht ?_ ?_ ?_
  · intro blk cap w hH hb hc
    refine (Tryz.slices_Compact_string blk 0 cap ss w hH (by omega) hc).mono ?_
    rintro e w' ⟨rfl, q, rfl⟩
    exact ⟨rfl, q, #[], by simp [Go.Sort.grow_empty]⟩
  · intro w hss; subst hss
    exact (Tryz.slices_Compact_string_empty none 0 w)
  · intro β fr H a cap hr
    simp only [Rep] at hr ⊢
    rcases hr with ⟨hb, _, h0, hv⟩ | ⟨b, c, e, f, cap', hb, hH, hv, hcap, hl⟩
    · injection hv with h1 h2 h3; subst h1 h3
      have : (Lib.compact ss).length = 0 := by omega
      exact .inl ⟨hb, trivial, this, by rw [this]⟩
    · injection hv with h1 h2 h3; subst h1 h3
      exact .inr ⟨b, c, e, f, cap, hb, hH, rfl, hcap, by omega⟩
theorem sort_nil (c : Bool) (h : List AObj) : ACall Tryz.prog 66 [.fz c []] h (fun r h' => r = .tup [] ∧ h' = h) :=
  nil_call (R := .tup []) (rv := fun _ _ => .tuple #[]) (fun a cap w => Tryz.slices_Sort_string_none a cap w) (fun β fr H a cap _ => by simp [Rep])
theorem compact_nil (c : Bool) (h : List AObj) : ACall Tryz.prog 67 [.fz c []] h (fun r h' => r = .fz c [] ∧ h' = h) :=
  nil_call (R := .fz c []) (rv := fun a cap => .slice a 0 cap) (fun a cap w => Tryz.slices_Compact_string_empty a cap w) (fun β fr H a cap q => q)
theorem indexF_ok (l : List Str) (c : Bool) (h : List AObj) (hl : l.length ≤ 4611686018427387904) : ACall Tryz.prog 71 [.fz c (strs l), .func (.func 69) [] []] h (fun r _ => ∃ i : Int, r = .int .i64 i ∧ decide (0 ≤ i) = l.any fun s => !dfits s) := by
  (refine ACall.of_code Tryz.func71 rfl ?_; simp only [Tryz.f71]; simp only [go_sem, Nat.reduceMul, Nat.reduceLT, Nat.reduceLeDiff, Nat.reduceEqDiff, Nat.reduceBEq, Int.toNat_natCast, Int.reduceToNat, Int.reduceNeg, Int.reduceLT, Int.reduceLE, Int.reduceBEq, Int.reduceBNe, decide_true, decide_false, Bool.false_eq_true, false_imp_iff, Nat.lt_irrefl])
  refine ALoop.over [4, 5, 8, 9, 10, 11, 12, 13, 14, 15, 16, 17, 18] (fun e h' => ∃ k : Nat, k ≤ l.length ∧ e.getD 8 .any = .int .i64 k ∧ (l.take k).any (fun s => !dfits s) = false) (fun e _ => l.length - natA (e.getD 8 .any)) ⟨0, by simp, rfl, by simp⟩ ?_
  simp only [List.length_cons, List.length_nil, Nat.reduceAdd, allL_succ, allL_zero]
  intro y4 y5 y8 y9 y10 y11 y12 y13 y14 y15 y16 y17 y18 h' hI
  simp only [go_sem] at hI
  obtain ⟨k, hk, rfl, hall⟩ := hI
  simp only [go_sem, Nat.reduceMul, Nat.reduceLT, Nat.reduceLeDiff, Nat.reduceEqDiff, Nat.reduceBEq, Int.toNat_natCast, Int.reduceToNat, Int.reduceNeg, Int.reduceLT, Int.reduceLE, Int.reduceBEq, Int.reduceBNe, decide_true, decide_false, Bool.false_eq_true, false_imp_iff, Nat.lt_irrefl]
  refine acond_intro (fun hc => ?_) (fun hc => ?_)
  · have hlt : k < l.length := by simpa using hc
    simp only [go_sem, strs_get l _ hlt, Nat.reduceMul, Nat.reduceLT, Nat.reduceLeDiff, Nat.reduceEqDiff, Nat.reduceBEq, Int.toNat_natCast, Int.reduceToNat, Int.reduceNeg, Int.reduceLT, Int.reduceLE, Int.reduceBEq, Int.reduceBNe, decide_true, decide_false, Bool.false_eq_true, false_imp_iff, Nat.lt_irrefl]
    refine ⟨⟨by omega, by omega⟩, ?_⟩
    (refine ACallT.pure (by simp only [go_sem, Nat.reduceMul, Nat.reduceLT, Nat.reduceLeDiff, Nat.reduceEqDiff, Nat.reduceBEq, Int.toNat_natCast, Int.reduceToNat, Int.reduceNeg, Int.reduceLT, Int.reduceLE, Int.reduceBEq, Int.reduceBNe, decide_true, decide_false, Bool.false_eq_true, false_imp_iff, Nat.lt_irrefl]; rfl) (by first | trivial | assumption | (simp only [go_sem, Nat.reduceMul, Nat.reduceLT, Nat.reduceLeDiff, Nat.reduceEqDiff, Nat.reduceBEq, Int.toNat_natCast, Int.reduceToNat, Int.reduceNeg, Int.reduceLT, Int.reduceLE, Int.reduceBEq, Int.reduceBNe, decide_true, decide_false, Bool.false_eq_true, false_imp_iff, Nat.lt_irrefl]; done) | (simp only [go_sem, Nat.reduceMul, Nat.reduceLT, Nat.reduceLeDiff, Nat.reduceEqDiff, Nat.reduceBEq, Int.toNat_natCast, Int.reduceToNat, Int.reduceNeg, Int.reduceLT, Int.reduceLE, Int.reduceBEq, Int.reduceBNe, decide_true, decide_false, Bool.false_eq_true, false_imp_iff, Nat.lt_irrefl]; first | trivial | assumption | omega | decide | (refine ⟨?_, ?_⟩ <;> first | trivial | assumption | omega | decide))) (new1_ok l[k] _) ?_; refine fun _ _ e => ?_; subst e; refine ⟨rfl, ?_⟩)
    generalize hb : dfits l[k] = b
    cases b with
    | false =>
      simp only [go_sem, Nat.reduceMul, Nat.reduceLT, Nat.reduceLeDiff, Nat.reduceEqDiff, Nat.reduceBEq, Int.toNat_natCast, Int.reduceToNat, Int.reduceNeg, Int.reduceLT, Int.reduceLE, Int.reduceBEq, Int.reduceBNe, decide_true, decide_false, Bool.false_eq_true, false_imp_iff, Nat.lt_irrefl]
      refine Fin_plain ⟨k, rfl, ?_⟩
      have : l.any (fun s => !dfits s) = true := by rw [List.any_eq_true]; exact ⟨l[k], List.getElem_mem _, by simp [hb]⟩
      rw [this]; simp
    | true =>
      simp only [go_sem, Nat.reduceMul, Nat.reduceLT, Nat.reduceLeDiff, Nat.reduceEqDiff, Nat.reduceBEq, Int.toNat_natCast, Int.reduceToNat, Int.reduceNeg, Int.reduceLT, Int.reduceLE, Int.reduceBEq, Int.reduceBNe, decide_true, decide_false, Bool.false_eq_true, false_imp_iff, Nat.lt_irrefl]
      rw [wrap_id (by omega) (by omega)]
      refine ⟨⟨k + 1, by omega, rfl, ?_⟩, by omega⟩
      rw [List.take_succ_eq_append_getElem hlt, List.any_append, hall]; simp [hb]
  · have hge : k = l.length := by have : ¬ k < l.length := by simpa using hc
                                  omega
    simp only [go_sem, Nat.reduceMul, Nat.reduceLT, Nat.reduceLeDiff, Nat.reduceEqDiff, Nat.reduceBEq, Int.toNat_natCast, Int.reduceToNat, Int.reduceNeg, Int.reduceLT, Int.reduceLE, Int.reduceBEq, Int.reduceBNe, decide_true, decide_false, Bool.false_eq_true, false_imp_iff, Nat.lt_irrefl]
    refine Fin_plain ⟨-1, rfl, ?_⟩
    subst hge
    rw [List.take_length] at hall; rw [hall]; rfl
theorem containsF_ok (l : List Str) (c : Bool) (h : List AObj) (hl : l.length ≤ 4611686018427387904) : ACall Tryz.prog 68 [.fz c (strs l), .func (.func 69) [] []] h (fun r _ => r = .bool (l.any fun s => !dfits s)) := by
  (refine ACall.of_code Tryz.func68 rfl ?_; simp only [Tryz.f68]; simp only [go_sem, Nat.reduceMul, Nat.reduceLT, Nat.reduceLeDiff, Nat.reduceEqDiff, Nat.reduceBEq, Int.toNat_natCast, Int.reduceToNat, Int.reduceNeg, Int.reduceLT, Int.reduceLE, Int.reduceBEq, Int.reduceBNe, decide_true, decide_false, Bool.false_eq_true, false_imp_iff, Nat.lt_irrefl])
  refine ACallT.pure (by simp only [go_sem, Nat.reduceMul, Nat.reduceLT, Nat.reduceLeDiff, Nat.reduceEqDiff, Nat.reduceBEq, Int.toNat_natCast, Int.reduceToNat, Int.reduceNeg, Int.reduceLT, Int.reduceLE, Int.reduceBEq, Int.reduceBNe, decide_true, decide_false, Bool.false_eq_true, false_imp_iff, Nat.lt_irrefl]; rfl) (by first | trivial | assumption | (simp only [go_sem, Nat.reduceMul, Nat.reduceLT, Nat.reduceLeDiff, Nat.reduceEqDiff, Nat.reduceBEq, Int.toNat_natCast, Int.reduceToNat, Int.reduceNeg, Int.reduceLT, Int.reduceLE, Int.reduceBEq, Int.reduceBNe, decide_true, decide_false, Bool.false_eq_true, false_imp_iff, Nat.lt_irrefl]; done) | (simp only [go_sem, Nat.reduceMul, Nat.reduceLT, Nat.reduceLeDiff, Nat.reduceEqDiff, Nat.reduceBEq, Int.toNat_natCast, Int.reduceToNat, Int.reduceNeg, Int.reduceLT, Int.reduceLE, Int.reduceBEq, Int.reduceBNe, decide_true, decide_false, Bool.false_eq_true, false_imp_iff, Nat.lt_irrefl]; first | trivial | assumption | omega | decide | (refine ⟨?_, ?_⟩ <;> first | trivial | assumption | omega | decide))) (indexF_ok l c _ hl) ?_
  rintro _ _ ⟨i, rfl, hi⟩
  refine ⟨rfl, ?_⟩
  simp only [go_sem, Nat.reduceMul, Nat.reduceLT, Nat.reduceLeDiff, Nat.reduceEqDiff, Nat.reduceBEq, Int.toNat_natCast, Int.reduceToNat, Int.reduceNeg, Int.reduceLT, Int.reduceLE, Int.reduceBEq, Int.reduceBNe, decide_true, decide_false, Bool.false_eq_true, false_imp_iff, Nat.lt_irrefl]
  refine Fin_plain ?_
  rw [hi]
/-- The texts of the dictionary of a list, rising. -/
def newL (l : List Str) : List Str := Lib.compact (l.mergeSort fun x y => decide (x ≤ y))
def newOk (l : List Str) : Bool := decide ((newL l).length ≤ 65536) && (newL l).all dfits
theorem new_ok (l : List Str) (c : Bool) (h : List AObj) (hl : l.length ≤ 8796093022000) : ACall Tryz.prog 28 [.fz c (strs l)] h (fun r _ => ∃ c', r = if newOk l then .tup [dictA (some c') (newL l), .int .i64 0] else .tup [.nilp, .int .i64 61]) := by
  (refine ACall.of_code Tryz.func28 rfl ?_; simp only [Tryz.f28]; simp only [go_sem, Nat.reduceMul, Nat.reduceLT, Nat.reduceLeDiff, Nat.reduceEqDiff, Nat.reduceBEq, Int.toNat_natCast, Int.reduceToNat, Int.reduceNeg, Int.reduceLT, Int.reduceLE, Int.reduceBEq, Int.reduceBNe, decide_true, decide_false, Bool.false_eq_true, false_imp_iff, Nat.lt_irrefl])
  refine ACallT.by (clone_ok l c _ hl) ?_
  rintro _ _ (⟨rfl, rfl, rfl⟩ | ⟨g, rfl, rfl⟩)
  · simp only [go_sem, Nat.reduceMul, Nat.reduceLT, Nat.reduceLeDiff, Nat.reduceEqDiff, Nat.reduceBEq, Int.toNat_natCast, Int.reduceToNat, Int.reduceNeg, Int.reduceLT, Int.reduceLE, Int.reduceBEq, Int.reduceBNe, decide_true, decide_false, Bool.false_eq_true, false_imp_iff, Nat.lt_irrefl]
    refine ACallT.by (sort_nil true _) ?_
    rintro _ _ ⟨rfl, rfl⟩
    simp only [go_sem, Nat.reduceMul, Nat.reduceLT, Nat.reduceLeDiff, Nat.reduceEqDiff, Nat.reduceBEq, Int.toNat_natCast, Int.reduceToNat, Int.reduceNeg, Int.reduceLT, Int.reduceLE, Int.reduceBEq, Int.reduceBNe, decide_true, decide_false, Bool.false_eq_true, false_imp_iff, Nat.lt_irrefl]
    refine ACallT.by (compact_nil true _) ?_
    rintro _ _ ⟨rfl, rfl⟩
    simp only [go_sem, Nat.reduceMul, Nat.reduceLT, Nat.reduceLeDiff, Nat.reduceEqDiff, Nat.reduceBEq, Int.toNat_natCast, Int.reduceToNat, Int.reduceNeg, Int.reduceLT, Int.reduceLE, Int.reduceBEq, Int.reduceBNe, decide_true, decide_false, Bool.false_eq_true, false_imp_iff, Nat.lt_irrefl]
    generalize hb : decide ((65536 : Int) < ((0 : Nat) : Int)) = b
    obtain rfl : b = false := by rw [← hb]; decide
    simp only [go_sem, Nat.reduceMul, Nat.reduceLT, Nat.reduceLeDiff, Nat.reduceEqDiff, Nat.reduceBEq, Int.toNat_natCast, Int.reduceToNat, Int.reduceNeg, Int.reduceLT, Int.reduceLE, Int.reduceBEq, Int.reduceBNe, decide_true, decide_false, Bool.false_eq_true, false_imp_iff, Nat.lt_irrefl]
    (refine ACallT.pure (by simp only [go_sem, Nat.reduceMul, Nat.reduceLT, Nat.reduceLeDiff, Nat.reduceEqDiff, Nat.reduceBEq, Int.toNat_natCast, Int.reduceToNat, Int.reduceNeg, Int.reduceLT, Int.reduceLE, Int.reduceBEq, Int.reduceBNe, decide_true, decide_false, Bool.false_eq_true, false_imp_iff, Nat.lt_irrefl]; rfl) (by first | trivial | assumption | (simp only [go_sem, Nat.reduceMul, Nat.reduceLT, Nat.reduceLeDiff, Nat.reduceEqDiff, Nat.reduceBEq, Int.toNat_natCast, Int.reduceToNat, Int.reduceNeg, Int.reduceLT, Int.reduceLE, Int.reduceBEq, Int.reduceBNe, decide_true, decide_false, Bool.false_eq_true, false_imp_iff, Nat.lt_irrefl]; done) | (simp only [go_sem, Nat.reduceMul, Nat.reduceLT, Nat.reduceLeDiff, Nat.reduceEqDiff, Nat.reduceBEq, Int.toNat_natCast, Int.reduceToNat, Int.reduceNeg, Int.reduceLT, Int.reduceLE, Int.reduceBEq, Int.reduceBNe, decide_true, decide_false, Bool.false_eq_true, false_imp_iff, Nat.lt_irrefl]; first | trivial | assumption | omega | decide | (refine ⟨?_, ?_⟩ <;> first | trivial | assumption | omega | decide))) (containsF_ok [] true _ (by simp)) ?_; refine fun _ _ e => ?_; subst e; refine ⟨rfl, ?_⟩; simp only [go_sem, Nat.reduceMul, Nat.reduceLT, Nat.reduceLeDiff, Nat.reduceEqDiff, Nat.reduceBEq, Int.toNat_natCast, Int.reduceToNat, Int.reduceNeg, Int.reduceLT, Int.reduceLE, Int.reduceBEq, Int.reduceBNe, decide_true, decide_false, Bool.false_eq_true, false_imp_iff, Nat.lt_irrefl])
    generalize hb : ([] : List Str).any (fun s => !dfits s) = b
    obtain rfl : b = false := by rw [← hb]; rfl
    simp only [go_sem, Nat.reduceMul, Nat.reduceLT, Nat.reduceLeDiff, Nat.reduceEqDiff, Nat.reduceBEq, Int.toNat_natCast, Int.reduceToNat, Int.reduceNeg, Int.reduceLT, Int.reduceLE, Int.reduceBEq, Int.reduceBNe, decide_true, decide_false, Bool.false_eq_true, false_imp_iff, Nat.lt_irrefl]
    refine Fin_freeze 5 ?_; refine ⟨true, ?_⟩
    simp only [go_sem, Nat.reduceMul, Nat.reduceLT, Nat.reduceLeDiff, Nat.reduceEqDiff, Nat.reduceBEq, Int.toNat_natCast, Int.reduceToNat, Int.reduceNeg, Int.reduceLT, Int.reduceLE, Int.reduceBEq, Int.reduceBNe, decide_true, decide_false, Bool.false_eq_true, false_imp_iff, Nat.lt_irrefl]
    have h0 : newL [] = [] := by
      have := Lib.compact_length_le (([] : List Str).mergeSort fun x y => decide (x ≤ y))
      simp only [List.mergeSort_nil, List.length_nil] at this
      exact List.length_eq_zero_iff.1 (by simp only [newL, List.mergeSort_nil]; omega)
    have h1 : newOk [] = true := by simp [newOk, h0]
    rw [h1, h0]; rfl
  · simp only [go_sem, Nat.reduceMul, Nat.reduceLT, Nat.reduceLeDiff, Nat.reduceEqDiff, Nat.reduceBEq, Int.toNat_natCast, Int.reduceToNat, Int.reduceNeg, Int.reduceLT, Int.reduceLE, Int.reduceBEq, Int.reduceBNe, decide_true, decide_false, Bool.false_eq_true, false_imp_iff, Nat.lt_irrefl]
    refine ACallT.by (sort_ok l _ g _ (by omega) (by simp)) ?_
    rintro _ _ ⟨rfl, rfl⟩
    simp only [go_sem, Nat.reduceMul, Nat.reduceLT, Nat.reduceLeDiff, Nat.reduceEqDiff, Nat.reduceBEq, Int.toNat_natCast, Int.reduceToNat, Int.reduceNeg, Int.reduceLT, Int.reduceLE, Int.reduceBEq, Int.reduceBNe, decide_true, decide_false, Bool.false_eq_true, false_imp_iff, Nat.lt_irrefl]
    have hlen : (l.mergeSort fun x y => decide (x ≤ y)).length = l.length := by simp
    have hcp := compact_ok (l.mergeSort fun x y => decide (x ≤ y)) h.length g (h ++ [AObj.arr g 1 (strs (l.mergeSort fun x y => decide (x ≤ y)))]) (by omega) (by simp)
    rw [hlen] at hcp
    refine ACallT.by hcp ?_
    rintro _ _ ⟨rfl, rfl⟩
    simp only [go_sem, Nat.reduceMul, Nat.reduceLT, Nat.reduceLeDiff, Nat.reduceEqDiff, Nat.reduceBEq, Int.toNat_natCast, Int.reduceToNat, Int.reduceNeg, Int.reduceLT, Int.reduceLE, Int.reduceBEq, Int.reduceBNe, decide_true, decide_false, Bool.false_eq_true, false_imp_iff, Nat.lt_irrefl]
    have hle : (newL l).length ≤ l.length := by rw [← hlen]; exact Lib.compact_length_le _
    have hok : newOk l = (decide ((newL l).length ≤ 65536) && (newL l).all dfits) := rfl
    generalize hC : newL l = C at hle hok ⊢
    have hC2 : Lib.compact (l.mergeSort fun x y => decide (x ≤ y)) = C := hC
    generalize Lib.compact (l.mergeSort fun x y => decide (x ≤ y)) = C' at hC2 ⊢
    subst hC2
    generalize hR : List.replicate (l.length - C'.length) ([] : Str) = R
    generalize hb : decide ((65536 : Int) < (C'.length : Int)) = b
    cases b with
    | true =>
      have := of_decide_eq_true hb
      simp only [go_sem, Nat.reduceMul, Nat.reduceLT, Nat.reduceLeDiff, Nat.reduceEqDiff, Nat.reduceBEq, Int.toNat_natCast, Int.reduceToNat, Int.reduceNeg, Int.reduceLT, Int.reduceLE, Int.reduceBEq, Int.reduceBNe, decide_true, decide_false, Bool.false_eq_true, false_imp_iff, Nat.lt_irrefl]
      refine Fin_plain ?_; refine ⟨true, ?_⟩
      have : newOk l = false := by rw [hok]; simp; omega
      rw [this]; rfl
    | false =>
      have hb := of_decide_eq_false hb
      simp only [go_sem, Nat.reduceMul, Nat.reduceLT, Nat.reduceLeDiff, Nat.reduceEqDiff, Nat.reduceBEq, Int.toNat_natCast, Int.reduceToNat, Int.reduceNeg, Int.reduceLT, Int.reduceLE, Int.reduceBEq, Int.reduceBNe, decide_true, decide_false, Bool.false_eq_true, false_imp_iff, Nat.lt_irrefl]
      have hx : List.take C'.length (strs (C' ++ R)) = strs C' := by simp [strs]
      have hx2 : List.take C'.length (strs (C' ++ R)) = strs C' := hx
      refine ACallT.pure (as' := [.fz false (strs C'), .func (.func 69) [] []]) (p := True) (by simp only [go_sem, Nat.reduceMul, Nat.reduceLT, Nat.reduceLeDiff, Nat.reduceEqDiff, Nat.reduceBEq, Int.toNat_natCast, Int.reduceToNat, Int.reduceNeg, Int.reduceLT, Int.reduceLE, Int.reduceBEq, Int.reduceBNe, decide_true, decide_false, Bool.false_eq_true, false_imp_iff, Nat.lt_irrefl]; rw [hx]; simp [strs_len]) trivial (containsF_ok C' false _ (by omega)) ?_
      refine fun _ _ e => ?_; subst e; refine ⟨rfl, ?_⟩
      simp only [go_sem, Nat.reduceMul, Nat.reduceLT, Nat.reduceLeDiff, Nat.reduceEqDiff, Nat.reduceBEq, Int.toNat_natCast, Int.reduceToNat, Int.reduceNeg, Int.reduceLT, Int.reduceLE, Int.reduceBEq, Int.reduceBNe, decide_true, decide_false, Bool.false_eq_true, false_imp_iff, Nat.lt_irrefl]
      generalize hb2 : (C'.any fun s => !dfits s) = b
      cases b with
      | true =>
        simp only [go_sem, Nat.reduceMul, Nat.reduceLT, Nat.reduceLeDiff, Nat.reduceEqDiff, Nat.reduceBEq, Int.toNat_natCast, Int.reduceToNat, Int.reduceNeg, Int.reduceLT, Int.reduceLE, Int.reduceBEq, Int.reduceBNe, decide_true, decide_false, Bool.false_eq_true, false_imp_iff, Nat.lt_irrefl]
        refine Fin_plain ?_; refine ⟨true, ?_⟩
        have : newOk l = false := by
          have : C'.all dfits = false := by rw [List.all_eq_not_any_not, hb2]; rfl
          simp [hok, this]
        rw [this]; rfl
      | false =>
        simp only [go_sem, Nat.reduceMul, Nat.reduceLT, Nat.reduceLeDiff, Nat.reduceEqDiff, Nat.reduceBEq, Int.toNat_natCast, Int.reduceToNat, Int.reduceNeg, Int.reduceLT, Int.reduceLE, Int.reduceBEq, Int.reduceBNe, decide_true, decide_false, Bool.false_eq_true, false_imp_iff, Nat.lt_irrefl]
        refine Fin_freeze 5 ?_
        have hokt : newOk l = true := by
          have h1 : C'.all dfits = true := by rw [List.all_eq_not_any_not, hb2]; rfl
          rw [hok, h1]; simp; omega
        refine ⟨false, ?_⟩
        rw [hokt]
        simp only [go_sem, Nat.reduceMul, Nat.reduceLT, Nat.reduceLeDiff, Nat.reduceEqDiff, Nat.reduceBEq, Int.toNat_natCast, Int.reduceToNat, Int.reduceNeg, Int.reduceLT, Int.reduceLE, Int.reduceBEq, Int.reduceBNe, decide_true, decide_false, Bool.false_eq_true, false_imp_iff, Nat.lt_irrefl]
        rw [frzO_flat (by simp [strs_len]) (flatS _)]
        simp only [List.drop_zero, hx, dictA]
end Go.Proofs.Vale
