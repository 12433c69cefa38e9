/- YtinajnnflgpjbaaVDictA: a text of the proof of this claim, by its prover. -/
import Derived.Test.YtinajnnflgpjbaaVY
import Derived.Test.YtinajnnflgpjbaaVTy
set_option linter.unusedVariables false
set_option linter.unusedSimpArgs false
set_option maxHeartbeats 4000000
set_option maxRecDepth 100000
namespace Go.Proofs.Vale
open Go.Proofs Go.Proofs.YtinajnnflgpjbaaT
attribute [local irreducible] acode aopsL aopsT dopsL dopsT pop popG aop ALoop ADraw ACall AWP AFin acondT ALoopT ADrawT ACallT doP doG doGd

theorem mixedOrdersD : Try.prog.follows .mixedOrders = true := by kernel_rfl
abbrev Str := List UInt8
def strs (l : List Str) : List AV := l.map .str
theorem strs_len (l : List Str) : (strs l).length = l.length := by simp [strs]
theorem strs_get (l : List Str) (k : Nat) (h : k < l.length) : (strs l).getD k .any = .str l[k] := by simp [strs, List.getD_eq_getElem?_getD, h]
theorem strs_out (l : List Str) (k : Nat) (h : l.length ≤ k) : (strs l).getD k .any = .any := by simp [strs, List.getD_eq_getElem?_getD, h]
theorem strs_cells (l : List Str) : ∀ x, x ∈ strs l → x.cells.length = 1 := by
  intro x hx; simp only [strs, List.mem_map] at hx; obtain ⟨n, _, rfl⟩ := hx; rfl
theorem flatS (l : List Str) : ∀ y ∈ strs l, flatX y = true := flatX_strs l
theorem low_strs (n : Nat) : ∀ l : List Str, lowL n (strs l) = true
  | [] => rfl
  | s :: l => by simp only [strs, List.map_cons, lowL, AV.low, Bool.true_and]; exact low_strs n l
theorem low_bytes (n : Nat) : ∀ l : List UInt8, lowL n (bytesA l) = true
  | [] => rfl
  | s :: l => by simp only [bytesA, List.map_cons, lowL, AV.low, Bool.true_and]; exact low_bytes n l
attribute [go_sem] strs_len
@[go_sem] theorem take_strs (l : List Str) : List.take l.length (strs l) = strs l := by rw [← strs_len l, List.take_length]
@[go_sem] theorem take_bytes (l : Str) : List.take l.length (bytesA l) = bytesA l := by rw [← bytesA_len l, List.take_length]
/-- s is below t. -/
abbrev sLt (s t : Str) : Bool := Op.bytesLess s t
def dfits (s : Str) : Bool := !(s == []) && decide (s.length ≤ 24)

theorem dfits_ok (s : Str) (h : List AObj) : ACall Try.prog 47 [.str s] h (fun r _ => r = .bool (dfits s)) := by
  (refine ACall.of_code Try.func47 rfl ?_; simp only [Try.f47]; simp only [go_sem, Nat.reduceMul, Nat.reduceLT, Nat.reduceLeDiff, Nat.reduceEqDiff, Nat.reduceBEq, Int.toNat_natCast, Int.reduceToNat, Int.reduceNeg, Int.reduceLT, Int.reduceLE, Int.reduceBEq, Int.reduceBNe, decide_true, decide_false, Bool.false_eq_true, false_imp_iff, Nat.lt_irrefl])
  refine Fin_plain ?_
  have e : decide ((s.length : Int) ≤ 24) = decide (s.length ≤ 24) := by congr 1; simp; omega
  simp only [dfits, e]
  cases s <;> simp [bne]
theorem rfits_ok (s : Str) (h : List AObj) : ACall Try.prog 48 [.str s] h (fun r _ => r = .bool (dfits s)) := by
  (refine ACall.of_code Try.func48 rfl ?_; simp only [Try.f48]; simp only [go_sem, Nat.reduceMul, Nat.reduceLT, Nat.reduceLeDiff, Nat.reduceEqDiff, Nat.reduceBEq, Int.toNat_natCast, Int.reduceToNat, Int.reduceNeg, Int.reduceLT, Int.reduceLE, Int.reduceBEq, Int.reduceBNe, decide_true, decide_false, Bool.false_eq_true, false_imp_iff, Nat.lt_irrefl])
  refine Fin_plain ?_
  have e : decide ((s.length : Int) ≤ 24) = decide (s.length ≤ 24) := by congr 1; simp; omega
  have e2 : decide (1 ≤ (s.length : Int)) = !(s == []) := by
    cases s with
    | nil => rfl
    | cons a s => simp; omega
  simp only [dfits, e, e2]
  cases (!(s == [])) <;> rfl
theorem new1_ok (s : Str) (h : List AObj) : ACall Try.prog 46 [.str s] h (fun r _ => r = .bool (!dfits s)) := by
  (refine ACall.of_code Try.func46 rfl ?_; simp only [Try.f46]; simp only [go_sem, Nat.reduceMul, Nat.reduceLT, Nat.reduceLeDiff, Nat.reduceEqDiff, Nat.reduceBEq, Int.toNat_natCast, Int.reduceToNat, Int.reduceNeg, Int.reduceLT, Int.reduceLE, Int.reduceBEq, Int.reduceBNe, decide_true, decide_false, Bool.false_eq_true, false_imp_iff, Nat.lt_irrefl])
  (refine ACallT.pure (by simp only [go_sem, Nat.reduceMul, Nat.reduceLT, Nat.reduceLeDiff, Nat.reduceEqDiff, Nat.reduceBEq, Int.toNat_natCast, Int.reduceToNat, Int.reduceNeg, Int.reduceLT, Int.reduceLE, Int.reduceBEq, Int.reduceBNe, decide_true, decide_false, Bool.false_eq_true, false_imp_iff, Nat.lt_irrefl]; rfl) (by first | trivial | assumption | (simp only [go_sem, Nat.reduceMul, Nat.reduceLT, Nat.reduceLeDiff, Nat.reduceEqDiff, Nat.reduceBEq, Int.toNat_natCast, Int.reduceToNat, Int.reduceNeg, Int.reduceLT, Int.reduceLE, Int.reduceBEq, Int.reduceBNe, decide_true, decide_false, Bool.false_eq_true, false_imp_iff, Nat.lt_irrefl]; done) | (simp only [go_sem, Nat.reduceMul, Nat.reduceLT, Nat.reduceLeDiff, Nat.reduceEqDiff, Nat.reduceBEq, Int.toNat_natCast, Int.reduceToNat, Int.reduceNeg, Int.reduceLT, Int.reduceLE, Int.reduceBEq, Int.reduceBNe, decide_true, decide_false, Bool.false_eq_true, false_imp_iff, Nat.lt_irrefl]; first | trivial | assumption | omega | decide | (refine ⟨?_, ?_⟩ <;> first | trivial | assumption | omega | decide))) (dfits_ok s _) ?_; refine fun _ _ e => ?_; subst e; refine ⟨rfl, ?_⟩; simp only [go_sem, Nat.reduceMul, Nat.reduceLT, Nat.reduceLeDiff, Nat.reduceEqDiff, Nat.reduceBEq, Int.toNat_natCast, Int.reduceToNat, Int.reduceNeg, Int.reduceLT, Int.reduceLE, Int.reduceBEq, Int.reduceBNe, decide_true, decide_false, Bool.false_eq_true, false_imp_iff, Nat.lt_irrefl])
  refine Fin_plain rfl
theorem isNaN_ok (s : Str) (h : List AObj) : ACall Try.prog 87 [.str s] h (fun r _ => r = .bool false) := by
  (refine ACall.of_code Try.func87 rfl ?_; simp only [Try.f87]; simp only [go_sem, Nat.reduceMul, Nat.reduceLT, Nat.reduceLeDiff, Nat.reduceEqDiff, Nat.reduceBEq, Int.toNat_natCast, Int.reduceToNat, Int.reduceNeg, Int.reduceLT, Int.reduceLE, Int.reduceBEq, Int.reduceBNe, decide_true, decide_false, Bool.false_eq_true, false_imp_iff, Nat.lt_irrefl])
  refine Fin_plain ?_
  simp
theorem isNaN2_ok (s : Str) (h : List AObj) : ACall Try.prog 69 [.str s] h (fun r _ => r = .bool false) := by
  (refine ACall.of_code Try.func69 rfl ?_; simp only [Try.f69]; simp only [go_sem, Nat.reduceMul, Nat.reduceLT, Nat.reduceLeDiff, Nat.reduceEqDiff, Nat.reduceBEq, Int.toNat_natCast, Int.reduceToNat, Int.reduceNeg, Int.reduceLT, Int.reduceLE, Int.reduceBEq, Int.reduceBNe, decide_true, decide_false, Bool.false_eq_true, false_imp_iff, Nat.lt_irrefl])
  refine Fin_plain ?_
  simp
theorem less_ok (s t : Str) (h : List AObj) : ACall Try.prog 68 [.str s, .str t] h (fun r _ => r = .bool (sLt s t)) := by
  (refine ACall.of_code Try.func68 rfl ?_; simp only [Try.f68]; simp only [go_sem, Nat.reduceMul, Nat.reduceLT, Nat.reduceLeDiff, Nat.reduceEqDiff, Nat.reduceBEq, Int.toNat_natCast, Int.reduceToNat, Int.reduceNeg, Int.reduceLT, Int.reduceLE, Int.reduceBEq, Int.reduceBNe, decide_true, decide_false, Bool.false_eq_true, false_imp_iff, Nat.lt_irrefl])
  (refine ACallT.pure (by simp only [go_sem, Nat.reduceMul, Nat.reduceLT, Nat.reduceLeDiff, Nat.reduceEqDiff, Nat.reduceBEq, Int.toNat_natCast, Int.reduceToNat, Int.reduceNeg, Int.reduceLT, Int.reduceLE, Int.reduceBEq, Int.reduceBNe, decide_true, decide_false, Bool.false_eq_true, false_imp_iff, Nat.lt_irrefl]; rfl) (by first | trivial | assumption | (simp only [go_sem, Nat.reduceMul, Nat.reduceLT, Nat.reduceLeDiff, Nat.reduceEqDiff, Nat.reduceBEq, Int.toNat_natCast, Int.reduceToNat, Int.reduceNeg, Int.reduceLT, Int.reduceLE, Int.reduceBEq, Int.reduceBNe, decide_true, decide_false, Bool.false_eq_true, false_imp_iff, Nat.lt_irrefl]; done) | (simp only [go_sem, Nat.reduceMul, Nat.reduceLT, Nat.reduceLeDiff, Nat.reduceEqDiff, Nat.reduceBEq, Int.toNat_natCast, Int.reduceToNat, Int.reduceNeg, Int.reduceLT, Int.reduceLE, Int.reduceBEq, Int.reduceBNe, decide_true, decide_false, Bool.false_eq_true, false_imp_iff, Nat.lt_irrefl]; first | trivial | assumption | omega | decide | (refine ⟨?_, ?_⟩ <;> first | trivial | assumption | omega | decide))) (isNaN_ok s _) ?_; refine fun _ _ e => ?_; subst e; refine ⟨rfl, ?_⟩; simp only [go_sem, Nat.reduceMul, Nat.reduceLT, Nat.reduceLeDiff, Nat.reduceEqDiff, Nat.reduceBEq, Int.toNat_natCast, Int.reduceToNat, Int.reduceNeg, Int.reduceLT, Int.reduceLE, Int.reduceBEq, Int.reduceBNe, decide_true, decide_false, Bool.false_eq_true, false_imp_iff, Nat.lt_irrefl])
  refine Fin_plain ?_
  rfl
theorem all_ok (c : Bool) (l : List Str) (h : List AObj) : ACall Try.prog 50 [.ptr (.agg [.fz c (strs l)])] h (fun r _ => r = .fz c (strs l)) := by
  (refine ACall.of_code Try.func50 rfl ?_; simp only [Try.f50]; simp only [go_sem, Nat.reduceMul, Nat.reduceLT, Nat.reduceLeDiff, Nat.reduceEqDiff, Nat.reduceBEq, Int.toNat_natCast, Int.reduceToNat, Int.reduceNeg, Int.reduceLT, Int.reduceLE, Int.reduceBEq, Int.reduceBNe, decide_true, decide_false, Bool.false_eq_true, false_imp_iff, Nat.lt_irrefl])
  refine Fin_plain rfl
theorem all_nil (h : List AObj) : ACall Try.prog 50 [.nilp] h (fun r _ => r = .fz true []) := by
  (refine ACall.of_code Try.func50 rfl ?_; simp only [Try.f50]; simp only [go_sem, Nat.reduceMul, Nat.reduceLT, Nat.reduceLeDiff, Nat.reduceEqDiff, Nat.reduceBEq, Int.toNat_natCast, Int.reduceToNat, Int.reduceNeg, Int.reduceLT, Int.reduceLE, Int.reduceBEq, Int.reduceBNe, decide_true, decide_false, Bool.false_eq_true, false_imp_iff, Nat.lt_irrefl])
  refine Fin_plain rfl
/-- The dictionary of the texts l: nil where d says so. -/
def dictA (d : Option Bool) (l : List Str) : AV :=
  match d with
  | none => .nilp
  | some c => .ptr (.agg [.fz c (strs l)])
def dictL (d : Option Bool) (l : List Str) : List Str :=
  match d with
  | none => []
  | some _ => l
def dictC (d : Option Bool) : Bool :=
  match d with
  | none => true
  | some c => c
@[go_sem] theorem dict_strip (d : Option Bool) (l : List Str) : (dictA d l).strip = dictA d l := by cases d <;> rfl
@[go_sem] theorem dict_stripT (d : Option Bool) (l : List Str) : (dictA d l).stripT = dictA d l := by cases d <;> rfl
@[go_sem] theorem dict_okS (d : Option Bool) (l : List Str) : (dictA d l).okS = True := by cases d <;> simp [dictA, AV.okS]
@[go_sem] theorem dict_lend (d : Option Bool) (l : List Str) (h : List AObj) : lendA h (dictA d l) = some (True, dictA d l) := by cases d <;> rfl
theorem all_ok' (d : Option Bool) (l : List Str) (h : List AObj) : ACall Try.prog 50 [dictA d l] h (fun r _ => r = .fz (dictC d) (strs (dictL d l))) := by
  cases d with
  | none => exact all_nil h
  | some c => exact all_ok c l h
theorem len_ok (d : Option Bool) (l : List Str) (h : List AObj) : ACall Try.prog 37 [dictA d l] h (fun r _ => r = .int .i64 (dictL d l).length) := by
  (refine ACall.of_code Try.func37 rfl ?_; simp only [Try.f37]; simp only [go_sem, Nat.reduceMul, Nat.reduceLT, Nat.reduceLeDiff, Nat.reduceEqDiff, Nat.reduceBEq, Int.toNat_natCast, Int.reduceToNat, Int.reduceNeg, Int.reduceLT, Int.reduceLE, Int.reduceBEq, Int.reduceBNe, decide_true, decide_false, Bool.false_eq_true, false_imp_iff, Nat.lt_irrefl])
  (refine ACallT.frame (all_ok' d l _) ?_; refine fun _ _ e => ?_; subst e; refine ⟨by (first | rfl | (simp only [AV.low, lowL, low_strs, low_bytes, Bool.and_true, Bool.and_self])), ?_⟩; simp only [go_sem, Nat.reduceMul, Nat.reduceLT, Nat.reduceLeDiff, Nat.reduceEqDiff, Nat.reduceBEq, Int.toNat_natCast, Int.reduceToNat, Int.reduceNeg, Int.reduceLT, Int.reduceLE, Int.reduceBEq, Int.reduceBNe, decide_true, decide_false, Bool.false_eq_true, false_imp_iff, Nat.lt_irrefl])
  refine Fin_plain rfl
theorem text_ok (d : Option Bool) (l : List Str) (i : Int) (h : List AObj) : ACall Try.prog 30 [dictA d l, .int .i64 i] h (fun r _ => r = if 0 ≤ i ∧ i < (dictL d l).length then .tup [.str ((dictL d l).getD i.toNat []), .bool true] else .tup [.str [], .bool false]) := by
  (refine ACall.of_code Try.func30 rfl ?_; simp only [Try.f30]; simp only [go_sem, Nat.reduceMul, Nat.reduceLT, Nat.reduceLeDiff, Nat.reduceEqDiff, Nat.reduceBEq, Int.toNat_natCast, Int.reduceToNat, Int.reduceNeg, Int.reduceLT, Int.reduceLE, Int.reduceBEq, Int.reduceBNe, decide_true, decide_false, Bool.false_eq_true, false_imp_iff, Nat.lt_irrefl])
  generalize hb : decide (i < 0) = b
  cases b with
  | true =>
    simp only [go_sem, Nat.reduceMul, Nat.reduceLT, Nat.reduceLeDiff, Nat.reduceEqDiff, Nat.reduceBEq, Int.toNat_natCast, Int.reduceToNat, Int.reduceNeg, Int.reduceLT, Int.reduceLE, Int.reduceBEq, Int.reduceBNe, decide_true, decide_false, Bool.false_eq_true, false_imp_iff, Nat.lt_irrefl]
    have hk : ¬ 0 ≤ i := by have := of_decide_eq_true hb; omega
    refine Fin_plain ?_
    rw [if_neg fun q => hk q.1]
  | false =>
    have hk : ¬ i < 0 := of_decide_eq_false hb
    simp only [go_sem, Nat.reduceMul, Nat.reduceLT, Nat.reduceLeDiff, Nat.reduceEqDiff, Nat.reduceBEq, Int.toNat_natCast, Int.reduceToNat, Int.reduceNeg, Int.reduceLT, Int.reduceLE, Int.reduceBEq, Int.reduceBNe, decide_true, decide_false, Bool.false_eq_true, false_imp_iff, Nat.lt_irrefl]
    (refine ACallT.pure (by simp only [go_sem, Nat.reduceMul, Nat.reduceLT, Nat.reduceLeDiff, Nat.reduceEqDiff, Nat.reduceBEq, Int.toNat_natCast, Int.reduceToNat, Int.reduceNeg, Int.reduceLT, Int.reduceLE, Int.reduceBEq, Int.reduceBNe, decide_true, decide_false, Bool.false_eq_true, false_imp_iff, Nat.lt_irrefl]; rfl) (by first | trivial | assumption | (simp only [go_sem, Nat.reduceMul, Nat.reduceLT, Nat.reduceLeDiff, Nat.reduceEqDiff, Nat.reduceBEq, Int.toNat_natCast, Int.reduceToNat, Int.reduceNeg, Int.reduceLT, Int.reduceLE, Int.reduceBEq, Int.reduceBNe, decide_true, decide_false, Bool.false_eq_true, false_imp_iff, Nat.lt_irrefl]; done) | (simp only [go_sem, Nat.reduceMul, Nat.reduceLT, Nat.reduceLeDiff, Nat.reduceEqDiff, Nat.reduceBEq, Int.toNat_natCast, Int.reduceToNat, Int.reduceNeg, Int.reduceLT, Int.reduceLE, Int.reduceBEq, Int.reduceBNe, decide_true, decide_false, Bool.false_eq_true, false_imp_iff, Nat.lt_irrefl]; first | trivial | assumption | omega | decide | (refine ⟨?_, ?_⟩ <;> first | trivial | assumption | omega | decide))) (len_ok d l _) ?_; refine fun _ _ e => ?_; subst e; refine ⟨rfl, ?_⟩; simp only [go_sem, Nat.reduceMul, Nat.reduceLT, Nat.reduceLeDiff, Nat.reduceEqDiff, Nat.reduceBEq, Int.toNat_natCast, Int.reduceToNat, Int.reduceNeg, Int.reduceLT, Int.reduceLE, Int.reduceBEq, Int.reduceBNe, decide_true, decide_false, Bool.false_eq_true, false_imp_iff, Nat.lt_irrefl])
    generalize hb2 : decide (((dictL d l).length : Int) ≤ i) = b
    cases b with
    | true =>
      have := of_decide_eq_true hb2
      simp only [go_sem, Nat.reduceMul, Nat.reduceLT, Nat.reduceLeDiff, Nat.reduceEqDiff, Nat.reduceBEq, Int.toNat_natCast, Int.reduceToNat, Int.reduceNeg, Int.reduceLT, Int.reduceLE, Int.reduceBEq, Int.reduceBNe, decide_true, decide_false, Bool.false_eq_true, false_imp_iff, Nat.lt_irrefl]
      refine Fin_plain ?_
      rw [if_neg fun q => by omega]
    | false =>
      have := of_decide_eq_false hb2
      cases d with
      | none => exfalso; simp [dictL] at this; omega
      | some c =>
        simp only [dictL] at this ⊢
        simp only [dictA]
        simp only [go_sem, Nat.reduceMul, Nat.reduceLT, Nat.reduceLeDiff, Nat.reduceEqDiff, Nat.reduceBEq, Int.toNat_natCast, Int.reduceToNat, Int.reduceNeg, Int.reduceLT, Int.reduceLE, Int.reduceBEq, Int.reduceBNe, decide_true, decide_false, Bool.false_eq_true, false_imp_iff, Nat.lt_irrefl]
        have hlt : i.toNat < l.length := by omega
        rw [strs_get l _ hlt]
        simp only [go_sem, Nat.reduceMul, Nat.reduceLT, Nat.reduceLeDiff, Nat.reduceEqDiff, Nat.reduceBEq, Int.toNat_natCast, Int.reduceToNat, Int.reduceNeg, Int.reduceLT, Int.reduceLE, Int.reduceBEq, Int.reduceBNe, decide_true, decide_false, Bool.false_eq_true, false_imp_iff, Nat.lt_irrefl]
        refine ⟨⟨by omega, by omega⟩, ?_⟩
        refine Fin_plain ?_
        have q : 0 ≤ i ∧ i < ((dictL (some c) l).length : Int) := ⟨by omega, by show i < (l.length : Int); omega⟩
        exact (if_pos q).symm ▸ (by rw [List.getD_eq_getElem?_getD, List.getElem?_eq_getElem hlt]; rfl)
/-- How many of a rising list are below s: by halving. -/
def bsF (l : List Str) (s : Str) : Nat := (l.takeWhile fun t => sLt t s).length
theorem sLt_trans {a b c : Str} (h : sLt a b = true) (k : sLt b c = true) : sLt a c = true := by
  induction a generalizing b c with
  | nil =>
    cases c with
    | nil => cases b <;> simp [sLt, Op.bytesLess] at k
    | cons z c => rfl
  | cons x a ih =>
    cases b with
    | nil => simp [sLt, Op.bytesLess] at h
    | cons y b =>
      cases c with
      | nil => simp [sLt, Op.bytesLess] at k
      | cons z c =>
        simp only [sLt, Op.bytesLess, Bool.or_eq_true, Bool.and_eq_true, decide_eq_true_eq, beq_iff_eq] at h k ⊢
        rcases h with h | ⟨rfl, h⟩ <;> rcases k with k | ⟨rfl, k⟩
        · exact .inl (UInt8.lt_trans h k)
        · exact .inl h
        · exact .inl k
        · exact .inr ⟨rfl, ih h k⟩
theorem bsF_eq (l : List Str) (s : Str) : ∀ (i : Nat) (hi : i ≤ l.length) (h1 : ∀ k, (hk : k < l.length) → k < i → sLt l[k] s = true) (h2 : ∀ k, (hk : k < l.length) → i ≤ k → sLt l[k] s = false), bsF l s = i := by
  induction l with
  | nil => intro i hi h1 h2; simp at hi; subst hi; rfl
  | cons x l ih =>
    intro i hi h1 h2
    simp only [bsF, List.takeWhile_cons]
    cases i with
    | zero =>
      have := h2 0 (by simp) (by simp)
      simp only [List.getElem_cons_zero] at this
      rw [this]; rfl
    | succ i =>
      have := h1 0 (by simp) (by simp)
      simp only [List.getElem_cons_zero] at this
      rw [this]
      have e := ih i (by simp at hi; exact hi) (fun k hk q => h1 (k + 1) (by simp; omega) (by omega)) (fun k hk q => h2 (k + 1) (by simp; omega) (by omega))
      simp only [if_true, List.length_cons]
      exact congrArg (· + 1) e
theorem bsF_eq2 (l : List Str) (s : Str) : ∀ (i : Nat) (hi : i ≤ l.length) (h1 : ∀ k, (hk : k < l.length) → k < i → sLt l[k] s = true) (h2 : ∀ hk : i < l.length, sLt l[i] s = false), bsF l s = i := by
  induction l with
  | nil => intro i hi h1 h2; simp at hi; subst hi; rfl
  | cons x l ih =>
    intro i hi h1 h2
    simp only [bsF, List.takeWhile_cons]
    cases i with
    | zero =>
      have := h2 (by simp)
      simp only [List.getElem_cons_zero] at this
      rw [this]; rfl
    | succ i =>
      have := h1 0 (by simp) (by simp)
      simp only [List.getElem_cons_zero] at this
      rw [this]
      have e := ih i (by simp at hi; exact hi) (fun k hk q => h1 (k + 1) (by simp; omega) (by omega)) (fun hk => h2 (by simp; omega))
      simp only [if_true, List.length_cons]
      exact congrArg (· + 1) e
theorem bsF_le (l : List Str) (s : Str) : bsF l s ≤ l.length := (List.takeWhile_sublist _).length_le
theorem bsearch_ok (c : Bool) (l : List Str) (s : Str) (h : List AObj) (hl : l.length ≤ 4611686018427387904) (hs : l.Pairwise fun a b => sLt a b = true) : ACall Try.prog 49 [.fz c (strs l), .str s] h (fun r _ => r = .tup [.int .i64 (bsF l s), .bool (l.getD (bsF l s) [] == s && decide (bsF l s < l.length))]) := by
  (refine ACall.of_code Try.func49 rfl ?_; simp only [Try.f49]; simp only [go_sem, Nat.reduceMul, Nat.reduceLT, Nat.reduceLeDiff, Nat.reduceEqDiff, Nat.reduceBEq, Int.toNat_natCast, Int.reduceToNat, Int.reduceNeg, Int.reduceLT, Int.reduceLE, Int.reduceBEq, Int.reduceBNe, decide_true, decide_false, Bool.false_eq_true, false_imp_iff, Nat.lt_irrefl])
  refine ALoop.over [7, 8, 9, 13, 14, 15, 16, 17, 18, 19, 20, 21, 22, 23, 24, 25, 26, 27, 28, 29, 30] (fun e h' => ∃ i j : Nat, i ≤ j ∧ j ≤ l.length ∧ e.getD 7 .any = .int .i64 i ∧ e.getD 8 .any = .int .i64 j ∧ (∀ k, (hk : k < l.length) → k < i → sLt l[k] s = true) ∧ (∀ k, (hk : k < l.length) → j ≤ k → sLt l[k] s = false)) (fun e _ => natA (e.getD 8 .any) - natA (e.getD 7 .any)) ⟨0, l.length, by simp, by simp, rfl, rfl, fun k hk h => by omega, fun k hk h => by omega⟩ ?_
  simp only [List.length_cons, List.length_nil, Nat.reduceAdd, allL_succ, allL_zero]
  intro y7 y8 y9 y13 y14 y15 y16 y17 y18 y19 y20 y21 y22 y23 y24 y25 y26 y27 y28 y29 y30 h' hI
  simp only [go_sem] at hI
  obtain ⟨i, j, hij, hj, rfl, rfl, hlo, hhi⟩ := hI
  simp only [go_sem, Nat.reduceMul, Nat.reduceLT, Nat.reduceLeDiff, Nat.reduceEqDiff, Nat.reduceBEq, Int.toNat_natCast, Int.reduceToNat, Int.reduceNeg, Int.reduceLT, Int.reduceLE, Int.reduceBEq, Int.reduceBNe, decide_true, decide_false, Bool.false_eq_true, false_imp_iff, Nat.lt_irrefl]
  refine acond_intro (fun hc => ?_) (fun hc => ?_)
  · have hlt : i < j := by simpa using hc
    simp only [go_sem, Nat.reduceMul, Nat.reduceLT, Nat.reduceLeDiff, Nat.reduceEqDiff, Nat.reduceBEq, Int.toNat_natCast, Int.reduceToNat, Int.reduceNeg, Int.reduceLT, Int.reduceLE, Int.reduceBEq, Int.reduceBNe, decide_true, decide_false, Bool.false_eq_true, false_imp_iff, Nat.lt_irrefl]
    generalize hm : IntKind.i64.wrap ((IntKind.u64.wrap (IntKind.i64.wrap ((i : Int) + (j : Int)))).fdiv (2 ^ min 1 64)) = m
    have hm : m = (((i + j) / 2 : Nat) : Int) := by
      rw [← hm, wrap_id (x := (i : Int) + (j : Int)) (by omega) (by omega), wrap_u64 (by omega) (by omega)]
      have e : (2 : Int) ^ min 1 64 = 2 := by decide
      rw [e, Int.fdiv_eq_ediv_of_nonneg _ (by decide), wrap_id (by omega) (by omega)]
      omega
    subst hm
    have hml : (i + j) / 2 < l.length := by omega
    simp only [go_sem, strs_get l _ hml, Nat.reduceMul, Nat.reduceLT, Nat.reduceLeDiff, Nat.reduceEqDiff, Nat.reduceBEq, Int.toNat_natCast, Int.reduceToNat, Int.reduceNeg, Int.reduceLT, Int.reduceLE, Int.reduceBEq, Int.reduceBNe, decide_true, decide_false, Bool.false_eq_true, false_imp_iff, Nat.lt_irrefl]
    refine ⟨⟨by omega, by omega⟩, ?_⟩
    (refine ACallT.pure (by simp only [go_sem, Nat.reduceMul, Nat.reduceLT, Nat.reduceLeDiff, Nat.reduceEqDiff, Nat.reduceBEq, Int.toNat_natCast, Int.reduceToNat, Int.reduceNeg, Int.reduceLT, Int.reduceLE, Int.reduceBEq, Int.reduceBNe, decide_true, decide_false, Bool.false_eq_true, false_imp_iff, Nat.lt_irrefl]; rfl) (by first | trivial | assumption | (simp only [go_sem, Nat.reduceMul, Nat.reduceLT, Nat.reduceLeDiff, Nat.reduceEqDiff, Nat.reduceBEq, Int.toNat_natCast, Int.reduceToNat, Int.reduceNeg, Int.reduceLT, Int.reduceLE, Int.reduceBEq, Int.reduceBNe, decide_true, decide_false, Bool.false_eq_true, false_imp_iff, Nat.lt_irrefl]; done) | (simp only [go_sem, Nat.reduceMul, Nat.reduceLT, Nat.reduceLeDiff, Nat.reduceEqDiff, Nat.reduceBEq, Int.toNat_natCast, Int.reduceToNat, Int.reduceNeg, Int.reduceLT, Int.reduceLE, Int.reduceBEq, Int.reduceBNe, decide_true, decide_false, Bool.false_eq_true, false_imp_iff, Nat.lt_irrefl]; first | trivial | assumption | omega | decide | (refine ⟨?_, ?_⟩ <;> first | trivial | assumption | omega | decide))) (less_ok _ s _) ?_; refine fun _ _ e => ?_; subst e; refine ⟨rfl, ?_⟩)
    generalize hb : sLt l[(i + j) / 2] s = b
    cases b with
    | true =>
      simp only [go_sem, Nat.reduceMul, Nat.reduceLT, Nat.reduceLeDiff, Nat.reduceEqDiff, Nat.reduceBEq, Int.toNat_natCast, Int.reduceToNat, Int.reduceNeg, Int.reduceLT, Int.reduceLE, Int.reduceBEq, Int.reduceBNe, decide_true, decide_false, Bool.false_eq_true, false_imp_iff, Nat.lt_irrefl]
      rw [wrap_id (x := (((i + j) / 2 : Nat) : Int) + 1) (by omega) (by omega)]
      refine ⟨⟨(i + j) / 2 + 1, j, by omega, hj, by simp, rfl, fun k hk h => ?_, hhi⟩, by omega⟩
      rcases Nat.lt_or_ge k ((i + j) / 2) with q | q
      · have := List.pairwise_iff_getElem.1 hs k ((i + j) / 2) hk hml q
        exact sLt_trans this hb
      · have : k = (i + j) / 2 := by omega
        subst this; exact hb
    | false =>
      simp only [go_sem, Nat.reduceMul, Nat.reduceLT, Nat.reduceLeDiff, Nat.reduceEqDiff, Nat.reduceBEq, Int.toNat_natCast, Int.reduceToNat, Int.reduceNeg, Int.reduceLT, Int.reduceLE, Int.reduceBEq, Int.reduceBNe, decide_true, decide_false, Bool.false_eq_true, false_imp_iff, Nat.lt_irrefl]
      refine ⟨⟨i, (i + j) / 2, by omega, by omega, rfl, rfl, hlo, fun k hk h => ?_⟩, by omega⟩
      rcases Nat.lt_or_ge ((i + j) / 2) k with q | q
      · have := List.pairwise_iff_getElem.1 hs ((i + j) / 2) k hml hk q
        cases e : sLt l[k] s with
        | false => rfl
        | true => rw [sLt_trans this e] at hb; cases hb
      · have : k = (i + j) / 2 := by omega
        subst this; exact hb
  · have hge : ¬ i < j := by simpa using hc
    have hij : i = j := by omega
    subst hij
    have he : bsF l s = i := bsF_eq l s i hj hlo hhi
    simp only [go_sem, Nat.reduceMul, Nat.reduceLT, Nat.reduceLeDiff, Nat.reduceEqDiff, Nat.reduceBEq, Int.toNat_natCast, Int.reduceToNat, Int.reduceNeg, Int.reduceLT, Int.reduceLE, Int.reduceBEq, Int.reduceBNe, decide_true, decide_false, Bool.false_eq_true, false_imp_iff, Nat.lt_irrefl]
    generalize hb : decide ((i : Int) < (l.length : Int)) = b
    cases b with
    | false =>
      have hge := of_decide_eq_false hb
      have hil : i = l.length := by omega
      simp only [go_sem, strs_out l i (by omega), Nat.reduceMul, Nat.reduceLT, Nat.reduceLeDiff, Nat.reduceEqDiff, Nat.reduceBEq, Int.toNat_natCast, Int.reduceToNat, Int.reduceNeg, Int.reduceLT, Int.reduceLE, Int.reduceBEq, Int.reduceBNe, decide_true, decide_false, Bool.false_eq_true, false_imp_iff, Nat.lt_irrefl]
      refine Fin_plain ?_
      rw [he]; subst hil; simp
    | true =>
      have hlt : i < l.length := by have := of_decide_eq_true hb; omega
      simp only [go_sem, strs_get l _ hlt, Nat.reduceMul, Nat.reduceLT, Nat.reduceLeDiff, Nat.reduceEqDiff, Nat.reduceBEq, Int.toNat_natCast, Int.reduceToNat, Int.reduceNeg, Int.reduceLT, Int.reduceLE, Int.reduceBEq, Int.reduceBNe, decide_true, decide_false, Bool.false_eq_true, false_imp_iff, Nat.lt_irrefl]
      refine ⟨⟨by omega, by omega⟩, ?_⟩
      have he2 : (l.getD (bsF l s) [] == s && decide (bsF l s < l.length)) = (l[i] == s) := by
        rw [he, List.getD_eq_getElem?_getD, List.getElem?_eq_getElem hlt]; simp [hlt]
      rw [he2]
      generalize hb3 : (l[i] == s) = b3
      cases b3 with
      | true =>
        simp only [go_sem, Nat.reduceMul, Nat.reduceLT, Nat.reduceLeDiff, Nat.reduceEqDiff, Nat.reduceBEq, Int.toNat_natCast, Int.reduceToNat, Int.reduceNeg, Int.reduceLT, Int.reduceLE, Int.reduceBEq, Int.reduceBNe, decide_true, decide_false, Bool.false_eq_true, false_imp_iff, Nat.lt_irrefl]
        refine Fin_plain ?_
        rw [he]
      | false =>
        simp only [go_sem, Nat.reduceMul, Nat.reduceLT, Nat.reduceLeDiff, Nat.reduceEqDiff, Nat.reduceBEq, Int.toNat_natCast, Int.reduceToNat, Int.reduceNeg, Int.reduceLT, Int.reduceLE, Int.reduceBEq, Int.reduceBNe, decide_true, decide_false, Bool.false_eq_true, false_imp_iff, Nat.lt_irrefl]
        refine ⟨⟨by omega, by omega⟩, ?_⟩
        (refine ACallT.pure (by simp only [go_sem, Nat.reduceMul, Nat.reduceLT, Nat.reduceLeDiff, Nat.reduceEqDiff, Nat.reduceBEq, Int.toNat_natCast, Int.reduceToNat, Int.reduceNeg, Int.reduceLT, Int.reduceLE, Int.reduceBEq, Int.reduceBNe, decide_true, decide_false, Bool.false_eq_true, false_imp_iff, Nat.lt_irrefl]; rfl) (by first | trivial | assumption | (simp only [go_sem, Nat.reduceMul, Nat.reduceLT, Nat.reduceLeDiff, Nat.reduceEqDiff, Nat.reduceBEq, Int.toNat_natCast, Int.reduceToNat, Int.reduceNeg, Int.reduceLT, Int.reduceLE, Int.reduceBEq, Int.reduceBNe, decide_true, decide_false, Bool.false_eq_true, false_imp_iff, Nat.lt_irrefl]; done) | (simp only [go_sem, Nat.reduceMul, Nat.reduceLT, Nat.reduceLeDiff, Nat.reduceEqDiff, Nat.reduceBEq, Int.toNat_natCast, Int.reduceToNat, Int.reduceNeg, Int.reduceLT, Int.reduceLE, Int.reduceBEq, Int.reduceBNe, decide_true, decide_false, Bool.false_eq_true, false_imp_iff, Nat.lt_irrefl]; first | trivial | assumption | omega | decide | (refine ⟨?_, ?_⟩ <;> first | trivial | assumption | omega | decide))) (isNaN2_ok l[i] _) ?_; refine fun _ _ e => ?_; subst e; refine ⟨rfl, ?_⟩; simp only [go_sem, Nat.reduceMul, Nat.reduceLT, Nat.reduceLeDiff, Nat.reduceEqDiff, Nat.reduceBEq, Int.toNat_natCast, Int.reduceToNat, Int.reduceNeg, Int.reduceLT, Int.reduceLE, Int.reduceBEq, Int.reduceBNe, decide_true, decide_false, Bool.false_eq_true, false_imp_iff, Nat.lt_irrefl])
        refine Fin_plain ?_
        rw [he]

theorem find_ok (d : Option Bool) (l : List Str) (s : Str) (h : List AObj) (hl : l.length ≤ 4611686018427387904) (hs : (dictL d l).Pairwise fun a b => sLt a b = true) : ACall Try.prog 28 [dictA d l, .str s] h (fun r _ => r = if ((dictL d l).getD (bsF (dictL d l) s) [] == s && decide (bsF (dictL d l) s < (dictL d l).length)) then .tup [.int .i64 (bsF (dictL d l) s), .bool true] else .tup [.int .i64 0, .bool false]) := by
  have hl2 : (dictL d l).length ≤ 4611686018427387904 := by cases d <;> simp [dictL, hl]
  (refine ACall.of_code Try.func28 rfl ?_; simp only [Try.f28]; simp only [go_sem, Nat.reduceMul, Nat.reduceLT, Nat.reduceLeDiff, Nat.reduceEqDiff, Nat.reduceBEq, Int.toNat_natCast, Int.reduceToNat, Int.reduceNeg, Int.reduceLT, Int.reduceLE, Int.reduceBEq, Int.reduceBNe, decide_true, decide_false, Bool.false_eq_true, false_imp_iff, Nat.lt_irrefl])
  (refine ACallT.frame (all_ok' d l _) ?_; refine fun _ _ e => ?_; subst e; refine ⟨by (first | rfl | (simp only [AV.low, lowL, low_strs, low_bytes, Bool.and_true, Bool.and_self])), ?_⟩; simp only [go_sem, Nat.reduceMul, Nat.reduceLT, Nat.reduceLeDiff, Nat.reduceEqDiff, Nat.reduceBEq, Int.toNat_natCast, Int.reduceToNat, Int.reduceNeg, Int.reduceLT, Int.reduceLE, Int.reduceBEq, Int.reduceBNe, decide_true, decide_false, Bool.false_eq_true, false_imp_iff, Nat.lt_irrefl])
  (refine ACallT.pure (by simp only [go_sem, Nat.reduceMul, Nat.reduceLT, Nat.reduceLeDiff, Nat.reduceEqDiff, Nat.reduceBEq, Int.toNat_natCast, Int.reduceToNat, Int.reduceNeg, Int.reduceLT, Int.reduceLE, Int.reduceBEq, Int.reduceBNe, decide_true, decide_false, Bool.false_eq_true, false_imp_iff, Nat.lt_irrefl]; rfl) (by first | trivial | assumption | (simp only [go_sem, Nat.reduceMul, Nat.reduceLT, Nat.reduceLeDiff, Nat.reduceEqDiff, Nat.reduceBEq, Int.toNat_natCast, Int.reduceToNat, Int.reduceNeg, Int.reduceLT, Int.reduceLE, Int.reduceBEq, Int.reduceBNe, decide_true, decide_false, Bool.false_eq_true, false_imp_iff, Nat.lt_irrefl]; done) | (simp only [go_sem, Nat.reduceMul, Nat.reduceLT, Nat.reduceLeDiff, Nat.reduceEqDiff, Nat.reduceBEq, Int.toNat_natCast, Int.reduceToNat, Int.reduceNeg, Int.reduceLT, Int.reduceLE, Int.reduceBEq, Int.reduceBNe, decide_true, decide_false, Bool.false_eq_true, false_imp_iff, Nat.lt_irrefl]; first | trivial | assumption | omega | decide | (refine ⟨?_, ?_⟩ <;> first | trivial | assumption | omega | decide))) (bsearch_ok (dictC d) (dictL d l) s _ hl2 hs) ?_; refine fun _ _ e => ?_; subst e; refine ⟨rfl, ?_⟩; simp only [go_sem, Nat.reduceMul, Nat.reduceLT, Nat.reduceLeDiff, Nat.reduceEqDiff, Nat.reduceBEq, Int.toNat_natCast, Int.reduceToNat, Int.reduceNeg, Int.reduceLT, Int.reduceLE, Int.reduceBEq, Int.reduceBNe, decide_true, decide_false, Bool.false_eq_true, false_imp_iff, Nat.lt_irrefl])
  generalize ((dictL d l).getD (bsF (dictL d l) s) [] == s && decide (bsF (dictL d l) s < (dictL d l).length)) = b
  cases b with
  | true => simp only [go_sem, Nat.reduceMul, Nat.reduceLT, Nat.reduceLeDiff, Nat.reduceEqDiff, Nat.reduceBEq, Int.toNat_natCast, Int.reduceToNat, Int.reduceNeg, Int.reduceLT, Int.reduceLE, Int.reduceBEq, Int.reduceBNe, decide_true, decide_false, Bool.false_eq_true, false_imp_iff, Nat.lt_irrefl]; refine Fin_plain rfl
  | false => simp only [go_sem, Nat.reduceMul, Nat.reduceLT, Nat.reduceLeDiff, Nat.reduceEqDiff, Nat.reduceBEq, Int.toNat_natCast, Int.reduceToNat, Int.reduceNeg, Int.reduceLT, Int.reduceLE, Int.reduceBEq, Int.reduceBNe, decide_true, decide_false, Bool.false_eq_true, false_imp_iff, Nat.lt_irrefl]; refine Fin_plain rfl
theorem upto_ok (d : Option Bool) (l : List Str) (s : Str) (h : List AObj) (hl : l.length ≤ 4611686018427387904) (hs : (dictL d l).Pairwise fun a b => sLt a b = true) : ACall Try.prog 32 [dictA d l, .str s] h (fun r _ => r = .int .i64 (bsF (dictL d l) s)) := by
  have hl2 : (dictL d l).length ≤ 4611686018427387904 := by cases d <;> simp [dictL, hl]
  (refine ACall.of_code Try.func32 rfl ?_; simp only [Try.f32]; simp only [go_sem, Nat.reduceMul, Nat.reduceLT, Nat.reduceLeDiff, Nat.reduceEqDiff, Nat.reduceBEq, Int.toNat_natCast, Int.reduceToNat, Int.reduceNeg, Int.reduceLT, Int.reduceLE, Int.reduceBEq, Int.reduceBNe, decide_true, decide_false, Bool.false_eq_true, false_imp_iff, Nat.lt_irrefl])
  (refine ACallT.frame (all_ok' d l _) ?_; refine fun _ _ e => ?_; subst e; refine ⟨by (first | rfl | (simp only [AV.low, lowL, low_strs, low_bytes, Bool.and_true, Bool.and_self])), ?_⟩; simp only [go_sem, Nat.reduceMul, Nat.reduceLT, Nat.reduceLeDiff, Nat.reduceEqDiff, Nat.reduceBEq, Int.toNat_natCast, Int.reduceToNat, Int.reduceNeg, Int.reduceLT, Int.reduceLE, Int.reduceBEq, Int.reduceBNe, decide_true, decide_false, Bool.false_eq_true, false_imp_iff, Nat.lt_irrefl])
  (refine ACallT.pure (by simp only [go_sem, Nat.reduceMul, Nat.reduceLT, Nat.reduceLeDiff, Nat.reduceEqDiff, Nat.reduceBEq, Int.toNat_natCast, Int.reduceToNat, Int.reduceNeg, Int.reduceLT, Int.reduceLE, Int.reduceBEq, Int.reduceBNe, decide_true, decide_false, Bool.false_eq_true, false_imp_iff, Nat.lt_irrefl]; rfl) (by first | trivial | assumption | (simp only [go_sem, Nat.reduceMul, Nat.reduceLT, Nat.reduceLeDiff, Nat.reduceEqDiff, Nat.reduceBEq, Int.toNat_natCast, Int.reduceToNat, Int.reduceNeg, Int.reduceLT, Int.reduceLE, Int.reduceBEq, Int.reduceBNe, decide_true, decide_false, Bool.false_eq_true, false_imp_iff, Nat.lt_irrefl]; done) | (simp only [go_sem, Nat.reduceMul, Nat.reduceLT, Nat.reduceLeDiff, Nat.reduceEqDiff, Nat.reduceBEq, Int.toNat_natCast, Int.reduceToNat, Int.reduceNeg, Int.reduceLT, Int.reduceLE, Int.reduceBEq, Int.reduceBNe, decide_true, decide_false, Bool.false_eq_true, false_imp_iff, Nat.lt_irrefl]; first | trivial | assumption | omega | decide | (refine ⟨?_, ?_⟩ <;> first | trivial | assumption | omega | decide))) (bsearch_ok (dictC d) (dictL d l) s _ hl2 hs) ?_; refine fun _ _ e => ?_; subst e; refine ⟨rfl, ?_⟩; simp only [go_sem, Nat.reduceMul, Nat.reduceLT, Nat.reduceLeDiff, Nat.reduceEqDiff, Nat.reduceBEq, Int.toNat_natCast, Int.reduceToNat, Int.reduceNeg, Int.reduceLT, Int.reduceLE, Int.reduceBEq, Int.reduceBNe, decide_true, decide_false, Bool.false_eq_true, false_imp_iff, Nat.lt_irrefl])
  refine Fin_plain rfl
/-! ### The list's own tests -/
theorem lfits_ok (l : List Str) (c : Bool) (h : List AObj) (hl : l.length ≤ 9223372036854775807) : ACall Try.prog 23 [.fz c (strs l)] h (fun r _ => r = .bool (decide (l.length ≤ 100) && l.all fun s => decide (s.length ≤ 60))) := by
  (refine ACall.of_code Try.func23 rfl ?_; simp only [Try.f23]; simp only [go_sem, Nat.reduceMul, Nat.reduceLT, Nat.reduceLeDiff, Nat.reduceEqDiff, Nat.reduceBEq, Int.toNat_natCast, Int.reduceToNat, Int.reduceNeg, Int.reduceLT, Int.reduceLE, Int.reduceBEq, Int.reduceBNe, decide_true, decide_false, Bool.false_eq_true, false_imp_iff, Nat.lt_irrefl])
  refine ALoop.over [2, 3, 4, 5, 6, 7, 8, 9, 10, 11, 12, 13, 14, 15, 16, 17, 18, 19] (fun e h' => ∃ k : Nat, k ≤ l.length ∧ k ≤ 100 ∧ e.getD 3 .any = .int .i64 k ∧ (l.take k).all (fun s => decide (s.length ≤ 60)) = true) (fun e _ => l.length - natA (e.getD 3 .any)) ⟨0, by simp, by simp, rfl, by simp⟩ ?_
  simp only [List.length_cons, List.length_nil, Nat.reduceAdd, allL_succ, allL_zero]
  intro y2 y3 y4 y5 y6 y7 y8 y9 y10 y11 y12 y13 y14 y15 y16 y17 y18 y19 h' hI
  simp only [go_sem] at hI
  obtain ⟨k, hk, hk1, rfl, hall⟩ := hI
  simp only [go_sem, Nat.reduceMul, Nat.reduceLT, Nat.reduceLeDiff, Nat.reduceEqDiff, Nat.reduceBEq, Int.toNat_natCast, Int.reduceToNat, Int.reduceNeg, Int.reduceLT, Int.reduceLE, Int.reduceBEq, Int.reduceBNe, decide_true, decide_false, Bool.false_eq_true, false_imp_iff, Nat.lt_irrefl]
  refine acond_intro (fun hc => ?_) (fun hc => ?_)
  · have hlt : k < l.length := by simpa using hc
    simp only [go_sem, strs_get l _ hlt, Nat.reduceMul, Nat.reduceLT, Nat.reduceLeDiff, Nat.reduceEqDiff, Nat.reduceBEq, Int.toNat_natCast, Int.reduceToNat, Int.reduceNeg, Int.reduceLT, Int.reduceLE, Int.reduceBEq, Int.reduceBNe, decide_true, decide_false, Bool.false_eq_true, false_imp_iff, Nat.lt_irrefl]
    generalize hb : ((k : Int) == 100) = b
    cases b with
    | true =>
      have : k = 100 := by have := eq_of_beq hb; omega
      simp only [go_sem, Nat.reduceMul, Nat.reduceLT, Nat.reduceLeDiff, Nat.reduceEqDiff, Nat.reduceBEq, Int.toNat_natCast, Int.reduceToNat, Int.reduceNeg, Int.reduceLT, Int.reduceLE, Int.reduceBEq, Int.reduceBNe, decide_true, decide_false, Bool.false_eq_true, false_imp_iff, Nat.lt_irrefl]
      refine Fin_plain ?_
      have : decide (l.length ≤ 100) = false := by simp; omega
      rw [this]; rfl
    | false =>
      have hk2 : k < 100 := by
        have : (k : Int) ≠ 100 := fun e => by rw [e] at hb; simp at hb
        omega
      simp only [go_sem, Nat.reduceMul, Nat.reduceLT, Nat.reduceLeDiff, Nat.reduceEqDiff, Nat.reduceBEq, Int.toNat_natCast, Int.reduceToNat, Int.reduceNeg, Int.reduceLT, Int.reduceLE, Int.reduceBEq, Int.reduceBNe, decide_true, decide_false, Bool.false_eq_true, false_imp_iff, Nat.lt_irrefl]
      refine ⟨⟨by omega, by omega⟩, ?_⟩
      generalize hb2 : decide ((60 : Int) < (l[k].length : Int)) = b
      cases b with
      | true =>
        have := of_decide_eq_true hb2
        simp only [go_sem, Nat.reduceMul, Nat.reduceLT, Nat.reduceLeDiff, Nat.reduceEqDiff, Nat.reduceBEq, Int.toNat_natCast, Int.reduceToNat, Int.reduceNeg, Int.reduceLT, Int.reduceLE, Int.reduceBEq, Int.reduceBNe, decide_true, decide_false, Bool.false_eq_true, false_imp_iff, Nat.lt_irrefl]
        refine Fin_plain ?_
        have : l.all (fun s => decide (s.length ≤ 60)) = false := by
          rw [List.all_eq_false]; exact ⟨l[k], List.getElem_mem _, by simp; omega⟩
        rw [this]; simp
      | false =>
        have := of_decide_eq_false hb2
        simp only [go_sem, Nat.reduceMul, Nat.reduceLT, Nat.reduceLeDiff, Nat.reduceEqDiff, Nat.reduceBEq, Int.toNat_natCast, Int.reduceToNat, Int.reduceNeg, Int.reduceLT, Int.reduceLE, Int.reduceBEq, Int.reduceBNe, decide_true, decide_false, Bool.false_eq_true, false_imp_iff, Nat.lt_irrefl]
        rw [wrap_id (by omega) (by omega)]
        refine ⟨⟨k + 1, by omega, by omega, rfl, ?_⟩, by omega⟩
        rw [List.take_succ_eq_append_getElem hlt, List.all_append, hall]; simp; omega
  · have hge : k = l.length := by have : ¬ k < l.length := by simpa using hc
                                  omega
    simp only [go_sem, Nat.reduceMul, Nat.reduceLT, Nat.reduceLeDiff, Nat.reduceEqDiff, Nat.reduceBEq, Int.toNat_natCast, Int.reduceToNat, Int.reduceNeg, Int.reduceLT, Int.reduceLE, Int.reduceBEq, Int.reduceBNe, decide_true, decide_false, Bool.false_eq_true, false_imp_iff, Nat.lt_irrefl]
    refine Fin_plain ?_
    subst hge
    rw [List.take_length] at hall; rw [hall]; simp; omega
theorem rupto_ok (l : List Str) (c : Bool) (s : Str) (h : List AObj) (hl : l.length ≤ 4611686018427387904) : ACall Try.prog 33 [.fz c (strs l), .str s] h (fun r _ => r = .int .i64 (bsF l s)) := by
  (refine ACall.of_code Try.func33 rfl ?_; simp only [Try.f33]; simp only [go_sem, Nat.reduceMul, Nat.reduceLT, Nat.reduceLeDiff, Nat.reduceEqDiff, Nat.reduceBEq, Int.toNat_natCast, Int.reduceToNat, Int.reduceNeg, Int.reduceLT, Int.reduceLE, Int.reduceBEq, Int.reduceBNe, decide_true, decide_false, Bool.false_eq_true, false_imp_iff, Nat.lt_irrefl])
  refine ALoop.over [5, 6, 7, 8, 9, 10, 11, 12, 13, 14, 15, 16, 17, 18, 19] (fun e h' => ∃ k : Nat, k ≤ l.length ∧ e.getD 5 .any = .int .i64 k ∧ (∀ i, (hi : i < l.length) → i < k → sLt l[i] s = true)) (fun e _ => l.length - natA (e.getD 5 .any)) ⟨0, by simp, rfl, fun i hi h => by omega⟩ ?_
  simp only [List.length_cons, List.length_nil, Nat.reduceAdd, allL_succ, allL_zero]
  intro y5 y6 y7 y8 y9 y10 y11 y12 y13 y14 y15 y16 y17 y18 y19 h' hI
  simp only [go_sem] at hI
  obtain ⟨k, hk, rfl, hlo⟩ := hI
  simp only [go_sem, Nat.reduceMul, Nat.reduceLT, Nat.reduceLeDiff, Nat.reduceEqDiff, Nat.reduceBEq, Int.toNat_natCast, Int.reduceToNat, Int.reduceNeg, Int.reduceLT, Int.reduceLE, Int.reduceBEq, Int.reduceBNe, decide_true, decide_false, Bool.false_eq_true, false_imp_iff, Nat.lt_irrefl]
  generalize hb : decide ((k : Int) < (l.length : Int)) = b
  cases b with
  | false =>
    have hge := of_decide_eq_false hb
    simp only [go_sem, strs_out l k (by omega), Nat.reduceMul, Nat.reduceLT, Nat.reduceLeDiff, Nat.reduceEqDiff, Nat.reduceBEq, Int.toNat_natCast, Int.reduceToNat, Int.reduceNeg, Int.reduceLT, Int.reduceLE, Int.reduceBEq, Int.reduceBNe, decide_true, decide_false, Bool.false_eq_true, false_imp_iff, Nat.lt_irrefl]
    refine Fin_plain ?_
    rw [bsF_eq2 l s k hk hlo (fun q => by omega)]
  | true =>
    have hlt : k < l.length := by have := of_decide_eq_true hb; omega
    simp only [go_sem, strs_get l _ hlt, Nat.reduceMul, Nat.reduceLT, Nat.reduceLeDiff, Nat.reduceEqDiff, Nat.reduceBEq, Int.toNat_natCast, Int.reduceToNat, Int.reduceNeg, Int.reduceLT, Int.reduceLE, Int.reduceBEq, Int.reduceBNe, decide_true, decide_false, Bool.false_eq_true, false_imp_iff, Nat.lt_irrefl]
    refine ⟨⟨by omega, by omega⟩, ?_⟩
    refine acond_intro (fun hc => ?_) (fun hc => ?_)
    · simp only [go_sem, Nat.reduceMul, Nat.reduceLT, Nat.reduceLeDiff, Nat.reduceEqDiff, Nat.reduceBEq, Int.toNat_natCast, Int.reduceToNat, Int.reduceNeg, Int.reduceLT, Int.reduceLE, Int.reduceBEq, Int.reduceBNe, decide_true, decide_false, Bool.false_eq_true, false_imp_iff, Nat.lt_irrefl]
      rw [wrap_id (by omega) (by omega)]
      refine ⟨⟨k + 1, by omega, rfl, fun i hi q => ?_⟩, by omega⟩
      rcases Nat.lt_or_ge i k with q2 | q2
      · exact hlo i hi q2
      · have : i = k := by omega
        subst this; exact hc
    · simp only [go_sem, Nat.reduceMul, Nat.reduceLT, Nat.reduceLeDiff, Nat.reduceEqDiff, Nat.reduceBEq, Int.toNat_natCast, Int.reduceToNat, Int.reduceNeg, Int.reduceLT, Int.reduceLE, Int.reduceBEq, Int.reduceBNe, decide_true, decide_false, Bool.false_eq_true, false_imp_iff, Nat.lt_irrefl]
      refine Fin_plain ?_
      rw [bsF_eq2 l s k hk hlo (fun q => hc)]
theorem rfind_ok (l : List Str) (c : Bool) (s : Str) (h : List AObj) (hl : l.length ≤ 4611686018427387904) : ACall Try.prog 29 [.fz c (strs l), .str s] h (fun r _ => r = if (l.getD (bsF l s) [] == s && decide (bsF l s < l.length)) then .tup [.int .i64 (bsF l s), .bool true] else .tup [.int .i64 0, .bool false]) := by
  (refine ACall.of_code Try.func29 rfl ?_; simp only [Try.f29]; simp only [go_sem, Nat.reduceMul, Nat.reduceLT, Nat.reduceLeDiff, Nat.reduceEqDiff, Nat.reduceBEq, Int.toNat_natCast, Int.reduceToNat, Int.reduceNeg, Int.reduceLT, Int.reduceLE, Int.reduceBEq, Int.reduceBNe, decide_true, decide_false, Bool.false_eq_true, false_imp_iff, Nat.lt_irrefl])
  (refine ACallT.pure (by simp only [go_sem, Nat.reduceMul, Nat.reduceLT, Nat.reduceLeDiff, Nat.reduceEqDiff, Nat.reduceBEq, Int.toNat_natCast, Int.reduceToNat, Int.reduceNeg, Int.reduceLT, Int.reduceLE, Int.reduceBEq, Int.reduceBNe, decide_true, decide_false, Bool.false_eq_true, false_imp_iff, Nat.lt_irrefl]; rfl) (by first | trivial | assumption | (simp only [go_sem, Nat.reduceMul, Nat.reduceLT, Nat.reduceLeDiff, Nat.reduceEqDiff, Nat.reduceBEq, Int.toNat_natCast, Int.reduceToNat, Int.reduceNeg, Int.reduceLT, Int.reduceLE, Int.reduceBEq, Int.reduceBNe, decide_true, decide_false, Bool.false_eq_true, false_imp_iff, Nat.lt_irrefl]; done) | (simp only [go_sem, Nat.reduceMul, Nat.reduceLT, Nat.reduceLeDiff, Nat.reduceEqDiff, Nat.reduceBEq, Int.toNat_natCast, Int.reduceToNat, Int.reduceNeg, Int.reduceLT, Int.reduceLE, Int.reduceBEq, Int.reduceBNe, decide_true, decide_false, Bool.false_eq_true, false_imp_iff, Nat.lt_irrefl]; first | trivial | assumption | omega | decide | (refine ⟨?_, ?_⟩ <;> first | trivial | assumption | omega | decide))) (rupto_ok l c s _ hl) ?_; refine fun _ _ e => ?_; subst e; refine ⟨rfl, ?_⟩; simp only [go_sem, Nat.reduceMul, Nat.reduceLT, Nat.reduceLeDiff, Nat.reduceEqDiff, Nat.reduceBEq, Int.toNat_natCast, Int.reduceToNat, Int.reduceNeg, Int.reduceLT, Int.reduceLE, Int.reduceBEq, Int.reduceBNe, decide_true, decide_false, Bool.false_eq_true, false_imp_iff, Nat.lt_irrefl])
  have hle := bsF_le l s
  generalize bsF l s = n at *
  generalize hb : ((n : Int) == (l.length : Int)) = b
  cases b with
  | true =>
    have : n = l.length := by have := eq_of_beq hb; omega
    subst this
    simp only [go_sem, strs_out l l.length (by omega), Nat.reduceMul, Nat.reduceLT, Nat.reduceLeDiff, Nat.reduceEqDiff, Nat.reduceBEq, Int.toNat_natCast, Int.reduceToNat, Int.reduceNeg, Int.reduceLT, Int.reduceLE, Int.reduceBEq, Int.reduceBNe, decide_true, decide_false, Bool.false_eq_true, false_imp_iff, Nat.lt_irrefl]
    refine Fin_plain ?_
    simp
  | false =>
    have hlt : n < l.length := by
      have : (n : Int) ≠ (l.length : Int) := fun e => by rw [e] at hb; simp at hb
      omega
    simp only [go_sem, strs_get l _ hlt, Nat.reduceMul, Nat.reduceLT, Nat.reduceLeDiff, Nat.reduceEqDiff, Nat.reduceBEq, Int.toNat_natCast, Int.reduceToNat, Int.reduceNeg, Int.reduceLT, Int.reduceLE, Int.reduceBEq, Int.reduceBNe, decide_true, decide_false, Bool.false_eq_true, false_imp_iff, Nat.lt_irrefl]
    refine ⟨⟨by omega, by omega⟩, ?_⟩
    have he2 : (l.getD n [] == s && decide (n < l.length)) = (l[n] == s) := by
      rw [List.getD_eq_getElem?_getD, List.getElem?_eq_getElem hlt]; simp [hlt]
    have he3 : (l[n] != s) = !(l[n] == s) := rfl
    rw [he2, he3]
    generalize (l[n] == s) = b
    cases b with
    | true => simp only [go_sem, Nat.reduceMul, Nat.reduceLT, Nat.reduceLeDiff, Nat.reduceEqDiff, Nat.reduceBEq, Int.toNat_natCast, Int.reduceToNat, Int.reduceNeg, Int.reduceLT, Int.reduceLE, Int.reduceBEq, Int.reduceBNe, decide_true, decide_false, Bool.false_eq_true, false_imp_iff, Nat.lt_irrefl]; refine Fin_plain rfl
    | false => simp only [go_sem, Nat.reduceMul, Nat.reduceLT, Nat.reduceLeDiff, Nat.reduceEqDiff, Nat.reduceBEq, Int.toNat_natCast, Int.reduceToNat, Int.reduceNeg, Int.reduceLT, Int.reduceLE, Int.reduceBEq, Int.reduceBNe, decide_true, decide_false, Bool.false_eq_true, false_imp_iff, Nat.lt_irrefl]; refine Fin_plain rfl
theorem rtexts_ok (a b : List Str) (c c' : Bool) (h : List AObj) (hl : a.length ≤ 4611686018427387904) : ACall Try.prog 27 [.fz c (strs a), .fz c' (strs b)] h (fun r _ => r = .bool (a == b)) := by
  (refine ACall.of_code Try.func27 rfl ?_; simp only [Try.f27]; simp only [go_sem, Nat.reduceMul, Nat.reduceLT, Nat.reduceLeDiff, Nat.reduceEqDiff, Nat.reduceBEq, Int.toNat_natCast, Int.reduceToNat, Int.reduceNeg, Int.reduceLT, Int.reduceLE, Int.reduceBEq, Int.reduceBNe, decide_true, decide_false, Bool.false_eq_true, false_imp_iff, Nat.lt_irrefl])
  have he : ((a.length : Int) != (b.length : Int)) = !(decide (a.length = b.length)) := by
    simp only [bne]; congr 1
    by_cases q : a.length = b.length
    · simp [q]
    · simp [q]; omega
  rw [he]
  by_cases hq : a.length = b.length
  · simp only [hq, decide_true, Bool.not_true]
    simp only [go_sem, Nat.reduceMul, Nat.reduceLT, Nat.reduceLeDiff, Nat.reduceEqDiff, Nat.reduceBEq, Int.toNat_natCast, Int.reduceToNat, Int.reduceNeg, Int.reduceLT, Int.reduceLE, Int.reduceBEq, Int.reduceBNe, decide_true, decide_false, Bool.false_eq_true, false_imp_iff, Nat.lt_irrefl]
    refine ALoop.over [4, 5, 11, 12, 13, 14, 15, 16, 17, 18, 19, 20, 21, 22, 23, 24, 25] (fun e h' => ∃ k : Nat, k ≤ a.length ∧ e.getD 5 .any = .int .i64 k ∧ a.take k = b.take k) (fun e _ => a.length - natA (e.getD 5 .any)) ⟨0, by simp, rfl, by simp⟩ ?_
    simp only [List.length_cons, List.length_nil, Nat.reduceAdd, allL_succ, allL_zero]
    intro y4 y5 y11 y12 y13 y14 y15 y16 y17 y18 y19 y20 y21 y22 y23 y24 y25 h' hI
    simp only [go_sem] at hI
    obtain ⟨k, hk, rfl, hlo⟩ := hI
    simp only [go_sem, Nat.reduceMul, Nat.reduceLT, Nat.reduceLeDiff, Nat.reduceEqDiff, Nat.reduceBEq, Int.toNat_natCast, Int.reduceToNat, Int.reduceNeg, Int.reduceLT, Int.reduceLE, Int.reduceBEq, Int.reduceBNe, decide_true, decide_false, Bool.false_eq_true, false_imp_iff, Nat.lt_irrefl]
    refine acond_intro (fun hc => ?_) (fun hc => ?_)
    · have hlt : k < a.length := by have := of_decide_eq_true hc; omega
      simp only [go_sem, Nat.reduceMul, Nat.reduceLT, Nat.reduceLeDiff, Nat.reduceEqDiff, Nat.reduceBEq, Int.toNat_natCast, Int.reduceToNat, Int.reduceNeg, Int.reduceLT, Int.reduceLE, Int.reduceBEq, Int.reduceBNe, decide_true, decide_false, Bool.false_eq_true, false_imp_iff, Nat.lt_irrefl]
      refine ADrawT.quiet mixedOrdersD (by kernel_rfl) ?_
      simp only [go_sem, strs_get a _ hlt, strs_get b _ (hq ▸ hlt), Nat.reduceMul, Nat.reduceLT, Nat.reduceLeDiff, Nat.reduceEqDiff, Nat.reduceBEq, Int.toNat_natCast, Int.reduceToNat, Int.reduceNeg, Int.reduceLT, Int.reduceLE, Int.reduceBEq, Int.reduceBNe, decide_true, decide_false, Bool.false_eq_true, false_imp_iff, Nat.lt_irrefl]
      refine ⟨⟨by omega, by omega⟩, ⟨by omega, by omega⟩, ?_⟩
      refine acond_intro (fun hc => ?_) (fun hc => ?_)
      · simp only [go_sem, Nat.reduceMul, Nat.reduceLT, Nat.reduceLeDiff, Nat.reduceEqDiff, Nat.reduceBEq, Int.toNat_natCast, Int.reduceToNat, Int.reduceNeg, Int.reduceLT, Int.reduceLE, Int.reduceBEq, Int.reduceBNe, decide_true, decide_false, Bool.false_eq_true, false_imp_iff, Nat.lt_irrefl]
        refine Fin_plain ?_
        have hne : a ≠ b := fun e => by subst e; simp at hc
        simp [hne]
      · simp only [go_sem, Nat.reduceMul, Nat.reduceLT, Nat.reduceLeDiff, Nat.reduceEqDiff, Nat.reduceBEq, Int.toNat_natCast, Int.reduceToNat, Int.reduceNeg, Int.reduceLT, Int.reduceLE, Int.reduceBEq, Int.reduceBNe, decide_true, decide_false, Bool.false_eq_true, false_imp_iff, Nat.lt_irrefl]
        rw [wrap_id (by omega) (by omega)]
        refine ⟨⟨k + 1, by omega, rfl, ?_⟩, by omega⟩
        rw [List.take_succ_eq_append_getElem hlt, List.take_succ_eq_append_getElem (hq ▸ hlt), hlo]
        have : a[k] = b[k]'(hq ▸ hlt) := by simpa using hc
        rw [this]
    · have hge : k = a.length := by have := of_decide_eq_false hc; omega
      simp only [go_sem, Nat.reduceMul, Nat.reduceLT, Nat.reduceLeDiff, Nat.reduceEqDiff, Nat.reduceBEq, Int.toNat_natCast, Int.reduceToNat, Int.reduceNeg, Int.reduceLT, Int.reduceLE, Int.reduceBEq, Int.reduceBNe, decide_true, decide_false, Bool.false_eq_true, false_imp_iff, Nat.lt_irrefl]
      refine Fin_plain ?_
      subst hge
      rw [List.take_length, List.take_of_length_le (by omega)] at hlo
      simp [hlo]
  · simp only [hq, decide_false, Bool.not_false]
    simp only [go_sem, Nat.reduceMul, Nat.reduceLT, Nat.reduceLeDiff, Nat.reduceEqDiff, Nat.reduceBEq, Int.toNat_natCast, Int.reduceToNat, Int.reduceNeg, Int.reduceLT, Int.reduceLE, Int.reduceBEq, Int.reduceBNe, decide_true, decide_false, Bool.false_eq_true, false_imp_iff, Nat.lt_irrefl]
    refine Fin_plain ?_
    have hne : a ≠ b := fun e => hq (by rw [e])
    simp [hne]
end Go.Proofs.Vale
