/- YthgafblmefjkdaaDoorVSchB: a text of the proof of this claim, by its prover. -/
import Derived.Test.YthgafblmefjkdaaDoorVSchA
set_option linter.unusedVariables false
set_option linter.unusedSimpArgs false
set_option maxHeartbeats 4000000
set_option maxRecDepth 100000
namespace Go.Proofs.Vale
open Go.Proofs Go.Proofs.YthgafblmefjkdaaDoorT
attribute [local irreducible] acode aopsL aopsT dopsL dopsT pop popG aop ALoop ADraw ACall AWP AFin acondT ALoopT ADrawT ACallT doP doG doGd

/-! ### Where a text stands -/
def ix (l : List Str) (s : Str) : Nat := (l.takeWhile fun t => !(s == t)).length
theorem ix_le (l : List Str) (s : Str) : ix l s ≤ l.length := by
  induction l with
  | nil => simp [ix]
  | cons x l ih =>
    simp only [ix, List.takeWhile_cons] at ih ⊢
    split
    · simp only [List.length_cons]; omega
    · simp
theorem ix_eq (l : List Str) (s : Str) : ∀ (i : Nat) (hi : i ≤ l.length) (h1 : ∀ k, (hk : k < l.length) → k < i → (s == l[k]) = false) (h2 : ∀ hk : i < l.length, (s == l[i]) = true), ix l s = i := by
  induction l with
  | nil => intro i hi h1 h2; simp at hi; subst hi; rfl
  | cons x l ih =>
    intro i hi h1 h2
    simp only [ix, List.takeWhile_cons]
    cases i with
    | zero =>
      have := h2 (by simp)
      simp only [List.getElem_cons_zero] at this
      rw [this]; rfl
    | succ i =>
      have := h1 0 (by simp) (by simp)
      simp only [List.getElem_cons_zero] at this
      rw [this]
      have e := ih i (by simp at hi; exact hi) (fun k hk q => h1 (k + 1) (by simp; omega) (by omega)) (fun hk => h2 (by simp; omega))
      simp only [Bool.not_false, if_true, List.length_cons]
      exact congrArg (· + 1) e
theorem ix_lt (l : List Str) (s : Str) : ix l s < l.length ↔ s ∈ l := by
  induction l with
  | nil => simp [ix]
  | cons x l ih =>
    simp only [ix, List.takeWhile_cons] at ih ⊢
    by_cases e : s = x
    · subst e; simp
    · have : (s == x) = false := by simpa using e
      simp only [this, Bool.not_false, if_true, List.length_cons, List.mem_cons, e, false_or]
      rw [← ih]; omega
def ixI (l : List Str) (s : Str) : Int := if ix l s < l.length then (ix l s : Int) else -1
theorem index_ok (l : List Str) (s : Str) (c : Bool) (h : List AObj) (hl : l.length ≤ 4611686018427387904) : ACall Tryd.prog 36 [.fz c (strs l), .str s] h (fun r h' => r = .int .i64 (ixI l s) ∧ h' = h) := by
  (refine ACall.of_code Tryd.func36 rfl ?_; simp only [Tryd.f36]; simp only [go_sem, Nat.reduceMul, Nat.reduceLT, Nat.reduceLeDiff, Nat.reduceEqDiff, Nat.reduceBEq, Int.toNat_natCast, Int.reduceToNat, Int.reduceNeg, Int.reduceLT, Int.reduceLE, Int.reduceBEq, Int.reduceBNe, decide_true, decide_false, Bool.false_eq_true, false_imp_iff, Nat.lt_irrefl])
  refine ALoop.over [4, 5, 8, 9, 10, 11, 12, 13, 14, 15, 16, 17, 18] (fun e h' => h' = h ∧ ∃ k : Nat, k ≤ l.length ∧ e.getD 8 .any = .int .i64 k ∧ ∀ j (hj : j < l.length), j < k → (s == l[j]) = false) (fun e _ => l.length - natA (e.getD 8 .any)) ⟨rfl, 0, by simp, rfl, fun _ _ q => by omega⟩ ?_
  simp only [List.length_cons, List.length_nil, Nat.reduceAdd, allL_succ, allL_zero]
  intro y4 y5 y8 y9 y10 y11 y12 y13 y14 y15 y16 y17 y18 h' hI
  simp only [go_sem] at hI
  obtain ⟨rfl, k, hk, rfl, hall⟩ := hI
  simp only [go_sem, Nat.reduceMul, Nat.reduceLT, Nat.reduceLeDiff, Nat.reduceEqDiff, Nat.reduceBEq, Int.toNat_natCast, Int.reduceToNat, Int.reduceNeg, Int.reduceLT, Int.reduceLE, Int.reduceBEq, Int.reduceBNe, decide_true, decide_false, Bool.false_eq_true, false_imp_iff, Nat.lt_irrefl]
  refine acond_intro (fun hc => ?_) (fun hc => ?_)
  · have hlt : k < l.length := by simpa using hc
    simp only [go_sem, strs_get l _ hlt, Nat.reduceMul, Nat.reduceLT, Nat.reduceLeDiff, Nat.reduceEqDiff, Nat.reduceBEq, Int.toNat_natCast, Int.reduceToNat, Int.reduceNeg, Int.reduceLT, Int.reduceLE, Int.reduceBEq, Int.reduceBNe, decide_true, decide_false, Bool.false_eq_true, false_imp_iff, Nat.lt_irrefl]
    refine ⟨⟨by omega, by omega⟩, ?_⟩
    refine acond_intro (fun hb => ?_) (fun hb => ?_)
    · simp only [go_sem, Nat.reduceMul, Nat.reduceLT, Nat.reduceLeDiff, Nat.reduceEqDiff, Nat.reduceBEq, Int.toNat_natCast, Int.reduceToNat, Int.reduceNeg, Int.reduceLT, Int.reduceLE, Int.reduceBEq, Int.reduceBNe, decide_true, decide_false, Bool.false_eq_true, false_imp_iff, Nat.lt_irrefl]
      refine Fin_plain ⟨?_, rfl⟩
      have := ix_eq l s k hk hall (fun _ => hb)
      rw [ixI, this, if_pos hlt]
    · simp only [go_sem, Nat.reduceMul, Nat.reduceLT, Nat.reduceLeDiff, Nat.reduceEqDiff, Nat.reduceBEq, Int.toNat_natCast, Int.reduceToNat, Int.reduceNeg, Int.reduceLT, Int.reduceLE, Int.reduceBEq, Int.reduceBNe, decide_true, decide_false, Bool.false_eq_true, false_imp_iff, Nat.lt_irrefl]
      rw [wrap_id (by omega) (by omega)]
      refine ⟨⟨k + 1, by omega, rfl, fun j hj q => ?_⟩, by omega⟩
      by_cases e : j = k
      · subst e; exact hb
      · exact hall j hj (by omega)
  · have hge : k = l.length := by have : ¬ k < l.length := by simpa using hc
                                  omega
    simp only [go_sem, Nat.reduceMul, Nat.reduceLT, Nat.reduceLeDiff, Nat.reduceEqDiff, Nat.reduceBEq, Int.toNat_natCast, Int.reduceToNat, Int.reduceNeg, Int.reduceLT, Int.reduceLE, Int.reduceBEq, Int.reduceBNe, decide_true, decide_false, Bool.false_eq_true, false_imp_iff, Nat.lt_irrefl]
    refine Fin_plain ⟨?_, rfl⟩
    have := ix_eq l s k hk hall (fun q => by omega)
    rw [ixI, this, if_neg (by omega)]
theorem contains_ok (l : List Str) (s : Str) (c : Bool) (h : List AObj) (hl : l.length ≤ 4611686018427387904) : ACall Tryd.prog 19 [.fz c (strs l), .str s] h (fun r h' => r = .bool (decide (s ∈ l)) ∧ h' = h) := by
  (refine ACall.of_code Tryd.func19 rfl ?_; simp only [Tryd.f19]; simp only [go_sem, Nat.reduceMul, Nat.reduceLT, Nat.reduceLeDiff, Nat.reduceEqDiff, Nat.reduceBEq, Int.toNat_natCast, Int.reduceToNat, Int.reduceNeg, Int.reduceLT, Int.reduceLE, Int.reduceBEq, Int.reduceBNe, decide_true, decide_false, Bool.false_eq_true, false_imp_iff, Nat.lt_irrefl])
  refine ACallT.by (index_ok l s c _ hl) ?_
  rintro r h1 ⟨rfl, rfl⟩
  simp only [go_sem, Nat.reduceMul, Nat.reduceLT, Nat.reduceLeDiff, Nat.reduceEqDiff, Nat.reduceBEq, Int.toNat_natCast, Int.reduceToNat, Int.reduceNeg, Int.reduceLT, Int.reduceLE, Int.reduceBEq, Int.reduceBNe, decide_true, decide_false, Bool.false_eq_true, false_imp_iff, Nat.lt_irrefl]
  refine Fin_plain ⟨?_, rfl⟩
  congr 1
  rw [ixI]
  split
  · rename_i q; rw [decide_eq_true ((ix_lt l s).1 q)]; simp
  · rename_i q; rw [decide_eq_false (fun w => q ((ix_lt l s).2 w))]; simp
def findV (l : List Str) (s : Str) : AV := if s ∈ l then .tup [.int .i64 (ix l s : Int), .bool true] else .tup [.int .i64 0, .bool false]
theorem find_ok (l : List Str) (s : Str) (c : Bool) (h : List AObj) (hl : l.length ≤ 4611686018427387904) : ACall Tryd.prog 30 [.fz c (strs l), .str s] h (fun r h' => r = findV l s ∧ h' = h) := by
  (refine ACall.of_code Tryd.func30 rfl ?_; simp only [Tryd.f30]; simp only [go_sem, Nat.reduceMul, Nat.reduceLT, Nat.reduceLeDiff, Nat.reduceEqDiff, Nat.reduceBEq, Int.toNat_natCast, Int.reduceToNat, Int.reduceNeg, Int.reduceLT, Int.reduceLE, Int.reduceBEq, Int.reduceBNe, decide_true, decide_false, Bool.false_eq_true, false_imp_iff, Nat.lt_irrefl])
  refine ACallT.by (index_ok l s c _ hl) ?_
  rintro r h1 ⟨rfl, rfl⟩
  simp only [go_sem, Nat.reduceMul, Nat.reduceLT, Nat.reduceLeDiff, Nat.reduceEqDiff, Nat.reduceBEq, Int.toNat_natCast, Int.reduceToNat, Int.reduceNeg, Int.reduceLT, Int.reduceLE, Int.reduceBEq, Int.reduceBNe, decide_true, decide_false, Bool.false_eq_true, false_imp_iff, Nat.lt_irrefl]
  refine Fin_plain ⟨?_, rfl⟩
  simp only [findV, ixI, ← ix_lt]
  split
  · simp; omega
  · simp
end Go.Proofs.Vale
