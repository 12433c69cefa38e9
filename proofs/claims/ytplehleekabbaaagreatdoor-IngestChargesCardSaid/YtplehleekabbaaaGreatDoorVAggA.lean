/- YtplehleekabbaaaGreatDoorVAggA: a text of the proof of this claim, by its prover. -/
import Derived.Test.YtplehleekabbaaaGreatDoorVIngA
set_option linter.unusedVariables false
set_option linter.unusedSimpArgs false
set_option maxHeartbeats 4000000
set_option maxRecDepth 100000
namespace Go.Proofs.Vale
open Go.Proofs Go.Proofs.YtplehleekabbaaaGreatDoorT
attribute [local irreducible] acode aopsL aopsT pop popG aop ALoop ADraw ACall AWP AFin acondT ALoopT ADrawT ACallT doP doG doGd

theorem ints_len (l : List Int) : (intsA l).length = l.length := by simp [intsA]
def fitsI (n : Int) : Bool := decide (-4611686018427387904 ≤ n) && decide (n ≤ 4611686018427387904)

theorem afits_ok (l : List Int) (c : Bool) (h : List AObj) (hl : l.length ≤ 9223372036854775807) : ACall Tryz.prog 60 [.fz c (intsA l)] h (fun r _ => r = .bool (l.all fitsI)) := by
  (refine ACall.of_code Tryz.func60 rfl ?_; simp only [Tryz.f60]; simp only [go_sem, Nat.reduceMul, Nat.reduceLT, Nat.reduceLeDiff, Nat.reduceEqDiff, Nat.reduceBEq, Int.toNat_natCast, Int.reduceToNat, Int.reduceNeg, Int.reduceLT, Int.reduceLE, Int.reduceBEq, Int.reduceBNe, decide_true, decide_false, Bool.false_eq_true, false_imp_iff, Nat.lt_irrefl])
  refine ALoop.over [2, 4, 7, 8, 9, 10, 11, 12, 13, 14, 15, 16, 17] (fun e h' => ∃ k : Nat, k ≤ l.length ∧ e.getD 7 .any = .int .i64 k ∧ (l.take k).all fitsI = true) (fun e _ => l.length - natA (e.getD 7 .any)) ⟨0, by simp, rfl, by simp⟩ ?_
  simp only [List.length_cons, List.length_nil, Nat.reduceAdd, allL_succ, allL_zero]
  intro y2 y4 y7 y8 y9 y10 y11 y12 y13 y14 y15 y16 y17 h' hI
  simp only [go_sem] at hI
  obtain ⟨k, hk, rfl, hall⟩ := hI
  simp only [go_sem, Nat.reduceMul, Nat.reduceLT, Nat.reduceLeDiff, Nat.reduceEqDiff, Nat.reduceBEq, Int.toNat_natCast, Int.reduceToNat, Int.reduceNeg, Int.reduceLT, Int.reduceLE, Int.reduceBEq, Int.reduceBNe, decide_true, decide_false, Bool.false_eq_true, false_imp_iff, Nat.lt_irrefl]
  refine acond_intro (fun hc => ?_) (fun hc => ?_)
  · have hlt : k < l.length := by simpa [ints_len] using hc
    simp only [go_sem, Nat.reduceMul, Nat.reduceLT, Nat.reduceLeDiff, Nat.reduceEqDiff, Nat.reduceBEq, Int.toNat_natCast, Int.reduceToNat, Int.reduceNeg, Int.reduceLT, Int.reduceLE, Int.reduceBEq, Int.reduceBNe, decide_true, decide_false, Bool.false_eq_true, false_imp_iff, Nat.lt_irrefl]
    rw [ints_get l k hlt]
    simp only [go_sem, Nat.reduceMul, Nat.reduceLT, Nat.reduceLeDiff, Nat.reduceEqDiff, Nat.reduceBEq, Int.toNat_natCast, Int.reduceToNat, Int.reduceNeg, Int.reduceLT, Int.reduceLE, Int.reduceBEq, Int.reduceBNe, decide_true, decide_false, Bool.false_eq_true, false_imp_iff, Nat.lt_irrefl]
    refine ⟨⟨by omega, by omega⟩, ?_⟩
    refine acond_intro (fun hc2 => ?_) (fun hc2 => ?_)
    · simp only [go_sem, Nat.reduceMul, Nat.reduceLT, Nat.reduceLeDiff, Nat.reduceEqDiff, Nat.reduceBEq, Int.toNat_natCast, Int.reduceToNat, Int.reduceNeg, Int.reduceLT, Int.reduceLE, Int.reduceBEq, Int.reduceBNe, decide_true, decide_false, Bool.false_eq_true, false_imp_iff, Nat.lt_irrefl]
      refine Fin_plain ?_
      have hx : fitsI l[k] = false := by
        simp only [fitsI]
        by_cases q : l[k] < -4611686018427387904
        · simp; omega
        · simp [q] at hc2; simp; omega
      have : l.all fitsI = false := by
        rw [List.all_eq_false]; exact ⟨l[k], List.getElem_mem _, by simp [hx]⟩
      rw [this]
    · simp only [go_sem, Nat.reduceMul, Nat.reduceLT, Nat.reduceLeDiff, Nat.reduceEqDiff, Nat.reduceBEq, Int.toNat_natCast, Int.reduceToNat, Int.reduceNeg, Int.reduceLT, Int.reduceLE, Int.reduceBEq, Int.reduceBNe, decide_true, decide_false, Bool.false_eq_true, false_imp_iff, Nat.lt_irrefl]
      have hx : fitsI l[k] = true := by
        simp only [fitsI]
        by_cases q : l[k] < -4611686018427387904
        · simp [q] at hc2
        · simp [q] at hc2; simp; omega
      rw [wrap_id (by omega) (by omega)]
      refine ⟨⟨k + 1, by omega, rfl, ?_⟩, by omega⟩
      rw [List.take_succ_eq_append_getElem hlt, List.all_append, hall]; simp [hx]
  · have hge : k = l.length := by have : ¬ k < l.length := by simpa [ints_len] using hc
                                  omega
    subst hge
    simp only [go_sem, Nat.reduceMul, Nat.reduceLT, Nat.reduceLeDiff, Nat.reduceEqDiff, Nat.reduceBEq, Int.toNat_natCast, Int.reduceToNat, Int.reduceNeg, Int.reduceLT, Int.reduceLE, Int.reduceBEq, Int.reduceBNe, decide_true, decide_false, Bool.false_eq_true, false_imp_iff, Nat.lt_irrefl]
    refine Fin_plain ?_
    rw [List.take_length] at hall; rw [hall]

structure A3 where
  s : Int
  mn : Int
  mx : Int
  deriving DecidableEq
@[go_sem] def a3A (a : A3) : AV := .agg [.int .i64 a.s, .int .i64 a.mn, .int .i64 a.mx]
def rightF (a : A3) : Bool := fitsI a.s && fitsI a.mn && fitsI a.mx && decide (a.mn ≤ a.mx)
def oneF (n : Int) : A3 × Int := if fitsI n then (⟨n, n, n⟩, 0) else (⟨0, 0, 0⟩, 121)

theorem wrapI {n : Int} (h : -9223372036854775808 ≤ n ∧ n ≤ 9223372036854775807) : IntKind.i64.wrap n = n := wrap_id h.1 h.2
theorem fitsI_iff (n : Int) : fitsI n = true ↔ (-4611686018427387904 ≤ n ∧ n ≤ 4611686018427387904) := by simp [fitsI]
def sizeF (n : Int) : Int := if fitsI n then (if n < -n then -n else n) else 4611686018427387904
theorem asize_ok (n : Int) (h : List AObj) : ACall Tryz.prog 30 [.int .i64 n] h (fun r _ => r = .int .i64 (sizeF n)) := by
  (refine ACall.of_code Tryz.func30 rfl ?_; simp only [Tryz.f30]; simp only [go_sem, Nat.reduceMul, Nat.reduceLT, Nat.reduceLeDiff, Nat.reduceEqDiff, Nat.reduceBEq, Int.toNat_natCast, Int.reduceToNat, Int.reduceNeg, Int.reduceLT, Int.reduceLE, Int.reduceBEq, Int.reduceBNe, decide_true, decide_false, Bool.false_eq_true, false_imp_iff, Nat.lt_irrefl])
  (refine ACallT.pure (by simp only [go_sem, Nat.reduceMul, Nat.reduceLT, Nat.reduceLeDiff, Nat.reduceEqDiff, Nat.reduceBEq, Int.toNat_natCast, Int.reduceToNat, Int.reduceNeg, Int.reduceLT, Int.reduceLE, Int.reduceBEq, Int.reduceBNe, decide_true, decide_false, Bool.false_eq_true, false_imp_iff, Nat.lt_irrefl]; rfl) (by first | trivial | assumption | (simp only [go_sem, Nat.reduceMul, Nat.reduceLT, Nat.reduceLeDiff, Nat.reduceEqDiff, Nat.reduceBEq, Int.toNat_natCast, Int.reduceToNat, Int.reduceNeg, Int.reduceLT, Int.reduceLE, Int.reduceBEq, Int.reduceBNe, decide_true, decide_false, Bool.false_eq_true, false_imp_iff, Nat.lt_irrefl]; done) | (simp only [go_sem, Nat.reduceMul, Nat.reduceLT, Nat.reduceLeDiff, Nat.reduceEqDiff, Nat.reduceBEq, Int.toNat_natCast, Int.reduceToNat, Int.reduceNeg, Int.reduceLT, Int.reduceLE, Int.reduceBEq, Int.reduceBNe, decide_true, decide_false, Bool.false_eq_true, false_imp_iff, Nat.lt_irrefl]; first | trivial | assumption | omega | decide | (refine ⟨?_, ?_⟩ <;> first | trivial | assumption | omega | decide))) (afits_ok [n] _ _ (by simp)) ?_; refine fun _ _ e => ?_; subst e; refine ⟨rfl, ?_⟩; simp only [go_sem, Nat.reduceMul, Nat.reduceLT, Nat.reduceLeDiff, Nat.reduceEqDiff, Nat.reduceBEq, Int.toNat_natCast, Int.reduceToNat, Int.reduceNeg, Int.reduceLT, Int.reduceLE, Int.reduceBEq, Int.reduceBNe, decide_true, decide_false, Bool.false_eq_true, false_imp_iff, Nat.lt_irrefl])
  refine acond_intro (fun hc => ?_) (fun hc => ?_)
  · simp only [go_sem, Nat.reduceMul, Nat.reduceLT, Nat.reduceLeDiff, Nat.reduceEqDiff, Nat.reduceBEq, Int.toNat_natCast, Int.reduceToNat, Int.reduceNeg, Int.reduceLT, Int.reduceLE, Int.reduceBEq, Int.reduceBNe, decide_true, decide_false, Bool.false_eq_true, false_imp_iff, Nat.lt_irrefl]
    refine Fin_plain ?_
    simp at hc
    simp [sizeF, hc]
  · simp only [go_sem, Nat.reduceMul, Nat.reduceLT, Nat.reduceLeDiff, Nat.reduceEqDiff, Nat.reduceBEq, Int.toNat_natCast, Int.reduceToNat, Int.reduceNeg, Int.reduceLT, Int.reduceLE, Int.reduceBEq, Int.reduceBNe, decide_true, decide_false, Bool.false_eq_true, false_imp_iff, Nat.lt_irrefl]
    refine Fin_plain ?_
    simp at hc
    have := (fitsI_iff n).1 hc
    rw [wrapI (by omega)]
    simp only [sizeF, hc, if_true]
    simp only [gt_iff_lt, Int.zero_sub]
theorem rasize_ok (n : Int) (h : List AObj) : ACall Tryz.prog 32 [.int .i64 n] h (fun r _ => r = .int .i64 (sizeF n)) := by
  (refine ACall.of_code Tryz.func32 rfl ?_; simp only [Tryz.f32]; simp only [go_sem, Nat.reduceMul, Nat.reduceLT, Nat.reduceLeDiff, Nat.reduceEqDiff, Nat.reduceBEq, Int.toNat_natCast, Int.reduceToNat, Int.reduceNeg, Int.reduceLT, Int.reduceLE, Int.reduceBEq, Int.reduceBNe, decide_true, decide_false, Bool.false_eq_true, false_imp_iff, Nat.lt_irrefl])
  refine acond_intro (fun hc => ?_) (fun hc => ?_)
  · simp only [go_sem, Nat.reduceMul, Nat.reduceLT, Nat.reduceLeDiff, Nat.reduceEqDiff, Nat.reduceBEq, Int.toNat_natCast, Int.reduceToNat, Int.reduceNeg, Int.reduceLT, Int.reduceLE, Int.reduceBEq, Int.reduceBNe, decide_true, decide_false, Bool.false_eq_true, false_imp_iff, Nat.lt_irrefl]
    refine Fin_plain ?_
    have : fitsI n = false := by
      by_cases q : n < -4611686018427387904
      · simp [fitsI]; omega
      · simp [q] at hc; simp [fitsI]; omega
    simp [sizeF, this]
  · simp only [go_sem, Nat.reduceMul, Nat.reduceLT, Nat.reduceLeDiff, Nat.reduceEqDiff, Nat.reduceBEq, Int.toNat_natCast, Int.reduceToNat, Int.reduceNeg, Int.reduceLT, Int.reduceLE, Int.reduceBEq, Int.reduceBNe, decide_true, decide_false, Bool.false_eq_true, false_imp_iff, Nat.lt_irrefl]
    refine Fin_plain ?_
    have hf : fitsI n = true := by
      by_cases q : n < -4611686018427387904
      · simp [q] at hc
      · simp [q] at hc; simp [fitsI]; omega
    have := (fitsI_iff n).1 hf
    rw [wrapI (by omega)]
    simp only [sizeF, hf, if_true]
    simp only [gt_iff_lt, Int.zero_sub]
def joinF (a b : A3) : A3 × Int :=
  if rightF a && rightF b then
    if fitsI (a.s + b.s) then (⟨a.s + b.s, if b.mn < a.mn then b.mn else a.mn, if a.mx < b.mx then b.mx else a.mx⟩, 0) else (⟨0, 0, 0⟩, 121)
  else (⟨0, 0, 0⟩, 1)
end Go.Proofs.Vale
