/- YthgafblmefjkdaaDoorVSchC: a text of the proof of this claim, by its prover. -/
import Derived.Test.YthgafblmefjkdaaDoorVSchB
set_option linter.unusedVariables false
set_option linter.unusedSimpArgs false
set_option maxHeartbeats 4000000
set_option maxRecDepth 100000
namespace Go.Proofs.Vale
open Go.Proofs Go.Proofs.YthgafblmefjkdaaDoorT
attribute [local irreducible] acode aopsL aopsT dopsL dopsT pop popG aop ALoop ADraw ACall AWP AFin acondT ALoopT ADrawT ACallT doP doG doGd

/-- A schema. -/
def schA (c1 c2 : Bool) (d m : List Str) : AV := .agg [.fz c1 (strs d), .fz c2 (strs m)]
theorem dim_ok (c1 c2 : Bool) (d m : List Str) (s : Str) (h : List AObj) (hl : d.length ≤ 4611686018427387904) : ACall Tryd.prog 12 [schA c1 c2 d m, .str s] h (fun r _ => r = findV d s) := by
  simp only [schA]
  (refine ACall.of_code Tryd.func12 rfl ?_; simp only [Tryd.f12]; simp only [go_sem, Nat.reduceMul, Nat.reduceLT, Nat.reduceLeDiff, Nat.reduceEqDiff, Nat.reduceBEq, Int.toNat_natCast, Int.reduceToNat, Int.reduceNeg, Int.reduceLT, Int.reduceLE, Int.reduceBEq, Int.reduceBNe, decide_true, decide_false, Bool.false_eq_true, false_imp_iff, Nat.lt_irrefl])
  refine ACallT.by (find_ok d s c1 _ hl) ?_
  rintro r h1 ⟨rfl, rfl⟩
  by_cases e : s ∈ d
  · simp only [findV, if_pos e]; simp only [go_sem, Nat.reduceMul, Nat.reduceLT, Nat.reduceLeDiff, Nat.reduceEqDiff, Nat.reduceBEq, Int.toNat_natCast, Int.reduceToNat, Int.reduceNeg, Int.reduceLT, Int.reduceLE, Int.reduceBEq, Int.reduceBNe, decide_true, decide_false, Bool.false_eq_true, false_imp_iff, Nat.lt_irrefl]; refine Fin_plain rfl
  · simp only [findV, if_neg e]; simp only [go_sem, Nat.reduceMul, Nat.reduceLT, Nat.reduceLeDiff, Nat.reduceEqDiff, Nat.reduceBEq, Int.toNat_natCast, Int.reduceToNat, Int.reduceNeg, Int.reduceLT, Int.reduceLE, Int.reduceBEq, Int.reduceBNe, decide_true, decide_false, Bool.false_eq_true, false_imp_iff, Nat.lt_irrefl]; refine Fin_plain rfl
theorem metric_ok (c1 c2 : Bool) (d m : List Str) (s : Str) (h : List AObj) (hl : m.length ≤ 4611686018427387904) : ACall Tryd.prog 13 [schA c1 c2 d m, .str s] h (fun r _ => r = findV m s) := by
  simp only [schA]
  (refine ACall.of_code Tryd.func13 rfl ?_; simp only [Tryd.f13]; simp only [go_sem, Nat.reduceMul, Nat.reduceLT, Nat.reduceLeDiff, Nat.reduceEqDiff, Nat.reduceBEq, Int.toNat_natCast, Int.reduceToNat, Int.reduceNeg, Int.reduceLT, Int.reduceLE, Int.reduceBEq, Int.reduceBNe, decide_true, decide_false, Bool.false_eq_true, false_imp_iff, Nat.lt_irrefl])
  refine ACallT.by (find_ok m s c2 _ hl) ?_
  rintro r h1 ⟨rfl, rfl⟩
  by_cases e : s ∈ m
  · simp only [findV, if_pos e]; simp only [go_sem, Nat.reduceMul, Nat.reduceLT, Nat.reduceLeDiff, Nat.reduceEqDiff, Nat.reduceBEq, Int.toNat_natCast, Int.reduceToNat, Int.reduceNeg, Int.reduceLT, Int.reduceLE, Int.reduceBEq, Int.reduceBNe, decide_true, decide_false, Bool.false_eq_true, false_imp_iff, Nat.lt_irrefl]; refine Fin_plain rfl
  · simp only [findV, if_neg e]; simp only [go_sem, Nat.reduceMul, Nat.reduceLT, Nat.reduceLeDiff, Nat.reduceEqDiff, Nat.reduceBEq, Int.toNat_natCast, Int.reduceToNat, Int.reduceNeg, Int.reduceLT, Int.reduceLE, Int.reduceBEq, Int.reduceBNe, decide_true, decide_false, Bool.false_eq_true, false_imp_iff, Nat.lt_irrefl]; refine Fin_plain rfl
/-- Is a list of texts one that is gone through? -/
def fitS (l : List Str) : Bool := decide (l.length ≤ 20) && l.all fun s => decide (s.length ≤ 80)
theorem fits_ok (l : List Str) (c : Bool) (h : List AObj) (hl : l.length ≤ 4611686018427387904) : ACall Tryd.prog 7 [.fz c (strs l)] h (fun r h' => r = .bool (fitS l) ∧ h' = h) := by
  (refine ACall.of_code Tryd.func7 rfl ?_; simp only [Tryd.f7]; simp only [go_sem, Nat.reduceMul, Nat.reduceLT, Nat.reduceLeDiff, Nat.reduceEqDiff, Nat.reduceBEq, Int.toNat_natCast, Int.reduceToNat, Int.reduceNeg, Int.reduceLT, Int.reduceLE, Int.reduceBEq, Int.reduceBNe, decide_true, decide_false, Bool.false_eq_true, false_imp_iff, Nat.lt_irrefl])
  refine ALoop.over [2, 3, 4, 5, 6, 7, 8, 9, 10, 11, 12, 13, 14, 15, 16, 17, 18, 19] (fun e h' => h' = h ∧ ∃ k : Nat, k ≤ l.length ∧ k ≤ 20 ∧ e.getD 3 .any = .int .i64 k ∧ (l.take k).all (fun s => decide (s.length ≤ 80)) = true) (fun e _ => l.length - natA (e.getD 3 .any)) ⟨rfl, 0, by simp, by simp, rfl, by simp⟩ ?_
  simp only [List.length_cons, List.length_nil, Nat.reduceAdd, allL_succ, allL_zero]
  intro y2 y3 y4 y5 y6 y7 y8 y9 y10 y11 y12 y13 y14 y15 y16 y17 y18 y19 h' hI
  simp only [go_sem] at hI
  obtain ⟨rfl, k, hk, hk2, rfl, hall⟩ := hI
  simp only [go_sem, Nat.reduceMul, Nat.reduceLT, Nat.reduceLeDiff, Nat.reduceEqDiff, Nat.reduceBEq, Int.toNat_natCast, Int.reduceToNat, Int.reduceNeg, Int.reduceLT, Int.reduceLE, Int.reduceBEq, Int.reduceBNe, decide_true, decide_false, Bool.false_eq_true, false_imp_iff, Nat.lt_irrefl]
  refine acond_intro (fun hc => ?_) (fun hc => ?_)
  · have hlt : k < l.length := by simpa using hc
    simp only [go_sem, strs_get l _ hlt, Nat.reduceMul, Nat.reduceLT, Nat.reduceLeDiff, Nat.reduceEqDiff, Nat.reduceBEq, Int.toNat_natCast, Int.reduceToNat, Int.reduceNeg, Int.reduceLT, Int.reduceLE, Int.reduceBEq, Int.reduceBNe, decide_true, decide_false, Bool.false_eq_true, false_imp_iff, Nat.lt_irrefl]
    refine ⟨fun q => ⟨q, by omega, by omega⟩, ?_⟩
    refine acond_intro (fun hb => ?_) (fun hb => ?_)
    · simp only [go_sem, Nat.reduceMul, Nat.reduceLT, Nat.reduceLeDiff, Nat.reduceEqDiff, Nat.reduceBEq, Int.toNat_natCast, Int.reduceToNat, Int.reduceNeg, Int.reduceLT, Int.reduceLE, Int.reduceBEq, Int.reduceBNe, decide_true, decide_false, Bool.false_eq_true, false_imp_iff, Nat.lt_irrefl]
      refine Fin_plain ⟨?_, rfl⟩
      by_cases hz : (k : Int) = 20
      · rw [fitS, decide_eq_false (by omega)]; rfl
      · have hb2 : ¬ (l[k]).length ≤ 80 := by simp [hz] at hb; omega
        have : l.all (fun s => decide (s.length ≤ 80)) = false := by
          rw [List.all_eq_false]; exact ⟨l[k], List.getElem_mem _, by simpa using hb2⟩
        rw [fitS, this, Bool.and_false]
    · simp only [go_sem, Nat.reduceMul, Nat.reduceLT, Nat.reduceLeDiff, Nat.reduceEqDiff, Nat.reduceBEq, Int.toNat_natCast, Int.reduceToNat, Int.reduceNeg, Int.reduceLT, Int.reduceLE, Int.reduceBEq, Int.reduceBNe, decide_true, decide_false, Bool.false_eq_true, false_imp_iff, Nat.lt_irrefl]
      have hz : (k : Int) ≠ 20 := fun q => by simp [q] at hb
      have hb2 : (l[k]).length ≤ 80 := by simp [hz] at hb; omega
      rw [wrap_id (by omega) (by omega)]
      refine ⟨⟨k + 1, by omega, by omega, rfl, ?_⟩, by omega⟩
      rw [List.take_succ_eq_append_getElem hlt, List.all_append, hall]; simp [hb2]
  · have hge : k = l.length := by have : ¬ k < l.length := by simpa using hc
                                  omega
    subst hge
    rw [List.take_length] at hall
    simp only [go_sem, Nat.reduceMul, Nat.reduceLT, Nat.reduceLeDiff, Nat.reduceEqDiff, Nat.reduceBEq, Int.toNat_natCast, Int.reduceToNat, Int.reduceNeg, Int.reduceLT, Int.reduceLE, Int.reduceBEq, Int.reduceBNe, decide_true, decide_false, Bool.false_eq_true, false_imp_iff, Nat.lt_irrefl]
    refine Fin_plain ⟨?_, rfl⟩
    rw [fitS, hall, decide_eq_true hk2]; rfl
/-! ### Some of some -/
def subS : List Str → List Str → Bool
  | [], _ => true
  | a :: l, b => if ix b a < b.length then subS l (b.drop (ix b a + 1)) else false
theorem drop_strs (l : List Str) (n : Nat) : List.drop n (strs l) = strs (l.drop n) := by simp [strs]
theorem subset_ok (a b : List Str) (c1 c2 : Bool) (h : List AObj) (ha : a.length ≤ 4611686018427387904) (hb : b.length ≤ 4611686018427387904) : ACall Tryd.prog 17 [.fz c1 (strs a), .fz c2 (strs b)] h (fun r h' => r = .bool (subS a b) ∧ h' = h) := by
  (refine ACall.of_code Tryd.func17 rfl ?_; simp only [Tryd.f17]; simp only [go_sem, Nat.reduceMul, Nat.reduceLT, Nat.reduceLeDiff, Nat.reduceEqDiff, Nat.reduceBEq, Int.toNat_natCast, Int.reduceToNat, Int.reduceNeg, Int.reduceLT, Int.reduceLE, Int.reduceBEq, Int.reduceBNe, decide_true, decide_false, Bool.false_eq_true, false_imp_iff, Nat.lt_irrefl])
  refine ALoop.over [1, 4, 6, 7, 10, 11, 12, 13, 14, 15, 16, 17, 18, 19, 20, 21, 22, 23] (fun e h' => h' = h ∧ ∃ (k : Nat) (c : Bool) (b' : List Str), k ≤ a.length ∧ b'.length ≤ b.length ∧ e.getD 10 .any = .int .i64 k ∧ e.getD 1 .any = .fz c (strs b') ∧ subS (a.drop k) b' = subS a b) (fun e _ => a.length - natA (e.getD 10 .any)) ⟨rfl, 0, c2, b, by simp, by omega, rfl, rfl, rfl⟩ ?_
  simp only [List.length_cons, List.length_nil, Nat.reduceAdd, allL_succ, allL_zero]
  intro y1 y4 y6 y7 y10 y11 y12 y13 y14 y15 y16 y17 y18 y19 y20 y21 y22 y23 h' hI
  simp only [go_sem] at hI
  obtain ⟨rfl, k, c, b', hk, hbl, rfl, rfl, hs⟩ := hI
  simp only [go_sem, Nat.reduceMul, Nat.reduceLT, Nat.reduceLeDiff, Nat.reduceEqDiff, Nat.reduceBEq, Int.toNat_natCast, Int.reduceToNat, Int.reduceNeg, Int.reduceLT, Int.reduceLE, Int.reduceBEq, Int.reduceBNe, decide_true, decide_false, Bool.false_eq_true, false_imp_iff, Nat.lt_irrefl]
  refine acond_intro (fun hc => ?_) (fun hc => ?_)
  · have hlt : k < a.length := by simpa using hc
    rw [List.drop_eq_getElem_cons hlt, subS] at hs
    simp only [go_sem, strs_get a _ hlt, Nat.reduceMul, Nat.reduceLT, Nat.reduceLeDiff, Nat.reduceEqDiff, Nat.reduceBEq, Int.toNat_natCast, Int.reduceToNat, Int.reduceNeg, Int.reduceLT, Int.reduceLE, Int.reduceBEq, Int.reduceBNe, decide_true, decide_false, Bool.false_eq_true, false_imp_iff, Nat.lt_irrefl]
    refine ⟨⟨by omega, by omega⟩, ?_⟩
    refine ACallT.by (index_ok b' _ c _ (by omega)) ?_
    rintro r h1 ⟨rfl, rfl⟩
    by_cases e : ix b' a[k] < b'.length
    · rw [if_pos e] at hs
      rw [show ixI b' a[k] = (ix b' a[k] : Int) by rw [ixI, if_pos e]]
      simp only [go_sem, Nat.reduceMul, Nat.reduceLT, Nat.reduceLeDiff, Nat.reduceEqDiff, Nat.reduceBEq, Int.toNat_natCast, Int.reduceToNat, Int.reduceNeg, Int.reduceLT, Int.reduceLE, Int.reduceBEq, Int.reduceBNe, decide_true, decide_false, Bool.false_eq_true, false_imp_iff, Nat.lt_irrefl]
      generalize hz : decide ((ix b' a[k] : Int) < 0) = z
      obtain rfl : z = false := by rw [← hz]; simp
      simp only [go_sem, Nat.reduceMul, Nat.reduceLT, Nat.reduceLeDiff, Nat.reduceEqDiff, Nat.reduceBEq, Int.toNat_natCast, Int.reduceToNat, Int.reduceNeg, Int.reduceLT, Int.reduceLE, Int.reduceBEq, Int.reduceBNe, decide_true, decide_false, Bool.false_eq_true, false_imp_iff, Nat.lt_irrefl]
      have hw : IntKind.i64.wrap ((ix b' a[k] : Int) + 1) = ((ix b' a[k] + 1 : Nat) : Int) := by rw [wrap_id (by omega) (by omega)]; omega
      rw [hw]
      simp only [go_sem, Nat.reduceMul, Nat.reduceLT, Nat.reduceLeDiff, Nat.reduceEqDiff, Nat.reduceBEq, Int.toNat_natCast, Int.reduceToNat, Int.reduceNeg, Int.reduceLT, Int.reduceLE, Int.reduceBEq, Int.reduceBNe, decide_true, decide_false, Bool.false_eq_true, false_imp_iff, Nat.lt_irrefl]
      rw [wrap_id (x := (k : Int) + 1) (by omega) (by omega)]
      refine ⟨⟨by omega, by omega, by omega, strs_cells _⟩, ⟨k + 1, c, b'.drop (ix b' a[k] + 1), by omega, by rw [List.length_drop]; omega, rfl, by rw [drop_strs], hs⟩, by omega⟩
    · rw [if_neg e] at hs
      rw [show ixI b' a[k] = -1 by rw [ixI, if_neg e]]
      simp only [go_sem, Nat.reduceMul, Nat.reduceLT, Nat.reduceLeDiff, Nat.reduceEqDiff, Nat.reduceBEq, Int.toNat_natCast, Int.reduceToNat, Int.reduceNeg, Int.reduceLT, Int.reduceLE, Int.reduceBEq, Int.reduceBNe, decide_true, decide_false, Bool.false_eq_true, false_imp_iff, Nat.lt_irrefl]
      refine Fin_plain ⟨?_, rfl⟩
      rw [← hs]
  · have hge : k = a.length := by have : ¬ k < a.length := by simpa using hc
                                  omega
    subst hge
    rw [List.drop_length, subS] at hs
    simp only [go_sem, Nat.reduceMul, Nat.reduceLT, Nat.reduceLeDiff, Nat.reduceEqDiff, Nat.reduceBEq, Int.toNat_natCast, Int.reduceToNat, Int.reduceNeg, Int.reduceLT, Int.reduceLE, Int.reduceBEq, Int.reduceBNe, decide_true, decide_false, Bool.false_eq_true, false_imp_iff, Nat.lt_irrefl]
    refine Fin_plain ⟨?_, rfl⟩
    rw [← hs]
end Go.Proofs.Vale
