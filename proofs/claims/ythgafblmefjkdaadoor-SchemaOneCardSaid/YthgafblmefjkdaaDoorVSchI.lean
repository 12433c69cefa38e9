/- YthgafblmefjkdaaDoorVSchI: a text of the proof of this claim, by its prover. -/
import Derived.Test.YthgafblmefjkdaaDoorVSchK
import Derived.Test.YthgafblmefjkdaaDoorVDrw
set_option linter.unusedVariables false
set_option linter.unusedSimpArgs false
set_option maxHeartbeats 4000000
set_option maxRecDepth 100000
namespace Go.Proofs.Vale
open Go.Proofs Go.Proofs.YthgafblmefjkdaaDoorT
attribute [local irreducible] acode aopsL aopsT dopsL dopsT dmL dmT pop popG aop ALoop ADraw ACall AWP AFin acondT ALoopT ADrawT ACallT doP doG doGd

theorem rright_ok (c1 c2 : Bool) (d m : List Str) (h : List AObj) (hd : d.length + m.length ≤ 8796093022000) (hL : ∀ s ∈ d ++ m, s.length ≤ 9223372036854775807) : ACall Tryd.prog 14 [schA c1 c2 d m] h (fun r _ => r = .bool (rightS d m)) := by
  simp only [schA]
  (refine ACall.of_code Tryd.func14 rfl ?_; simp only [Tryd.f14]; simp only [go_sem, Nat.reduceMul, Nat.reduceLT, Nat.reduceLeDiff, Nat.reduceEqDiff, Nat.reduceBEq, Int.toNat_natCast, Int.reduceToNat, Int.reduceNeg, Int.reduceLT, Int.reduceLE, Int.reduceBEq, Int.reduceBNe, decide_true, decide_false, Bool.false_eq_true, false_imp_iff, Nat.lt_irrefl])
  (refine ADrawT.mem [(3, 0), (3, 2), (6, 0), (6, 2), (6, 3), (6, 5)] mixedOrdersD (by kernel_rfl) (by kernel_rfl) ?_; simp only [go_sem, Nat.reduceMul, Nat.reduceLT, Nat.reduceLeDiff, Nat.reduceEqDiff, Nat.reduceBEq, Int.toNat_natCast, Int.reduceToNat, Int.reduceNeg, Int.reduceLT, Int.reduceLE, Int.reduceBEq, Int.reduceBNe, decide_true, decide_false, Bool.false_eq_true, false_imp_iff, Nat.lt_irrefl])
  refine ⟨⟨by omega, by omega, okEl_strs _⟩, ⟨by omega, by omega, okEl_strs _⟩, by simp [okAcc], ?_⟩
  rw [strs_app]
  have hla : (d ++ m).length = d.length + m.length := List.length_append
  rw [right_eq]
  rw [← hla]
  generalize ha : d ++ m = a at *
  refine ALoop.over [2, 4, 5, 6, 14, 15, 16, 17, 18, 19, 20, 21, 22, 23, 24, 25, 26, 27, 28, 29, 30, 31, 32, 33, 34, 35, 36, 37, 38, 39, 40] (fun e h' => h' = h ++ [AObj.arr 0 2 [.agg [.fz c1 (strs d), .fz c2 (strs m)]], AObj.arr 2 1 (strs a)] ∧ ∃ k : Nat, k ≤ a.length ∧ e.getD 4 .any = .int .i64 k ∧ (a.take k).Nodup ∧ (a.take k).all nameS = true) (fun e _ => a.length - natA (e.getD 4 .any)) ⟨rfl, 0, by simp, rfl, by simp, by simp⟩ ?_
  simp only [List.length_cons, List.length_nil, Nat.reduceAdd, allL_succ, allL_zero]
  intro y2 y4 y5 y6 y14 y15 y16 y17 y18 y19 y20 y21 y22 y23 y24 y25 y26 y27 y28 y29 y30 y31 y32 y33 y34 y35 y36 y37 y38 y39 y40 h' hI
  simp only [go_sem] at hI
  obtain ⟨rfl, k, hk, rfl, hnd, hnm⟩ := hI
  simp only [go_sem, Nat.reduceMul, Nat.reduceLT, Nat.reduceLeDiff, Nat.reduceEqDiff, Nat.reduceBEq, Int.toNat_natCast, Int.reduceToNat, Int.reduceNeg, Int.reduceLT, Int.reduceLE, Int.reduceBEq, Int.reduceBNe, decide_true, decide_false, Bool.false_eq_true, false_imp_iff, Nat.lt_irrefl]
  refine acond_intro (fun hc => ?_) (fun hc => ?_)
  · have hlt : k < a.length := by have := of_decide_eq_true hc; omega
    simp only [go_sem, strs_get a _ hlt, Nat.reduceMul, Nat.reduceLT, Nat.reduceLeDiff, Nat.reduceEqDiff, Nat.reduceBEq, Int.toNat_natCast, Int.reduceToNat, Int.reduceNeg, Int.reduceLT, Int.reduceLE, Int.reduceBEq, Int.reduceBNe, decide_true, decide_false, Bool.false_eq_true, false_imp_iff, Nat.lt_irrefl]
    refine ⟨⟨by omega, by omega⟩, hlt, ?_⟩
    have hin : a[k] ∈ a := List.getElem_mem _
    (refine ACallT.frame (rname_ok a[k] _ (hL _ hin)) ?_; refine fun _ _ e => ?_; subst e; refine ⟨by (first | rfl | (simp only [AV.low, lowL, low_strs, low_bytes, Bool.and_true, Bool.and_self])), ?_⟩; simp only [go_sem, Nat.reduceMul, Nat.reduceLT, Nat.reduceLeDiff, Nat.reduceEqDiff, Nat.reduceBEq, Int.toNat_natCast, Int.reduceToNat, Int.reduceNeg, Int.reduceLT, Int.reduceLE, Int.reduceBEq, Int.reduceBNe, decide_true, decide_false, Bool.false_eq_true, false_imp_iff, Nat.lt_irrefl])
    generalize hn : nameS a[k] = nk
    cases nk with
    | false =>
      simp only [go_sem, Nat.reduceMul, Nat.reduceLT, Nat.reduceLeDiff, Nat.reduceEqDiff, Nat.reduceBEq, Int.toNat_natCast, Int.reduceToNat, Int.reduceNeg, Int.reduceLT, Int.reduceLE, Int.reduceBEq, Int.reduceBNe, decide_true, decide_false, Bool.false_eq_true, false_imp_iff, Nat.lt_irrefl]
      refine Fin_plain ?_
      have : a.all nameS = false := by rw [List.all_eq_false]; exact ⟨_, hin, by simp [hn]⟩
      rw [this, Bool.and_false]
    | true =>
      simp only [go_sem, Nat.reduceMul, Nat.reduceLT, Nat.reduceLeDiff, Nat.reduceEqDiff, Nat.reduceBEq, Int.toNat_natCast, Int.reduceToNat, Int.reduceNeg, Int.reduceLT, Int.reduceLE, Int.reduceBEq, Int.reduceBNe, decide_true, decide_false, Bool.false_eq_true, false_imp_iff, Nat.lt_irrefl]
      refine ALoop.over [2, 6, 27, 28, 29, 30, 31, 32, 33, 34, 35, 36, 37, 38, 39, 40] (fun e h' => h' = h ++ [AObj.arr 0 2 [.agg [.fz c1 (strs d), .fz c2 (strs m)]], AObj.arr 2 1 (strs a)] ∧ ∃ j : Nat, j ≤ k ∧ e.getD 6 .any = .int .i64 j ∧ ∀ i (hi : i < a.length), i < j → a[i] ≠ a[k]) (fun e _ => k - natA (e.getD 6 .any)) ⟨rfl, 0, by simp, rfl, fun _ _ q => by omega⟩ ?_
      simp only [List.length_cons, List.length_nil, Nat.reduceAdd, allL_succ, allL_zero]
      intro y2 y6 y27 y28 y29 y30 y31 y32 y33 y34 y35 y36 y37 y38 y39 y40 h' hI
      simp only [go_sem] at hI
      obtain ⟨rfl, j, hj, rfl, hall⟩ := hI
      simp only [go_sem, Nat.reduceMul, Nat.reduceLT, Nat.reduceLeDiff, Nat.reduceEqDiff, Nat.reduceBEq, Int.toNat_natCast, Int.reduceToNat, Int.reduceNeg, Int.reduceLT, Int.reduceLE, Int.reduceBEq, Int.reduceBNe, decide_true, decide_false, Bool.false_eq_true, false_imp_iff, Nat.lt_irrefl]
      refine acond_intro (fun hc2 => ?_) (fun hc2 => ?_)
      · have hlt2 : j < k := by have := of_decide_eq_true hc2; omega
        simp only [go_sem, Nat.reduceMul, Nat.reduceLT, Nat.reduceLeDiff, Nat.reduceEqDiff, Nat.reduceBEq, Int.toNat_natCast, Int.reduceToNat, Int.reduceNeg, Int.reduceLT, Int.reduceLE, Int.reduceBEq, Int.reduceBNe, decide_true, decide_false, Bool.false_eq_true, false_imp_iff, Nat.lt_irrefl]
        refine ADrawT.quiet mixedOrdersD (by kernel_rfl) ?_
        simp only [go_sem, strs_get a _ hlt, strs_get a j (by omega), Nat.reduceMul, Nat.reduceLT, Nat.reduceLeDiff, Nat.reduceEqDiff, Nat.reduceBEq, Int.toNat_natCast, Int.reduceToNat, Int.reduceNeg, Int.reduceLT, Int.reduceLE, Int.reduceBEq, Int.reduceBNe, decide_true, decide_false, Bool.false_eq_true, false_imp_iff, Nat.lt_irrefl]
        refine ⟨⟨by omega, by omega⟩, by omega, ⟨by omega, by omega⟩, hlt, ?_⟩
        refine acond_intro (fun hb => ?_) (fun hb => ?_)
        · simp only [go_sem, Nat.reduceMul, Nat.reduceLT, Nat.reduceLeDiff, Nat.reduceEqDiff, Nat.reduceBEq, Int.toNat_natCast, Int.reduceToNat, Int.reduceNeg, Int.reduceLT, Int.reduceLE, Int.reduceBEq, Int.reduceBNe, decide_true, decide_false, Bool.false_eq_true, false_imp_iff, Nat.lt_irrefl]
          refine Fin_plain ?_
          have : ¬ a.Nodup := fun q => (List.pairwise_iff_getElem.1 q) j k (by omega) hlt hlt2 (by simpa using hb)
          rw [decide_eq_false this, Bool.false_and, Bool.false_and]
        · simp only [go_sem, Nat.reduceMul, Nat.reduceLT, Nat.reduceLeDiff, Nat.reduceEqDiff, Nat.reduceBEq, Int.toNat_natCast, Int.reduceToNat, Int.reduceNeg, Int.reduceLT, Int.reduceLE, Int.reduceBEq, Int.reduceBNe, decide_true, decide_false, Bool.false_eq_true, false_imp_iff, Nat.lt_irrefl]
          rw [wrap_id (by omega) (by omega)]
          refine ⟨⟨j + 1, by omega, rfl, fun i hi q => ?_⟩, by omega⟩
          by_cases e : i = j
          · subst e; simpa using hb
          · exact hall i hi (by omega)
      · have hge : j = k := by have := of_decide_eq_false hc2; omega
        subst hge
        simp only [go_sem, Nat.reduceMul, Nat.reduceLT, Nat.reduceLeDiff, Nat.reduceEqDiff, Nat.reduceBEq, Int.toNat_natCast, Int.reduceToNat, Int.reduceNeg, Int.reduceLT, Int.reduceLE, Int.reduceBEq, Int.reduceBNe, decide_true, decide_false, Bool.false_eq_true, false_imp_iff, Nat.lt_irrefl]
        rw [wrap_id (by omega) (by omega)]
        refine ⟨⟨j + 1, by omega, rfl, ?_, ?_⟩, by omega⟩
        · rw [List.take_succ_eq_append_getElem hlt, List.nodup_append]
          refine ⟨hnd, by simp, fun x hx y hy => ?_⟩
          simp only [List.mem_singleton] at hy
          subst hy
          obtain ⟨i, hi, rfl⟩ := List.getElem_of_mem hx
          rw [List.getElem_take]
          exact hall i (by simp at hi; omega) (by simp at hi; omega)
        · rw [List.take_succ_eq_append_getElem hlt, List.all_append, hnm]; simp [hn]
  · have hge : k = a.length := by have := of_decide_eq_false hc; omega
    subst hge
    rw [List.take_length] at hnd hnm
    simp only [go_sem, Nat.reduceMul, Nat.reduceLT, Nat.reduceLeDiff, Nat.reduceEqDiff, Nat.reduceBEq, Int.toNat_natCast, Int.reduceToNat, Int.reduceNeg, Int.reduceLT, Int.reduceLE, Int.reduceBEq, Int.reduceBNe, decide_true, decide_false, Bool.false_eq_true, false_imp_iff, Nat.lt_irrefl]
    refine Fin_plain ?_
    have e1 : decide ((1 : Int) ≤ (d.length : Int)) = decide (0 < d.length) := by congr 1; simp; omega
    have e2 : decide ((d.length : Int) ≤ 6) = decide (d.length ≤ 6) := by congr 1; simp; omega
    have e3 : decide ((m.length : Int) ≤ 4) = decide (m.length ≤ 4) := by congr 1; simp; omega
    rw [hnm, decide_eq_true hnd, sizesS, e1, e2, e3]
    cases decide (0 < d.length) <;> cases decide (d.length ≤ 6) <;> simp
end Go.Proofs.Vale
