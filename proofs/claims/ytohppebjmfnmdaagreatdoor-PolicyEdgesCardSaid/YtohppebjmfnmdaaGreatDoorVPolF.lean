/- YtohppebjmfnmdaaGreatDoorVPolF: a text of the proof of this claim, by its prover. -/
import Derived.Test.YtohppebjmfnmdaaGreatDoorVPolE
import Derived.Test.YtohppebjmfnmdaaGreatDoorVSchQ
set_option linter.unusedVariables false
set_option linter.unusedSimpArgs false
set_option maxHeartbeats 4000000
set_option maxRecDepth 100000
namespace Go.Proofs.Vale
open Go.Proofs Go.Proofs.YtohppebjmfnmdaaGreatDoorT
attribute [local irreducible] acode aopsL aopsT dopsL dopsT dmL dmT pop popG aop ALoop ADraw ACall AWP AFin acondT ALoopT ADrawT ACallT doP doG doGd

/-! ### The law's own conditions -/
theorem okEl_strs (l : List Str) : (strs l).all (okEl 1) = true := by simp [strs, okEl, AV.cells, AV.one]
theorem strs_app (a b : List Str) : strs a ++ strs b = strs (a ++ b) := by simp [strs]
theorem rright_any (c1 c2 : Bool) (d m : List Str) (h : List AObj) (hd : d.length + m.length ≤ 8796093022000) (hL : ∀ s ∈ d ++ m, s.length ≤ 9223372036854775807) : ACall Tryz.prog 6 [schA c1 c2 d m] h (fun r _ => ∃ b, r = .bool b) := by
  simp only [schA]
  (refine ACall.of_code Tryz.func6 rfl ?_; simp only [Tryz.f6]; simp only [go_sem, Nat.reduceMul, Nat.reduceLT, Nat.reduceLeDiff, Nat.reduceEqDiff, Nat.reduceBEq, Int.toNat_natCast, Int.reduceToNat, Int.reduceNeg, Int.reduceLT, Int.reduceLE, Int.reduceBEq, Int.reduceBNe, decide_true, decide_false, Bool.false_eq_true, false_imp_iff, Nat.lt_irrefl])
  (refine ADrawT.mem [(3, 0), (3, 2), (6, 0), (6, 2), (6, 3), (6, 5)] mixedOrdersD (by kernel_rfl) (by kernel_rfl) ?_; simp only [go_sem, Nat.reduceMul, Nat.reduceLT, Nat.reduceLeDiff, Nat.reduceEqDiff, Nat.reduceBEq, Int.toNat_natCast, Int.reduceToNat, Int.reduceNeg, Int.reduceLT, Int.reduceLE, Int.reduceBEq, Int.reduceBNe, decide_true, decide_false, Bool.false_eq_true, false_imp_iff, Nat.lt_irrefl])
  refine ⟨⟨by omega, by omega, okEl_strs _⟩, ⟨by omega, by omega, okEl_strs _⟩, by simp [okAcc], ?_⟩
  rw [strs_app]
  have hla : (d ++ m).length = d.length + m.length := List.length_append
  rw [← hla]
  generalize ha : d ++ m = a at *
  refine ALoop.over [2, 4, 5, 6, 14, 15, 16, 17, 18, 19, 20, 21, 22, 23, 24, 25, 26, 27, 28, 29, 30, 31, 32, 33, 34, 35, 36, 37, 38, 39, 40] (fun e h' => h' = h ++ [AObj.arr 0 2 [.agg [.fz c1 (strs d), .fz c2 (strs m)]], AObj.arr 2 1 (strs a)] ∧ ∃ k : Nat, k ≤ a.length ∧ e.getD 4 .any = .int .i64 k) (fun e _ => a.length - natA (e.getD 4 .any)) ⟨rfl, 0, by simp, rfl⟩ ?_
  simp only [List.length_cons, List.length_nil, Nat.reduceAdd, allL_succ, allL_zero]
  intro y2 y4 y5 y6 y14 y15 y16 y17 y18 y19 y20 y21 y22 y23 y24 y25 y26 y27 y28 y29 y30 y31 y32 y33 y34 y35 y36 y37 y38 y39 y40 h' hI
  simp only [go_sem] at hI
  obtain ⟨rfl, k, hk, rfl⟩ := hI
  simp only [go_sem, Nat.reduceMul, Nat.reduceLT, Nat.reduceLeDiff, Nat.reduceEqDiff, Nat.reduceBEq, Int.toNat_natCast, Int.reduceToNat, Int.reduceNeg, Int.reduceLT, Int.reduceLE, Int.reduceBEq, Int.reduceBNe, decide_true, decide_false, Bool.false_eq_true, false_imp_iff, Nat.lt_irrefl]
  refine acond_intro (fun hc => ?_) (fun hc => ?_)
  · have hlt : k < a.length := by have := of_decide_eq_true hc; omega
    simp only [go_sem, strs_get a _ hlt, Nat.reduceMul, Nat.reduceLT, Nat.reduceLeDiff, Nat.reduceEqDiff, Nat.reduceBEq, Int.toNat_natCast, Int.reduceToNat, Int.reduceNeg, Int.reduceLT, Int.reduceLE, Int.reduceBEq, Int.reduceBNe, decide_true, decide_false, Bool.false_eq_true, false_imp_iff, Nat.lt_irrefl]
    refine ⟨⟨by omega, by omega⟩, hlt, ?_⟩
    have hin : a[k] ∈ a := List.getElem_mem _
    (refine ACallT.frame (rname_ok a[k] _ (hL _ hin)) ?_; refine fun _ _ e => ?_; subst e; refine ⟨by (first | rfl | (simp only [AV.low, lowL, low_strs, low_bytes, Bool.and_true, Bool.and_self])), ?_⟩; simp only [go_sem, Nat.reduceMul, Nat.reduceLT, Nat.reduceLeDiff, Nat.reduceEqDiff, Nat.reduceBEq, Int.toNat_natCast, Int.reduceToNat, Int.reduceNeg, Int.reduceLT, Int.reduceLE, Int.reduceBEq, Int.reduceBNe, decide_true, decide_false, Bool.false_eq_true, false_imp_iff, Nat.lt_irrefl])
    generalize hn : nameS a[k] = nk
    cases nk with
    | false =>
      simp only [go_sem, Nat.reduceMul, Nat.reduceLT, Nat.reduceLeDiff, Nat.reduceEqDiff, Nat.reduceBEq, Int.toNat_natCast, Int.reduceToNat, Int.reduceNeg, Int.reduceLT, Int.reduceLE, Int.reduceBEq, Int.reduceBNe, decide_true, decide_false, Bool.false_eq_true, false_imp_iff, Nat.lt_irrefl]
      exact Fin_plain ⟨_, rfl⟩
    | true =>
      simp only [go_sem, Nat.reduceMul, Nat.reduceLT, Nat.reduceLeDiff, Nat.reduceEqDiff, Nat.reduceBEq, Int.toNat_natCast, Int.reduceToNat, Int.reduceNeg, Int.reduceLT, Int.reduceLE, Int.reduceBEq, Int.reduceBNe, decide_true, decide_false, Bool.false_eq_true, false_imp_iff, Nat.lt_irrefl]
      refine ALoop.over [2, 6, 27, 28, 29, 30, 31, 32, 33, 34, 35, 36, 37, 38, 39, 40] (fun e h' => h' = h ++ [AObj.arr 0 2 [.agg [.fz c1 (strs d), .fz c2 (strs m)]], AObj.arr 2 1 (strs a)] ∧ ∃ j : Nat, j ≤ k ∧ e.getD 6 .any = .int .i64 j) (fun e _ => k - natA (e.getD 6 .any)) ⟨rfl, 0, by simp, rfl⟩ ?_
      simp only [List.length_cons, List.length_nil, Nat.reduceAdd, allL_succ, allL_zero]
      intro y2 y6 y27 y28 y29 y30 y31 y32 y33 y34 y35 y36 y37 y38 y39 y40 h' hI
      simp only [go_sem] at hI
      obtain ⟨rfl, j, hj, rfl⟩ := hI
      simp only [go_sem, Nat.reduceMul, Nat.reduceLT, Nat.reduceLeDiff, Nat.reduceEqDiff, Nat.reduceBEq, Int.toNat_natCast, Int.reduceToNat, Int.reduceNeg, Int.reduceLT, Int.reduceLE, Int.reduceBEq, Int.reduceBNe, decide_true, decide_false, Bool.false_eq_true, false_imp_iff, Nat.lt_irrefl]
      refine acond_intro (fun hc2 => ?_) (fun hc2 => ?_)
      · have hlt2 : j < k := by have := of_decide_eq_true hc2; omega
        simp only [go_sem, Nat.reduceMul, Nat.reduceLT, Nat.reduceLeDiff, Nat.reduceEqDiff, Nat.reduceBEq, Int.toNat_natCast, Int.reduceToNat, Int.reduceNeg, Int.reduceLT, Int.reduceLE, Int.reduceBEq, Int.reduceBNe, decide_true, decide_false, Bool.false_eq_true, false_imp_iff, Nat.lt_irrefl]
        refine ADrawT.quiet mixedOrdersD (by kernel_rfl) ?_
        simp only [go_sem, strs_get a _ hlt, strs_get a j (by omega), Nat.reduceMul, Nat.reduceLT, Nat.reduceLeDiff, Nat.reduceEqDiff, Nat.reduceBEq, Int.toNat_natCast, Int.reduceToNat, Int.reduceNeg, Int.reduceLT, Int.reduceLE, Int.reduceBEq, Int.reduceBNe, decide_true, decide_false, Bool.false_eq_true, false_imp_iff, Nat.lt_irrefl]
        refine ⟨⟨by omega, by omega⟩, by omega, ⟨by omega, by omega⟩, hlt, ?_⟩
        refine acond_intro (fun hb => ?_) (fun hb => ?_)
        · simp only [go_sem, Nat.reduceMul, Nat.reduceLT, Nat.reduceLeDiff, Nat.reduceEqDiff, Nat.reduceBEq, Int.toNat_natCast, Int.reduceToNat, Int.reduceNeg, Int.reduceLT, Int.reduceLE, Int.reduceBEq, Int.reduceBNe, decide_true, decide_false, Bool.false_eq_true, false_imp_iff, Nat.lt_irrefl]
          exact Fin_plain ⟨_, rfl⟩
        · simp only [go_sem, Nat.reduceMul, Nat.reduceLT, Nat.reduceLeDiff, Nat.reduceEqDiff, Nat.reduceBEq, Int.toNat_natCast, Int.reduceToNat, Int.reduceNeg, Int.reduceLT, Int.reduceLE, Int.reduceBEq, Int.reduceBNe, decide_true, decide_false, Bool.false_eq_true, false_imp_iff, Nat.lt_irrefl]
          rw [wrap_id (by omega) (by omega)]
          exact ⟨⟨j + 1, by omega, rfl⟩, by omega⟩
      · have hge : j = k := by have := of_decide_eq_false hc2; omega
        subst hge
        simp only [go_sem, Nat.reduceMul, Nat.reduceLT, Nat.reduceLeDiff, Nat.reduceEqDiff, Nat.reduceBEq, Int.toNat_natCast, Int.reduceToNat, Int.reduceNeg, Int.reduceLT, Int.reduceLE, Int.reduceBEq, Int.reduceBNe, decide_true, decide_false, Bool.false_eq_true, false_imp_iff, Nat.lt_irrefl]
        rw [wrap_id (by omega) (by omega)]
        exact ⟨⟨j + 1, by omega, rfl⟩, by omega⟩
  · have hge : k = a.length := by have := of_decide_eq_false hc; omega
    subst hge
    simp only [go_sem, Nat.reduceMul, Nat.reduceLT, Nat.reduceLeDiff, Nat.reduceEqDiff, Nat.reduceBEq, Int.toNat_natCast, Int.reduceToNat, Int.reduceNeg, Int.reduceLT, Int.reduceLE, Int.reduceBEq, Int.reduceBNe, decide_true, decide_false, Bool.false_eq_true, false_imp_iff, Nat.lt_irrefl]
    exact Fin_plain ⟨_, rfl⟩
theorem pfits_ok (p : Pol) (h : List AObj) (hT : ∀ t ∈ p.T, t.2.2.length ≤ 9223372036854775807) (hJ : ∀ t ∈ p.J, t.2.2.length ≤ 9223372036854775807) : ACall Tryz.prog 5 [polA p] h (fun r _ => ∃ b, r = .bool b ∧ (b = true → p.T.length ≤ 20 ∧ p.J.length ≤ 20)) := by
  simp only [polA]
  (refine ACall.of_code Tryz.func5 rfl ?_; simp only [Tryz.f5]; simp only [go_sem, Nat.reduceMul, Nat.reduceLT, Nat.reduceLeDiff, Nat.reduceEqDiff, Nat.reduceBEq, Int.toNat_natCast, Int.reduceToNat, Int.reduceNeg, Int.reduceLT, Int.reduceLE, Int.reduceBEq, Int.reduceBNe, decide_true, decide_false, Bool.false_eq_true, false_imp_iff, Nat.lt_irrefl])
  refine acond_intro (fun hc => ?_) (fun hc => ?_)
  · simp only [go_sem, Nat.reduceMul, Nat.reduceLT, Nat.reduceLeDiff, Nat.reduceEqDiff, Nat.reduceBEq, Int.toNat_natCast, Int.reduceToNat, Int.reduceNeg, Int.reduceLT, Int.reduceLE, Int.reduceBEq, Int.reduceBNe, decide_true, decide_false, Bool.false_eq_true, false_imp_iff, Nat.lt_irrefl]
    exact Fin_plain ⟨_, rfl, fun q => by cases q⟩
  have hlen : p.T.length ≤ 20 ∧ p.J.length ≤ 20 := by
    by_cases q1 : (20 : Int) < ((p.T.length : Nat) : Int)
    · simp [q1] at hc
    · simp only [q1, decide_false, cond_false] at hc
      have := of_decide_eq_false hc
      omega
  simp only [go_sem, Nat.reduceMul, Nat.reduceLT, Nat.reduceLeDiff, Nat.reduceEqDiff, Nat.reduceBEq, Int.toNat_natCast, Int.reduceToNat, Int.reduceNeg, Int.reduceLT, Int.reduceLE, Int.reduceBEq, Int.reduceBNe, decide_true, decide_false, Bool.false_eq_true, false_imp_iff, Nat.lt_irrefl]
  refine ALoop.over [2, 3, 4, 17, 18, 19, 20, 21, 22, 23, 24, 25, 26, 27, 28, 29, 30, 31, 32] (fun e h' => h'[h.length]? = some (.arr 0 3 [polA p]) ∧ ∃ k : Nat, k ≤ p.T.length ∧ e.getD 3 .any = .int .i64 (k : Int)) (fun e _ => p.T.length - natA (e.getD 3 .any)) ⟨by rw [getElem?_app0]; rfl, 0, by omega, rfl⟩ ?_
  simp only [List.length_cons, List.length_nil, Nat.reduceAdd, allL_succ, allL_zero]
  intro y2 y3 y4 y17 y18 y19 y20 y21 y22 y23 y24 y25 y26 y27 y28 y29 y30 y31 y32 h' hI
  simp only [go_sem] at hI
  obtain ⟨hP, k, hk, rfl⟩ := hI
  simp only [polA] at hP
  simp only [go_sem, hP, Nat.reduceMul, Nat.reduceLT, Nat.reduceLeDiff, Nat.reduceEqDiff, Nat.reduceBEq, Int.toNat_natCast, Int.reduceToNat, Int.reduceNeg, Int.reduceLT, Int.reduceLE, Int.reduceBEq, Int.reduceBNe, decide_true, decide_false, Bool.false_eq_true, false_imp_iff, Nat.lt_irrefl]
  refine acond_intro (fun hc => ?_) (fun hc => ?_)
  · have hlt : k < p.T.length := by have := of_decide_eq_true hc; omega
    have hgk := tiers_get p.T k hlt
    simp only [go_sem, hP, hgk, Nat.reduceMul, Nat.reduceLT, Nat.reduceLeDiff, Nat.reduceEqDiff, Nat.reduceBEq, Int.toNat_natCast, Int.reduceToNat, Int.reduceNeg, Int.reduceLT, Int.reduceLE, Int.reduceBEq, Int.reduceBNe, decide_true, decide_false, Bool.false_eq_true, false_imp_iff, Nat.lt_irrefl]
    refine ⟨⟨by omega, by omega⟩, ?_⟩
    refine ACallT.by (fits_ok (p.T[k]).2.2 false _ (hT _ (List.getElem_mem _))) ?_
    rintro r h2 ⟨rfl, rfl⟩
    simp only [go_sem, hP, Nat.reduceMul, Nat.reduceLT, Nat.reduceLeDiff, Nat.reduceEqDiff, Nat.reduceBEq, Int.toNat_natCast, Int.reduceToNat, Int.reduceNeg, Int.reduceLT, Int.reduceLE, Int.reduceBEq, Int.reduceBNe, decide_true, decide_false, Bool.false_eq_true, false_imp_iff, Nat.lt_irrefl]
    refine acond_intro (fun hd => ?_) (fun hd => ?_)
    · simp only [go_sem, Nat.reduceMul, Nat.reduceLT, Nat.reduceLeDiff, Nat.reduceEqDiff, Nat.reduceBEq, Int.toNat_natCast, Int.reduceToNat, Int.reduceNeg, Int.reduceLT, Int.reduceLE, Int.reduceBEq, Int.reduceBNe, decide_true, decide_false, Bool.false_eq_true, false_imp_iff, Nat.lt_irrefl]
      exact Fin_plain ⟨_, rfl, fun q => by cases q⟩
    · simp only [go_sem, hP, Nat.reduceMul, Nat.reduceLT, Nat.reduceLeDiff, Nat.reduceEqDiff, Nat.reduceBEq, Int.toNat_natCast, Int.reduceToNat, Int.reduceNeg, Int.reduceLT, Int.reduceLE, Int.reduceBEq, Int.reduceBNe, decide_true, decide_false, Bool.false_eq_true, false_imp_iff, Nat.lt_irrefl]
      rw [wrap_id (by omega) (by omega)]
      exact ⟨⟨rfl, k + 1, by omega, rfl⟩, by omega⟩
  simp only [go_sem, hP, Nat.reduceMul, Nat.reduceLT, Nat.reduceLeDiff, Nat.reduceEqDiff, Nat.reduceBEq, Int.toNat_natCast, Int.reduceToNat, Int.reduceNeg, Int.reduceLT, Int.reduceLE, Int.reduceBEq, Int.reduceBNe, decide_true, decide_false, Bool.false_eq_true, false_imp_iff, Nat.lt_irrefl]
  refine ALoop.over [2, 5, 6, 33, 34, 35, 36, 37, 38, 39, 40, 41, 42, 43, 44, 45, 46, 47, 48] (fun e h' => h'[h.length]? = some (.arr 0 3 [polA p]) ∧ ∃ k : Nat, k ≤ p.J.length ∧ e.getD 5 .any = .int .i64 (k : Int)) (fun e _ => p.J.length - natA (e.getD 5 .any)) ⟨by simp only [polA]; exact hP, 0, by omega, rfl⟩ ?_
  simp only [List.length_cons, List.length_nil, Nat.reduceAdd, allL_succ, allL_zero]
  intro y2 y5 y6 y33 y34 y35 y36 y37 y38 y39 y40 y41 y42 y43 y44 y45 y46 y47 y48 h' hI
  simp only [go_sem] at hI
  obtain ⟨hP, k, hk, rfl⟩ := hI
  simp only [polA] at hP
  simp only [go_sem, hP, Nat.reduceMul, Nat.reduceLT, Nat.reduceLeDiff, Nat.reduceEqDiff, Nat.reduceBEq, Int.toNat_natCast, Int.reduceToNat, Int.reduceNeg, Int.reduceLT, Int.reduceLE, Int.reduceBEq, Int.reduceBNe, decide_true, decide_false, Bool.false_eq_true, false_imp_iff, Nat.lt_irrefl]
  refine acond_intro (fun hc => ?_) (fun hc => ?_)
  · have hlt : k < p.J.length := by have := of_decide_eq_true hc; omega
    have hgk := tiers_get p.J k hlt
    simp only [go_sem, hP, hgk, Nat.reduceMul, Nat.reduceLT, Nat.reduceLeDiff, Nat.reduceEqDiff, Nat.reduceBEq, Int.toNat_natCast, Int.reduceToNat, Int.reduceNeg, Int.reduceLT, Int.reduceLE, Int.reduceBEq, Int.reduceBNe, decide_true, decide_false, Bool.false_eq_true, false_imp_iff, Nat.lt_irrefl]
    refine ⟨⟨by omega, by omega⟩, ?_⟩
    refine ACallT.by (fits_ok (p.J[k]).2.2 false _ (hJ _ (List.getElem_mem _))) ?_
    rintro r h2 ⟨rfl, rfl⟩
    simp only [go_sem, hP, Nat.reduceMul, Nat.reduceLT, Nat.reduceLeDiff, Nat.reduceEqDiff, Nat.reduceBEq, Int.toNat_natCast, Int.reduceToNat, Int.reduceNeg, Int.reduceLT, Int.reduceLE, Int.reduceBEq, Int.reduceBNe, decide_true, decide_false, Bool.false_eq_true, false_imp_iff, Nat.lt_irrefl]
    refine acond_intro (fun hd => ?_) (fun hd => ?_)
    · simp only [go_sem, Nat.reduceMul, Nat.reduceLT, Nat.reduceLeDiff, Nat.reduceEqDiff, Nat.reduceBEq, Int.toNat_natCast, Int.reduceToNat, Int.reduceNeg, Int.reduceLT, Int.reduceLE, Int.reduceBEq, Int.reduceBNe, decide_true, decide_false, Bool.false_eq_true, false_imp_iff, Nat.lt_irrefl]
      exact Fin_plain ⟨_, rfl, fun q => by cases q⟩
    · simp only [go_sem, hP, Nat.reduceMul, Nat.reduceLT, Nat.reduceLeDiff, Nat.reduceEqDiff, Nat.reduceBEq, Int.toNat_natCast, Int.reduceToNat, Int.reduceNeg, Int.reduceLT, Int.reduceLE, Int.reduceBEq, Int.reduceBNe, decide_true, decide_false, Bool.false_eq_true, false_imp_iff, Nat.lt_irrefl]
      rw [wrap_id (by omega) (by omega)]
      exact ⟨⟨rfl, k + 1, by omega, rfl⟩, by omega⟩
  · simp only [go_sem, Nat.reduceMul, Nat.reduceLT, Nat.reduceLeDiff, Nat.reduceEqDiff, Nat.reduceBEq, Int.toNat_natCast, Int.reduceToNat, Int.reduceNeg, Int.reduceLT, Int.reduceLE, Int.reduceBEq, Int.reduceBNe, decide_true, decide_false, Bool.false_eq_true, false_imp_iff, Nat.lt_irrefl]
    exact Fin_plain ⟨true, rfl, fun _ => hlen⟩
end Go.Proofs.Vale
