/- YtinajnnflgpjbaaVDictF: a text of the proof of this claim, by its prover. -/
import Derived.Test.YtinajnnflgpjbaaVDictE
set_option linter.unusedVariables false
set_option linter.unusedSimpArgs false
set_option maxHeartbeats 4000000
set_option maxRecDepth 100000
namespace Go.Proofs.Vale
open Go.Proofs Go.Proofs.YtinajnnflgpjbaaT
attribute [local irreducible] acode aopsL aopsT dopsL dopsT pop popG aop ALoop ADraw ACall AWP AFin acondT ALoopT ADrawT ACallT doP doG doGd

theorem okEl_strs (l : List Str) : (strs l).all (okEl 1) = true := by simp [strs, okEl, AV.cells, AV.one]
theorem cells_strs (l : List Str) : ((strs l).all fun y => y.cells.length == 1) = true := by simp [strs, AV.cells]
theorem strs_app (a b : List Str) : strs a ++ strs b = strs (a ++ b) := by simp [strs]
theorem strs_one (s : Str) : [AV.str s] = strs [s] := rfl
theorem frz_strs {h : List AObj} {t g : Nat} {l : List Str} (hg : h[t]? = some (.arr g 1 (strs l))) : frzA h 4 (.sl t g 1 0 l.length) = .fz false (strs l) := by
  simp only [frz_sl, hg]
  exact frzO_all (strs_len l).symm (flatS l)
theorem texts_ok (d : Option Bool) (l : List Str) (h : List AObj) (hl : l.length ≤ 100000) : ACall Try.prog 31 [dictA d l] h (fun r _ => r = .fz (dictL d l).isEmpty (strs (dictL d l))) := by
  have hl2 : (dictL d l).length ≤ 100000 := by cases d <;> simp [dictL, hl]
  (refine ACall.of_code Try.func31 rfl ?_; simp only [Try.f31]; simp only [go_sem, Nat.reduceMul, Nat.reduceLT, Nat.reduceLeDiff, Nat.reduceEqDiff, Nat.reduceBEq, Int.toNat_natCast, Int.reduceToNat, Int.reduceNeg, Int.reduceLT, Int.reduceLE, Int.reduceBEq, Int.reduceBNe, decide_true, decide_false, Bool.false_eq_true, false_imp_iff, Nat.lt_irrefl])
  refine ALoop.over [3, 4, 5, 6, 7, 8, 9, 10, 11, 12, 13, 14, 15, 16, 17, 18, 19, 20, 21, 22] (fun e h' => ∃ k : Nat, k ≤ (dictL d l).length ∧ e.getD 4 .any = .int .i64 k ∧ ((k = 0 ∧ e.getD 3 .any = .fz true []) ∨ ∃ t g, 0 < k ∧ e.getD 3 .any = .sl t g 1 0 ((dictL d l).take k).length ∧ h'[t]? = some (.arr g 1 (strs ((dictL d l).take k))))) (fun e _ => (dictL d l).length - natA (e.getD 4 .any)) ⟨0, by simp, rfl, .inl ⟨rfl, rfl⟩⟩ ?_
  simp only [List.length_cons, List.length_nil, Nat.reduceAdd, allL_succ, allL_zero]
  intro y3 y4 y5 y6 y7 y8 y9 y10 y11 y12 y13 y14 y15 y16 y17 y18 y19 y20 y21 y22 h' hI
  simp only [go_sem] at hI
  obtain ⟨k, hk, rfl, hX⟩ := hI
  simp only [go_sem, Nat.reduceMul, Nat.reduceLT, Nat.reduceLeDiff, Nat.reduceEqDiff, Nat.reduceBEq, Int.toNat_natCast, Int.reduceToNat, Int.reduceNeg, Int.reduceLT, Int.reduceLE, Int.reduceBEq, Int.reduceBNe, decide_true, decide_false, Bool.false_eq_true, false_imp_iff, Nat.lt_irrefl]
  (refine ACallT.pure (by simp only [go_sem, Nat.reduceMul, Nat.reduceLT, Nat.reduceLeDiff, Nat.reduceEqDiff, Nat.reduceBEq, Int.toNat_natCast, Int.reduceToNat, Int.reduceNeg, Int.reduceLT, Int.reduceLE, Int.reduceBEq, Int.reduceBNe, decide_true, decide_false, Bool.false_eq_true, false_imp_iff, Nat.lt_irrefl]; rfl) (by first | trivial | assumption | (simp only [go_sem, Nat.reduceMul, Nat.reduceLT, Nat.reduceLeDiff, Nat.reduceEqDiff, Nat.reduceBEq, Int.toNat_natCast, Int.reduceToNat, Int.reduceNeg, Int.reduceLT, Int.reduceLE, Int.reduceBEq, Int.reduceBNe, decide_true, decide_false, Bool.false_eq_true, false_imp_iff, Nat.lt_irrefl]; done) | (simp only [go_sem, Nat.reduceMul, Nat.reduceLT, Nat.reduceLeDiff, Nat.reduceEqDiff, Nat.reduceBEq, Int.toNat_natCast, Int.reduceToNat, Int.reduceNeg, Int.reduceLT, Int.reduceLE, Int.reduceBEq, Int.reduceBNe, decide_true, decide_false, Bool.false_eq_true, false_imp_iff, Nat.lt_irrefl]; first | trivial | assumption | omega | decide | (refine ⟨?_, ?_⟩ <;> first | trivial | assumption | omega | decide))) (len_ok d l _) ?_; refine fun _ _ e => ?_; subst e; refine ⟨rfl, ?_⟩; simp only [go_sem, Nat.reduceMul, Nat.reduceLT, Nat.reduceLeDiff, Nat.reduceEqDiff, Nat.reduceBEq, Int.toNat_natCast, Int.reduceToNat, Int.reduceNeg, Int.reduceLT, Int.reduceLE, Int.reduceBEq, Int.reduceBNe, decide_true, decide_false, Bool.false_eq_true, false_imp_iff, Nat.lt_irrefl])
  refine acond_intro (fun hc => ?_) (fun hc => ?_)
  · have hlt : k < (dictL d l).length := by have := of_decide_eq_true hc; omega
    have ht := text_ok d l k (deadH h') 
    rw [if_pos ⟨by omega, by omega⟩, Int.toNat_natCast] at ht
    simp only [go_sem, Nat.reduceMul, Nat.reduceLT, Nat.reduceLeDiff, Nat.reduceEqDiff, Nat.reduceBEq, Int.toNat_natCast, Int.reduceToNat, Int.reduceNeg, Int.reduceLT, Int.reduceLE, Int.reduceBEq, Int.reduceBNe, decide_true, decide_false, Bool.false_eq_true, false_imp_iff, Nat.lt_irrefl]
    (refine ACallT.pure (by simp only [go_sem, Nat.reduceMul, Nat.reduceLT, Nat.reduceLeDiff, Nat.reduceEqDiff, Nat.reduceBEq, Int.toNat_natCast, Int.reduceToNat, Int.reduceNeg, Int.reduceLT, Int.reduceLE, Int.reduceBEq, Int.reduceBNe, decide_true, decide_false, Bool.false_eq_true, false_imp_iff, Nat.lt_irrefl]; rfl) (by first | trivial | assumption | (simp only [go_sem, Nat.reduceMul, Nat.reduceLT, Nat.reduceLeDiff, Nat.reduceEqDiff, Nat.reduceBEq, Int.toNat_natCast, Int.reduceToNat, Int.reduceNeg, Int.reduceLT, Int.reduceLE, Int.reduceBEq, Int.reduceBNe, decide_true, decide_false, Bool.false_eq_true, false_imp_iff, Nat.lt_irrefl]; done) | (simp only [go_sem, Nat.reduceMul, Nat.reduceLT, Nat.reduceLeDiff, Nat.reduceEqDiff, Nat.reduceBEq, Int.toNat_natCast, Int.reduceToNat, Int.reduceNeg, Int.reduceLT, Int.reduceLE, Int.reduceBEq, Int.reduceBNe, decide_true, decide_false, Bool.false_eq_true, false_imp_iff, Nat.lt_irrefl]; first | trivial | assumption | omega | decide | (refine ⟨?_, ?_⟩ <;> first | trivial | assumption | omega | decide))) (ht) ?_; refine fun _ _ e => ?_; subst e; refine ⟨rfl, ?_⟩; simp only [go_sem, Nat.reduceMul, Nat.reduceLT, Nat.reduceLeDiff, Nat.reduceEqDiff, Nat.reduceBEq, Int.toNat_natCast, Int.reduceToNat, Int.reduceNeg, Int.reduceLT, Int.reduceLE, Int.reduceBEq, Int.reduceBNe, decide_true, decide_false, Bool.false_eq_true, false_imp_iff, Nat.lt_irrefl])
    generalize hs : (dictL d l).getD k [] = s at *
    have hw : IntKind.i64.wrap ((k : Int) + 1) = ((k + 1 : Nat) : Int) := by rw [wrap_id (by omega) (by omega)]; omega
    have htk : (dictL d l).take (k + 1) = (dictL d l).take k ++ [s] := by
      rw [List.take_succ_eq_append_getElem hlt]
      rw [List.getD_eq_getElem?_getD, List.getElem?_eq_getElem hlt] at hs
      rw [← hs]; rfl
    have htl : ((dictL d l).take k).length ≤ 100000 := by simp; omega
    rcases hX with ⟨h0, rfl⟩ | ⟨t, g, hk0, rfl, hg⟩
    · simp only [go_sem, Nat.reduceMul, Nat.reduceLT, Nat.reduceLeDiff, Nat.reduceEqDiff, Nat.reduceBEq, Int.toNat_natCast, Int.reduceToNat, Int.reduceNeg, Int.reduceLT, Int.reduceLE, Int.reduceBEq, Int.reduceBNe, decide_true, decide_false, Bool.false_eq_true, false_imp_iff, Nat.lt_irrefl]
      refine ⟨fun q => by simp at q, fun _ => ⟨⟨k + 1, by omega, by rw [hw], .inr ⟨h'.length + 1, 0, by omega, ?_, ?_⟩⟩, by rw [hw]; omega⟩⟩
      · rw [htk, h0]; rfl
      · rw [getElem?_app, htk, h0]; rfl
    · have hg2 : ∀ x, (h' ++ x)[t]? = some (AObj.arr g 1 (strs ((dictL d l).take k))) := fun x => by
        rw [List.getElem?_append_left (List.getElem?_eq_some_iff.1 hg).1]; exact hg
      simp only [go_sem, hg2, Nat.reduceMul, Nat.reduceLT, Nat.reduceLeDiff, Nat.reduceEqDiff, Nat.reduceBEq, Int.toNat_natCast, Int.reduceToNat, Int.reduceNeg, Int.reduceLT, Int.reduceLE, Int.reduceBEq, Int.reduceBNe, decide_true, decide_false, Bool.false_eq_true, false_imp_iff, Nat.lt_irrefl]
      refine ⟨⟨by omega, by omega⟩, ⟨k + 1, by omega, by rw [hw], .inr ⟨t, g + 1, by omega, ?_, ?_⟩⟩, by rw [hw]; omega⟩
      · rw [htk, List.length_append]; rfl
      · rw [List.getElem?_set_self (by have := (List.getElem?_eq_some_iff.1 hg).1; simp; omega), htk, strs_one, strs_app]
  · have hge : k = (dictL d l).length := by have := of_decide_eq_false hc; omega
    simp only [go_sem, Nat.reduceMul, Nat.reduceLT, Nat.reduceLeDiff, Nat.reduceEqDiff, Nat.reduceBEq, Int.toNat_natCast, Int.reduceToNat, Int.reduceNeg, Int.reduceLT, Int.reduceLE, Int.reduceBEq, Int.reduceBNe, decide_true, decide_false, Bool.false_eq_true, false_imp_iff, Nat.lt_irrefl]
    refine Fin_freeze 4 ?_
    subst hge
    rw [List.take_length] at hX
    rcases hX with ⟨h0, rfl⟩ | ⟨t, g, hk0, rfl, hg⟩
    · rw [List.length_eq_zero_iff.1 h0]; rfl
    · have : (dictL d l).isEmpty = false := by
        cases q : dictL d l with
        | nil => rw [q] at hk0; simp at hk0
        | cons a m => rfl
      rw [this]; exact frz_strs hg
/-- A text into its place. -/
def insF (d : List Str) (s : Str) : List Str := if d.getD (bsF d s) [] == s && decide (bsF d s < d.length) then d else d.take (bsF d s) ++ ([s] ++ d.drop (bsF d s))
def insL (l : List Str) : List Str := l.foldl insF []
theorem insF_len (d : List Str) (s : Str) : (insF d s).length ≤ d.length + 1 := by
  have := bsF_le d s
  simp only [insF]; split <;> simp <;> omega
theorem insL_len (l : List Str) : (insL l).length ≤ l.length := by
  have : ∀ (l d : List Str), (l.foldl insF d).length ≤ d.length + l.length := by
    intro l
    induction l with
    | nil => intro d; simp
    | cons a l ih => intro d; have := ih (insF d a); have h2 := insF_len d a; simp only [List.foldl_cons, List.length_cons]; omega
  simpa [insL] using this l []
theorem rnew_ok (c : Bool) (l : List Str) (h : List AObj) (hl : l.length ≤ 100000) : ACall Try.prog 26 [.fz c (strs l)] h (fun r _ => ∃ c', r = if l.all dfits && decide ((insL l).length ≤ 65536) then .tup [.fz c' (strs (insL l)), .int .i64 0] else .tup [.fz true [], .int .i64 61]) := by
  (refine ACall.of_code Try.func26 rfl ?_; simp only [Try.f26]; simp only [go_sem, Nat.reduceMul, Nat.reduceLT, Nat.reduceLeDiff, Nat.reduceEqDiff, Nat.reduceBEq, Int.toNat_natCast, Int.reduceToNat, Int.reduceNeg, Int.reduceLT, Int.reduceLE, Int.reduceBEq, Int.reduceBNe, decide_true, decide_false, Bool.false_eq_true, false_imp_iff, Nat.lt_irrefl])
  refine ALoop.frz [2, 3, 4, 5, 6, 7, 8, 9, 10, 11, 12, 13, 14, 15, 16, 17, 18, 19, 20, 21, 22, 23, 24, 25, 26, 27, 28, 29, 30, 31, 32, 33, 34, 35, 36, 37, 38, 39, 40, 41, 42, 43, 44, 45, 46, 47, 48, 49, 50, 51, 52, 53, 54, 55, 56, 57, 58, 59, 60] (fun e => ∃ (k : Nat) (c' : Bool), k ≤ l.length ∧ e.getD 5 .any = .int .i64 k ∧ e.getD 4 .any = .fz c' (strs (insL (l.take k))) ∧ (l.take k).all dfits = true) (fun e => l.length - natA (e.getD 5 .any)) ⟨?_, ?_⟩ ?_
  · simp only [go_sem, Nat.reduceMul, Nat.reduceLT, Nat.reduceLeDiff, Nat.reduceEqDiff, Nat.reduceBEq, Int.toNat_natCast, Int.reduceToNat, Int.reduceNeg, Int.reduceLT, Int.reduceLE, Int.reduceBEq, Int.reduceBNe, decide_true, decide_false, Bool.false_eq_true, false_imp_iff, Nat.lt_irrefl]
  · refine ⟨0, true, by simp, rfl, rfl, rfl⟩
  simp only [List.length_cons, List.length_nil, Nat.reduceAdd, allL_succ, allL_zero]
  intro y2 y3 y4 y5 y6 y7 y8 y9 y10 y11 y12 y13 y14 y15 y16 y17 y18 y19 y20 y21 y22 y23 y24 y25 y26 y27 y28 y29 y30 y31 y32 y33 y34 y35 y36 y37 y38 y39 y40 y41 y42 y43 y44 y45 y46 y47 y48 y49 y50 y51 y52 y53 y54 y55 y56 y57 y58 y59 y60 h' hI
  simp only [go_sem] at hI
  obtain ⟨k, c', hk, rfl, rfl, hall⟩ := hI
  simp only [go_sem, Nat.reduceMul, Nat.reduceLT, Nat.reduceLeDiff, Nat.reduceEqDiff, Nat.reduceBEq, Int.toNat_natCast, Int.reduceToNat, Int.reduceNeg, Int.reduceLT, Int.reduceLE, Int.reduceBEq, Int.reduceBNe, decide_true, decide_false, Bool.false_eq_true, false_imp_iff, Nat.lt_irrefl]
  have hdl := insL_len (l.take k)
  have hdl2 : (insL (l.take k)).length ≤ 100000 := by simp at hdl; omega
  have hn := bsF_le (insL (l.take k))
  refine acond_intro (fun hc => ?_) (fun hc => ?_)
  · have hlt : k < l.length := by have := of_decide_eq_true hc; omega
    have hw : IntKind.i64.wrap ((k : Int) + 1) = ((k + 1 : Nat) : Int) := by rw [wrap_id (by omega) (by omega)]; omega
    have hins : insL (l.take (k + 1)) = insF (insL (l.take k)) l[k] := by
      rw [List.take_succ_eq_append_getElem hlt, insL, List.foldl_append]; rfl
    have hn := hn l[k]
    simp only [go_sem, strs_get l k hlt, Nat.reduceMul, Nat.reduceLT, Nat.reduceLeDiff, Nat.reduceEqDiff, Nat.reduceBEq, Int.toNat_natCast, Int.reduceToNat, Int.reduceNeg, Int.reduceLT, Int.reduceLE, Int.reduceBEq, Int.reduceBNe, decide_true, decide_false, Bool.false_eq_true, false_imp_iff, Nat.lt_irrefl]
    refine ⟨⟨by omega, by omega⟩, ?_⟩
    (refine ACallT.pure (by simp only [go_sem, Nat.reduceMul, Nat.reduceLT, Nat.reduceLeDiff, Nat.reduceEqDiff, Nat.reduceBEq, Int.toNat_natCast, Int.reduceToNat, Int.reduceNeg, Int.reduceLT, Int.reduceLE, Int.reduceBEq, Int.reduceBNe, decide_true, decide_false, Bool.false_eq_true, false_imp_iff, Nat.lt_irrefl]; rfl) (by first | trivial | assumption | (simp only [go_sem, Nat.reduceMul, Nat.reduceLT, Nat.reduceLeDiff, Nat.reduceEqDiff, Nat.reduceBEq, Int.toNat_natCast, Int.reduceToNat, Int.reduceNeg, Int.reduceLT, Int.reduceLE, Int.reduceBEq, Int.reduceBNe, decide_true, decide_false, Bool.false_eq_true, false_imp_iff, Nat.lt_irrefl]; done) | (simp only [go_sem, Nat.reduceMul, Nat.reduceLT, Nat.reduceLeDiff, Nat.reduceEqDiff, Nat.reduceBEq, Int.toNat_natCast, Int.reduceToNat, Int.reduceNeg, Int.reduceLT, Int.reduceLE, Int.reduceBEq, Int.reduceBNe, decide_true, decide_false, Bool.false_eq_true, false_imp_iff, Nat.lt_irrefl]; first | trivial | assumption | omega | decide | (refine ⟨?_, ?_⟩ <;> first | trivial | assumption | omega | decide))) (rfits_ok l[k] _) ?_; refine fun _ _ e => ?_; subst e; refine ⟨rfl, ?_⟩; simp only [go_sem, Nat.reduceMul, Nat.reduceLT, Nat.reduceLeDiff, Nat.reduceEqDiff, Nat.reduceBEq, Int.toNat_natCast, Int.reduceToNat, Int.reduceNeg, Int.reduceLT, Int.reduceLE, Int.reduceBEq, Int.reduceBNe, decide_true, decide_false, Bool.false_eq_true, false_imp_iff, Nat.lt_irrefl])
    generalize hf : dfits l[k] = b
    cases b with
    | false =>
      simp only [go_sem, Nat.reduceMul, Nat.reduceLT, Nat.reduceLeDiff, Nat.reduceEqDiff, Nat.reduceBEq, Int.toNat_natCast, Int.reduceToNat, Int.reduceNeg, Int.reduceLT, Int.reduceLE, Int.reduceBEq, Int.reduceBNe, decide_true, decide_false, Bool.false_eq_true, false_imp_iff, Nat.lt_irrefl]
      refine Fin_plain ?_; refine ⟨true, ?_⟩
      have : l.all dfits = false := by rw [List.all_eq_false]; exact ⟨l[k], List.getElem_mem _, by simp [hf]⟩
      rw [this]; rfl
    | true =>
      have hall2 : (l.take (k + 1)).all dfits = true := by rw [List.take_succ_eq_append_getElem hlt, List.all_append, hall]; simp [hf]
      simp only [go_sem, strs_get l k hlt, Nat.reduceMul, Nat.reduceLT, Nat.reduceLeDiff, Nat.reduceEqDiff, Nat.reduceBEq, Int.toNat_natCast, Int.reduceToNat, Int.reduceNeg, Int.reduceLT, Int.reduceLE, Int.reduceBEq, Int.reduceBNe, decide_true, decide_false, Bool.false_eq_true, false_imp_iff, Nat.lt_irrefl]
      refine ⟨⟨by omega, by omega⟩, ?_⟩
      (refine ACallT.pure (by simp only [go_sem, Nat.reduceMul, Nat.reduceLT, Nat.reduceLeDiff, Nat.reduceEqDiff, Nat.reduceBEq, Int.toNat_natCast, Int.reduceToNat, Int.reduceNeg, Int.reduceLT, Int.reduceLE, Int.reduceBEq, Int.reduceBNe, decide_true, decide_false, Bool.false_eq_true, false_imp_iff, Nat.lt_irrefl]; rfl) (by first | trivial | assumption | (simp only [go_sem, Nat.reduceMul, Nat.reduceLT, Nat.reduceLeDiff, Nat.reduceEqDiff, Nat.reduceBEq, Int.toNat_natCast, Int.reduceToNat, Int.reduceNeg, Int.reduceLT, Int.reduceLE, Int.reduceBEq, Int.reduceBNe, decide_true, decide_false, Bool.false_eq_true, false_imp_iff, Nat.lt_irrefl]; done) | (simp only [go_sem, Nat.reduceMul, Nat.reduceLT, Nat.reduceLeDiff, Nat.reduceEqDiff, Nat.reduceBEq, Int.toNat_natCast, Int.reduceToNat, Int.reduceNeg, Int.reduceLT, Int.reduceLE, Int.reduceBEq, Int.reduceBNe, decide_true, decide_false, Bool.false_eq_true, false_imp_iff, Nat.lt_irrefl]; first | trivial | assumption | omega | decide | (refine ⟨?_, ?_⟩ <;> first | trivial | assumption | omega | decide))) (rupto_ok (insL (l.take k)) c' l[k] _ (by omega)) ?_; refine fun _ _ e => ?_; subst e; refine ⟨rfl, ?_⟩; simp only [go_sem, Nat.reduceMul, Nat.reduceLT, Nat.reduceLeDiff, Nat.reduceEqDiff, Nat.reduceBEq, Int.toNat_natCast, Int.reduceToNat, Int.reduceNeg, Int.reduceLT, Int.reduceLE, Int.reduceBEq, Int.reduceBNe, decide_true, decide_false, Bool.false_eq_true, false_imp_iff, Nat.lt_irrefl])
      generalize insL (l.take k) = D at *
      have hdef : insF D l[k] = if D.getD (bsF D l[k]) [] == l[k] && decide (bsF D l[k] < D.length) then D else D.take (bsF D l[k]) ++ ([l[k]] ++ D.drop (bsF D l[k])) := rfl
      generalize hN : bsF D l[k] = N at *
      refine ADrawT.quiet mixedOrdersD (by kernel_rfl) ?_
      simp only [go_sem, Nat.reduceMul, Nat.reduceLT, Nat.reduceLeDiff, Nat.reduceEqDiff, Nat.reduceBEq, Int.toNat_natCast, Int.reduceToNat, Int.reduceNeg, Int.reduceLT, Int.reduceLE, Int.reduceBEq, Int.reduceBNe, decide_true, decide_false, Bool.false_eq_true, false_imp_iff, Nat.lt_irrefl]
      generalize hb1 : decide ((N : Int) < (D.length : Int)) = b1
      cases b1 with
      | false =>
        have hge : N = D.length := by have := of_decide_eq_false hb1; omega
        have hd2 : insF D l[k] = D.take N ++ ([l[k]] ++ D.drop N) := by rw [hdef, if_neg]; simp [hge]
        simp only [go_sem, strs_get l k hlt, strs_out D N (by omega), Nat.reduceMul, Nat.reduceLT, Nat.reduceLeDiff, Nat.reduceEqDiff, Nat.reduceBEq, Int.toNat_natCast, Int.reduceToNat, Int.reduceNeg, Int.reduceLT, Int.reduceLE, Int.reduceBEq, Int.reduceBNe, decide_true, decide_false, Bool.false_eq_true, false_imp_iff, Nat.lt_irrefl]
        have hT1 : List.take N (strs D) = strs (D.take N) := by simp [strs]
        have hT2 : List.drop N (strs D) = strs (D.drop N) := by simp [strs]
        have hA : (D.take N).length = N := by simp; omega
        have hB : (D.drop N).length = D.length - N := by simp
        simp only [hT1, hT2, strs_len]
        generalize D.take N = A at *
        generalize D.drop N = B at *
        refine ⟨⟨by omega, by omega, strs_cells D⟩, ⟨by omega, by omega, okEl_strs A⟩, ⟨by omega, by omega⟩, ⟨by omega, by omega⟩, ⟨by omega, by omega, by omega, strs_cells D⟩, ⟨by omega, by omega, okEl_strs B⟩, ⟨k + 1, false, by omega, by rw [hw], ?_, hall2⟩, by rw [hw]; omega⟩
        rw [hins, hd2, show strs A ++ AV.str l[k] :: strs B = strs (A ++ ([l[k]] ++ B)) by simp [strs]]
        exact frzO_all (by simp [strs]; omega) (flatS _)
      | true =>
        have hlt2 : N < D.length := by have := of_decide_eq_true hb1; omega
        simp only [go_sem, strs_get l k hlt, strs_get D N hlt2, Nat.reduceMul, Nat.reduceLT, Nat.reduceLeDiff, Nat.reduceEqDiff, Nat.reduceBEq, Int.toNat_natCast, Int.reduceToNat, Int.reduceNeg, Int.reduceLT, Int.reduceLE, Int.reduceBEq, Int.reduceBNe, decide_true, decide_false, Bool.false_eq_true, false_imp_iff, Nat.lt_irrefl]
        have hgd : D.getD N [] = D[N] := by rw [List.getD_eq_getElem?_getD, List.getElem?_eq_getElem hlt2]; rfl
        refine ⟨⟨by omega, by omega⟩, ⟨by omega, by omega⟩, ?_⟩
        refine acond_intro (fun hc2 => ?_) (fun hc2 => ?_)
        · simp only [go_sem, Nat.reduceMul, Nat.reduceLT, Nat.reduceLeDiff, Nat.reduceEqDiff, Nat.reduceBEq, Int.toNat_natCast, Int.reduceToNat, Int.reduceNeg, Int.reduceLT, Int.reduceLE, Int.reduceBEq, Int.reduceBNe, decide_true, decide_false, Bool.false_eq_true, false_imp_iff, Nat.lt_irrefl]
          refine ⟨⟨k + 1, c', by omega, by rw [hw], ?_, hall2⟩, by rw [hw]; omega⟩
          rw [hins, hdef, if_pos]
          rw [hgd, hc2]; simpa using hlt2
        · have hd2 : insF D l[k] = D.take N ++ ([l[k]] ++ D.drop N) := by rw [hdef, if_neg]; rw [hgd, hc2]; simp
          simp only [go_sem, strs_get l k hlt, Nat.reduceMul, Nat.reduceLT, Nat.reduceLeDiff, Nat.reduceEqDiff, Nat.reduceBEq, Int.toNat_natCast, Int.reduceToNat, Int.reduceNeg, Int.reduceLT, Int.reduceLE, Int.reduceBEq, Int.reduceBNe, decide_true, decide_false, Bool.false_eq_true, false_imp_iff, Nat.lt_irrefl]
          have hT1 : List.take N (strs D) = strs (D.take N) := by simp [strs]
          have hT2 : List.drop N (strs D) = strs (D.drop N) := by simp [strs]
          have hA : (D.take N).length = N := by simp; omega
          have hB : (D.drop N).length = D.length - N := by simp
          simp only [hT1, hT2, strs_len]
          generalize D.take N = A at *
          generalize D.drop N = B at *
          refine ⟨⟨by omega, by omega, strs_cells D⟩, ⟨by omega, by omega, okEl_strs A⟩, ⟨by omega, by omega⟩, ⟨by omega, by omega⟩, ⟨by omega, by omega, by omega, strs_cells D⟩, ⟨by omega, by omega, okEl_strs B⟩, ⟨k + 1, false, by omega, by rw [hw], ?_, hall2⟩, by rw [hw]; omega⟩
          rw [hins, hd2, show strs A ++ AV.str l[k] :: strs B = strs (A ++ ([l[k]] ++ B)) by simp [strs]]
          exact frzO_all (by simp [strs]; omega) (flatS _)
  · have hge : k = l.length := by have := of_decide_eq_false hc; omega
    subst hge
    rw [List.take_length] at *
    simp only [go_sem, Nat.reduceMul, Nat.reduceLT, Nat.reduceLeDiff, Nat.reduceEqDiff, Nat.reduceBEq, Int.toNat_natCast, Int.reduceToNat, Int.reduceNeg, Int.reduceLT, Int.reduceLE, Int.reduceBEq, Int.reduceBNe, decide_true, decide_false, Bool.false_eq_true, false_imp_iff, Nat.lt_irrefl]
    refine acond_intro (fun hc2 => ?_) (fun hc2 => ?_)
    · have := of_decide_eq_true hc2
      simp only [go_sem, Nat.reduceMul, Nat.reduceLT, Nat.reduceLeDiff, Nat.reduceEqDiff, Nat.reduceBEq, Int.toNat_natCast, Int.reduceToNat, Int.reduceNeg, Int.reduceLT, Int.reduceLE, Int.reduceBEq, Int.reduceBNe, decide_true, decide_false, Bool.false_eq_true, false_imp_iff, Nat.lt_irrefl]
      refine Fin_plain ?_; refine ⟨true, ?_⟩
      have : decide ((insL l).length ≤ 65536) = false := by simp; omega
      rw [this, Bool.and_false]; rfl
    · have := of_decide_eq_false hc2
      simp only [go_sem, Nat.reduceMul, Nat.reduceLT, Nat.reduceLeDiff, Nat.reduceEqDiff, Nat.reduceBEq, Int.toNat_natCast, Int.reduceToNat, Int.reduceNeg, Int.reduceLT, Int.reduceLE, Int.reduceBEq, Int.reduceBNe, decide_true, decide_false, Bool.false_eq_true, false_imp_iff, Nat.lt_irrefl]
      refine Fin_plain ?_; refine ⟨c', ?_⟩
      have : decide ((insL l).length ≤ 65536) = true := by simp; omega
      rw [this, hall]; rfl
end Go.Proofs.Vale
