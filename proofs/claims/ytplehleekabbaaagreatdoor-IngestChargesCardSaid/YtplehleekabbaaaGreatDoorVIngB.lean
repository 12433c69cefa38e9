/- YtplehleekabbaaaGreatDoorVIngB: a text of the proof of this claim, by its prover. -/
import Derived.Test.YtplehleekabbaaaGreatDoorVIngW
import Derived.Test.YtplehleekabbaaaGreatDoorVAggA
set_option linter.unusedVariables false
set_option linter.unusedSimpArgs false
set_option maxHeartbeats 4000000
set_option maxRecDepth 100000
namespace Go.Proofs.Vale
open Go.Proofs Go.Proofs.YtplehleekabbaaaGreatDoorT
attribute [local irreducible] acode aopsL aopsT dopsL dopsT pop popG aop ALoop ADraw ACall AWP AFin acondT ALoopT ADrawT ACallT doP doG doGd

abbrev Ev := Int × List Str × List Int
def eventA (e : Ev) : AV := .agg [.int .i64 e.1, .fz false (strs e.2.1), .fz false (intsA e.2.2)]
def evs (l : List Ev) : List AV := l.map eventA
@[go_sem] theorem evs_len (l : List Ev) : (evs l).length = l.length := by simp [evs]
theorem evs_get (l : List Ev) (k : Nat) (h : k < l.length) : (evs l).getD k .any = .agg [.int .i64 l[k].1, .fz false (strs l[k].2.1), .fz false (intsA l[k].2.2)] := by simp [evs, eventA, List.getD_eq_getElem?_getD, h]
def evFit (e : Ev) : Bool := fitS e.2.1 && decide (e.2.2.length ≤ 20)
theorem lfits_ok (c1 c2 c : Bool) (d m : List Str) (l : List Ev) (h : List AObj) (hd : d.length ≤ 9223372036854775807) (hm : m.length ≤ 9223372036854775807) (hl : l.length ≤ 9223372036854775807) (he : ∀ e ∈ l, e.2.1.length ≤ 9223372036854775807) : ACall Tryz.prog 8 [schA c1 c2 d m, .fz c (evs l)] h (fun r _ => r = .bool (fitS d && fitS m && decide (l.length ≤ 60) && l.all evFit)) := by
  simp only [schA]
  (refine ACall.of_code Tryz.func8 rfl ?_; simp only [Tryz.f8]; simp only [go_sem, Nat.reduceMul, Nat.reduceLT, Nat.reduceLeDiff, Nat.reduceEqDiff, Nat.reduceBEq, Int.toNat_natCast, Int.reduceToNat, Int.reduceNeg, Int.reduceLT, Int.reduceLE, Int.reduceBEq, Int.reduceBNe, decide_true, decide_false, Bool.false_eq_true, false_imp_iff, Nat.lt_irrefl])
  (refine ACallT.frame ((fits_ok d c1 _ hd).mono fun _ _ q => q.1) ?_; refine fun _ _ e => ?_; subst e; refine ⟨by (first | rfl | (simp only [AV.low, lowL, low_strs, low_bytes, Bool.and_true, Bool.and_self])), ?_⟩; simp only [go_sem, Nat.reduceMul, Nat.reduceLT, Nat.reduceLeDiff, Nat.reduceEqDiff, Nat.reduceBEq, Int.toNat_natCast, Int.reduceToNat, Int.reduceNeg, Int.reduceLT, Int.reduceLE, Int.reduceBEq, Int.reduceBNe, decide_true, decide_false, Bool.false_eq_true, false_imp_iff, Nat.lt_irrefl])
  (refine ACallT.frame ((fits_ok m c2 _ hm).mono fun _ _ q => q.1) ?_; refine fun _ _ e => ?_; subst e; refine ⟨by (first | rfl | (simp only [AV.low, lowL, low_strs, low_bytes, Bool.and_true, Bool.and_self])), ?_⟩; simp only [go_sem, Nat.reduceMul, Nat.reduceLT, Nat.reduceLeDiff, Nat.reduceEqDiff, Nat.reduceBEq, Int.toNat_natCast, Int.reduceToNat, Int.reduceNeg, Int.reduceLT, Int.reduceLE, Int.reduceBEq, Int.reduceBNe, decide_true, decide_false, Bool.false_eq_true, false_imp_iff, Nat.lt_irrefl])
  generalize fitS d = fd
  generalize fitS m = fm
  cases fd with
  | false =>
    simp only [go_sem, Nat.reduceMul, Nat.reduceLT, Nat.reduceLeDiff, Nat.reduceEqDiff, Nat.reduceBEq, Int.toNat_natCast, Int.reduceToNat, Int.reduceNeg, Int.reduceLT, Int.reduceLE, Int.reduceBEq, Int.reduceBNe, decide_true, decide_false, Bool.false_eq_true, false_imp_iff, Nat.lt_irrefl]
    exact Fin_plain rfl
  | true =>
  cases fm with
  | false =>
    simp only [go_sem, Nat.reduceMul, Nat.reduceLT, Nat.reduceLeDiff, Nat.reduceEqDiff, Nat.reduceBEq, Int.toNat_natCast, Int.reduceToNat, Int.reduceNeg, Int.reduceLT, Int.reduceLE, Int.reduceBEq, Int.reduceBNe, decide_true, decide_false, Bool.false_eq_true, false_imp_iff, Nat.lt_irrefl]
    exact Fin_plain rfl
  | true =>
  simp only [go_sem, Nat.reduceMul, Nat.reduceLT, Nat.reduceLeDiff, Nat.reduceEqDiff, Nat.reduceBEq, Int.toNat_natCast, Int.reduceToNat, Int.reduceNeg, Int.reduceLT, Int.reduceLE, Int.reduceBEq, Int.reduceBNe, decide_true, decide_false, Bool.false_eq_true, false_imp_iff, Nat.lt_irrefl]
  refine acond_intro (fun hc => ?_) (fun hc => ?_)
  · simp only [go_sem, Nat.reduceMul, Nat.reduceLT, Nat.reduceLeDiff, Nat.reduceEqDiff, Nat.reduceBEq, Int.toNat_natCast, Int.reduceToNat, Int.reduceNeg, Int.reduceLT, Int.reduceLE, Int.reduceBEq, Int.reduceBNe, decide_true, decide_false, Bool.false_eq_true, false_imp_iff, Nat.lt_irrefl]
    refine Fin_plain ?_
    have : ¬ l.length ≤ 60 := by have := of_decide_eq_true hc; omega
    simp [this]
  · have h60 : l.length ≤ 60 := by have := of_decide_eq_false hc; omega
    simp only [go_sem, Nat.reduceMul, Nat.reduceLT, Nat.reduceLeDiff, Nat.reduceEqDiff, Nat.reduceBEq, Int.toNat_natCast, Int.reduceToNat, Int.reduceNeg, Int.reduceLT, Int.reduceLE, Int.reduceBEq, Int.reduceBNe, decide_true, decide_false, Bool.false_eq_true, false_imp_iff, Nat.lt_irrefl]
    refine ALoop.over [4, 7, 8, 26, 27, 28, 29, 30, 31, 32, 33, 34, 35, 36, 37, 38, 39, 40, 41, 42, 43, 44, 45, 46, 47, 48] (fun e h' => ∃ k : Nat, k ≤ l.length ∧ e.getD 7 .any = .int .i64 k ∧ (l.take k).all evFit = true) (fun e _ => l.length - natA (e.getD 7 .any)) ⟨0, by omega, rfl, by simp⟩ ?_
    simp only [List.length_cons, List.length_nil, Nat.reduceAdd, allL_succ, allL_zero]
    intro y4 y7 y8 y26 y27 y28 y29 y30 y31 y32 y33 y34 y35 y36 y37 y38 y39 y40 y41 y42 y43 y44 y45 y46 y47 y48 h1 hI
    simp only [go_sem] at hI
    obtain ⟨k, hk, rfl, hall⟩ := hI
    simp only [go_sem, Nat.reduceMul, Nat.reduceLT, Nat.reduceLeDiff, Nat.reduceEqDiff, Nat.reduceBEq, Int.toNat_natCast, Int.reduceToNat, Int.reduceNeg, Int.reduceLT, Int.reduceLE, Int.reduceBEq, Int.reduceBNe, decide_true, decide_false, Bool.false_eq_true, false_imp_iff, Nat.lt_irrefl]
    refine acond_intro (fun hc => ?_) (fun hc => ?_)
    · have hlt : k < l.length := by have := of_decide_eq_true hc; omega
      have hin : l[k] ∈ l := List.getElem_mem _
      simp only [go_sem, evs_get l k hlt, Nat.reduceMul, Nat.reduceLT, Nat.reduceLeDiff, Nat.reduceEqDiff, Nat.reduceBEq, Int.toNat_natCast, Int.reduceToNat, Int.reduceNeg, Int.reduceLT, Int.reduceLE, Int.reduceBEq, Int.reduceBNe, decide_true, decide_false, Bool.false_eq_true, false_imp_iff, Nat.lt_irrefl]
      refine ⟨⟨by omega, by omega⟩, ?_⟩
      (refine ACallT.frame ((fits_ok l[k].2.1 _ _ (he _ hin)).mono fun _ _ q => q.1) ?_; refine fun _ _ e => ?_; subst e; refine ⟨by (first | rfl | (simp only [AV.low, lowL, low_strs, low_bytes, Bool.and_true, Bool.and_self])), ?_⟩; simp only [go_sem, Nat.reduceMul, Nat.reduceLT, Nat.reduceLeDiff, Nat.reduceEqDiff, Nat.reduceBEq, Int.toNat_natCast, Int.reduceToNat, Int.reduceNeg, Int.reduceLT, Int.reduceLE, Int.reduceBEq, Int.reduceBNe, decide_true, decide_false, Bool.false_eq_true, false_imp_iff, Nat.lt_irrefl])
      have hev : evFit l[k] = (fitS l[k].2.1 && decide (l[k].2.2.length ≤ 20)) := rfl
      generalize fitS l[k].2.1 = fk at *
      cases fk with
      | false =>
        simp only [go_sem, evs_get l k hlt, Nat.reduceMul, Nat.reduceLT, Nat.reduceLeDiff, Nat.reduceEqDiff, Nat.reduceBEq, Int.toNat_natCast, Int.reduceToNat, Int.reduceNeg, Int.reduceLT, Int.reduceLE, Int.reduceBEq, Int.reduceBNe, decide_true, decide_false, Bool.false_eq_true, false_imp_iff, Nat.lt_irrefl]
        refine Fin_plain ?_
        have : l.all evFit = false := by rw [List.all_eq_false]; exact ⟨_, hin, by rw [hev]; simp⟩
        simp [this]
      | true =>
        simp only [go_sem, evs_get l k hlt, Nat.reduceMul, Nat.reduceLT, Nat.reduceLeDiff, Nat.reduceEqDiff, Nat.reduceBEq, Int.toNat_natCast, Int.reduceToNat, Int.reduceNeg, Int.reduceLT, Int.reduceLE, Int.reduceBEq, Int.reduceBNe, decide_true, decide_false, Bool.false_eq_true, false_imp_iff, Nat.lt_irrefl]
        refine ⟨⟨by omega, by omega⟩, ?_⟩
        refine acond_intro (fun hb => ?_) (fun hb => ?_)
        · simp only [go_sem, Nat.reduceMul, Nat.reduceLT, Nat.reduceLeDiff, Nat.reduceEqDiff, Nat.reduceBEq, Int.toNat_natCast, Int.reduceToNat, Int.reduceNeg, Int.reduceLT, Int.reduceLE, Int.reduceBEq, Int.reduceBNe, decide_true, decide_false, Bool.false_eq_true, false_imp_iff, Nat.lt_irrefl]
          refine Fin_plain ?_
          have h20 : ¬ l[k].2.2.length ≤ 20 := by have := of_decide_eq_true hb; omega
          have : l.all evFit = false := by rw [List.all_eq_false]; exact ⟨_, hin, by rw [hev]; simp [h20]⟩
          simp [this]
        · have h20 : l[k].2.2.length ≤ 20 := by have := of_decide_eq_false hb; omega
          simp only [go_sem, Nat.reduceMul, Nat.reduceLT, Nat.reduceLeDiff, Nat.reduceEqDiff, Nat.reduceBEq, Int.toNat_natCast, Int.reduceToNat, Int.reduceNeg, Int.reduceLT, Int.reduceLE, Int.reduceBEq, Int.reduceBNe, decide_true, decide_false, Bool.false_eq_true, false_imp_iff, Nat.lt_irrefl]
          rw [wrap_id (by omega) (by omega)]
          refine ⟨⟨k + 1, by omega, rfl, ?_⟩, by omega⟩
          rw [List.take_succ_eq_append_getElem hlt, List.all_append, hall]
          simp [hev, h20]
    · have : k = l.length := by have := of_decide_eq_false hc; omega
      subst this
      simp only [go_sem, Nat.reduceMul, Nat.reduceLT, Nat.reduceLeDiff, Nat.reduceEqDiff, Nat.reduceBEq, Int.toNat_natCast, Int.reduceToNat, Int.reduceNeg, Int.reduceLT, Int.reduceLE, Int.reduceBEq, Int.reduceBNe, decide_true, decide_false, Bool.false_eq_true, false_imp_iff, Nat.lt_irrefl]
      refine Fin_plain ?_
      rw [List.take_length] at hall
      simp [hall, h60]

/-! ### IngestNil -/
end Go.Proofs.Vale
