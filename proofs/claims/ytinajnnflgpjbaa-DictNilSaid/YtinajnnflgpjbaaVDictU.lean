/- YtinajnnflgpjbaaVDictU: a text of the proof of this claim, by its prover. -/
import Derived.Test.YtinajnnflgpjbaaVDictH
set_option linter.unusedVariables false
set_option linter.unusedSimpArgs false
set_option maxHeartbeats 4000000
set_option maxRecDepth 100000
namespace Go.Proofs.Vale
open Go.Proofs Go.Proofs.YtinajnnflgpjbaaT
attribute [local irreducible] acode aopsL aopsT dopsL dopsT pop popG aop ALoop ADraw ACall AWP AFin acondT ALoopT ADrawT ACallT doP doG doGd

theorem bsF_count (s : Str) : ∀ (d : List Str), Rise d → bsF d s = d.countP (fun t => sLt t s)
  | [], _ => rfl
  | x :: d, hd => by
    have hd' := hd
    rw [Rise, List.pairwise_cons] at hd
    rw [bsF_cons, List.countP_cons, bsF_count s d hd.2]
    cases e : sLt x s with
    | true => simp
    | false =>
      have : d.countP (fun t => sLt t s) = 0 := by
        rw [List.countP_eq_zero]
        intro y hy
        cases e2 : sLt y s with
        | false => simp
        | true => have := sLt_trans (hd.1 y hy) e2; rw [e] at this; cases this
      rw [this]; simp
theorem bsF_ins (d : List Str) (x s : Str) (hd : Rise d) : bsF (insF d x) s = bsF d s + (if sLt x s = true ∧ x ∉ d then 1 else 0) := by
  have hi := insF_spec d x hd
  rw [bsF_count s _ hi.1, bsF_count s d hd]
  have hf := find_iff d x hd
  simp only [insF]
  by_cases hm : x ∈ d
  · rw [if_pos (by rw [hf]; simp [hm]), if_neg (fun q => q.2 hm)]; rfl
  · rw [if_neg (by rw [hf]; simp [hm])]
    have hcd : d.countP (fun t => sLt t s) = (d.take (bsF d x)).countP (fun t => sLt t s) + (d.drop (bsF d x)).countP (fun t => sLt t s) := by
      rw [← List.countP_append, List.take_append_drop]
    rw [hcd]
    simp only [List.countP_append, List.countP_cons, List.countP_nil, hm, not_false_eq_true, and_true]
    omega
theorem bsF_new (l : List Str) (s : Str) (k : Nat) (hk : k < l.length) : bsF (newL (l.take (k + 1))) s = bsF (newL (l.take k)) s + (if sLt l[k] s = true ∧ l[k] ∉ l.take k then 1 else 0) := by
  rw [← ins_new, ← ins_new, List.take_succ_eq_append_getElem hk]
  have : insL (l.take k ++ [l[k]]) = insF (insL (l.take k)) l[k] := by rw [insL, List.foldl_append]; rfl
  rw [this, bsF_ins _ _ _ (insL_rise _).1]
  have h2 : (l[k] ∈ insL (l.take k)) ↔ l[k] ∈ l.take k := (insL_rise _).2 _
  simp only [h2]
theorem sLt_zero : ∀ (t s : Str), sLt t (s ++ [0]) = (sLt t s || t == s)
  | [], [] => rfl
  | [], a :: s => rfl
  | b :: t, [] => by
    simp only [sLt, List.nil_append, Op.bytesLess]
    have : ¬ b < 0 := by simp
    cases t <;> simp [this, Op.bytesLess]
  | b :: t, a :: s => by
    have ih := sLt_zero t s
    simp only [sLt] at ih
    simp only [sLt, List.cons_append, Op.bytesLess, ih]
    by_cases e : b = a
    · subst e; simp
    · have : (b == a) = false := by simp [e]
      simp [this, e]
theorem bsF_zero (d : List Str) (s : Str) (hd : Rise d) : bsF d (s ++ [0]) = bsF d s + (if s ∈ d then 1 else 0) := by
  rw [bsF_count _ d hd, bsF_count _ d hd]
  induction d with
  | nil => rfl
  | cons x d ih =>
    have hd' := hd
    rw [Rise, List.pairwise_cons] at hd
    rw [List.countP_cons, List.countP_cons, ih hd.2, sLt_zero]
    by_cases e : x = s
    · subst e
      have : x ∉ d := fun q => by have := hd.1 x q; rw [sLt_irrefl] at this; cases this
      simp [this, sLt_irrefl]
    · have e2 : ¬ s = x := fun q => e q.symm
      simp only [List.mem_cons, e2, false_or, show (x == s) = false by simp [e], Bool.or_false]
      omega
theorem newL_nil : newL [] = [] := new_uniq List.Pairwise.nil (fun x => Iff.rfl)
theorem uptoL_ok (c : Bool) (l : List Str) (s : Str) (h : List AObj) (hl : l.length * 16 ≤ 140737488351232) : ACall Try.prog 8 [.fz c (strs l), .str s] h (fun r _ => r = .bool true) := by
  (refine ACall.of_code Try.func8 rfl ?_; simp only [Try.f8]; simp only [go_sem, Nat.reduceMul, Nat.reduceLT, Nat.reduceLeDiff, Nat.reduceEqDiff, Nat.reduceBEq, Int.toNat_natCast, Int.reduceToNat, Int.reduceNeg, Int.reduceLT, Int.reduceLE, Int.reduceBEq, Int.reduceBNe, decide_true, decide_false, Bool.false_eq_true, false_imp_iff, Nat.lt_irrefl])
  (refine ACallT.pure (by simp only [go_sem, Nat.reduceMul, Nat.reduceLT, Nat.reduceLeDiff, Nat.reduceEqDiff, Nat.reduceBEq, Int.toNat_natCast, Int.reduceToNat, Int.reduceNeg, Int.reduceLT, Int.reduceLE, Int.reduceBEq, Int.reduceBNe, decide_true, decide_false, Bool.false_eq_true, false_imp_iff, Nat.lt_irrefl]; rfl) (by first | trivial | assumption | (simp only [go_sem, Nat.reduceMul, Nat.reduceLT, Nat.reduceLeDiff, Nat.reduceEqDiff, Nat.reduceBEq, Int.toNat_natCast, Int.reduceToNat, Int.reduceNeg, Int.reduceLT, Int.reduceLE, Int.reduceBEq, Int.reduceBNe, decide_true, decide_false, Bool.false_eq_true, false_imp_iff, Nat.lt_irrefl]; done) | (simp only [go_sem, Nat.reduceMul, Nat.reduceLT, Nat.reduceLeDiff, Nat.reduceEqDiff, Nat.reduceBEq, Int.toNat_natCast, Int.reduceToNat, Int.reduceNeg, Int.reduceLT, Int.reduceLE, Int.reduceBEq, Int.reduceBNe, decide_true, decide_false, Bool.false_eq_true, false_imp_iff, Nat.lt_irrefl]; first | trivial | assumption | omega | decide | (refine ⟨?_, ?_⟩ <;> first | trivial | assumption | omega | decide))) (lfits_ok l c _ (by omega)) ?_; refine fun _ _ e => ?_; subst e; refine ⟨rfl, ?_⟩; simp only [go_sem, Nat.reduceMul, Nat.reduceLT, Nat.reduceLeDiff, Nat.reduceEqDiff, Nat.reduceBEq, Int.toNat_natCast, Int.reduceToNat, Int.reduceNeg, Int.reduceLT, Int.reduceLE, Int.reduceBEq, Int.reduceBNe, decide_true, decide_false, Bool.false_eq_true, false_imp_iff, Nat.lt_irrefl])
  generalize hf : (decide (l.length ≤ 100) && l.all fun s => decide (List.length s ≤ 60)) = b
  generalize hok : newOk l = ok
  cases ok with
  | false =>
    (refine ACallT.frame (new_bad l c _ (by omega) hok) ?_; refine fun _ _ e => ?_; subst e; refine ⟨by (first | rfl | (simp only [AV.low, lowL, low_strs, low_bytes, Bool.and_true, Bool.and_self])), ?_⟩; simp only [go_sem, Nat.reduceMul, Nat.reduceLT, Nat.reduceLeDiff, Nat.reduceEqDiff, Nat.reduceBEq, Int.toNat_natCast, Int.reduceToNat, Int.reduceNeg, Int.reduceLT, Int.reduceLE, Int.reduceBEq, Int.reduceBNe, decide_true, decide_false, Bool.false_eq_true, false_imp_iff, Nat.lt_irrefl])
    generalize hcnd : (bif bif !b then true else true then true else decide (60 < ((List.length s : Nat) : Int))) = b2
    obtain rfl : b2 = true := by rw [← hcnd]; cases b <;> rfl
    simp only [go_sem, Nat.reduceMul, Nat.reduceLT, Nat.reduceLeDiff, Nat.reduceEqDiff, Nat.reduceBEq, Int.toNat_natCast, Int.reduceToNat, Int.reduceNeg, Int.reduceLT, Int.reduceLE, Int.reduceBEq, Int.reduceBNe, decide_true, decide_false, Bool.false_eq_true, false_imp_iff, Nat.lt_irrefl]
    (refine ACallT.pure (by simp only [go_sem, Nat.reduceMul, Nat.reduceLT, Nat.reduceLeDiff, Nat.reduceEqDiff, Nat.reduceBEq, Int.toNat_natCast, Int.reduceToNat, Int.reduceNeg, Int.reduceLT, Int.reduceLE, Int.reduceBEq, Int.reduceBNe, decide_true, decide_false, Bool.false_eq_true, false_imp_iff, Nat.lt_irrefl]; rfl) (by first | trivial | assumption | (simp only [go_sem, Nat.reduceMul, Nat.reduceLT, Nat.reduceLeDiff, Nat.reduceEqDiff, Nat.reduceBEq, Int.toNat_natCast, Int.reduceToNat, Int.reduceNeg, Int.reduceLT, Int.reduceLE, Int.reduceBEq, Int.reduceBNe, decide_true, decide_false, Bool.false_eq_true, false_imp_iff, Nat.lt_irrefl]; done) | (simp only [go_sem, Nat.reduceMul, Nat.reduceLT, Nat.reduceLeDiff, Nat.reduceEqDiff, Nat.reduceBEq, Int.toNat_natCast, Int.reduceToNat, Int.reduceNeg, Int.reduceLT, Int.reduceLE, Int.reduceBEq, Int.reduceBNe, decide_true, decide_false, Bool.false_eq_true, false_imp_iff, Nat.lt_irrefl]; first | trivial | assumption | omega | decide | (refine ⟨?_, ?_⟩ <;> first | trivial | assumption | omega | decide))) (alive_ok _) ?_; refine fun _ _ e => ?_; subst e; refine ⟨rfl, ?_⟩; simp only [go_sem, Nat.reduceMul, Nat.reduceLT, Nat.reduceLeDiff, Nat.reduceEqDiff, Nat.reduceBEq, Int.toNat_natCast, Int.reduceToNat, Int.reduceNeg, Int.reduceLT, Int.reduceLE, Int.reduceBEq, Int.reduceBNe, decide_true, decide_false, Bool.false_eq_true, false_imp_iff, Nat.lt_irrefl])
    exact Fin_plain rfl
  | true =>
    refine ACallT.frame (new_good l c _ (by omega) hok) ?_
    rintro _ _ ⟨c1, rfl⟩
    refine ⟨by simp only [AV.low, lowL, dictA, low_strs, Bool.and_true, Bool.and_self], ?_⟩
    simp only [go_sem, Nat.reduceMul, Nat.reduceLT, Nat.reduceLeDiff, Nat.reduceEqDiff, Nat.reduceBEq, Int.toNat_natCast, Int.reduceToNat, Int.reduceNeg, Int.reduceLT, Int.reduceLE, Int.reduceBEq, Int.reduceBNe, decide_true, decide_false, Bool.false_eq_true, false_imp_iff, Nat.lt_irrefl]
    refine acond_intro (fun hc => ?_) (fun hc => ?_)
    · simp only [go_sem, Nat.reduceMul, Nat.reduceLT, Nat.reduceLeDiff, Nat.reduceEqDiff, Nat.reduceBEq, Int.toNat_natCast, Int.reduceToNat, Int.reduceNeg, Int.reduceLT, Int.reduceLE, Int.reduceBEq, Int.reduceBNe, decide_true, decide_false, Bool.false_eq_true, false_imp_iff, Nat.lt_irrefl]
      (refine ACallT.pure (by simp only [go_sem, Nat.reduceMul, Nat.reduceLT, Nat.reduceLeDiff, Nat.reduceEqDiff, Nat.reduceBEq, Int.toNat_natCast, Int.reduceToNat, Int.reduceNeg, Int.reduceLT, Int.reduceLE, Int.reduceBEq, Int.reduceBNe, decide_true, decide_false, Bool.false_eq_true, false_imp_iff, Nat.lt_irrefl]; rfl) (by first | trivial | assumption | (simp only [go_sem, Nat.reduceMul, Nat.reduceLT, Nat.reduceLeDiff, Nat.reduceEqDiff, Nat.reduceBEq, Int.toNat_natCast, Int.reduceToNat, Int.reduceNeg, Int.reduceLT, Int.reduceLE, Int.reduceBEq, Int.reduceBNe, decide_true, decide_false, Bool.false_eq_true, false_imp_iff, Nat.lt_irrefl]; done) | (simp only [go_sem, Nat.reduceMul, Nat.reduceLT, Nat.reduceLeDiff, Nat.reduceEqDiff, Nat.reduceBEq, Int.toNat_natCast, Int.reduceToNat, Int.reduceNeg, Int.reduceLT, Int.reduceLE, Int.reduceBEq, Int.reduceBNe, decide_true, decide_false, Bool.false_eq_true, false_imp_iff, Nat.lt_irrefl]; first | trivial | assumption | omega | decide | (refine ⟨?_, ?_⟩ <;> first | trivial | assumption | omega | decide))) (alive_ok _) ?_; refine fun _ _ e => ?_; subst e; refine ⟨rfl, ?_⟩; simp only [go_sem, Nat.reduceMul, Nat.reduceLT, Nat.reduceLeDiff, Nat.reduceEqDiff, Nat.reduceBEq, Int.toNat_natCast, Int.reduceToNat, Int.reduceNeg, Int.reduceLT, Int.reduceLE, Int.reduceBEq, Int.reduceBNe, decide_true, decide_false, Bool.false_eq_true, false_imp_iff, Nat.lt_irrefl])
      exact Fin_plain rfl
    · obtain ⟨rfl, hs⟩ : b = true ∧ s.length ≤ 60 := by
        cases b with
        | false => simp at hc
        | true => simp at hc; exact ⟨rfl, by omega⟩
      have hf2 : l.length ≤ 100 ∧ ∀ s ∈ l, s.length ≤ 60 := by simpa using hf
      simp only [go_sem, Nat.reduceMul, Nat.reduceLT, Nat.reduceLeDiff, Nat.reduceEqDiff, Nat.reduceBEq, Int.toNat_natCast, Int.reduceToNat, Int.reduceNeg, Int.reduceLT, Int.reduceLE, Int.reduceBEq, Int.reduceBNe, decide_true, decide_false, Bool.false_eq_true, false_imp_iff, Nat.lt_irrefl]
      refine ALoop.over [8, 9, 10, 11, 33, 34, 35, 36, 37, 38, 39, 40, 41, 42, 43, 44, 45, 46, 47, 48, 49, 50, 51, 52, 53, 54, 55, 56, 57, 58, 59, 60, 61, 62, 63, 64] (fun e h' => ∃ k : Nat, k ≤ l.length ∧ e.getD 9 .any = .int .i64 k ∧ e.getD 8 .any = .int .i64 (bsF (newL (l.take k)) s)) (fun e _ => l.length - natA (e.getD 9 .any)) ⟨0, by simp, rfl, by rw [List.take_zero, newL_nil]; rfl⟩ ?_
      simp only [List.length_cons, List.length_nil, Nat.reduceAdd, allL_succ, allL_zero]
      intro y8 y9 y10 y11 y33 y34 y35 y36 y37 y38 y39 y40 y41 y42 y43 y44 y45 y46 y47 y48 y49 y50 y51 y52 y53 y54 y55 y56 y57 y58 y59 y60 y61 y62 y63 y64 h' hI
      simp only [go_sem] at hI
      obtain ⟨k, hk, rfl, rfl⟩ := hI
      simp only [go_sem, Nat.reduceMul, Nat.reduceLT, Nat.reduceLeDiff, Nat.reduceEqDiff, Nat.reduceBEq, Int.toNat_natCast, Int.reduceToNat, Int.reduceNeg, Int.reduceLT, Int.reduceLE, Int.reduceBEq, Int.reduceBNe, decide_true, decide_false, Bool.false_eq_true, false_imp_iff, Nat.lt_irrefl]
      refine acond_intro (fun hc2 => ?_) (fun hc2 => ?_)
      · have hlt : k < l.length := by have := of_decide_eq_true hc2; omega
        simp only [go_sem, strs_get l k hlt, Nat.reduceMul, Nat.reduceLT, Nat.reduceLeDiff, Nat.reduceEqDiff, Nat.reduceBEq, Int.toNat_natCast, Int.reduceToNat, Int.reduceNeg, Int.reduceLT, Int.reduceLE, Int.reduceBEq, Int.reduceBNe, decide_true, decide_false, Bool.false_eq_true, false_imp_iff, Nat.lt_irrefl]
        refine ⟨⟨by omega, by omega⟩, ?_⟩
        refine ALoop.over [10, 11, 45, 46, 47, 48, 49, 50, 51, 52, 53, 54, 55, 56, 57, 58, 59, 60, 61] (fun e h' => ∃ j : Nat, j ≤ k ∧ e.getD 11 .any = .int .i64 j ∧ e.getD 10 .any = .bool (sLt l[k] s && !(l.take j).contains l[k])) (fun e _ => k - natA (e.getD 11 .any)) ⟨0, by simp, rfl, by simp⟩ ?_
        simp only [List.length_cons, List.length_nil, Nat.reduceAdd, allL_succ, allL_zero]
        intro y10 y11 y45 y46 y47 y48 y49 y50 y51 y52 y53 y54 y55 y56 y57 y58 y59 y60 y61 h2 hI
        simp only [go_sem] at hI
        obtain ⟨j, hj, rfl, rfl⟩ := hI
        simp only [go_sem, Nat.reduceMul, Nat.reduceLT, Nat.reduceLeDiff, Nat.reduceEqDiff, Nat.reduceBEq, Int.toNat_natCast, Int.reduceToNat, Int.reduceNeg, Int.reduceLT, Int.reduceLE, Int.reduceBEq, Int.reduceBNe, decide_true, decide_false, Bool.false_eq_true, false_imp_iff, Nat.lt_irrefl]
        refine acond_intro (fun hc3 => ?_) (fun hc3 => ?_)
        · have hjk : j < k := by have := of_decide_eq_true hc3; omega
          have hjl : j < l.length := by omega
          simp only [go_sem, Nat.reduceMul, Nat.reduceLT, Nat.reduceLeDiff, Nat.reduceEqDiff, Nat.reduceBEq, Int.toNat_natCast, Int.reduceToNat, Int.reduceNeg, Int.reduceLT, Int.reduceLE, Int.reduceBEq, Int.reduceBNe, decide_true, decide_false, Bool.false_eq_true, false_imp_iff, Nat.lt_irrefl]
          refine ADrawT.quiet mixedOrdersD (by kernel_rfl) ?_
          simp only [go_sem, strs_get l j hjl, strs_get l k hlt, Nat.reduceMul, Nat.reduceLT, Nat.reduceLeDiff, Nat.reduceEqDiff, Nat.reduceBEq, Int.toNat_natCast, Int.reduceToNat, Int.reduceNeg, Int.reduceLT, Int.reduceLE, Int.reduceBEq, Int.reduceBNe, decide_true, decide_false, Bool.false_eq_true, false_imp_iff, Nat.lt_irrefl]
          rw [wrap_id (by omega) (by omega)]
          refine ⟨fun q => ⟨q, by omega, by omega⟩, fun q => ⟨q, by omega, by omega⟩, ⟨j + 1, by omega, rfl, ?_⟩, by omega⟩
          rw [List.take_succ_eq_append_getElem hjl, List.contains_append]
          have : ([l[j]].contains l[k]) = (l[j] == l[k]) := by
            rw [List.contains_cons, List.contains_nil, Bool.or_false, Bool.eq_iff_iff, beq_iff_eq, beq_iff_eq]; exact ⟨Eq.symm, Eq.symm⟩
          rw [this]
          simp only [bne]
          cases sLt l[k] s <;> cases (List.take j l).contains l[k] <;> simp
        · have hjk : j = k := by have := of_decide_eq_false hc3; omega
          subst hjk
          have hnew := bsF_new l s j hlt
          have hb1 := bsF_le (newL (l.take j)) s
          have hb2 := newL_len (l.take j)
          have hb3 : (l.take j).length ≤ 100 := by simp; omega
          simp only [go_sem, Nat.reduceMul, Nat.reduceLT, Nat.reduceLeDiff, Nat.reduceEqDiff, Nat.reduceBEq, Int.toNat_natCast, Int.reduceToNat, Int.reduceNeg, Int.reduceLT, Int.reduceLE, Int.reduceBEq, Int.reduceBNe, decide_true, decide_false, Bool.false_eq_true, false_imp_iff, Nat.lt_irrefl]
          refine acond_intro (fun hc4 => ?_) (fun hc4 => ?_)
          · simp only [go_sem, Nat.reduceMul, Nat.reduceLT, Nat.reduceLeDiff, Nat.reduceEqDiff, Nat.reduceBEq, Int.toNat_natCast, Int.reduceToNat, Int.reduceNeg, Int.reduceLT, Int.reduceLE, Int.reduceBEq, Int.reduceBNe, decide_true, decide_false, Bool.false_eq_true, false_imp_iff, Nat.lt_irrefl]
            rw [wrap_id (by omega) (by omega), wrap_id (by omega) (by omega)]
            refine ⟨⟨j + 1, by omega, rfl, ?_⟩, by omega⟩
            have : sLt l[j] s = true ∧ l[j] ∉ l.take j := by simpa using hc4
            rw [hnew, if_pos this]; rfl
          · simp only [go_sem, Nat.reduceMul, Nat.reduceLT, Nat.reduceLeDiff, Nat.reduceEqDiff, Nat.reduceBEq, Int.toNat_natCast, Int.reduceToNat, Int.reduceNeg, Int.reduceLT, Int.reduceLE, Int.reduceBEq, Int.reduceBNe, decide_true, decide_false, Bool.false_eq_true, false_imp_iff, Nat.lt_irrefl]
            rw [wrap_id (by omega) (by omega)]
            refine ⟨⟨j + 1, by omega, rfl, ?_⟩, by omega⟩
            have : ¬ (sLt l[j] s = true ∧ l[j] ∉ l.take j) := by
              intro q; rw [q.1] at hc4; simp [q.2] at hc4
            rw [hnew, if_neg this]; rfl
      · have hge : k = l.length := by have := of_decide_eq_false hc2; omega
        subst hge
        rw [List.take_length] at *
        have hm1 := newL_len l
        have hr := (newL_rise l).1
        have hbz := bsF_zero (newL l) s hr
        have hbl := bsF_le (newL l) s
        have hfd : fnd (newL l) s = if s ∈ newL l then (bsF (newL l) s : Int) else 0 := rfl
        simp only [go_sem, Nat.reduceMul, Nat.reduceLT, Nat.reduceLeDiff, Nat.reduceEqDiff, Nat.reduceBEq, Int.toNat_natCast, Int.reduceToNat, Int.reduceNeg, Int.reduceLT, Int.reduceLE, Int.reduceBEq, Int.reduceBNe, decide_true, decide_false, Bool.false_eq_true, false_imp_iff, Nat.lt_irrefl]
        generalize newL l = m at *
        (refine ACallT.pure (by simp only [go_sem, Nat.reduceMul, Nat.reduceLT, Nat.reduceLeDiff, Nat.reduceEqDiff, Nat.reduceBEq, Int.toNat_natCast, Int.reduceToNat, Int.reduceNeg, Int.reduceLT, Int.reduceLE, Int.reduceBEq, Int.reduceBNe, decide_true, decide_false, Bool.false_eq_true, false_imp_iff, Nat.lt_irrefl]; rfl) (by first | trivial | assumption | (simp only [go_sem, Nat.reduceMul, Nat.reduceLT, Nat.reduceLeDiff, Nat.reduceEqDiff, Nat.reduceBEq, Int.toNat_natCast, Int.reduceToNat, Int.reduceNeg, Int.reduceLT, Int.reduceLE, Int.reduceBEq, Int.reduceBNe, decide_true, decide_false, Bool.false_eq_true, false_imp_iff, Nat.lt_irrefl]; done) | (simp only [go_sem, Nat.reduceMul, Nat.reduceLT, Nat.reduceLeDiff, Nat.reduceEqDiff, Nat.reduceBEq, Int.toNat_natCast, Int.reduceToNat, Int.reduceNeg, Int.reduceLT, Int.reduceLE, Int.reduceBEq, Int.reduceBNe, decide_true, decide_false, Bool.false_eq_true, false_imp_iff, Nat.lt_irrefl]; first | trivial | assumption | omega | decide | (refine ⟨?_, ?_⟩ <;> first | trivial | assumption | omega | decide))) (find_ok2 c1 m s _ (by omega) hr) ?_; refine fun _ _ e => ?_; subst e; refine ⟨rfl, ?_⟩; simp only [go_sem, Nat.reduceMul, Nat.reduceLT, Nat.reduceLeDiff, Nat.reduceEqDiff, Nat.reduceBEq, Int.toNat_natCast, Int.reduceToNat, Int.reduceNeg, Int.reduceLT, Int.reduceLE, Int.reduceBEq, Int.reduceBNe, decide_true, decide_false, Bool.false_eq_true, false_imp_iff, Nat.lt_irrefl])
        (refine ACallT.pure (by simp only [go_sem, Nat.reduceMul, Nat.reduceLT, Nat.reduceLeDiff, Nat.reduceEqDiff, Nat.reduceBEq, Int.toNat_natCast, Int.reduceToNat, Int.reduceNeg, Int.reduceLT, Int.reduceLE, Int.reduceBEq, Int.reduceBNe, decide_true, decide_false, Bool.false_eq_true, false_imp_iff, Nat.lt_irrefl]; rfl) (by first | trivial | assumption | (simp only [go_sem, Nat.reduceMul, Nat.reduceLT, Nat.reduceLeDiff, Nat.reduceEqDiff, Nat.reduceBEq, Int.toNat_natCast, Int.reduceToNat, Int.reduceNeg, Int.reduceLT, Int.reduceLE, Int.reduceBEq, Int.reduceBNe, decide_true, decide_false, Bool.false_eq_true, false_imp_iff, Nat.lt_irrefl]; done) | (simp only [go_sem, Nat.reduceMul, Nat.reduceLT, Nat.reduceLeDiff, Nat.reduceEqDiff, Nat.reduceBEq, Int.toNat_natCast, Int.reduceToNat, Int.reduceNeg, Int.reduceLT, Int.reduceLE, Int.reduceBEq, Int.reduceBNe, decide_true, decide_false, Bool.false_eq_true, false_imp_iff, Nat.lt_irrefl]; first | trivial | assumption | omega | decide | (refine ⟨?_, ?_⟩ <;> first | trivial | assumption | omega | decide))) (alive_ok _) ?_; refine fun _ _ e => ?_; subst e; refine ⟨rfl, ?_⟩; simp only [go_sem, Nat.reduceMul, Nat.reduceLT, Nat.reduceLeDiff, Nat.reduceEqDiff, Nat.reduceBEq, Int.toNat_natCast, Int.reduceToNat, Int.reduceNeg, Int.reduceLT, Int.reduceLE, Int.reduceBEq, Int.reduceBNe, decide_true, decide_false, Bool.false_eq_true, false_imp_iff, Nat.lt_irrefl])
        (refine ACallT.pure (by simp only [go_sem, Nat.reduceMul, Nat.reduceLT, Nat.reduceLeDiff, Nat.reduceEqDiff, Nat.reduceBEq, Int.toNat_natCast, Int.reduceToNat, Int.reduceNeg, Int.reduceLT, Int.reduceLE, Int.reduceBEq, Int.reduceBNe, decide_true, decide_false, Bool.false_eq_true, false_imp_iff, Nat.lt_irrefl]; rfl) (by first | trivial | assumption | (simp only [go_sem, Nat.reduceMul, Nat.reduceLT, Nat.reduceLeDiff, Nat.reduceEqDiff, Nat.reduceBEq, Int.toNat_natCast, Int.reduceToNat, Int.reduceNeg, Int.reduceLT, Int.reduceLE, Int.reduceBEq, Int.reduceBNe, decide_true, decide_false, Bool.false_eq_true, false_imp_iff, Nat.lt_irrefl]; done) | (simp only [go_sem, Nat.reduceMul, Nat.reduceLT, Nat.reduceLeDiff, Nat.reduceEqDiff, Nat.reduceBEq, Int.toNat_natCast, Int.reduceToNat, Int.reduceNeg, Int.reduceLT, Int.reduceLE, Int.reduceBEq, Int.reduceBNe, decide_true, decide_false, Bool.false_eq_true, false_imp_iff, Nat.lt_irrefl]; first | trivial | assumption | omega | decide | (refine ⟨?_, ?_⟩ <;> first | trivial | assumption | omega | decide))) (upto_ok (some c1) m s _ (by omega) hr) ?_; refine fun _ _ e => ?_; subst e; refine ⟨rfl, ?_⟩; simp only [go_sem, Nat.reduceMul, Nat.reduceLT, Nat.reduceLeDiff, Nat.reduceEqDiff, Nat.reduceBEq, Int.toNat_natCast, Int.reduceToNat, Int.reduceNeg, Int.reduceLT, Int.reduceLE, Int.reduceBEq, Int.reduceBNe, decide_true, decide_false, Bool.false_eq_true, false_imp_iff, Nat.lt_irrefl])
        refine ⟨by omega, ?_⟩
        have hu2 := upto_ok (some c1) m (s ++ [0]) (deadH h') (by omega) hr
        rw [dictL_some, hbz] at hu2
        (refine ACallT.pure (by simp only [go_sem, Nat.reduceMul, Nat.reduceLT, Nat.reduceLeDiff, Nat.reduceEqDiff, Nat.reduceBEq, Int.toNat_natCast, Int.reduceToNat, Int.reduceNeg, Int.reduceLT, Int.reduceLE, Int.reduceBEq, Int.reduceBNe, decide_true, decide_false, Bool.false_eq_true, false_imp_iff, Nat.lt_irrefl]; rfl) (by first | trivial | assumption | (simp only [go_sem, Nat.reduceMul, Nat.reduceLT, Nat.reduceLeDiff, Nat.reduceEqDiff, Nat.reduceBEq, Int.toNat_natCast, Int.reduceToNat, Int.reduceNeg, Int.reduceLT, Int.reduceLE, Int.reduceBEq, Int.reduceBNe, decide_true, decide_false, Bool.false_eq_true, false_imp_iff, Nat.lt_irrefl]; done) | (simp only [go_sem, Nat.reduceMul, Nat.reduceLT, Nat.reduceLeDiff, Nat.reduceEqDiff, Nat.reduceBEq, Int.toNat_natCast, Int.reduceToNat, Int.reduceNeg, Int.reduceLT, Int.reduceLE, Int.reduceBEq, Int.reduceBNe, decide_true, decide_false, Bool.false_eq_true, false_imp_iff, Nat.lt_irrefl]; first | trivial | assumption | omega | decide | (refine ⟨?_, ?_⟩ <;> first | trivial | assumption | omega | decide))) (hu2) ?_; refine fun _ _ e => ?_; subst e; refine ⟨rfl, ?_⟩; simp only [go_sem, Nat.reduceMul, Nat.reduceLT, Nat.reduceLeDiff, Nat.reduceEqDiff, Nat.reduceBEq, Int.toNat_natCast, Int.reduceToNat, Int.reduceNeg, Int.reduceLT, Int.reduceLE, Int.reduceBEq, Int.reduceBNe, decide_true, decide_false, Bool.false_eq_true, false_imp_iff, Nat.lt_irrefl])
        have hw : IntKind.i64.wrap ((bsF m s : Int) + 1) = ((bsF m s + 1 : Nat) : Int) := by rw [wrap_id (by omega) (by omega)]; omega
        by_cases hm : s ∈ m
        · rw [if_pos hm] at hfd
          rw [hw]
          refine ⟨by simp [hm], ?_⟩
          refine Fin_plain ?_
          rw [hfd]; simp [hm]
        · rw [if_neg hm] at hfd
          rw [hw]
          have hne : (((bsF m s + 0 : Nat) : Int) == ((bsF m s + 1 : Nat) : Int)) = false := by rw [beq_eq_false_iff_ne]; omega
          refine ⟨by simp [hm], ?_⟩
          refine Fin_plain ?_
          simp only [hm, if_false, decide_false, hne]; rfl
end Go.Proofs.Vale
