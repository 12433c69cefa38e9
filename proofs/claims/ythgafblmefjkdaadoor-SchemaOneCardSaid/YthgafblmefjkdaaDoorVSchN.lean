/- YthgafblmefjkdaaDoorVSchN: a text of the proof of this claim, by its prover. -/
import Derived.Test.YthgafblmefjkdaaDoorVSchM
set_option linter.unusedVariables false
set_option linter.unusedSimpArgs false
set_option maxHeartbeats 4000000
set_option maxRecDepth 100000
namespace Go.Proofs.Vale
open Go.Proofs Go.Proofs.YthgafblmefjkdaaDoorT
attribute [local irreducible] acode aopsL aopsT dopsL dopsT pop popG aop ALoop ADraw ACall AWP AFin acondT ALoopT ADrawT ACallT doP doG doGd

/-! ### The law: some of some -/
theorem ix_split (b : List Str) (a : Str) (h : ix b a < b.length) : ∃ p, b = p ++ a :: b.drop (ix b a + 1) ∧ p.length = ix b a := by
  have ha := (ix_lt b a).1 h
  induction b with
  | nil => simp at h
  | cons x b ih =>
    simp only [ix, List.takeWhile_cons] at h ih ⊢
    by_cases e : a = x
    · subst e; simp
    · have hx : (a == x) = false := by simpa using e
      simp only [hx, Bool.not_false, if_true, List.length_cons] at h ⊢
      obtain ⟨p, h1, h2⟩ := ih (by omega) (by simpa [e] using ha)
      refine ⟨x :: p, ?_, by simp [h2]⟩
      rw [List.drop_succ_cons, List.cons_append, ← h1]
/-- Some of a list, in its order. -/
theorem sub_iff : ∀ (a b : List Str), subS a b = true ↔ a.Sublist b
  | [], b => by simp [subS]
  | x :: a, b => by
    have key : ∀ b : List Str, (x :: a).Sublist b → ix b x < b.length ∧ a.Sublist (b.drop (ix b x + 1)) := by
      intro b
      induction b with
      | nil => intro q; cases q
      | cons y b ih =>
        intro q
        by_cases e : x = y
        · subst e
          have h0 : ix (x :: b) x = 0 := by simp [ix]
          rw [h0]
          refine ⟨by simp, ?_⟩
          simp only [Nat.zero_add, List.drop_succ_cons, List.drop_zero]
          cases q with
          | cons _ q => exact (List.sublist_cons_self x a).trans q
          | cons_cons _ q => exact q
        · have hx : (x == y) = false := by simpa using e
          have h1 : ix (y :: b) x = ix b x + 1 := by simp [ix, List.takeWhile_cons, hx]
          rw [h1]
          cases q with
          | cons _ q =>
            obtain ⟨q1, q2⟩ := ih q
            exact ⟨by simp only [List.length_cons]; omega, by rw [List.drop_succ_cons]; exact q2⟩
          | cons_cons _ q => exact absurd rfl e
    rw [subS]
    by_cases h : ix b x < b.length
    · rw [if_pos h, sub_iff a]
      obtain ⟨p, h1, h2⟩ := ix_split b x h
      constructor
      · intro q
        rw [h1]
        exact (List.Sublist.cons_cons x q).trans (List.sublist_append_right _ _)
      · intro q
        exact (key b q).2
    · rw [if_neg h]
      simp only [Bool.false_eq_true, false_iff]
      intro q
      exact h (key b q).1
theorem sub_trans {a b c : List Str} (h1 : subS a b = true) (h2 : subS b c = true) : subS a c = true := (sub_iff _ _).2 (((sub_iff _ _).1 h1).trans ((sub_iff _ _).1 h2))
theorem sub_refl (a : List Str) : subS a a = true := (sub_iff _ _).2 (List.Sublist.refl _)
theorem sub_le {a b : List Str} (h : subS a b = true) : a.length ≤ b.length := ((sub_iff _ _).1 h).length_le
theorem subset_law (c1 c2 c3 c4 : Bool) (d m a b : List Str) (h : List AObj) (hd : d.length ≤ 8796093021952) (hm : m.length ≤ 8796093021952) (ha : a.length ≤ 8796093021952) (hb : b.length ≤ 8796093021952) (hL : ∀ s ∈ d ++ m, s.length ≤ 9223372036854775807) : ACall Tryd.prog 5 [schA c1 c2 d m, .fz c3 (strs a), .fz c4 (strs b)] h (fun r _ => r = .bool true) := by
  simp only [schA]
  (refine ACall.of_code Tryd.func5 rfl ?_; simp only [Tryd.f5]; simp only [go_sem, Nat.reduceMul, Nat.reduceLT, Nat.reduceLeDiff, Nat.reduceEqDiff, Nat.reduceBEq, Int.toNat_natCast, Int.reduceToNat, Int.reduceNeg, Int.reduceLT, Int.reduceLE, Int.reduceBEq, Int.reduceBNe, decide_true, decide_false, Bool.false_eq_true, false_imp_iff, Nat.lt_irrefl])
  refine ACallT.by (fits_ok d c1 _ (by omega)) ?_
  rintro r h1 ⟨rfl, rfl⟩
  simp only [go_sem, Nat.reduceMul, Nat.reduceLT, Nat.reduceLeDiff, Nat.reduceEqDiff, Nat.reduceBEq, Int.toNat_natCast, Int.reduceToNat, Int.reduceNeg, Int.reduceLT, Int.reduceLE, Int.reduceBEq, Int.reduceBNe, decide_true, decide_false, Bool.false_eq_true, false_imp_iff, Nat.lt_irrefl]
  refine ACallT.by (fits_ok a c3 _ (by omega)) ?_
  rintro r h1 ⟨rfl, rfl⟩
  simp only [go_sem, Nat.reduceMul, Nat.reduceLT, Nat.reduceLeDiff, Nat.reduceEqDiff, Nat.reduceBEq, Int.toNat_natCast, Int.reduceToNat, Int.reduceNeg, Int.reduceLT, Int.reduceLE, Int.reduceBEq, Int.reduceBNe, decide_true, decide_false, Bool.false_eq_true, false_imp_iff, Nat.lt_irrefl]
  refine ACallT.by (fits_ok b c4 _ (by omega)) ?_
  rintro r h1 ⟨rfl, rfl⟩
  generalize hfd : fitS d = fd
  generalize hfa : fitS a = fa
  generalize hfb : fitS b = fb
  simp only [go_sem, Nat.reduceMul, Nat.reduceLT, Nat.reduceLeDiff, Nat.reduceEqDiff, Nat.reduceBEq, Int.toNat_natCast, Int.reduceToNat, Int.reduceNeg, Int.reduceLT, Int.reduceLE, Int.reduceBEq, Int.reduceBNe, decide_true, decide_false, Bool.false_eq_true, false_imp_iff, Nat.lt_irrefl]
  generalize hz : (bif bif !fd then true else !fa then true else !fb) = z
  cases z with
  | true =>
    simp only [go_sem, Nat.reduceMul, Nat.reduceLT, Nat.reduceLeDiff, Nat.reduceEqDiff, Nat.reduceBEq, Int.toNat_natCast, Int.reduceToNat, Int.reduceNeg, Int.reduceLT, Int.reduceLE, Int.reduceBEq, Int.reduceBNe, decide_true, decide_false, Bool.false_eq_true, false_imp_iff, Nat.lt_irrefl]
    (refine ACallT.frame (alive_ok _) ?_; refine fun _ _ e => ?_; subst e; refine ⟨by (first | rfl | (simp only [AV.low, lowL, low_strs, low_bytes, Bool.and_true, Bool.and_self])), ?_⟩; simp only [go_sem, Nat.reduceMul, Nat.reduceLT, Nat.reduceLeDiff, Nat.reduceEqDiff, Nat.reduceBEq, Int.toNat_natCast, Int.reduceToNat, Int.reduceNeg, Int.reduceLT, Int.reduceLE, Int.reduceBEq, Int.reduceBNe, decide_true, decide_false, Bool.false_eq_true, false_imp_iff, Nat.lt_irrefl])
    exact Fin_plain rfl
  | false =>
    obtain rfl : fd = true := by cases fd <;> first | rfl | (cases fa <;> cases fb <;> cases hz)
    have hd2 : d.length ≤ 20 := by
      have := hfd; simp only [fitS, Bool.and_eq_true, decide_eq_true_eq] at this; exact this.1
    simp only [go_sem, Nat.reduceMul, Nat.reduceLT, Nat.reduceLeDiff, Nat.reduceEqDiff, Nat.reduceBEq, Int.toNat_natCast, Int.reduceToNat, Int.reduceNeg, Int.reduceLT, Int.reduceLE, Int.reduceBEq, Int.reduceBNe, decide_true, decide_false, Bool.false_eq_true, false_imp_iff, Nat.lt_irrefl]
    (refine ACallT.frame (right_ok c1 c2 d m _ (by omega) hL) ?_; refine fun _ _ e => ?_; subst e; refine ⟨by (first | rfl | (simp only [AV.low, lowL, low_strs, low_bytes, Bool.and_true, Bool.and_self])), ?_⟩; simp only [go_sem, Nat.reduceMul, Nat.reduceLT, Nat.reduceLeDiff, Nat.reduceEqDiff, Nat.reduceBEq, Int.toNat_natCast, Int.reduceToNat, Int.reduceNeg, Int.reduceLT, Int.reduceLE, Int.reduceBEq, Int.reduceBNe, decide_true, decide_false, Bool.false_eq_true, false_imp_iff, Nat.lt_irrefl])
    generalize rightS d m = rt
    cases rt with
    | false =>
      simp only [go_sem, Nat.reduceMul, Nat.reduceLT, Nat.reduceLeDiff, Nat.reduceEqDiff, Nat.reduceBEq, Int.toNat_natCast, Int.reduceToNat, Int.reduceNeg, Int.reduceLT, Int.reduceLE, Int.reduceBEq, Int.reduceBNe, decide_true, decide_false, Bool.false_eq_true, false_imp_iff, Nat.lt_irrefl]
      (refine ACallT.frame (alive_ok _) ?_; refine fun _ _ e => ?_; subst e; refine ⟨by (first | rfl | (simp only [AV.low, lowL, low_strs, low_bytes, Bool.and_true, Bool.and_self])), ?_⟩; simp only [go_sem, Nat.reduceMul, Nat.reduceLT, Nat.reduceLeDiff, Nat.reduceEqDiff, Nat.reduceBEq, Int.toNat_natCast, Int.reduceToNat, Int.reduceNeg, Int.reduceLT, Int.reduceLE, Int.reduceBEq, Int.reduceBNe, decide_true, decide_false, Bool.false_eq_true, false_imp_iff, Nat.lt_irrefl])
      exact Fin_plain rfl
    | true =>
      simp only [go_sem, Nat.reduceMul, Nat.reduceLT, Nat.reduceLeDiff, Nat.reduceEqDiff, Nat.reduceBEq, Int.toNat_natCast, Int.reduceToNat, Int.reduceNeg, Int.reduceLT, Int.reduceLE, Int.reduceBEq, Int.reduceBNe, decide_true, decide_false, Bool.false_eq_true, false_imp_iff, Nat.lt_irrefl]
      refine ACallT.by (subset_ok a b c3 c4 _ (by omega) (by omega)) ?_
      rintro r h1 ⟨rfl, rfl⟩
      have tr : subS a b = true → subS b d = true → subS a d = true := sub_trans
      generalize hx1 : subS a b = x1 at tr ⊢
      cases x1 with
      | true =>
        simp only [go_sem, Nat.reduceMul, Nat.reduceLT, Nat.reduceLeDiff, Nat.reduceEqDiff, Nat.reduceBEq, Int.toNat_natCast, Int.reduceToNat, Int.reduceNeg, Int.reduceLT, Int.reduceLE, Int.reduceBEq, Int.reduceBNe, decide_true, decide_false, Bool.false_eq_true, false_imp_iff, Nat.lt_irrefl]
        refine ACallT.by (subset_ok b d c4 c1 _ (by omega) (by omega)) ?_
        rintro r h1 ⟨rfl, rfl⟩
        generalize hx2 : subS b d = x2 at tr ⊢
        cases x2 with
        | true =>
          simp only [go_sem, Nat.reduceMul, Nat.reduceLT, Nat.reduceLeDiff, Nat.reduceEqDiff, Nat.reduceBEq, Int.toNat_natCast, Int.reduceToNat, Int.reduceNeg, Int.reduceLT, Int.reduceLE, Int.reduceBEq, Int.reduceBNe, decide_true, decide_false, Bool.false_eq_true, false_imp_iff, Nat.lt_irrefl]
          refine ACallT.by (subset_ok a d c3 c1 _ (by omega) (by omega)) ?_
          rintro r h1 ⟨rfl, rfl⟩
          rw [tr rfl rfl]
          simp only [go_sem, Nat.reduceMul, Nat.reduceLT, Nat.reduceLeDiff, Nat.reduceEqDiff, Nat.reduceBEq, Int.toNat_natCast, Int.reduceToNat, Int.reduceNeg, Int.reduceLT, Int.reduceLE, Int.reduceBEq, Int.reduceBNe, decide_true, decide_false, Bool.false_eq_true, false_imp_iff, Nat.lt_irrefl]
          (refine ACallT.frame (alive_ok _) ?_; refine fun _ _ e => ?_; subst e; refine ⟨by (first | rfl | (simp only [AV.low, lowL, low_strs, low_bytes, Bool.and_true, Bool.and_self])), ?_⟩; simp only [go_sem, Nat.reduceMul, Nat.reduceLT, Nat.reduceLeDiff, Nat.reduceEqDiff, Nat.reduceBEq, Int.toNat_natCast, Int.reduceToNat, Int.reduceNeg, Int.reduceLT, Int.reduceLE, Int.reduceBEq, Int.reduceBNe, decide_true, decide_false, Bool.false_eq_true, false_imp_iff, Nat.lt_irrefl])
          refine ACallT.by (subset_ok d d c1 c1 _ (by omega) (by omega)) ?_
          rintro r h2 ⟨rfl, rfl⟩
          rw [sub_refl]
          simp only [go_sem, Nat.reduceMul, Nat.reduceLT, Nat.reduceLeDiff, Nat.reduceEqDiff, Nat.reduceBEq, Int.toNat_natCast, Int.reduceToNat, Int.reduceNeg, Int.reduceLT, Int.reduceLE, Int.reduceBEq, Int.reduceBNe, decide_true, decide_false, Bool.false_eq_true, false_imp_iff, Nat.lt_irrefl]
          refine ACallT.by (subset_ok [] a true c3 _ (by simp) (by omega)) ?_
          rintro r h2 ⟨rfl, rfl⟩
          rw [show subS [] a = true by simp [subS]]
          simp only [go_sem, Nat.reduceMul, Nat.reduceLT, Nat.reduceLeDiff, Nat.reduceEqDiff, Nat.reduceBEq, Int.toNat_natCast, Int.reduceToNat, Int.reduceNeg, Int.reduceLT, Int.reduceLE, Int.reduceBEq, Int.reduceBNe, decide_true, decide_false, Bool.false_eq_true, false_imp_iff, Nat.lt_irrefl]
          refine ACallT.by (subset_ok a d c3 c1 _ (by omega) (by omega)) ?_
          rintro r h2 ⟨rfl, rfl⟩
          have l1 : subS a d = true → decide ((a.length : Int) ≤ (d.length : Int)) = true := fun q => decide_eq_true (by have := sub_le q; omega)
          have l2 : subS a b = true → decide ((a.length : Int) ≤ (b.length : Int)) = true := fun q => decide_eq_true (by have := sub_le q; omega)
          generalize subS a d = w1 at l1 ⊢
          cases w1 with
          | true =>
            simp only [go_sem, Nat.reduceMul, Nat.reduceLT, Nat.reduceLeDiff, Nat.reduceEqDiff, Nat.reduceBEq, Int.toNat_natCast, Int.reduceToNat, Int.reduceNeg, Int.reduceLT, Int.reduceLE, Int.reduceBEq, Int.reduceBNe, decide_true, decide_false, Bool.false_eq_true, false_imp_iff, Nat.lt_irrefl]
            rw [l1 rfl]
            simp only [go_sem, Nat.reduceMul, Nat.reduceLT, Nat.reduceLeDiff, Nat.reduceEqDiff, Nat.reduceBEq, Int.toNat_natCast, Int.reduceToNat, Int.reduceNeg, Int.reduceLT, Int.reduceLE, Int.reduceBEq, Int.reduceBNe, decide_true, decide_false, Bool.false_eq_true, false_imp_iff, Nat.lt_irrefl]
            refine ACallT.by (subset_ok a b c3 c4 _ (by omega) (by omega)) ?_
            rintro r h3 ⟨rfl, rfl⟩
            generalize subS a b = w2 at l2 ⊢
            cases w2 with
            | true => simp only [go_sem, Nat.reduceMul, Nat.reduceLT, Nat.reduceLeDiff, Nat.reduceEqDiff, Nat.reduceBEq, Int.toNat_natCast, Int.reduceToNat, Int.reduceNeg, Int.reduceLT, Int.reduceLE, Int.reduceBEq, Int.reduceBNe, decide_true, decide_false, Bool.false_eq_true, false_imp_iff, Nat.lt_irrefl]; refine Fin_plain ?_; rw [l2 rfl]
            | false => simp only [go_sem, Nat.reduceMul, Nat.reduceLT, Nat.reduceLeDiff, Nat.reduceEqDiff, Nat.reduceBEq, Int.toNat_natCast, Int.reduceToNat, Int.reduceNeg, Int.reduceLT, Int.reduceLE, Int.reduceBEq, Int.reduceBNe, decide_true, decide_false, Bool.false_eq_true, false_imp_iff, Nat.lt_irrefl]; exact Fin_plain rfl
          | false =>
            simp only [go_sem, Nat.reduceMul, Nat.reduceLT, Nat.reduceLeDiff, Nat.reduceEqDiff, Nat.reduceBEq, Int.toNat_natCast, Int.reduceToNat, Int.reduceNeg, Int.reduceLT, Int.reduceLE, Int.reduceBEq, Int.reduceBNe, decide_true, decide_false, Bool.false_eq_true, false_imp_iff, Nat.lt_irrefl]
            refine ACallT.by (subset_ok a b c3 c4 _ (by omega) (by omega)) ?_
            rintro r h3 ⟨rfl, rfl⟩
            generalize subS a b = w2 at l2 ⊢
            cases w2 with
            | true => simp only [go_sem, Nat.reduceMul, Nat.reduceLT, Nat.reduceLeDiff, Nat.reduceEqDiff, Nat.reduceBEq, Int.toNat_natCast, Int.reduceToNat, Int.reduceNeg, Int.reduceLT, Int.reduceLE, Int.reduceBEq, Int.reduceBNe, decide_true, decide_false, Bool.false_eq_true, false_imp_iff, Nat.lt_irrefl]; refine Fin_plain ?_; rw [l2 rfl]
            | false => simp only [go_sem, Nat.reduceMul, Nat.reduceLT, Nat.reduceLeDiff, Nat.reduceEqDiff, Nat.reduceBEq, Int.toNat_natCast, Int.reduceToNat, Int.reduceNeg, Int.reduceLT, Int.reduceLE, Int.reduceBEq, Int.reduceBNe, decide_true, decide_false, Bool.false_eq_true, false_imp_iff, Nat.lt_irrefl]; exact Fin_plain rfl
        | false =>
          simp only [go_sem, Nat.reduceMul, Nat.reduceLT, Nat.reduceLeDiff, Nat.reduceEqDiff, Nat.reduceBEq, Int.toNat_natCast, Int.reduceToNat, Int.reduceNeg, Int.reduceLT, Int.reduceLE, Int.reduceBEq, Int.reduceBNe, decide_true, decide_false, Bool.false_eq_true, false_imp_iff, Nat.lt_irrefl]
          (refine ACallT.frame (alive_ok _) ?_; refine fun _ _ e => ?_; subst e; refine ⟨by (first | rfl | (simp only [AV.low, lowL, low_strs, low_bytes, Bool.and_true, Bool.and_self])), ?_⟩; simp only [go_sem, Nat.reduceMul, Nat.reduceLT, Nat.reduceLeDiff, Nat.reduceEqDiff, Nat.reduceBEq, Int.toNat_natCast, Int.reduceToNat, Int.reduceNeg, Int.reduceLT, Int.reduceLE, Int.reduceBEq, Int.reduceBNe, decide_true, decide_false, Bool.false_eq_true, false_imp_iff, Nat.lt_irrefl])
          refine ACallT.by (subset_ok d d c1 c1 _ (by omega) (by omega)) ?_
          rintro r h2 ⟨rfl, rfl⟩
          rw [sub_refl]
          simp only [go_sem, Nat.reduceMul, Nat.reduceLT, Nat.reduceLeDiff, Nat.reduceEqDiff, Nat.reduceBEq, Int.toNat_natCast, Int.reduceToNat, Int.reduceNeg, Int.reduceLT, Int.reduceLE, Int.reduceBEq, Int.reduceBNe, decide_true, decide_false, Bool.false_eq_true, false_imp_iff, Nat.lt_irrefl]
          refine ACallT.by (subset_ok [] a true c3 _ (by simp) (by omega)) ?_
          rintro r h2 ⟨rfl, rfl⟩
          rw [show subS [] a = true by simp [subS]]
          simp only [go_sem, Nat.reduceMul, Nat.reduceLT, Nat.reduceLeDiff, Nat.reduceEqDiff, Nat.reduceBEq, Int.toNat_natCast, Int.reduceToNat, Int.reduceNeg, Int.reduceLT, Int.reduceLE, Int.reduceBEq, Int.reduceBNe, decide_true, decide_false, Bool.false_eq_true, false_imp_iff, Nat.lt_irrefl]
          refine ACallT.by (subset_ok a d c3 c1 _ (by omega) (by omega)) ?_
          rintro r h2 ⟨rfl, rfl⟩
          have l1 : subS a d = true → decide ((a.length : Int) ≤ (d.length : Int)) = true := fun q => decide_eq_true (by have := sub_le q; omega)
          have l2 : subS a b = true → decide ((a.length : Int) ≤ (b.length : Int)) = true := fun q => decide_eq_true (by have := sub_le q; omega)
          generalize subS a d = w1 at l1 ⊢
          cases w1 with
          | true =>
            simp only [go_sem, Nat.reduceMul, Nat.reduceLT, Nat.reduceLeDiff, Nat.reduceEqDiff, Nat.reduceBEq, Int.toNat_natCast, Int.reduceToNat, Int.reduceNeg, Int.reduceLT, Int.reduceLE, Int.reduceBEq, Int.reduceBNe, decide_true, decide_false, Bool.false_eq_true, false_imp_iff, Nat.lt_irrefl]
            rw [l1 rfl]
            simp only [go_sem, Nat.reduceMul, Nat.reduceLT, Nat.reduceLeDiff, Nat.reduceEqDiff, Nat.reduceBEq, Int.toNat_natCast, Int.reduceToNat, Int.reduceNeg, Int.reduceLT, Int.reduceLE, Int.reduceBEq, Int.reduceBNe, decide_true, decide_false, Bool.false_eq_true, false_imp_iff, Nat.lt_irrefl]
            refine ACallT.by (subset_ok a b c3 c4 _ (by omega) (by omega)) ?_
            rintro r h3 ⟨rfl, rfl⟩
            generalize subS a b = w2 at l2 ⊢
            cases w2 with
            | true => simp only [go_sem, Nat.reduceMul, Nat.reduceLT, Nat.reduceLeDiff, Nat.reduceEqDiff, Nat.reduceBEq, Int.toNat_natCast, Int.reduceToNat, Int.reduceNeg, Int.reduceLT, Int.reduceLE, Int.reduceBEq, Int.reduceBNe, decide_true, decide_false, Bool.false_eq_true, false_imp_iff, Nat.lt_irrefl]; refine Fin_plain ?_; rw [l2 rfl]
            | false => simp only [go_sem, Nat.reduceMul, Nat.reduceLT, Nat.reduceLeDiff, Nat.reduceEqDiff, Nat.reduceBEq, Int.toNat_natCast, Int.reduceToNat, Int.reduceNeg, Int.reduceLT, Int.reduceLE, Int.reduceBEq, Int.reduceBNe, decide_true, decide_false, Bool.false_eq_true, false_imp_iff, Nat.lt_irrefl]; exact Fin_plain rfl
          | false =>
            simp only [go_sem, Nat.reduceMul, Nat.reduceLT, Nat.reduceLeDiff, Nat.reduceEqDiff, Nat.reduceBEq, Int.toNat_natCast, Int.reduceToNat, Int.reduceNeg, Int.reduceLT, Int.reduceLE, Int.reduceBEq, Int.reduceBNe, decide_true, decide_false, Bool.false_eq_true, false_imp_iff, Nat.lt_irrefl]
            refine ACallT.by (subset_ok a b c3 c4 _ (by omega) (by omega)) ?_
            rintro r h3 ⟨rfl, rfl⟩
            generalize subS a b = w2 at l2 ⊢
            cases w2 with
            | true => simp only [go_sem, Nat.reduceMul, Nat.reduceLT, Nat.reduceLeDiff, Nat.reduceEqDiff, Nat.reduceBEq, Int.toNat_natCast, Int.reduceToNat, Int.reduceNeg, Int.reduceLT, Int.reduceLE, Int.reduceBEq, Int.reduceBNe, decide_true, decide_false, Bool.false_eq_true, false_imp_iff, Nat.lt_irrefl]; refine Fin_plain ?_; rw [l2 rfl]
            | false => simp only [go_sem, Nat.reduceMul, Nat.reduceLT, Nat.reduceLeDiff, Nat.reduceEqDiff, Nat.reduceBEq, Int.toNat_natCast, Int.reduceToNat, Int.reduceNeg, Int.reduceLT, Int.reduceLE, Int.reduceBEq, Int.reduceBNe, decide_true, decide_false, Bool.false_eq_true, false_imp_iff, Nat.lt_irrefl]; exact Fin_plain rfl
      | false =>
        simp only [go_sem, Nat.reduceMul, Nat.reduceLT, Nat.reduceLeDiff, Nat.reduceEqDiff, Nat.reduceBEq, Int.toNat_natCast, Int.reduceToNat, Int.reduceNeg, Int.reduceLT, Int.reduceLE, Int.reduceBEq, Int.reduceBNe, decide_true, decide_false, Bool.false_eq_true, false_imp_iff, Nat.lt_irrefl]
        (refine ACallT.frame (alive_ok _) ?_; refine fun _ _ e => ?_; subst e; refine ⟨by (first | rfl | (simp only [AV.low, lowL, low_strs, low_bytes, Bool.and_true, Bool.and_self])), ?_⟩; simp only [go_sem, Nat.reduceMul, Nat.reduceLT, Nat.reduceLeDiff, Nat.reduceEqDiff, Nat.reduceBEq, Int.toNat_natCast, Int.reduceToNat, Int.reduceNeg, Int.reduceLT, Int.reduceLE, Int.reduceBEq, Int.reduceBNe, decide_true, decide_false, Bool.false_eq_true, false_imp_iff, Nat.lt_irrefl])
        refine ACallT.by (subset_ok d d c1 c1 _ (by omega) (by omega)) ?_
        rintro r h2 ⟨rfl, rfl⟩
        rw [sub_refl]
        simp only [go_sem, Nat.reduceMul, Nat.reduceLT, Nat.reduceLeDiff, Nat.reduceEqDiff, Nat.reduceBEq, Int.toNat_natCast, Int.reduceToNat, Int.reduceNeg, Int.reduceLT, Int.reduceLE, Int.reduceBEq, Int.reduceBNe, decide_true, decide_false, Bool.false_eq_true, false_imp_iff, Nat.lt_irrefl]
        refine ACallT.by (subset_ok [] a true c3 _ (by simp) (by omega)) ?_
        rintro r h2 ⟨rfl, rfl⟩
        rw [show subS [] a = true by simp [subS]]
        simp only [go_sem, Nat.reduceMul, Nat.reduceLT, Nat.reduceLeDiff, Nat.reduceEqDiff, Nat.reduceBEq, Int.toNat_natCast, Int.reduceToNat, Int.reduceNeg, Int.reduceLT, Int.reduceLE, Int.reduceBEq, Int.reduceBNe, decide_true, decide_false, Bool.false_eq_true, false_imp_iff, Nat.lt_irrefl]
        refine ACallT.by (subset_ok a d c3 c1 _ (by omega) (by omega)) ?_
        rintro r h2 ⟨rfl, rfl⟩
        have l1 : subS a d = true → decide ((a.length : Int) ≤ (d.length : Int)) = true := fun q => decide_eq_true (by have := sub_le q; omega)
        have l2 : subS a b = true → decide ((a.length : Int) ≤ (b.length : Int)) = true := fun q => decide_eq_true (by have := sub_le q; omega)
        generalize subS a d = w1 at l1 ⊢
        cases w1 with
        | true =>
          simp only [go_sem, Nat.reduceMul, Nat.reduceLT, Nat.reduceLeDiff, Nat.reduceEqDiff, Nat.reduceBEq, Int.toNat_natCast, Int.reduceToNat, Int.reduceNeg, Int.reduceLT, Int.reduceLE, Int.reduceBEq, Int.reduceBNe, decide_true, decide_false, Bool.false_eq_true, false_imp_iff, Nat.lt_irrefl]
          rw [l1 rfl]
          simp only [go_sem, Nat.reduceMul, Nat.reduceLT, Nat.reduceLeDiff, Nat.reduceEqDiff, Nat.reduceBEq, Int.toNat_natCast, Int.reduceToNat, Int.reduceNeg, Int.reduceLT, Int.reduceLE, Int.reduceBEq, Int.reduceBNe, decide_true, decide_false, Bool.false_eq_true, false_imp_iff, Nat.lt_irrefl]
          refine ACallT.by (subset_ok a b c3 c4 _ (by omega) (by omega)) ?_
          rintro r h3 ⟨rfl, rfl⟩
          generalize subS a b = w2 at l2 ⊢
          cases w2 with
          | true => simp only [go_sem, Nat.reduceMul, Nat.reduceLT, Nat.reduceLeDiff, Nat.reduceEqDiff, Nat.reduceBEq, Int.toNat_natCast, Int.reduceToNat, Int.reduceNeg, Int.reduceLT, Int.reduceLE, Int.reduceBEq, Int.reduceBNe, decide_true, decide_false, Bool.false_eq_true, false_imp_iff, Nat.lt_irrefl]; refine Fin_plain ?_; rw [l2 rfl]
          | false => simp only [go_sem, Nat.reduceMul, Nat.reduceLT, Nat.reduceLeDiff, Nat.reduceEqDiff, Nat.reduceBEq, Int.toNat_natCast, Int.reduceToNat, Int.reduceNeg, Int.reduceLT, Int.reduceLE, Int.reduceBEq, Int.reduceBNe, decide_true, decide_false, Bool.false_eq_true, false_imp_iff, Nat.lt_irrefl]; exact Fin_plain rfl
        | false =>
          simp only [go_sem, Nat.reduceMul, Nat.reduceLT, Nat.reduceLeDiff, Nat.reduceEqDiff, Nat.reduceBEq, Int.toNat_natCast, Int.reduceToNat, Int.reduceNeg, Int.reduceLT, Int.reduceLE, Int.reduceBEq, Int.reduceBNe, decide_true, decide_false, Bool.false_eq_true, false_imp_iff, Nat.lt_irrefl]
          refine ACallT.by (subset_ok a b c3 c4 _ (by omega) (by omega)) ?_
          rintro r h3 ⟨rfl, rfl⟩
          generalize subS a b = w2 at l2 ⊢
          cases w2 with
          | true => simp only [go_sem, Nat.reduceMul, Nat.reduceLT, Nat.reduceLeDiff, Nat.reduceEqDiff, Nat.reduceBEq, Int.toNat_natCast, Int.reduceToNat, Int.reduceNeg, Int.reduceLT, Int.reduceLE, Int.reduceBEq, Int.reduceBNe, decide_true, decide_false, Bool.false_eq_true, false_imp_iff, Nat.lt_irrefl]; refine Fin_plain ?_; rw [l2 rfl]
          | false => simp only [go_sem, Nat.reduceMul, Nat.reduceLT, Nat.reduceLeDiff, Nat.reduceEqDiff, Nat.reduceBEq, Int.toNat_natCast, Int.reduceToNat, Int.reduceNeg, Int.reduceLT, Int.reduceLE, Int.reduceBEq, Int.reduceBNe, decide_true, decide_false, Bool.false_eq_true, false_imp_iff, Nat.lt_irrefl]; exact Fin_plain rfl
end Go.Proofs.Vale
