/- YtohppebjmfnmdaaGreatDoorVSchD: a text of the proof of this claim, by its prover. -/
import Derived.Test.YtohppebjmfnmdaaGreatDoorVSchC
set_option linter.unusedVariables false
set_option linter.unusedSimpArgs false
set_option maxHeartbeats 4000000
set_option maxRecDepth 100000
namespace Go.Proofs.Vale
open Go.Proofs Go.Proofs.YtohppebjmfnmdaaGreatDoorT
attribute [local irreducible] acode aopsL aopsT dopsL dopsT pop popG aop ALoop ADraw ACall AWP AFin acondT ALoopT ADrawT ACallT doP doG doGd

/-! ### Runes -/
theorem get_at (s : Str) (i : Nat) (h : i < s.length) : (ByteArray.get! ⟨⟨s⟩⟩ (i + 0)) = s[i] := by
  have h' : i < (⟨s⟩ : Array UInt8).size := h
  show (⟨s⟩ : Array UInt8)[i]! = s[i]
  rw [getElem!_pos _ i h']
  rfl
theorem dc_lo (s : Str) (i : Nat) (h : i < s.length) (hl : (s[i]).toNat < 128) : dcA s i = ((s[i]).toNat, 1) := by
  unfold dcA
  simp only [Utf8.decode, get_at s i h]
  rw [if_pos hl]
theorem dc_hi (s : Str) (i : Nat) (h : i < s.length) (hl : ¬ (s[i]).toNat < 128) : 128 ≤ (dcA s i).1 := by
  unfold dcA
  simp only [Utf8.decode, get_at s i h]
  rw [if_neg hl]
  repeat' split
  all_goals (simp only [Utf8.runeError] at *; first | omega | (simp at *; omega))

/-- A name's letter: at the first place, or at a later one. -/
def letter (first : Bool) (b : UInt8) : Bool := (decide (97 ≤ b.toNat) && decide (b.toNat ≤ 122)) || (!first && ((decide (48 ≤ b.toNat) && decide (b.toNat ≤ 57)) || b.toNat == 95))
def lettersFrom (s : Str) (k : Nat) : Bool := (s.drop k).zipIdx k |>.all fun p => letter (p.2 == 0) p.1
def nameS (s : Str) : Bool := !(s == []) && decide (s.length ≤ 12) && !decide (s ∈ wordsL) && lettersFrom s 0
theorem letters_step (s : Str) (k : Nat) (h : k < s.length) : lettersFrom s k = (letter (k == 0) s[k] && lettersFrom s (k + 1)) := by
  unfold lettersFrom
  rw [List.drop_eq_getElem_cons h, List.zipIdx_cons, List.all_cons]
theorem letters_end (s : Str) : lettersFrom s s.length = true := by simp [lettersFrom]
def letR (f : Bool) (r : Int) : Bool := (bif decide (97 ≤ r) then decide (r ≤ 122) else false) || (!f && ((bif decide (48 ≤ r) then decide (r ≤ 57) else false) || r == 95))
theorem let_eq (s : Str) (k : Nat) (h : k < s.length) (f : Bool) : letter f s[k] = letR f (dcA s k).1 ∧ (letR f (dcA s k).1 = true → (dcA s k).2 = 1) := by
  by_cases hl : (s[k]).toNat < 128
  · rw [dc_lo s k h hl]
    refine ⟨?_, fun _ => rfl⟩
    simp only [letter, letR]
    have e1 : (((s[k]).toNat : Int) == 95) = ((s[k]).toNat == 95) := by rw [Bool.eq_iff_iff]; simp; omega
    have e2 : decide ((97 : Int) ≤ ((s[k]).toNat : Int)) = decide (97 ≤ (s[k]).toNat) := by congr 1; simp; omega
    have e3 : decide (((s[k]).toNat : Int) ≤ 122) = decide ((s[k]).toNat ≤ 122) := by congr 1; simp; omega
    have e4 : decide ((48 : Int) ≤ ((s[k]).toNat : Int)) = decide (48 ≤ (s[k]).toNat) := by congr 1; simp; omega
    have e5 : decide (((s[k]).toNat : Int) ≤ 57) = decide ((s[k]).toNat ≤ 57) := by congr 1; simp; omega
    rw [e1, e2, e3, e4, e5]
    cases decide (97 ≤ (s[k]).toNat) <;> cases decide (48 ≤ (s[k]).toNat) <;> rfl
  · have hh := dc_hi s k h hl
    have e : letR f (dcA s k).1 = false := by
      have a1 : decide (((dcA s k).1 : Int) ≤ 122) = false := by simp; omega
      have a2 : decide (((dcA s k).1 : Int) ≤ 57) = false := by simp; omega
      have a3 : (((dcA s k).1 : Int) == 95) = false := by simp; omega
      simp only [letR, a1, a2, a3]
      cases decide ((97 : Int) ≤ ((dcA s k).1 : Int)) <;> cases decide ((48 : Int) ≤ ((dcA s k).1 : Int)) <;> simp
    rw [e]
    refine ⟨?_, fun q => by cases q⟩
    have a1 : decide ((s[k]).toNat ≤ 122) = false := by simp; omega
    have a2 : decide ((s[k]).toNat ≤ 57) = false := by simp; omega
    have a3 : ((s[k]).toNat == 95) = false := by simp; omega
    simp [letter, a1, a2, a3]
theorem name_ok (s : Str) (h : List AObj) (hs : s.length ≤ 9223372036854775807) : ACall Tryz.prog 42 [.str s] h (fun r _ => r = .bool (nameS s)) := by
  (refine ACall.of_code Tryz.func42 rfl ?_; simp only [Tryz.f42]; simp only [go_sem, Nat.reduceMul, Nat.reduceLT, Nat.reduceLeDiff, Nat.reduceEqDiff, Nat.reduceBEq, Int.toNat_natCast, Int.reduceToNat, Int.reduceNeg, Int.reduceLT, Int.reduceLE, Int.reduceBEq, Int.reduceBNe, decide_true, decide_false, Bool.false_eq_true, false_imp_iff, Nat.lt_irrefl])
  generalize hz : (bif s == [] then true else decide (12 < ((List.length s : Nat) : Int))) = z
  cases z with
  | true =>
    simp only [go_sem, Nat.reduceMul, Nat.reduceLT, Nat.reduceLeDiff, Nat.reduceEqDiff, Nat.reduceBEq, Int.toNat_natCast, Int.reduceToNat, Int.reduceNeg, Int.reduceLT, Int.reduceLE, Int.reduceBEq, Int.reduceBNe, decide_true, decide_false, Bool.false_eq_true, false_imp_iff, Nat.lt_irrefl]
    refine Fin_plain ?_
    have : (!(s == []) && decide (s.length ≤ 12)) = false := by
      cases e : (s == [])
      · rw [e] at hz; simp only [cond_false] at hz; have := of_decide_eq_true hz; simp; omega
      · rfl
    simp only [nameS, this, Bool.false_and]
  | false =>
    have hne : (!(s == []) && decide (s.length ≤ 12)) = true := by
      cases e : (s == [])
      · rw [e] at hz; simp only [cond_false] at hz; have := of_decide_eq_false hz; simp; omega
      · rw [e] at hz; cases hz
    simp only [go_sem, Nat.reduceMul, Nat.reduceLT, Nat.reduceLeDiff, Nat.reduceEqDiff, Nat.reduceBEq, Int.toNat_natCast, Int.reduceToNat, Int.reduceNeg, Int.reduceLT, Int.reduceLE, Int.reduceBEq, Int.reduceBNe, decide_true, decide_false, Bool.false_eq_true, false_imp_iff, Nat.lt_irrefl]
    (refine ACallT.frame (words_ok _) ?_; refine fun _ _ e => ?_; subst e; refine ⟨by (first | rfl | (simp only [AV.low, lowL, low_strs, low_bytes, Bool.and_true, Bool.and_self])), ?_⟩; simp only [go_sem, Nat.reduceMul, Nat.reduceLT, Nat.reduceLeDiff, Nat.reduceEqDiff, Nat.reduceBEq, Int.toNat_natCast, Int.reduceToNat, Int.reduceNeg, Int.reduceLT, Int.reduceLE, Int.reduceBEq, Int.reduceBNe, decide_true, decide_false, Bool.false_eq_true, false_imp_iff, Nat.lt_irrefl])
    refine ACallT.by (contains_ok wordsL s false _ (by decide)) ?_
    rintro r h1 ⟨rfl, rfl⟩
    generalize hm : decide (s ∈ wordsL) = m
    cases m with
    | true => simp only [go_sem, Nat.reduceMul, Nat.reduceLT, Nat.reduceLeDiff, Nat.reduceEqDiff, Nat.reduceBEq, Int.toNat_natCast, Int.reduceToNat, Int.reduceNeg, Int.reduceLT, Int.reduceLE, Int.reduceBEq, Int.reduceBNe, decide_true, decide_false, Bool.false_eq_true, false_imp_iff, Nat.lt_irrefl]; refine Fin_plain ?_; simp [nameS, hm]
    | false =>
      have hN : nameS s = lettersFrom s 0 := by rw [nameS, hne, hm]; simp
      simp only [go_sem, Nat.reduceMul, Nat.reduceLT, Nat.reduceLeDiff, Nat.reduceEqDiff, Nat.reduceBEq, Int.toNat_natCast, Int.reduceToNat, Int.reduceNeg, Int.reduceLT, Int.reduceLE, Int.reduceBEq, Int.reduceBNe, decide_true, decide_false, Bool.false_eq_true, false_imp_iff, Nat.lt_irrefl]
      refine ALoop.over [2, 3, 4, 19, 20, 21, 22, 23, 24, 25, 26, 27, 28, 29, 30, 31, 32, 33, 34, 35, 36, 37, 38, 39, 40] (fun e h' => ∃ k : Nat, k ≤ s.length ∧ h' = h1 ++ [.it s k] ∧ lettersFrom s k = lettersFrom s 0) (fun e h' => s.length - (match h'[h1.length]? with | some (.it _ k) => k | _ => 0)) ⟨0, by omega, rfl, rfl⟩ ?_
      simp only [List.length_cons, List.length_nil, Nat.reduceAdd, allL_succ, allL_zero]
      intro y2 y3 y4 y19 y20 y21 y22 y23 y24 y25 y26 y27 y28 y29 y30 y31 y32 y33 y34 y35 y36 y37 y38 y39 y40 h' hI
      obtain ⟨k, hk, rfl, hA⟩ := hI
      simp only [go_sem, getElem?_app0, Nat.reduceMul, Nat.reduceLT, Nat.reduceLeDiff, Nat.reduceEqDiff, Nat.reduceBEq, Int.toNat_natCast, Int.reduceToNat, Int.reduceNeg, Int.reduceLT, Int.reduceLE, Int.reduceBEq, Int.reduceBNe, decide_true, decide_false, Bool.false_eq_true, false_imp_iff, Nat.lt_irrefl]
      refine nxG_intro (fun hp => ?_) (fun hp => ?_)
      · simp only [go_sem, Nat.reduceMul, Nat.reduceLT, Nat.reduceLeDiff, Nat.reduceEqDiff, Nat.reduceBEq, Int.toNat_natCast, Int.reduceToNat, Int.reduceNeg, Int.reduceLT, Int.reduceLE, Int.reduceBEq, Int.reduceBNe, decide_true, decide_false, Bool.false_eq_true, false_imp_iff, Nat.lt_irrefl]
        obtain ⟨hL, hW⟩ := let_eq s k hp (k == 0)
        have hk0 : (k == 0) = ((k : Int) == 0) := by rw [Bool.eq_iff_iff]; simp
        rw [hk0] at hL hW
        have hst := letters_step s k hp
        rw [hk0, hL] at hst
        have stop : ∀ z, letR z (dcA s k).1 = false → z = ((k : Int) == 0) → nameS s = false := fun z q e => by rw [hN, ← hA, hst, ← e, q]; rfl
        have go : ∀ z, letR z (dcA s k).1 = true → z = ((k : Int) == 0) → lettersFrom s (k + 1) = lettersFrom s 0 ∧ (dcA s k).2 = 1 := fun z q e => by
          rw [← e] at hst hW
          rw [q, Bool.true_and, hA] at hst
          exact ⟨hst.symm, hW q⟩
        clear hL hW hst
        generalize hr : ((dcA s k).1 : Int) = r at stop go ⊢
        clear hr
        generalize h95 : (r == 95) = z1
        cases z1 with
        | true =>
          obtain rfl : r = 95 := by simpa using h95
          simp only [go_sem, Nat.reduceMul, Nat.reduceLT, Nat.reduceLeDiff, Nat.reduceEqDiff, Nat.reduceBEq, Int.toNat_natCast, Int.reduceToNat, Int.reduceNeg, Int.reduceLT, Int.reduceLE, Int.reduceBEq, Int.reduceBNe, decide_true, decide_false, Bool.false_eq_true, false_imp_iff, Nat.lt_irrefl]
          generalize h0 : ((k : Int) == 0) = z0 at *
          cases z0 with
          | true => simp only [go_sem, Nat.reduceMul, Nat.reduceLT, Nat.reduceLeDiff, Nat.reduceEqDiff, Nat.reduceBEq, Int.toNat_natCast, Int.reduceToNat, Int.reduceNeg, Int.reduceLT, Int.reduceLE, Int.reduceBEq, Int.reduceBNe, decide_true, decide_false, Bool.false_eq_true, false_imp_iff, Nat.lt_irrefl]; refine Fin_plain ?_; rw [stop true (by decide) rfl]
          | false =>
            obtain ⟨g1, g2⟩ := go false (by decide) rfl
            rw [g2]
            simp only [go_sem, getElem?_app0, set_app0, Nat.reduceMul, Nat.reduceLT, Nat.reduceLeDiff, Nat.reduceEqDiff, Nat.reduceBEq, Int.toNat_natCast, Int.reduceToNat, Int.reduceNeg, Int.reduceLT, Int.reduceLE, Int.reduceBEq, Int.reduceBNe, decide_true, decide_false, Bool.false_eq_true, false_imp_iff, Nat.lt_irrefl]
            exact ⟨⟨k + 1, by omega, rfl, g1⟩, Nat.sub_lt_sub_left hp (Nat.lt_succ_self k)⟩
        | false =>
          simp only [go_sem, Nat.reduceMul, Nat.reduceLT, Nat.reduceLeDiff, Nat.reduceEqDiff, Nat.reduceBEq, Int.toNat_natCast, Int.reduceToNat, Int.reduceNeg, Int.reduceLT, Int.reduceLE, Int.reduceBEq, Int.reduceBNe, decide_true, decide_false, Bool.false_eq_true, false_imp_iff, Nat.lt_irrefl]
          generalize h2 : (bif decide (48 ≤ r) then decide (r ≤ 57) else false) = z2
          cases z2 with
          | true =>
            have hA0 : (bif decide (97 ≤ r) then decide (r ≤ 122) else false) = false := by
              cases q : decide (97 ≤ r)
              · rfl
              · cases q2 : decide (48 ≤ r)
                · rw [q2] at h2; cases h2
                · rw [q2] at h2; have := of_decide_eq_true q; have := of_decide_eq_true h2; omega
            simp only [go_sem, Nat.reduceMul, Nat.reduceLT, Nat.reduceLeDiff, Nat.reduceEqDiff, Nat.reduceBEq, Int.toNat_natCast, Int.reduceToNat, Int.reduceNeg, Int.reduceLT, Int.reduceLE, Int.reduceBEq, Int.reduceBNe, decide_true, decide_false, Bool.false_eq_true, false_imp_iff, Nat.lt_irrefl]
            generalize h0 : ((k : Int) == 0) = z0 at *
            cases z0 with
            | true => simp only [go_sem, Nat.reduceMul, Nat.reduceLT, Nat.reduceLeDiff, Nat.reduceEqDiff, Nat.reduceBEq, Int.toNat_natCast, Int.reduceToNat, Int.reduceNeg, Int.reduceLT, Int.reduceLE, Int.reduceBEq, Int.reduceBNe, decide_true, decide_false, Bool.false_eq_true, false_imp_iff, Nat.lt_irrefl]; refine Fin_plain ?_; rw [stop true (by simp [letR, hA0]) rfl]
            | false =>
              obtain ⟨g1, g2⟩ := go false (by simp only [letR, h2]; simp) rfl
              rw [g2]
              simp only [go_sem, getElem?_app0, set_app0, Nat.reduceMul, Nat.reduceLT, Nat.reduceLeDiff, Nat.reduceEqDiff, Nat.reduceBEq, Int.toNat_natCast, Int.reduceToNat, Int.reduceNeg, Int.reduceLT, Int.reduceLE, Int.reduceBEq, Int.reduceBNe, decide_true, decide_false, Bool.false_eq_true, false_imp_iff, Nat.lt_irrefl]
              exact ⟨⟨k + 1, by omega, rfl, g1⟩, Nat.sub_lt_sub_left hp (Nat.lt_succ_self k)⟩
          | false =>
            simp only [go_sem, Nat.reduceMul, Nat.reduceLT, Nat.reduceLeDiff, Nat.reduceEqDiff, Nat.reduceBEq, Int.toNat_natCast, Int.reduceToNat, Int.reduceNeg, Int.reduceLT, Int.reduceLE, Int.reduceBEq, Int.reduceBNe, decide_true, decide_false, Bool.false_eq_true, false_imp_iff, Nat.lt_irrefl]
            generalize h3 : (bif decide (97 ≤ r) then decide (r ≤ 122) else false) = z3
            cases z3 with
            | true =>
              obtain ⟨g1, g2⟩ := go _ (by simp only [letR, h3, Bool.true_or]) rfl
              rw [g2]
              simp only [go_sem, getElem?_app0, set_app0, Nat.reduceMul, Nat.reduceLT, Nat.reduceLeDiff, Nat.reduceEqDiff, Nat.reduceBEq, Int.toNat_natCast, Int.reduceToNat, Int.reduceNeg, Int.reduceLT, Int.reduceLE, Int.reduceBEq, Int.reduceBNe, decide_true, decide_false, Bool.false_eq_true, false_imp_iff, Nat.lt_irrefl]
              exact ⟨⟨k + 1, by omega, rfl, g1⟩, Nat.sub_lt_sub_left hp (Nat.lt_succ_self k)⟩
            | false =>
              simp only [go_sem, Nat.reduceMul, Nat.reduceLT, Nat.reduceLeDiff, Nat.reduceEqDiff, Nat.reduceBEq, Int.toNat_natCast, Int.reduceToNat, Int.reduceNeg, Int.reduceLT, Int.reduceLE, Int.reduceBEq, Int.reduceBNe, decide_true, decide_false, Bool.false_eq_true, false_imp_iff, Nat.lt_irrefl]
              refine Fin_plain ?_
              rw [stop _ (by simp only [letR, h2, h3, h95, Bool.or_false, Bool.and_false]) rfl]
      · simp only [go_sem, Nat.reduceMul, Nat.reduceLT, Nat.reduceLeDiff, Nat.reduceEqDiff, Nat.reduceBEq, Int.toNat_natCast, Int.reduceToNat, Int.reduceNeg, Int.reduceLT, Int.reduceLE, Int.reduceBEq, Int.reduceBNe, decide_true, decide_false, Bool.false_eq_true, false_imp_iff, Nat.lt_irrefl]
        have : k = s.length := by omega
        subst this
        refine Fin_plain ?_
        rw [hN, ← hA, letters_end]
end Go.Proofs.Vale
