/- YthgafblmefjkdaaDoorVSchK: a text of the proof of this claim, by its prover. -/
import Derived.Test.YthgafblmefjkdaaDoorVSchY
set_option linter.unusedVariables false
set_option linter.unusedSimpArgs false
set_option maxHeartbeats 4000000
set_option maxRecDepth 100000
namespace Go.Proofs.Vale
open Go.Proofs Go.Proofs.YthgafblmefjkdaaDoorT
attribute [local irreducible] acode aopsL aopsT dopsL dopsT pop popG aop ALoop ADraw ACall AWP AFin acondT ALoopT ADrawT ACallT doP doG doGd

def rsub (b : List Str) : Int → List Str → Bool
  | _, [] => true
  | last, x :: a => if x ∈ b ∧ last < (ix b x : Int) then rsub b (ix b x) a else false
theorem rsubset_ok (a b : List Str) (c1 c2 : Bool) (h : List AObj) (ha : a.length ≤ 9223372036854775807) (hb : b.length ≤ 9223372036854775807) : ACall Tryd.prog 18 [.fz c1 (strs a), .fz c2 (strs b)] h (fun r h' => r = .bool (rsub b (-1) a) ∧ h' = h) := by
  (refine ACall.of_code Tryd.func18 rfl ?_; simp only [Tryd.f18]; simp only [go_sem, Nat.reduceMul, Nat.reduceLT, Nat.reduceLeDiff, Nat.reduceEqDiff, Nat.reduceBEq, Int.toNat_natCast, Int.reduceToNat, Int.reduceNeg, Int.reduceLT, Int.reduceLE, Int.reduceBEq, Int.reduceBNe, decide_true, decide_false, Bool.false_eq_true, false_imp_iff, Nat.lt_irrefl])
  refine ALoop.over [4, 5, 6, 7, 8, 9, 10, 11, 12, 13, 14, 15, 16, 17, 18, 19, 20, 21, 22, 23, 24, 25, 26, 27, 28, 29, 30, 31] (fun e h' => h' = h ∧ ∃ (k : Nat) (last : Int), k ≤ a.length ∧ e.getD 6 .any = .int .i64 k ∧ e.getD 5 .any = .int .i64 last ∧ rsub b last (a.drop k) = rsub b (-1) a) (fun e _ => a.length - natA (e.getD 6 .any)) ⟨rfl, 0, -1, by simp, rfl, rfl, rfl⟩ ?_
  simp only [List.length_cons, List.length_nil, Nat.reduceAdd, allL_succ, allL_zero]
  intro y4 y5 y6 y7 y8 y9 y10 y11 y12 y13 y14 y15 y16 y17 y18 y19 y20 y21 y22 y23 y24 y25 y26 y27 y28 y29 y30 y31 h' hI
  simp only [go_sem] at hI
  obtain ⟨rfl, k, last, hk, rfl, rfl, hs⟩ := hI
  simp only [go_sem, Nat.reduceMul, Nat.reduceLT, Nat.reduceLeDiff, Nat.reduceEqDiff, Nat.reduceBEq, Int.toNat_natCast, Int.reduceToNat, Int.reduceNeg, Int.reduceLT, Int.reduceLE, Int.reduceBEq, Int.reduceBNe, decide_true, decide_false, Bool.false_eq_true, false_imp_iff, Nat.lt_irrefl]
  refine acond_intro (fun hc => ?_) (fun hc => ?_)
  · have hlt : k < a.length := by simpa using hc
    rw [List.drop_eq_getElem_cons hlt, rsub] at hs
    simp only [go_sem, strs_get a _ hlt, Nat.reduceMul, Nat.reduceLT, Nat.reduceLeDiff, Nat.reduceEqDiff, Nat.reduceBEq, Int.toNat_natCast, Int.reduceToNat, Int.reduceNeg, Int.reduceLT, Int.reduceLE, Int.reduceBEq, Int.reduceBNe, decide_true, decide_false, Bool.false_eq_true, false_imp_iff, Nat.lt_irrefl]
    refine ⟨⟨by omega, by omega⟩, ?_⟩
    refine ACallT.by (rfind_ok b _ c2 _ hb) ?_
    rintro r h1 ⟨rfl, rfl⟩
    by_cases e : a[k] ∈ b
    · rw [show findV b a[k] = .tup [.int .i64 (ix b a[k] : Int), .bool true] by rw [findV, if_pos e]]
      generalize hz : decide ((ix b a[k] : Int) ≤ last) = z
      cases z with
      | true =>
        have := of_decide_eq_true hz
        rw [if_neg (fun q => by omega)] at hs
        simp only [go_sem, hz, Nat.reduceMul, Nat.reduceLT, Nat.reduceLeDiff, Nat.reduceEqDiff, Nat.reduceBEq, Int.toNat_natCast, Int.reduceToNat, Int.reduceNeg, Int.reduceLT, Int.reduceLE, Int.reduceBEq, Int.reduceBNe, decide_true, decide_false, Bool.false_eq_true, false_imp_iff, Nat.lt_irrefl]
        refine Fin_plain ⟨?_, rfl⟩
        rw [← hs]
      | false =>
        have := of_decide_eq_false hz
        rw [if_pos ⟨e, by omega⟩] at hs
        simp only [go_sem, hz, Nat.reduceMul, Nat.reduceLT, Nat.reduceLeDiff, Nat.reduceEqDiff, Nat.reduceBEq, Int.toNat_natCast, Int.reduceToNat, Int.reduceNeg, Int.reduceLT, Int.reduceLE, Int.reduceBEq, Int.reduceBNe, decide_true, decide_false, Bool.false_eq_true, false_imp_iff, Nat.lt_irrefl]
        rw [wrap_id (by omega) (by omega)]
        exact ⟨⟨k + 1, _, by omega, rfl, rfl, hs⟩, by omega⟩
    · rw [show findV b a[k] = .tup [.int .i64 0, .bool false] by rw [findV, if_neg e]]
      rw [if_neg (fun q => e q.1)] at hs
      simp only [go_sem, Nat.reduceMul, Nat.reduceLT, Nat.reduceLeDiff, Nat.reduceEqDiff, Nat.reduceBEq, Int.toNat_natCast, Int.reduceToNat, Int.reduceNeg, Int.reduceLT, Int.reduceLE, Int.reduceBEq, Int.reduceBNe, decide_true, decide_false, Bool.false_eq_true, false_imp_iff, Nat.lt_irrefl]
      refine Fin_plain ⟨?_, rfl⟩
      rw [← hs]
  · have hge : k = a.length := by have : ¬ k < a.length := by simpa using hc
                                  omega
    subst hge
    rw [List.drop_length, rsub] at hs
    simp only [go_sem, Nat.reduceMul, Nat.reduceLT, Nat.reduceLeDiff, Nat.reduceEqDiff, Nat.reduceBEq, Int.toNat_natCast, Int.reduceToNat, Int.reduceNeg, Int.reduceLT, Int.reduceLE, Int.reduceBEq, Int.reduceBNe, decide_true, decide_false, Bool.false_eq_true, false_imp_iff, Nat.lt_irrefl]
    refine Fin_plain ⟨?_, rfl⟩
    rw [← hs]
end Go.Proofs.Vale

set_option linter.unusedVariables false
set_option linter.unusedSimpArgs false
set_option maxHeartbeats 4000000
set_option maxRecDepth 100000
namespace Go.Proofs.Vale
open Go.Proofs Go.Proofs.YthgafblmefjkdaaDoorT
attribute [local irreducible] acode aopsL aopsT dopsL dopsT pop popG aop ALoop ADraw ACall AWP AFin acondT ALoopT ADrawT ACallT doP doG doGd

theorem rwords_ok (h : List AObj) : ACall Tryd.prog 45 [] h (fun r _ => r = .fz false (strs wordsL)) := by
  (refine ACall.of_code Tryd.func45 rfl ?_; simp only [Tryd.f45]; simp only [go_sem, Nat.reduceMul, Nat.reduceLT, Nat.reduceLeDiff, Nat.reduceEqDiff, Nat.reduceBEq, Int.toNat_natCast, Int.reduceToNat, Int.reduceNeg, Int.reduceLT, Int.reduceLE, Int.reduceBEq, Int.reduceBNe, decide_true, decide_false, Bool.false_eq_true, false_imp_iff, Nat.lt_irrefl])
  refine Fin_freeze 4 ?_
  simp only [frz_sl, getElem?_app0]
  exact frzO_all (l := strs wordsL) rfl (flatS _)
theorem rname_ok (s : Str) (h : List AObj) (hs : s.length ≤ 9223372036854775807) : ACall Tryd.prog 31 [.str s] h (fun r _ => r = .bool (nameS s)) := by
  (refine ACall.of_code Tryd.func31 rfl ?_; simp only [Tryd.f31]; simp only [go_sem, Nat.reduceMul, Nat.reduceLT, Nat.reduceLeDiff, Nat.reduceEqDiff, Nat.reduceBEq, Int.toNat_natCast, Int.reduceToNat, Int.reduceNeg, Int.reduceLT, Int.reduceLE, Int.reduceBEq, Int.reduceBNe, decide_true, decide_false, Bool.false_eq_true, false_imp_iff, Nat.lt_irrefl])
  (refine ACallT.frame (rwords_ok _) ?_; refine fun _ _ e => ?_; subst e; refine ⟨by (first | rfl | (simp only [AV.low, lowL, low_strs, low_bytes, Bool.and_true, Bool.and_self])), ?_⟩; simp only [go_sem, Nat.reduceMul, Nat.reduceLT, Nat.reduceLeDiff, Nat.reduceEqDiff, Nat.reduceBEq, Int.toNat_natCast, Int.reduceToNat, Int.reduceNeg, Int.reduceLT, Int.reduceLE, Int.reduceBEq, Int.reduceBNe, decide_true, decide_false, Bool.false_eq_true, false_imp_iff, Nat.lt_irrefl])
  have hw20 : wordsL.length = 20 := rfl
  refine ALoop.over [2, 4, 9, 10, 11, 12, 13, 14, 15, 16, 17, 18, 19, 20] (fun e h' => ∃ k : Nat, k ≤ wordsL.length ∧ e.getD 4 .any = .int .i64 k ∧ ∀ j (hj : j < wordsL.length), j < k → (s == wordsL[j]) = false) (fun e _ => wordsL.length - natA (e.getD 4 .any)) ⟨0, by simp, rfl, fun _ _ q => by omega⟩ ?_
  simp only [List.length_cons, List.length_nil, Nat.reduceAdd, allL_succ, allL_zero]
  intro y2 y4 y9 y10 y11 y12 y13 y14 y15 y16 y17 y18 y19 y20 h1 hI
  simp only [go_sem] at hI
  obtain ⟨k, hk, rfl, hall⟩ := hI
  simp only [go_sem, Nat.reduceMul, Nat.reduceLT, Nat.reduceLeDiff, Nat.reduceEqDiff, Nat.reduceBEq, Int.toNat_natCast, Int.reduceToNat, Int.reduceNeg, Int.reduceLT, Int.reduceLE, Int.reduceBEq, Int.reduceBNe, decide_true, decide_false, Bool.false_eq_true, false_imp_iff, Nat.lt_irrefl]
  refine acond_intro (fun hc => ?_) (fun hc => ?_)
  · have hlt : k < wordsL.length := by simpa using hc
    simp only [go_sem, strs_get wordsL _ hlt, Nat.reduceMul, Nat.reduceLT, Nat.reduceLeDiff, Nat.reduceEqDiff, Nat.reduceBEq, Int.toNat_natCast, Int.reduceToNat, Int.reduceNeg, Int.reduceLT, Int.reduceLE, Int.reduceBEq, Int.reduceBNe, decide_true, decide_false, Bool.false_eq_true, false_imp_iff, Nat.lt_irrefl]
    refine ⟨⟨by omega, by omega⟩, ?_⟩
    refine acond_intro (fun hb => ?_) (fun hb => ?_)
    · simp only [go_sem, Nat.reduceMul, Nat.reduceLT, Nat.reduceLeDiff, Nat.reduceEqDiff, Nat.reduceBEq, Int.toNat_natCast, Int.reduceToNat, Int.reduceNeg, Int.reduceLT, Int.reduceLE, Int.reduceBEq, Int.reduceBNe, decide_true, decide_false, Bool.false_eq_true, false_imp_iff, Nat.lt_irrefl]
      refine Fin_plain ?_
      have hm : s ∈ wordsL := by
        have : wordsL[k] = s := by simpa using hb
        rw [← this]; exact List.getElem_mem _
      simp [nameS, hm]
    · simp only [go_sem, Nat.reduceMul, Nat.reduceLT, Nat.reduceLeDiff, Nat.reduceEqDiff, Nat.reduceBEq, Int.toNat_natCast, Int.reduceToNat, Int.reduceNeg, Int.reduceLT, Int.reduceLE, Int.reduceBEq, Int.reduceBNe, decide_true, decide_false, Bool.false_eq_true, false_imp_iff, Nat.lt_irrefl]
      rw [wrap_id (by omega) (by omega)]
      refine ⟨⟨k + 1, by omega, rfl, fun j hj q => ?_⟩, by omega⟩
      by_cases e : j = k
      · subst e; rw [BEq.comm]; exact hb
      · exact hall j hj (by omega)
  · have hge : k = wordsL.length := by have : ¬ k < wordsL.length := by simpa using hc
                                       omega
    subst hge
    have hm : decide (s ∈ wordsL) = false := by
      rw [decide_eq_false_iff_not]
      intro q
      obtain ⟨j, hj, e⟩ := List.getElem_of_mem q
      have := hall j hj hj
      rw [e] at this; simp at this
    simp only [go_sem, Nat.reduceMul, Nat.reduceLT, Nat.reduceLeDiff, Nat.reduceEqDiff, Nat.reduceBEq, Int.toNat_natCast, Int.reduceToNat, Int.reduceNeg, Int.reduceLT, Int.reduceLE, Int.reduceBEq, Int.reduceBNe, decide_true, decide_false, Bool.false_eq_true, false_imp_iff, Nat.lt_irrefl]
    refine ALoop.over [2, 5, 6, 7, 21, 22, 23, 24, 25, 26, 27, 28, 29, 30, 31, 32, 33, 34, 35, 36, 37, 38, 39, 40, 41, 42, 43, 44, 45, 46, 47, 48, 49, 50, 51, 52, 53, 54, 55, 56, 57, 58, 59, 60, 61, 62] (fun e h' => ∃ k : Nat, k ≤ s.length ∧ e.getD 5 .any = .int .i64 k ∧ lettersFrom s k = lettersFrom s 0) (fun e _ => s.length - natA (e.getD 5 .any)) ⟨0, by omega, rfl, rfl⟩ ?_
    simp only [List.length_cons, List.length_nil, Nat.reduceAdd, allL_succ, allL_zero]
    intro y2 y5 y6 y7 y21 y22 y23 y24 y25 y26 y27 y28 y29 y30 y31 y32 y33 y34 y35 y36 y37 y38 y39 y40 y41 y42 y43 y44 y45 y46 y47 y48 y49 y50 y51 y52 y53 y54 y55 y56 y57 y58 y59 y60 y61 y62 h2 hI
    simp only [go_sem] at hI
    obtain ⟨k, hk, rfl, hA⟩ := hI
    simp only [go_sem, Nat.reduceMul, Nat.reduceLT, Nat.reduceLeDiff, Nat.reduceEqDiff, Nat.reduceBEq, Int.toNat_natCast, Int.reduceToNat, Int.reduceNeg, Int.reduceLT, Int.reduceLE, Int.reduceBEq, Int.reduceBNe, decide_true, decide_false, Bool.false_eq_true, false_imp_iff, Nat.lt_irrefl]
    refine acond_intro (fun hc => ?_) (fun hc => ?_)
    · have hlt : k < s.length := by have := of_decide_eq_true hc; omega
      simp only [go_sem, Nat.reduceMul, Nat.reduceLT, Nat.reduceLeDiff, Nat.reduceEqDiff, Nat.reduceBEq, Int.toNat_natCast, Int.reduceToNat, Int.reduceNeg, Int.reduceLT, Int.reduceLE, Int.reduceBEq, Int.reduceBNe, decide_true, decide_false, Bool.false_eq_true, false_imp_iff, Nat.lt_irrefl]
      have hget : List.getD s k 0 = s[k] := by rw [List.getD_eq_getElem?_getD, List.getElem?_eq_getElem hlt]; rfl
      rw [hget]
      refine ⟨⟨by omega, by omega⟩, fun q => ⟨q, by omega, by omega⟩, ⟨by omega, by omega⟩, fun q => ⟨q, by omega, by omega⟩, fun q => ⟨q, by omega, by omega⟩, fun q => ⟨q, fun q2 => by rw [q, q2]; rfl⟩, ?_⟩
      have hst := letters_step s k hlt
      have hk0 : ((k : Int) == 0) = (k == 0) := by rw [Bool.eq_iff_iff]; simp
      have e1 : (((s[k]).toNat : Int) == 95) = ((s[k]).toNat == 95) := by rw [Bool.eq_iff_iff]; simp; omega
      have e2 : decide ((97 : Int) ≤ ((s[k]).toNat : Int)) = decide (97 ≤ (s[k]).toNat) := by congr 1; simp; omega
      have e3 : decide (((s[k]).toNat : Int) ≤ 122) = decide ((s[k]).toNat ≤ 122) := by congr 1; simp; omega
      have e4 : decide ((48 : Int) ≤ ((s[k]).toNat : Int)) = decide (48 ≤ (s[k]).toNat) := by congr 1; simp; omega
      have e5 : decide (((s[k]).toNat : Int) ≤ 57) = decide ((s[k]).toNat ≤ 57) := by congr 1; simp; omega
      refine acond_intro (fun hb => ?_) (fun hb => ?_)
      · have hl : letter (k == 0) s[k] = false := by
          rw [hk0, e1, e2, e3, e4, e5] at hb
          simp only [letter]
          revert hb
          cases decide (97 ≤ (s[k]).toNat) <;> cases decide ((s[k]).toNat ≤ 122) <;> cases decide (48 ≤ (s[k]).toNat) <;> cases decide ((s[k]).toNat ≤ 57) <;> cases ((s[k]).toNat == 95) <;> cases (k == 0) <;> simp
        simp only [go_sem, Nat.reduceMul, Nat.reduceLT, Nat.reduceLeDiff, Nat.reduceEqDiff, Nat.reduceBEq, Int.toNat_natCast, Int.reduceToNat, Int.reduceNeg, Int.reduceLT, Int.reduceLE, Int.reduceBEq, Int.reduceBNe, decide_true, decide_false, Bool.false_eq_true, false_imp_iff, Nat.lt_irrefl]
        refine Fin_plain ?_
        rw [hl, Bool.false_and] at hst
        rw [nameS, ← hA, hst, Bool.and_false]
      · have hl : letter (k == 0) s[k] = true := by
          rw [hk0, e1, e2, e3, e4, e5] at hb
          simp only [letter]
          revert hb
          cases decide (97 ≤ (s[k]).toNat) <;> cases decide ((s[k]).toNat ≤ 122) <;> cases decide (48 ≤ (s[k]).toNat) <;> cases decide ((s[k]).toNat ≤ 57) <;> cases ((s[k]).toNat == 95) <;> cases (k == 0) <;> simp
        simp only [go_sem, Nat.reduceMul, Nat.reduceLT, Nat.reduceLeDiff, Nat.reduceEqDiff, Nat.reduceBEq, Int.toNat_natCast, Int.reduceToNat, Int.reduceNeg, Int.reduceLT, Int.reduceLE, Int.reduceBEq, Int.reduceBNe, decide_true, decide_false, Bool.false_eq_true, false_imp_iff, Nat.lt_irrefl]
        rw [hl, Bool.true_and] at hst
        rw [wrap_id (by omega) (by omega)]
        exact ⟨⟨k + 1, by omega, rfl, by rw [← hst, hA]⟩, by omega⟩
    · have hge : k = s.length := by have := of_decide_eq_false hc; omega
      subst hge
      rw [letters_end] at hA
      simp only [go_sem, Nat.reduceMul, Nat.reduceLT, Nat.reduceLeDiff, Nat.reduceEqDiff, Nat.reduceBEq, Int.toNat_natCast, Int.reduceToNat, Int.reduceNeg, Int.reduceLT, Int.reduceLE, Int.reduceBEq, Int.reduceBNe, decide_true, decide_false, Bool.false_eq_true, false_imp_iff, Nat.lt_irrefl]
      refine Fin_plain ?_
      have e1 : decide ((1 : Int) ≤ (s.length : Int)) = !(s == ([] : Str)) := by
        cases s with
        | nil => rfl
        | cons a s => simp; omega
      have e2 : decide ((s.length : Int) ≤ 12) = decide (s.length ≤ 12) := by congr 1; simp; omega
      rw [nameS, hm, ← hA, e1, e2]
      cases (!(s == ([] : Str))) <;> simp
end Go.Proofs.Vale

set_option linter.unusedVariables false
set_option linter.unusedSimpArgs false
set_option maxRecDepth 100000
namespace Go.Proofs.Vale
open Go.Proofs

theorem ix_get (b : List Str) (hn : b.Nodup) (k : Nat) (hk : k < b.length) : ix b b[k] = k :=
  ix_eq b b[k] k (by omega) (fun j hj q => by
    have e : b[j] ≠ b[k] := (List.pairwise_iff_getElem.1 hn) j k hj hk q
    have e : b[k] ≠ b[j] := fun q => e q.symm
    simpa using e) (fun _ => by simp)
theorem ix_at (b : List Str) (s : Str) (h : ix b s < b.length) : b[ix b s] = s := by
  obtain ⟨p, h1, h2⟩ := ix_split b s h
  have key : ∀ i, p.length = i → b[i]? = some s := by
    intro i hi
    rw [h1, List.getElem?_append_right (by omega), hi, Nat.sub_self]; rfl
  have this := key _ h2
  rw [List.getElem?_eq_getElem h] at this; injection this
/-- Of a list of which no two are alike: the document's way and the program's are one. -/
theorem rsub_eq (b : List Str) (hn : b.Nodup) : ∀ (a : List Str) (n : Nat), rsub b ((n : Int) - 1) a = subS a (b.drop n)
  | [], n => by simp [rsub, subS]
  | x :: a, n => by
    rw [rsub, subS]
    by_cases h : x ∈ b ∧ ((n : Int) - 1) < (ix b x : Int)
    · have hlt := (ix_lt b x).2 h.1
      have hat := ix_at b x hlt
      have hd : ix (b.drop n) x = ix b x - n := by
        refine ix_eq (b.drop n) x _ (by rw [List.length_drop]; omega) (fun j hj q => ?_) (fun hj => ?_)
        · rw [List.getElem_drop]
          have hj2 : n + j < b.length := by rw [List.length_drop] at hj; omega
          cases e : (x == b[n + j]) with
          | false => rfl
          | true =>
            exfalso
            have e2 : x = b[n + j] := by simpa using e
            have := ix_get b hn (n + j) hj2
            rw [← e2] at this; omega
        · rw [List.getElem_drop]
          have : n + (ix b x - n) = ix b x := by omega
          simp only [this, hat]; simp
      rw [if_pos h, if_pos (by rw [hd, List.length_drop]; omega), hd, List.drop_drop]
      have := rsub_eq b hn a (ix b x + 1)
      rw [show ((ix b x + 1 : Nat) : Int) - 1 = (ix b x : Int) by omega] at this
      rw [this, show n + (ix b x - n + 1) = ix b x + 1 by omega]
    · rw [if_neg h, if_neg]
      intro q
      apply h
      have hm := (ix_lt _ _).1 q
      obtain ⟨j, hj, e⟩ := List.getElem_of_mem hm
      rw [List.getElem_drop] at e
      have hj2 : n + j < b.length := by rw [List.length_drop] at hj; omega
      have := ix_get b hn (n + j) hj2
      rw [e] at this
      exact ⟨List.mem_of_mem_drop hm, by omega⟩
end Go.Proofs.Vale
