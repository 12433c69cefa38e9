/- YtinajnnflgpjbaaVDictE: a text of the proof of this claim, by its prover. -/
import Derived.Test.YtinajnnflgpjbaaVDictD
set_option linter.unusedVariables false
set_option linter.unusedSimpArgs false
set_option maxHeartbeats 4000000
set_option maxRecDepth 100000
namespace Go.Proofs.Vale
open Go.Proofs Go.Proofs.YtinajnnflgpjbaaT
attribute [local irreducible] acode aopsL aopsT dopsL dopsT pop popG aop ALoop ADraw ACall AWP AFin acondT ALoopT ADrawT ACallT doP doG doGd

theorem getD_nat {s : Str} {k : Nat} (h : k < s.length) : s.getD k 0 = s[k] := by rw [List.getD_eq_getElem?_getD, List.getElem?_eq_getElem h]; rfl
theorem rbytes_ok (c : Bool) (m : List Str) (h : List AObj) (hl : m.length ≤ 100000) (hs : ∀ s ∈ m, s.length ≤ 100000) : ACall Try.prog 35 [.fz c (strs m)] h (fun r _ => r = .fz false (bytesA (bytesF m))) := by
  (refine ACall.of_code Try.func35 rfl ?_; simp only [Try.f35]; simp only [go_sem, Nat.reduceMul, Nat.reduceLT, Nat.reduceLeDiff, Nat.reduceEqDiff, Nat.reduceBEq, Int.toNat_natCast, Int.reduceToNat, Int.reduceNeg, Int.reduceLT, Int.reduceLE, Int.reduceBEq, Int.reduceBNe, decide_true, decide_false, Bool.false_eq_true, false_imp_iff, Nat.lt_irrefl])
  refine ACallT.by (rint_own m.length _ (by omega)) ?_
  rintro _ h1 ⟨t1, g1, rfl, hg1⟩
  simp only [go_sem, Nat.reduceMul, Nat.reduceLT, Nat.reduceLeDiff, Nat.reduceEqDiff, Nat.reduceBEq, Int.toNat_natCast, Int.reduceToNat, Int.reduceNeg, Int.reduceLT, Int.reduceLE, Int.reduceBEq, Int.reduceBNe, decide_true, decide_false, Bool.false_eq_true, false_imp_iff, Nat.lt_irrefl]
  have hvl := vb_len (2 * m.length) (by omega)
  refine ALoop.over [3, 4, 5, 6, 10, 11, 12, 13, 14, 15, 16, 17, 18, 19, 20, 21, 22, 23, 24, 25, 26, 27, 28, 29, 30, 31, 32, 33, 34, 35, 36, 37, 38, 39, 40, 41, 42, 43, 44, 45, 46, 47, 48, 49, 50, 51, 52, 53, 54, 55, 56, 57, 58, 59] (fun e h' => ∃ (k t g : Nat) (pre : Str), k ≤ m.length ∧ e.getD 5 .any = .int .i64 k ∧ e.getD 3 .any = .sl t g 1 0 pre.length ∧ h'[t]? = some (.arr g 1 (bytesA pre)) ∧ e.getD 4 .any = .str ((m.take k).getLastD []) ∧ vb (2 * m.length) ++ encF [] (m.take k) = pre) (fun e _ => m.length - natA (e.getD 5 .any)) ⟨0, t1, g1, vb (2 * m.length), by simp, rfl, rfl, hg1, by simp, by simp [encF]⟩ ?_
  simp only [List.length_cons, List.length_nil, Nat.reduceAdd, allL_succ, allL_zero]
  intro y3 y4 y5 y6 y10 y11 y12 y13 y14 y15 y16 y17 y18 y19 y20 y21 y22 y23 y24 y25 y26 y27 y28 y29 y30 y31 y32 y33 y34 y35 y36 y37 y38 y39 y40 y41 y42 y43 y44 y45 y46 y47 y48 y49 y50 y51 y52 y53 y54 y55 y56 y57 y58 y59 h' hI
  simp only [go_sem] at hI
  obtain ⟨k, t, g, pre, hk, rfl, rfl, hg, rfl, hpre⟩ := hI
  simp only [go_sem, Nat.reduceMul, Nat.reduceLT, Nat.reduceLeDiff, Nat.reduceEqDiff, Nat.reduceBEq, Int.toNat_natCast, Int.reduceToNat, Int.reduceNeg, Int.reduceLT, Int.reduceLE, Int.reduceBEq, Int.reduceBNe, decide_true, decide_false, Bool.false_eq_true, false_imp_iff, Nat.lt_irrefl]
  refine acond_intro (fun hc => ?_) (fun hc => ?_)
  · have hlt : k < m.length := by have := of_decide_eq_true hc; omega
    have hkl : m[k].length ≤ 100000 := hs _ (List.getElem_mem _)
    have hpl : (m.take k).getLastD [] = [] ∨ (m.take k).getLastD [] ∈ m := by
      cases q : m.take k with
      | nil => exact .inl rfl
      | cons a r =>
        right
        have : (a :: r).getLastD [] ∈ a :: r := by rw [List.getLastD_eq_getLast?, List.getLast?_eq_some_getLast (by simp)]; exact List.getLast_mem _
        rw [← q] at this ⊢
        exact List.mem_of_mem_take this
    have hpl2 : ((m.take k).getLastD []).length ≤ 100000 := by
      rcases hpl with e | e
      · rw [e]; simp
      · exact hs _ e
    have hel := encF_len (m.take k) [] 100000 (by omega) fun s hq => hs s (List.mem_of_mem_take hq)
    have hel2 : (encF [] (m.take k)).length ≤ 100000 * 100020 := Nat.le_trans hel (Nat.mul_le_mul_right _ (by simp; omega))
    generalize hla : (m.take k).getLastD [] = la at *
    have hprel : pre.length ≤ 100000 * 100020 + 10 := by rw [← hpre, List.length_append]; omega
    simp only [go_sem, Nat.reduceMul, Nat.reduceLT, Nat.reduceLeDiff, Nat.reduceEqDiff, Nat.reduceBEq, Int.toNat_natCast, Int.reduceToNat, Int.reduceNeg, Int.reduceLT, Int.reduceLE, Int.reduceBEq, Int.reduceBNe, decide_true, decide_false, Bool.false_eq_true, false_imp_iff, Nat.lt_irrefl]
    refine ALoop.over [6, 16, 17, 18, 19, 20, 21, 22, 23, 24, 25, 26, 27, 28, 29, 30, 31, 32, 33, 34, 35, 36, 37, 38, 39, 40, 41, 42] (fun e h2 => h2 = h' ∧ ∃ n : Nat, n ≤ la.length ∧ n ≤ m[k].length ∧ e.getD 6 .any = .int .i64 n ∧ la.take n = m[k].take n) (fun e _ => la.length - natA (e.getD 6 .any)) ⟨rfl, 0, by simp, by simp, rfl, by simp⟩ ?_
    simp only [List.length_cons, List.length_nil, Nat.reduceAdd, allL_succ, allL_zero]
    intro y6 y16 y17 y18 y19 y20 y21 y22 y23 y24 y25 y26 y27 y28 y29 y30 y31 y32 y33 y34 y35 y36 y37 y38 y39 y40 y41 y42 h2 hI
    simp only [go_sem] at hI
    obtain ⟨rfl, n, hn1, hn2, rfl, hpn⟩ := hI
    simp only [go_sem, Nat.reduceMul, Nat.reduceLT, Nat.reduceLeDiff, Nat.reduceEqDiff, Nat.reduceBEq, Int.toNat_natCast, Int.reduceToNat, Int.reduceNeg, Int.reduceLT, Int.reduceLE, Int.reduceBEq, Int.reduceBNe, decide_true, decide_false, Bool.false_eq_true, false_imp_iff, Nat.lt_irrefl]
    refine ADrawT.quiet mixedOrdersD (by kernel_rfl) ?_
    simp only [go_sem, strs_get m k hlt, Nat.reduceMul, Nat.reduceLT, Nat.reduceLeDiff, Nat.reduceEqDiff, Nat.reduceBEq, Int.toNat_natCast, Int.reduceToNat, Int.reduceNeg, Int.reduceLT, Int.reduceLE, Int.reduceBEq, Int.reduceBNe, decide_true, decide_false, Bool.false_eq_true, false_imp_iff, Nat.lt_irrefl]
    generalize hb1 : decide ((n : Int) < (la.length : Int)) = b1
    cases b1 with
    | false =>
      have hge := of_decide_eq_false hb1
      simp only [go_sem, strs_get m k hlt, Nat.reduceMul, Nat.reduceLT, Nat.reduceLeDiff, Nat.reduceEqDiff, Nat.reduceBEq, Int.toNat_natCast, Int.reduceToNat, Int.reduceNeg, Int.reduceLT, Int.reduceLE, Int.reduceBEq, Int.reduceBNe, decide_true, decide_false, Bool.false_eq_true, false_imp_iff, Nat.lt_irrefl]
      have hn : cmn la m[k] = n := cmn_spec la m[k] n hn1 hn2 hpn (fun p q => by omega)
      -- the piece behind
      have hvn := vb_len (2 * n) (by omega)
      have hdl : (List.drop n m[k]).length = m[k].length - n := by simp
      have hvd := vb_len (2 * (List.drop n m[k]).length) (by omega)
      (refine ACallT.frame (rint_fz n _ (by omega)) ?_; refine fun _ _ e => ?_; subst e; refine ⟨by (first | rfl | (simp only [AV.low, lowL, low_strs, low_bytes, Bool.and_true, Bool.and_self])), ?_⟩; simp only [go_sem, Nat.reduceMul, Nat.reduceLT, Nat.reduceLeDiff, Nat.reduceEqDiff, Nat.reduceBEq, Int.toNat_natCast, Int.reduceToNat, Int.reduceNeg, Int.reduceLT, Int.reduceLE, Int.reduceBEq, Int.reduceBNe, decide_true, decide_false, Bool.false_eq_true, false_imp_iff, Nat.lt_irrefl])
      simp only [go_sem, hg, strs_get m k hlt, Nat.reduceMul, Nat.reduceLT, Nat.reduceLeDiff, Nat.reduceEqDiff, Nat.reduceBEq, Int.toNat_natCast, Int.reduceToNat, Int.reduceNeg, Int.reduceLT, Int.reduceLE, Int.reduceBEq, Int.reduceBNe, decide_true, decide_false, Bool.false_eq_true, false_imp_iff, Nat.lt_irrefl]
      refine ⟨⟨by omega, by omega, okEl_bytes _⟩, ⟨by omega, by omega⟩, ⟨by omega, by omega, by omega⟩, ?_⟩
      have hg3 : (h2.set t (AObj.arr (g + 1) 1 (bytesA pre ++ bytesA (vb (2 * n)))))[t]? = some (.arr (g + 1) 1 (bytesA (pre ++ vb (2 * n)))) := by
        rw [List.getElem?_set_self (List.getElem?_eq_some_iff.1 hg).1, bytesA_app]
      generalize h2.set t (AObj.arr (g + 1) 1 (bytesA pre ++ bytesA (vb (2 * n)))) = h3 at *
      (refine ACallT.frame (rtext_fz (List.drop n m[k]) _ (by omega)) ?_; refine fun _ _ e => ?_; subst e; refine ⟨by (first | rfl | (simp only [AV.low, lowL, low_strs, low_bytes, Bool.and_true, Bool.and_self])), ?_⟩; simp only [go_sem, Nat.reduceMul, Nat.reduceLT, Nat.reduceLeDiff, Nat.reduceEqDiff, Nat.reduceBEq, Int.toNat_natCast, Int.reduceToNat, Int.reduceNeg, Int.reduceLT, Int.reduceLE, Int.reduceBEq, Int.reduceBNe, decide_true, decide_false, Bool.false_eq_true, false_imp_iff, Nat.lt_irrefl])
      simp only [go_sem, hg3, strs_get m k hlt, Nat.reduceMul, Nat.reduceLT, Nat.reduceLeDiff, Nat.reduceEqDiff, Nat.reduceBEq, Int.toNat_natCast, Int.reduceToNat, Int.reduceNeg, Int.reduceLT, Int.reduceLE, Int.reduceBEq, Int.reduceBNe, decide_true, decide_false, Bool.false_eq_true, false_imp_iff, Nat.lt_irrefl]
      refine ⟨⟨by omega, by omega, okEl_bytes _⟩, ⟨by omega, by omega⟩, ?_⟩
      rw [wrap_id (by omega) (by omega)]
      refine ⟨⟨k + 1, t, g + 1 + 1, pre ++ vb (2 * n) ++ (vb (2 * (List.drop n m[k]).length) ++ List.drop n m[k]), by omega, rfl, ?_, ?_, ?_, ?_⟩, by omega⟩
      · simp only [List.length_append, hdl]
      · rw [List.getElem?_set_self (List.getElem?_eq_some_iff.1 hg3).1, bytesA_app]
      · rw [List.take_succ_eq_append_getElem hlt, List.getLastD_concat]
      · rw [← hpre, List.take_succ_eq_append_getElem hlt, encF_app, hla, hn]; simp [List.append_assoc]
    | true =>
      have hlt1 := of_decide_eq_true hb1
      simp only [go_sem, strs_get m k hlt, Nat.reduceMul, Nat.reduceLT, Nat.reduceLeDiff, Nat.reduceEqDiff, Nat.reduceBEq, Int.toNat_natCast, Int.reduceToNat, Int.reduceNeg, Int.reduceLT, Int.reduceLE, Int.reduceBEq, Int.reduceBNe, decide_true, decide_false, Bool.false_eq_true, false_imp_iff, Nat.lt_irrefl]
      refine ⟨⟨by omega, by omega⟩, ?_⟩
      generalize hb2 : decide ((n : Int) < (m[k].length : Int)) = b2
      cases b2 with
      | false =>
        have hge := of_decide_eq_false hb2
        simp only [go_sem, strs_get m k hlt, Nat.reduceMul, Nat.reduceLT, Nat.reduceLeDiff, Nat.reduceEqDiff, Nat.reduceBEq, Int.toNat_natCast, Int.reduceToNat, Int.reduceNeg, Int.reduceLT, Int.reduceLE, Int.reduceBEq, Int.reduceBNe, decide_true, decide_false, Bool.false_eq_true, false_imp_iff, Nat.lt_irrefl]
        have hn : cmn la m[k] = n := cmn_spec la m[k] n hn1 hn2 hpn (fun p q => by omega)
        -- the piece behind
        have hvn := vb_len (2 * n) (by omega)
        have hdl : (List.drop n m[k]).length = m[k].length - n := by simp
        have hvd := vb_len (2 * (List.drop n m[k]).length) (by omega)
        (refine ACallT.frame (rint_fz n _ (by omega)) ?_; refine fun _ _ e => ?_; subst e; refine ⟨by (first | rfl | (simp only [AV.low, lowL, low_strs, low_bytes, Bool.and_true, Bool.and_self])), ?_⟩; simp only [go_sem, Nat.reduceMul, Nat.reduceLT, Nat.reduceLeDiff, Nat.reduceEqDiff, Nat.reduceBEq, Int.toNat_natCast, Int.reduceToNat, Int.reduceNeg, Int.reduceLT, Int.reduceLE, Int.reduceBEq, Int.reduceBNe, decide_true, decide_false, Bool.false_eq_true, false_imp_iff, Nat.lt_irrefl])
        simp only [go_sem, hg, strs_get m k hlt, Nat.reduceMul, Nat.reduceLT, Nat.reduceLeDiff, Nat.reduceEqDiff, Nat.reduceBEq, Int.toNat_natCast, Int.reduceToNat, Int.reduceNeg, Int.reduceLT, Int.reduceLE, Int.reduceBEq, Int.reduceBNe, decide_true, decide_false, Bool.false_eq_true, false_imp_iff, Nat.lt_irrefl]
        refine ⟨⟨by omega, by omega, okEl_bytes _⟩, ⟨by omega, by omega⟩, ⟨by omega, by omega, by omega⟩, ?_⟩
        have hg3 : (h2.set t (AObj.arr (g + 1) 1 (bytesA pre ++ bytesA (vb (2 * n)))))[t]? = some (.arr (g + 1) 1 (bytesA (pre ++ vb (2 * n)))) := by
          rw [List.getElem?_set_self (List.getElem?_eq_some_iff.1 hg).1, bytesA_app]
        generalize h2.set t (AObj.arr (g + 1) 1 (bytesA pre ++ bytesA (vb (2 * n)))) = h3 at *
        (refine ACallT.frame (rtext_fz (List.drop n m[k]) _ (by omega)) ?_; refine fun _ _ e => ?_; subst e; refine ⟨by (first | rfl | (simp only [AV.low, lowL, low_strs, low_bytes, Bool.and_true, Bool.and_self])), ?_⟩; simp only [go_sem, Nat.reduceMul, Nat.reduceLT, Nat.reduceLeDiff, Nat.reduceEqDiff, Nat.reduceBEq, Int.toNat_natCast, Int.reduceToNat, Int.reduceNeg, Int.reduceLT, Int.reduceLE, Int.reduceBEq, Int.reduceBNe, decide_true, decide_false, Bool.false_eq_true, false_imp_iff, Nat.lt_irrefl])
        simp only [go_sem, hg3, strs_get m k hlt, Nat.reduceMul, Nat.reduceLT, Nat.reduceLeDiff, Nat.reduceEqDiff, Nat.reduceBEq, Int.toNat_natCast, Int.reduceToNat, Int.reduceNeg, Int.reduceLT, Int.reduceLE, Int.reduceBEq, Int.reduceBNe, decide_true, decide_false, Bool.false_eq_true, false_imp_iff, Nat.lt_irrefl]
        refine ⟨⟨by omega, by omega, okEl_bytes _⟩, ⟨by omega, by omega⟩, ?_⟩
        rw [wrap_id (by omega) (by omega)]
        refine ⟨⟨k + 1, t, g + 1 + 1, pre ++ vb (2 * n) ++ (vb (2 * (List.drop n m[k]).length) ++ List.drop n m[k]), by omega, rfl, ?_, ?_, ?_, ?_⟩, by omega⟩
        · simp only [List.length_append, hdl]
        · rw [List.getElem?_set_self (List.getElem?_eq_some_iff.1 hg3).1, bytesA_app]
        · rw [List.take_succ_eq_append_getElem hlt, List.getLastD_concat]
        · rw [← hpre, List.take_succ_eq_append_getElem hlt, encF_app, hla, hn]; simp [List.append_assoc]
      | true =>
        have hlt2 := of_decide_eq_true hb2
        simp only [go_sem, strs_get m k hlt, Nat.reduceMul, Nat.reduceLT, Nat.reduceLeDiff, Nat.reduceEqDiff, Nat.reduceBEq, Int.toNat_natCast, Int.reduceToNat, Int.reduceNeg, Int.reduceLT, Int.reduceLE, Int.reduceBEq, Int.reduceBNe, decide_true, decide_false, Bool.false_eq_true, false_imp_iff, Nat.lt_irrefl]
        have hna : n < la.length := by omega
        have hnb : n < m[k].length := by omega
        refine ⟨⟨by omega, by omega⟩, ⟨by omega, by omega⟩, ⟨by omega, by omega⟩, ?_⟩
        refine acond_intro (fun hc2 => ?_) (fun hc2 => ?_)
        · have he : la[n] = m[k][n] := by
            rw [getD_nat hna, getD_nat hnb] at hc2
            have : (la[n].toNat : Int) = (m[k][n].toNat : Int) := by simpa using hc2
            exact UInt8.toNat_inj.1 (by omega)
          simp only [go_sem, Nat.reduceMul, Nat.reduceLT, Nat.reduceLeDiff, Nat.reduceEqDiff, Nat.reduceBEq, Int.toNat_natCast, Int.reduceToNat, Int.reduceNeg, Int.reduceLT, Int.reduceLE, Int.reduceBEq, Int.reduceBNe, decide_true, decide_false, Bool.false_eq_true, false_imp_iff, Nat.lt_irrefl]
          rw [wrap_id (by omega) (by omega)]
          refine ⟨⟨n + 1, by omega, by omega, rfl, ?_⟩, by omega⟩
          rw [List.take_succ_eq_append_getElem hna, List.take_succ_eq_append_getElem hnb, hpn, he]
        · have hn : cmn la m[k] = n := cmn_spec la m[k] n hn1 hn2 hpn (fun p q e => by
            rw [getD_nat hna, getD_nat hnb, e] at hc2; simp at hc2)
          simp only [go_sem, strs_get m k hlt, Nat.reduceMul, Nat.reduceLT, Nat.reduceLeDiff, Nat.reduceEqDiff, Nat.reduceBEq, Int.toNat_natCast, Int.reduceToNat, Int.reduceNeg, Int.reduceLT, Int.reduceLE, Int.reduceBEq, Int.reduceBNe, decide_true, decide_false, Bool.false_eq_true, false_imp_iff, Nat.lt_irrefl]
          -- the piece behind
          have hvn := vb_len (2 * n) (by omega)
          have hdl : (List.drop n m[k]).length = m[k].length - n := by simp
          have hvd := vb_len (2 * (List.drop n m[k]).length) (by omega)
          (refine ACallT.frame (rint_fz n _ (by omega)) ?_; refine fun _ _ e => ?_; subst e; refine ⟨by (first | rfl | (simp only [AV.low, lowL, low_strs, low_bytes, Bool.and_true, Bool.and_self])), ?_⟩; simp only [go_sem, Nat.reduceMul, Nat.reduceLT, Nat.reduceLeDiff, Nat.reduceEqDiff, Nat.reduceBEq, Int.toNat_natCast, Int.reduceToNat, Int.reduceNeg, Int.reduceLT, Int.reduceLE, Int.reduceBEq, Int.reduceBNe, decide_true, decide_false, Bool.false_eq_true, false_imp_iff, Nat.lt_irrefl])
          simp only [go_sem, hg, strs_get m k hlt, Nat.reduceMul, Nat.reduceLT, Nat.reduceLeDiff, Nat.reduceEqDiff, Nat.reduceBEq, Int.toNat_natCast, Int.reduceToNat, Int.reduceNeg, Int.reduceLT, Int.reduceLE, Int.reduceBEq, Int.reduceBNe, decide_true, decide_false, Bool.false_eq_true, false_imp_iff, Nat.lt_irrefl]
          refine ⟨⟨by omega, by omega, okEl_bytes _⟩, ⟨by omega, by omega⟩, ⟨by omega, by omega, by omega⟩, ?_⟩
          have hg3 : (h2.set t (AObj.arr (g + 1) 1 (bytesA pre ++ bytesA (vb (2 * n)))))[t]? = some (.arr (g + 1) 1 (bytesA (pre ++ vb (2 * n)))) := by
            rw [List.getElem?_set_self (List.getElem?_eq_some_iff.1 hg).1, bytesA_app]
          generalize h2.set t (AObj.arr (g + 1) 1 (bytesA pre ++ bytesA (vb (2 * n)))) = h3 at *
          (refine ACallT.frame (rtext_fz (List.drop n m[k]) _ (by omega)) ?_; refine fun _ _ e => ?_; subst e; refine ⟨by (first | rfl | (simp only [AV.low, lowL, low_strs, low_bytes, Bool.and_true, Bool.and_self])), ?_⟩; simp only [go_sem, Nat.reduceMul, Nat.reduceLT, Nat.reduceLeDiff, Nat.reduceEqDiff, Nat.reduceBEq, Int.toNat_natCast, Int.reduceToNat, Int.reduceNeg, Int.reduceLT, Int.reduceLE, Int.reduceBEq, Int.reduceBNe, decide_true, decide_false, Bool.false_eq_true, false_imp_iff, Nat.lt_irrefl])
          simp only [go_sem, hg3, strs_get m k hlt, Nat.reduceMul, Nat.reduceLT, Nat.reduceLeDiff, Nat.reduceEqDiff, Nat.reduceBEq, Int.toNat_natCast, Int.reduceToNat, Int.reduceNeg, Int.reduceLT, Int.reduceLE, Int.reduceBEq, Int.reduceBNe, decide_true, decide_false, Bool.false_eq_true, false_imp_iff, Nat.lt_irrefl]
          refine ⟨⟨by omega, by omega, okEl_bytes _⟩, ⟨by omega, by omega⟩, ?_⟩
          rw [wrap_id (by omega) (by omega)]
          refine ⟨⟨k + 1, t, g + 1 + 1, pre ++ vb (2 * n) ++ (vb (2 * (List.drop n m[k]).length) ++ List.drop n m[k]), by omega, rfl, ?_, ?_, ?_, ?_⟩, by omega⟩
          · simp only [List.length_append, hdl]
          · rw [List.getElem?_set_self (List.getElem?_eq_some_iff.1 hg3).1, bytesA_app]
          · rw [List.take_succ_eq_append_getElem hlt, List.getLastD_concat]
          · rw [← hpre, List.take_succ_eq_append_getElem hlt, encF_app, hla, hn]; simp [List.append_assoc]
  · simp only [go_sem, Nat.reduceMul, Nat.reduceLT, Nat.reduceLeDiff, Nat.reduceEqDiff, Nat.reduceBEq, Int.toNat_natCast, Int.reduceToNat, Int.reduceNeg, Int.reduceLT, Int.reduceLE, Int.reduceBEq, Int.reduceBNe, decide_true, decide_false, Bool.false_eq_true, false_imp_iff, Nat.lt_irrefl]
    have hge : k = m.length := by have := of_decide_eq_false hc; omega
    subst hge
    rw [List.take_length] at hpre
    refine Fin_freeze 4 ?_
    have : vb (2 * m.length) ++ encF [] m = bytesF m := rfl
    rw [← this, hpre]
    exact frz_one hg
end Go.Proofs.Vale
