/- YtchboekipfpheaaDoorVLexQ: a text of the proof of this claim, by its prover. -/
import Derived.Test.YtchboekipfpheaaDoorVLexP
set_option linter.unusedVariables false
set_option linter.unusedSimpArgs false
set_option maxHeartbeats 4000000
set_option maxRecDepth 100000
namespace Go.Proofs.Vale
open Go.Proofs Go.Proofs.YtchboekipfpheaaDoorT
attribute [local irreducible] acode aopsL aopsT dopsL dopsT dmL dmT pop popG aop ALoop ADraw ACall AWP AFin acondT ALoopT ADrawT ACallT doP doG doGd

/-! ### alive -/
def liveS : Str := [115, 117, 109, 40, 120, 95, 49, 41, 60, 45, 52, 48, 44, 32, 34, 97, 32, 98, 34]
def liveL : List Tok := [(0, [115, 117, 109], 0), (3, [40], 0), (0, [120, 95, 49], 0), (3, [41], 0), (3, [60], 0), (1, [45, 52, 48], -40), (3, [44], 0), (2, [97, 32, 98], 0)]
theorem live_tokens : tokensS liveS = some liveL := by kernel_rfl
theorem live_text : textS liveL = [115, 117, 109, 32, 40, 32, 120, 95, 49, 32, 41, 32, 60, 32, 45, 52, 48, 32, 44, 32, 34, 97, 32, 98, 34] := by kernel_rfl
theorem live_few : few liveL := ⟨by decide, by decide⟩
theorem alive_ok (h : List AObj) : ACall Tryd.prog 7 [] h (fun r _ => r = .bool true) := by
  (refine ACall.of_code Tryd.func7 rfl ?_; simp only [Tryd.f7]; simp only [go_sem, Nat.reduceMul, Nat.reduceLT, Nat.reduceLeDiff, Nat.reduceEqDiff, Nat.reduceBEq, Int.toNat_natCast, Int.reduceToNat, Int.reduceNeg, Int.reduceLT, Int.reduceLE, Int.reduceBEq, Int.reduceBNe, decide_true, decide_false, Bool.false_eq_true, false_imp_iff, Nat.lt_irrefl])
  refine ACallT.frame (tokens_ok liveS _ (by decide)) ?_
  intro r h2 hr
  rw [live_tokens] at hr
  obtain ⟨c, rfl⟩ := hr
  refine ⟨by simp [AV.low, lowL, low_toks], ?_⟩
  have g0 : (toks liveL).getD 0 .any = .agg [.int .i64 0, .str [115, 117, 109], .int .i64 0] := rfl
  have g5 : (toks liveL).getD 5 .any = .agg [.int .i64 1, .str [45, 52, 48], .int .i64 (-40)] := rfl
  have g7 : (toks liveL).getD 7 .any = .agg [.int .i64 2, .str [97, 32, 98], .int .i64 0] := rfl
  have hn : (toks liveL).length = 8 := rfl
  have hn2 : liveL.length = 8 := rfl
  have h8 : (((8 : Nat) : Int) == 8) = true := rfl
  simp only [go_sem, g0, g5, g7, hn, hn2, h8, cond_true, Nat.reduceMul, Nat.reduceLT, Nat.reduceLeDiff, Nat.reduceEqDiff, Nat.reduceBEq, Int.toNat_natCast, Int.reduceToNat, Int.reduceNeg, Int.reduceLT, Int.reduceLE, Int.reduceBEq, Int.reduceBNe, decide_true, decide_false, Bool.false_eq_true, false_imp_iff, Nat.lt_irrefl]
  refine ⟨by decide, by decide, by decide, ?_⟩
  refine ACallT.frame (text_ok liveL c _ live_few) ?_
  rintro r h3 rfl
  refine ⟨rfl, ?_⟩
  rw [live_text]
  simp only [go_sem, cond_true, Nat.reduceMul, Nat.reduceLT, Nat.reduceLeDiff, Nat.reduceEqDiff, Nat.reduceBEq, Int.toNat_natCast, Int.reduceToNat, Int.reduceNeg, Int.reduceLT, Int.reduceLE, Int.reduceBEq, Int.reduceBNe, decide_true, decide_false, Bool.false_eq_true, false_imp_iff, Nat.lt_irrefl]
  exact Fin_plain rfl
theorem next_text (s : Str) (t : Tok) (k : Nat) (h : nextS s = some (t, k)) : t.2.1.length ≤ s.length := by
  unfold nextS at h
  split at h
  · cases h
  · rename_i c r
    split at h
    · injection h with h; injection h with h1 h2; subst h1
      exact (List.take_prefix _ _).length_le
    · split at h
      · injection h with h; injection h with h1 h2; subst h1
        exact (List.take_prefix _ _).length_le
      · split at h
        · unfold quotedS at h
          split at h
          · injection h with h; injection h with h1 h2; subst h1
            simp only [List.length_take, List.length_drop]; omega
          · cases h
        · split at h
          · split at h
            · injection h with h; injection h with h1 h2; subst h1
              exact (List.take_prefix _ _).length_le
            · cases h
          · cases h
theorem tokF_few : ∀ (n : Nat) (s : Str) (L : List Tok), tokF n s = some L → L.length ≤ n ∧ ∀ t ∈ L, t.2.1.length ≤ s.length
  | n, [], L, h => by
    have h1 : tokF n [] = some [] := by cases n <;> rfl
    rw [h1] at h; injection h with h; subst h; simp
  | 0, _ :: _, L, h => by cases h
  | n + 1, c :: r, L, h => by
    rw [tokF] at h
    rcases hn : nextS (c :: r) with _ | ⟨t, k⟩
    · rw [hn] at h; cases h
    · rw [hn] at h
      simp only at h
      rcases hr : tokF n (trimG ((c :: r).drop k)) with _ | L'
      · rw [hr] at h; cases h
      · rw [hr] at h
        injection h with h
        subst h
        obtain ⟨h1, h2⟩ := tokF_few n _ L' hr
        have h3 := trimG_le ((c :: r).drop k)
        have h4 : ((c :: r).drop k).length ≤ (c :: r).length := by rw [List.length_drop]; omega
        refine ⟨by simp; omega, fun u hu => ?_⟩
        rcases List.mem_cons.1 hu with rfl | hu
        · exact next_text _ _ _ hn
        · exact Nat.le_trans (h2 u hu) (Nat.le_trans h3 h4)
theorem tokens_few (s : Str) (L : List Tok) (h : tokensS s = some L) : few L := by
  unfold tokensS at h
  split at h
  · cases h
  · obtain ⟨h1, h2⟩ := tokF_few _ _ _ h
    have := trimG_le s
    exact ⟨by omega, fun t ht => by have := h2 t ht; omega⟩
theorem tells_law (s : Str) (h : List AObj) : ACall Tryd.prog 3 [.str s] h (fun r _ => r = .bool true) := by
  (refine ACall.of_code Tryd.func3 rfl ?_; simp only [Tryd.f3]; simp only [go_sem, Nat.reduceMul, Nat.reduceLT, Nat.reduceLeDiff, Nat.reduceEqDiff, Nat.reduceBEq, Int.toNat_natCast, Int.reduceToNat, Int.reduceNeg, Int.reduceLT, Int.reduceLE, Int.reduceBEq, Int.reduceBNe, decide_true, decide_false, Bool.false_eq_true, false_imp_iff, Nat.lt_irrefl])
  generalize hz : decide ((500 : Int) < (s.length : Int)) = z
  cases z with
  | true =>
    simp only [go_sem, Nat.reduceMul, Nat.reduceLT, Nat.reduceLeDiff, Nat.reduceEqDiff, Nat.reduceBEq, Int.toNat_natCast, Int.reduceToNat, Int.reduceNeg, Int.reduceLT, Int.reduceLE, Int.reduceBEq, Int.reduceBNe, decide_true, decide_false, Bool.false_eq_true, false_imp_iff, Nat.lt_irrefl]
    refine ACallT.frame (alive_ok _) ?_
    rintro r h2 rfl
    refine ⟨rfl, ?_⟩
    simp only [go_sem, Nat.reduceMul, Nat.reduceLT, Nat.reduceLeDiff, Nat.reduceEqDiff, Nat.reduceBEq, Int.toNat_natCast, Int.reduceToNat, Int.reduceNeg, Int.reduceLT, Int.reduceLE, Int.reduceBEq, Int.reduceBNe, decide_true, decide_false, Bool.false_eq_true, false_imp_iff, Nat.lt_irrefl]
    exact Fin_plain rfl
  | false =>
    have := of_decide_eq_false hz
    simp only [go_sem, Nat.reduceMul, Nat.reduceLT, Nat.reduceLeDiff, Nat.reduceEqDiff, Nat.reduceBEq, Int.toNat_natCast, Int.reduceToNat, Int.reduceNeg, Int.reduceLT, Int.reduceLE, Int.reduceBEq, Int.reduceBNe, decide_true, decide_false, Bool.false_eq_true, false_imp_iff, Nat.lt_irrefl]
    refine ACallT.frame (tokens_ok s _ (by omega)) ?_
    intro r h2 hr
    rcases hT : tokensS s with _ | L
    · rw [hT] at hr
      simp only [toksK] at hr
      subst hr
      refine ⟨by simp [AV.low, lowL], ?_⟩
      simp only [go_sem, Nat.reduceMul, Nat.reduceLT, Nat.reduceLeDiff, Nat.reduceEqDiff, Nat.reduceBEq, Int.toNat_natCast, Int.reduceToNat, Int.reduceNeg, Int.reduceLT, Int.reduceLE, Int.reduceBEq, Int.reduceBNe, decide_true, decide_false, Bool.false_eq_true, false_imp_iff, Nat.lt_irrefl]
      refine ACallT.frame (rtokens_ok s _ (by omega)) ?_
      intro r h2 hr
      rw [tokens_eq, hT] at hr
      simp only [toksK] at hr
      subst hr
      refine ⟨by simp [AV.low, lowL], ?_⟩
      simp only [go_sem, Nat.reduceMul, Nat.reduceLT, Nat.reduceLeDiff, Nat.reduceEqDiff, Nat.reduceBEq, Int.toNat_natCast, Int.reduceToNat, Int.reduceNeg, Int.reduceLT, Int.reduceLE, Int.reduceBEq, Int.reduceBNe, decide_true, decide_false, Bool.false_eq_true, false_imp_iff, Nat.lt_irrefl]
      refine ACallT.frame (alive_ok _) ?_
      rintro r h2 rfl
      refine ⟨rfl, ?_⟩
      simp only [go_sem, Nat.reduceMul, Nat.reduceLT, Nat.reduceLeDiff, Nat.reduceEqDiff, Nat.reduceBEq, Int.toNat_natCast, Int.reduceToNat, Int.reduceNeg, Int.reduceLT, Int.reduceLE, Int.reduceBEq, Int.reduceBNe, decide_true, decide_false, Bool.false_eq_true, false_imp_iff, Nat.lt_irrefl]
      refine ACallT.by (same_ok [] [] true true _ (by simp) (by simp)) ?_
      rintro r h2 ⟨rfl, rfl⟩
      simp only [go_sem, Nat.reduceMul, Nat.reduceLT, Nat.reduceLeDiff, Nat.reduceEqDiff, Nat.reduceBEq, Int.toNat_natCast, Int.reduceToNat, Int.reduceNeg, Int.reduceLT, Int.reduceLE, Int.reduceBEq, Int.reduceBNe, decide_true, decide_false, Bool.false_eq_true, false_imp_iff, Nat.lt_irrefl]
      exact Fin_plain rfl
    · have hf := tokens_few s L hT
      have hf1 := hf.1
      rw [hT] at hr
      simp only [toksK] at hr
      obtain ⟨c, rfl⟩ := hr
      refine ⟨by simp [AV.low, lowL, low_toks], ?_⟩
      simp only [go_sem, Nat.reduceMul, Nat.reduceLT, Nat.reduceLeDiff, Nat.reduceEqDiff, Nat.reduceBEq, Int.toNat_natCast, Int.reduceToNat, Int.reduceNeg, Int.reduceLT, Int.reduceLE, Int.reduceBEq, Int.reduceBNe, decide_true, decide_false, Bool.false_eq_true, false_imp_iff, Nat.lt_irrefl]
      refine ACallT.frame (rtokens_ok s _ (by omega)) ?_
      intro r h2 hr
      rw [tokens_eq, hT] at hr
      simp only [toksK] at hr
      obtain ⟨c2, rfl⟩ := hr
      refine ⟨by simp [AV.low, lowL, low_toks], ?_⟩
      simp only [go_sem, Nat.reduceMul, Nat.reduceLT, Nat.reduceLeDiff, Nat.reduceEqDiff, Nat.reduceBEq, Int.toNat_natCast, Int.reduceToNat, Int.reduceNeg, Int.reduceLT, Int.reduceLE, Int.reduceBEq, Int.reduceBNe, decide_true, decide_false, Bool.false_eq_true, false_imp_iff, Nat.lt_irrefl]
      refine ACallT.frame (alive_ok _) ?_
      rintro r h2 rfl
      refine ⟨rfl, ?_⟩
      simp only [go_sem, Nat.reduceMul, Nat.reduceLT, Nat.reduceLeDiff, Nat.reduceEqDiff, Nat.reduceBEq, Int.toNat_natCast, Int.reduceToNat, Int.reduceNeg, Int.reduceLT, Int.reduceLE, Int.reduceBEq, Int.reduceBNe, decide_true, decide_false, Bool.false_eq_true, false_imp_iff, Nat.lt_irrefl]
      refine ACallT.by (same_ok L L c c2 _ (by omega) (by omega)) ?_
      rintro r h2 ⟨rfl, rfl⟩
      simp only [go_sem, Nat.reduceMul, Nat.reduceLT, Nat.reduceLeDiff, Nat.reduceEqDiff, Nat.reduceBEq, Int.toNat_natCast, Int.reduceToNat, Int.reduceNeg, Int.reduceLT, Int.reduceLE, Int.reduceBEq, Int.reduceBNe, decide_true, decide_false, Bool.false_eq_true, false_imp_iff, Nat.lt_irrefl]
      refine Fin_plain ?_
      simp
end Go.Proofs.Vale
