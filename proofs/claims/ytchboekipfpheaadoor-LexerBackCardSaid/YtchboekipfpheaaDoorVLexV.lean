/- YtchboekipfpheaaDoorVLexV: a text of the proof of this claim, by its prover. -/
import Derived.Test.YtchboekipfpheaaDoorVLexU
set_option linter.unusedVariables false
set_option linter.unusedSimpArgs false
set_option maxHeartbeats 4000000
set_option maxRecDepth 100000
namespace Go.Proofs.Vale
open Go.Proofs Go.Proofs.YtchboekipfpheaaDoorT
attribute [local irreducible] acode aopsL aopsT dopsL dopsT dmL dmT pop popG aop ALoop ADraw ACall AWP AFin acondT ALoopT ADrawT ACallT doP doG doGd

/-! ### The law: Pieces -/
theorem toksK_any {o : Option (List Tok)} {r : AV} (h : toksK o r) : ∃ (c : Bool) (l : List Tok) (e : Int), r = .tup [.fz c (toks l), .int .i64 e] ∧ r.low 0 = true ∧ ((o = none ∧ e = 211 ∧ l = []) ∨ (o = some l ∧ e = 0)) := by
  cases o with
  | none => simp only [toksK] at h; exact ⟨true, [], 211, h, by rw [h]; simp [AV.low, lowL], .inl ⟨rfl, rfl, rfl⟩⟩
  | some l => obtain ⟨c, h⟩ := h; exact ⟨c, l, 0, h, by rw [h]; simp [AV.low, lowL, low_toks], .inr ⟨rfl, rfl⟩⟩
theorem pieces_ok (a b : Str) (h : List AObj) : ACall Tryd.prog 6 [.str a, .str b] h (fun r _ => r = .bool true) := by
  (refine ACall.of_code Tryd.func6 rfl ?_; simp only [Tryd.f6]; simp only [go_sem, Nat.reduceMul, Nat.reduceLT, Nat.reduceLeDiff, Nat.reduceEqDiff, Nat.reduceBEq, Int.toNat_natCast, Int.reduceToNat, Int.reduceNeg, Int.reduceLT, Int.reduceLE, Int.reduceBEq, Int.reduceBNe, decide_true, decide_false, Bool.false_eq_true, false_imp_iff, Nat.lt_irrefl])
  refine acond_intro (fun hc => ?_) (fun hc => ?_)
  · simp only [go_sem, Nat.reduceMul, Nat.reduceLT, Nat.reduceLeDiff, Nat.reduceEqDiff, Nat.reduceBEq, Int.toNat_natCast, Int.reduceToNat, Int.reduceNeg, Int.reduceLT, Int.reduceLE, Int.reduceBEq, Int.reduceBNe, decide_true, decide_false, Bool.false_eq_true, false_imp_iff, Nat.lt_irrefl]
    refine ACallT.frame (alive_ok _) ?_
    rintro r h2 rfl
    refine ⟨rfl, ?_⟩
    simp only [go_sem, Nat.reduceMul, Nat.reduceLT, Nat.reduceLeDiff, Nat.reduceEqDiff, Nat.reduceBEq, Int.toNat_natCast, Int.reduceToNat, Int.reduceNeg, Int.reduceLT, Int.reduceLE, Int.reduceBEq, Int.reduceBNe, decide_true, decide_false, Bool.false_eq_true, false_imp_iff, Nat.lt_irrefl]
    exact Fin_plain rfl
  have hab : a.length ≤ 500 ∧ b.length ≤ 500 ∧ a.length + b.length < 400 := by
    by_cases q1 : (500 : Int) < (a.length : Int)
    · simp [q1] at hc
    · by_cases q2 : (500 : Int) < (b.length : Int)
      · simp [q2] at hc
      · simp only [q1, q2, decide_false, cond_false] at hc
        rw [wrap_id (by omega) (by omega)] at hc
        have := of_decide_eq_false hc
        omega
  obtain ⟨ha, hb, hab⟩ := hab
  simp only [go_sem, Nat.reduceMul, Nat.reduceLT, Nat.reduceLeDiff, Nat.reduceEqDiff, Nat.reduceBEq, Int.toNat_natCast, Int.reduceToNat, Int.reduceNeg, Int.reduceLT, Int.reduceLE, Int.reduceBEq, Int.reduceBNe, decide_true, decide_false, Bool.false_eq_true, false_imp_iff, Nat.lt_irrefl]
  refine ACallT.frame (tokens_ok a _ (by omega)) ?_
  intro r h2 hr
  obtain ⟨c1, A, e1, rfl, hlow, hA⟩ := toksK_any hr
  refine ⟨hlow, ?_⟩
  simp only [go_sem, Nat.reduceMul, Nat.reduceLT, Nat.reduceLeDiff, Nat.reduceEqDiff, Nat.reduceBEq, Int.toNat_natCast, Int.reduceToNat, Int.reduceNeg, Int.reduceLT, Int.reduceLE, Int.reduceBEq, Int.reduceBNe, decide_true, decide_false, Bool.false_eq_true, false_imp_iff, Nat.lt_irrefl]
  refine ACallT.frame (tokens_ok b _ (by omega)) ?_
  intro r h2 hr
  obtain ⟨c2, B, e2, rfl, hlow, hB⟩ := toksK_any hr
  refine ⟨hlow, ?_⟩
  simp only [go_sem, Nat.reduceMul, Nat.reduceLT, Nat.reduceLeDiff, Nat.reduceEqDiff, Nat.reduceBEq, Int.toNat_natCast, Int.reduceToNat, Int.reduceNeg, Int.reduceLT, Int.reduceLE, Int.reduceBEq, Int.reduceBNe, decide_true, decide_false, Bool.false_eq_true, false_imp_iff, Nat.lt_irrefl]
  refine ⟨by first | omega | (simp; omega), by first | omega | (simp; omega), ?_⟩
  refine ACallT.frame (tokens_ok (a ++ 32 :: b) _ (by simp; omega)) ?_
  intro r h2 hr
  obtain ⟨c3, D, e3, rfl, hlow, hD⟩ := toksK_any hr
  refine ⟨hlow, ?_⟩
  have hlAD : A.length ≤ 400 ∧ B.length ≤ 400 ∧ D.length ≤ 400 := by
    have key : ∀ (o : Option (List Tok)) (l : List Tok) (e : Int), (∀ L, o = some L → L.length ≤ 400) → ((o = none ∧ e = 211 ∧ l = []) ∨ (o = some l ∧ e = 0)) → l.length ≤ 400 := by
      intro o l e h1 h2
      rcases h2 with ⟨_, _, rfl⟩ | ⟨h2, _⟩
      · simp
      · exact h1 l h2
    have bound : ∀ (s : Str) (L : List Tok), tokensS s = some L → L.length ≤ 400 := by
      intro s L h
      unfold tokensS at h
      split at h
      · cases h
      · have := (tokF_few _ _ _ h).1
        omega
    exact ⟨key _ _ _ (bound a) hA, key _ _ _ (bound b) hB, key _ _ _ (bound _) hD⟩
  simp only [go_sem, Nat.reduceMul, Nat.reduceLT, Nat.reduceLeDiff, Nat.reduceEqDiff, Nat.reduceBEq, Int.toNat_natCast, Int.reduceToNat, Int.reduceNeg, Int.reduceLT, Int.reduceLE, Int.reduceBEq, Int.reduceBNe, decide_true, decide_false, Bool.false_eq_true, false_imp_iff, Nat.lt_irrefl]
  refine acond_intro (fun hc2 => ?_) (fun hc2 => ?_)
  · simp only [go_sem, Nat.reduceMul, Nat.reduceLT, Nat.reduceLeDiff, Nat.reduceEqDiff, Nat.reduceBEq, Int.toNat_natCast, Int.reduceToNat, Int.reduceNeg, Int.reduceLT, Int.reduceLE, Int.reduceBEq, Int.reduceBNe, decide_true, decide_false, Bool.false_eq_true, false_imp_iff, Nat.lt_irrefl]
    refine ACallT.frame (alive_ok _) ?_
    rintro r h2 rfl
    refine ⟨rfl, ?_⟩
    simp only [go_sem, Nat.reduceMul, Nat.reduceLT, Nat.reduceLeDiff, Nat.reduceEqDiff, Nat.reduceBEq, Int.toNat_natCast, Int.reduceToNat, Int.reduceNeg, Int.reduceLT, Int.reduceLE, Int.reduceBEq, Int.reduceBNe, decide_true, decide_false, Bool.false_eq_true, false_imp_iff, Nat.lt_irrefl]
    exact Fin_plain rfl
  have h12 : e1 = 0 ∧ e2 = 0 := by
    by_cases q1 : e1 = 0
    · by_cases q2 : e2 = 0
      · exact ⟨q1, q2⟩
      · simp [q1, q2] at hc2
    · simp [q1] at hc2
  obtain ⟨rfl, rfl⟩ := h12
  have hA' : tokensS a = some A := by
    rcases hA with ⟨_, q, _⟩ | ⟨q, _⟩
    · cases q
    · exact q
  have hB' : tokensS b = some B := by
    rcases hB with ⟨_, q, _⟩ | ⟨q, _⟩
    · cases q
    · exact q
  have hp := pieces_law a b A B hA' hB' hab
  rw [show a ++ [32] ++ b = a ++ 32 :: b by simp] at hp
  obtain ⟨rfl, rfl⟩ : D = A ++ B ∧ e3 = 0 := by
    rcases hD with ⟨q, _⟩ | ⟨q, q2⟩
    · rw [hp] at q; cases q
    · rw [hp] at q; injection q with q; exact ⟨q.symm, q2⟩
  have hR := tokens_rightS a A hA'
  have hF := tokens_few a A hA'
  simp only [go_sem, Nat.reduceMul, Nat.reduceLT, Nat.reduceLeDiff, Nat.reduceEqDiff, Nat.reduceBEq, Int.toNat_natCast, Int.reduceToNat, Int.reduceNeg, Int.reduceLT, Int.reduceLE, Int.reduceBEq, Int.reduceBNe, decide_true, decide_false, Bool.false_eq_true, false_imp_iff, Nat.lt_irrefl]
  refine ALoop.over [4, 11, 54, 55, 56, 57, 58, 59, 60, 61, 62, 63, 64, 65] (fun e h' => h' = h ∧ ∃ k : Nat, k ≤ A.length ∧ e.getD 11 .any = .int .i64 (k : Int)) (fun e _ => A.length - natA (e.getD 11 .any)) ⟨rfl, 0, by omega, rfl⟩ ?_
  simp only [List.length_cons, List.length_nil, Nat.reduceAdd, allL_succ, allL_zero]
  intro y4 y11 y54 y55 y56 y57 y58 y59 y60 y61 y62 y63 y64 y65 h' hI
  simp only [go_sem] at hI
  obtain ⟨rfl, k, hk, rfl⟩ := hI
  simp only [go_sem, Nat.reduceMul, Nat.reduceLT, Nat.reduceLeDiff, Nat.reduceEqDiff, Nat.reduceBEq, Int.toNat_natCast, Int.reduceToNat, Int.reduceNeg, Int.reduceLT, Int.reduceLE, Int.reduceBEq, Int.reduceBNe, decide_true, decide_false, Bool.false_eq_true, false_imp_iff, Nat.lt_irrefl]
  refine acond_intro (fun hc => ?_) (fun hc => ?_)
  · have hlt : k < A.length := by have := of_decide_eq_true hc; omega
    have hg : (toks A).getD k .any = .agg [.int .i64 A[k].1, .str A[k].2.1, .int .i64 A[k].2.2] := toks_get A k hlt
    have hlk := few_get hF hlt
    simp only [go_sem, hg, Nat.reduceMul, Nat.reduceLT, Nat.reduceLeDiff, Nat.reduceEqDiff, Nat.reduceBEq, Int.toNat_natCast, Int.reduceToNat, Int.reduceNeg, Int.reduceLT, Int.reduceLE, Int.reduceBEq, Int.reduceBNe, decide_true, decide_false, Bool.false_eq_true, false_imp_iff, Nat.lt_irrefl]
    refine ⟨⟨by omega, by omega⟩, ?_⟩
    refine ACallT.frame (right_ok A[k] _ (by omega)) ?_
    rintro r h2 rfl
    refine ⟨rfl, ?_⟩
    rw [hR A[k] (List.getElem_mem _)]
    simp only [go_sem, Nat.reduceMul, Nat.reduceLT, Nat.reduceLeDiff, Nat.reduceEqDiff, Nat.reduceBEq, Int.toNat_natCast, Int.reduceToNat, Int.reduceNeg, Int.reduceLT, Int.reduceLE, Int.reduceBEq, Int.reduceBNe, decide_true, decide_false, Bool.false_eq_true, false_imp_iff, Nat.lt_irrefl]
    rw [wrap_id (by omega) (by omega)]
    exact ⟨⟨k + 1, by omega, rfl⟩, by omega⟩
  · simp only [go_sem, Nat.reduceMul, Nat.reduceLT, Nat.reduceLeDiff, Nat.reduceEqDiff, Nat.reduceBEq, Int.toNat_natCast, Int.reduceToNat, Int.reduceNeg, Int.reduceLT, Int.reduceLE, Int.reduceBEq, Int.reduceBNe, decide_true, decide_false, Bool.false_eq_true, false_imp_iff, Nat.lt_irrefl]
    refine ACallT.frame (alive_ok _) ?_
    rintro r h2 rfl
    refine ⟨rfl, ?_⟩
    simp only [go_sem, Nat.reduceMul, Nat.reduceLT, Nat.reduceLeDiff, Nat.reduceEqDiff, Nat.reduceBEq, Int.toNat_natCast, Int.reduceToNat, Int.reduceNeg, Int.reduceLT, Int.reduceLE, Int.reduceBEq, Int.reduceBNe, decide_true, decide_false, Bool.false_eq_true, false_imp_iff, Nat.lt_irrefl]
    refine ⟨⟨by omega, by omega, okEl_toks A⟩, ⟨by omega, by omega, okEl_toks B⟩, ?_⟩
    have hgx : (h' ++ [AObj.arr 2 3 (toks A ++ toks B)])[h'.length]? = some (AObj.arr 2 3 (toks (A ++ B))) := by rw [List.getElem?_append_right (Nat.le_refl _), Nat.sub_self, ← toks_app]; rfl
    have hln : (toks (A ++ B)).length = A.length + B.length := by simp [toks]
    have hts : List.take (A.length + B.length) (toks (A ++ B)) = toks (A ++ B) := List.take_of_length_le (by rw [hln]; omega)
    refine ACallT.pure (as' := [.fz c3 (toks (A ++ B)), .fz false (toks (A ++ B))]) (p := True ∧ (2 = 2 ∧ 3 = 3 ∧ 0 + (A.length + B.length) ≤ (toks (A ++ B)).length) ∧ True) (by simp only [lends, lendA, hgx, List.drop_zero, hts]) ⟨trivial, ⟨rfl, rfl, by rw [hln]; omega⟩, trivial⟩ (same_ok (A ++ B) (A ++ B) c3 false _ (by omega) (by omega)) ?_
    rintro r h1 ⟨rfl, rfl⟩
    refine ⟨rfl, ?_⟩
    simp only [go_sem, Nat.reduceMul, Nat.reduceLT, Nat.reduceLeDiff, Nat.reduceEqDiff, Nat.reduceBEq, Int.toNat_natCast, Int.reduceToNat, Int.reduceNeg, Int.reduceLT, Int.reduceLE, Int.reduceBEq, Int.reduceBNe, decide_true, decide_false, Bool.false_eq_true, false_imp_iff, Nat.lt_irrefl]
    refine Fin_plain ?_
    simp
end Go.Proofs.Vale
