/- YtchboekipfpheaaDoorVLexR: a text of the proof of this claim, by its prover. -/
import Derived.Test.YtchboekipfpheaaDoorVLexQ
set_option linter.unusedVariables false
set_option linter.unusedSimpArgs false
set_option maxHeartbeats 4000000
set_option maxRecDepth 100000
namespace Go.Proofs.Vale
open Go.Proofs Go.Proofs.YtchboekipfpheaaDoorT
attribute [local irreducible] acode aopsL aopsT dopsL dopsT dmL dmT pop popG aop ALoop ADraw ACall AWP AFin acondT ALoopT ADrawT ACallT doP doG doGd

/-! ### The law: Text -/
theorem text_law (l : List Tok) (c : Bool) (h : List AObj) (hl : l.length ≤ 9223372036854775807) (hs : ∀ t ∈ l, t.2.1.length ≤ 9223372036854775807) : ACall Tryd.prog 4 [.fz c (toks l)] h (fun r _ => r = .bool true) := by
  (refine ACall.of_code Tryd.func4 rfl ?_; simp only [Tryd.f4]; simp only [go_sem, Nat.reduceMul, Nat.reduceLT, Nat.reduceLeDiff, Nat.reduceEqDiff, Nat.reduceBEq, Int.toNat_natCast, Int.reduceToNat, Int.reduceNeg, Int.reduceLT, Int.reduceLE, Int.reduceBEq, Int.reduceBNe, decide_true, decide_false, Bool.false_eq_true, false_imp_iff, Nat.lt_irrefl])
  refine ALoop.over [2, 3, 4, 5, 6, 7, 8, 9, 10, 11, 12, 13, 14, 15, 16, 17, 18, 19, 20, 21, 22, 23, 24, 25, 26, 27, 28, 29, 30, 31, 32, 33, 34, 35, 36, 37, 38, 39, 40, 41, 42] (fun e h' => ∃ (k : Nat) (L : List Tok), k ≤ l.length ∧ k ≤ 100 ∧ e.getD 4 .any = .int .i64 (k : Int) ∧ L.length ≤ k ∧ (∀ t ∈ L, t.2.1.length ≤ 60) ∧ ((e.getD 3 .any = .fz true [] ∧ L = []) ∨ ∃ tg g, tg < h'.length ∧ e.getD 3 .any = .sl tg g 3 0 L.length ∧ h'[tg]? = some (.arr g 3 (toks L)))) (fun e _ => l.length - natA (e.getD 4 .any)) ⟨0, [], by omega, by omega, rfl, by simp, by simp, .inl ⟨rfl, rfl⟩⟩ ?_
  simp only [List.length_cons, List.length_nil, Nat.reduceAdd, allL_succ, allL_zero]
  intro y2 y3 y4 y5 y6 y7 y8 y9 y10 y11 y12 y13 y14 y15 y16 y17 y18 y19 y20 y21 y22 y23 y24 y25 y26 y27 y28 y29 y30 y31 y32 y33 y34 y35 y36 y37 y38 y39 y40 y41 y42 h' hI
  simp only [go_sem] at hI
  obtain ⟨k, L, hk, hk2, rfl, hLk, hL, hX⟩ := hI
  simp only [go_sem, Nat.reduceMul, Nat.reduceLT, Nat.reduceLeDiff, Nat.reduceEqDiff, Nat.reduceBEq, Int.toNat_natCast, Int.reduceToNat, Int.reduceNeg, Int.reduceLT, Int.reduceLE, Int.reduceBEq, Int.reduceBNe, decide_true, decide_false, Bool.false_eq_true, false_imp_iff, Nat.lt_irrefl]
  refine acond_intro (fun hc => ?_) (fun hc => ?_)
  · have hlt : k < l.length ∧ k < 100 := by
      by_cases q1 : (k : Int) < (l.length : Int) <;> by_cases q2 : (k : Int) < 100 <;> simp [q1, q2] at hc
      omega
    have hg : (toks l).getD k .any = .agg [.int .i64 l[k].1, .str l[k].2.1, .int .i64 l[k].2.2] := toks_get l k hlt.1
    have hlk := hs l[k] (List.getElem_mem _)
    simp only [go_sem, hg, Nat.reduceMul, Nat.reduceLT, Nat.reduceLeDiff, Nat.reduceEqDiff, Nat.reduceBEq, Int.toNat_natCast, Int.reduceToNat, Int.reduceNeg, Int.reduceLT, Int.reduceLE, Int.reduceBEq, Int.reduceBNe, decide_true, decide_false, Bool.false_eq_true, false_imp_iff, Nat.lt_irrefl]
    refine ⟨⟨by omega, by omega⟩, ?_⟩
    refine acond_intro (fun hd => ?_) (fun hd => ?_)
    · simp only [go_sem, Nat.reduceMul, Nat.reduceLT, Nat.reduceLeDiff, Nat.reduceEqDiff, Nat.reduceBEq, Int.toNat_natCast, Int.reduceToNat, Int.reduceNeg, Int.reduceLT, Int.reduceLE, Int.reduceBEq, Int.reduceBNe, decide_true, decide_false, Bool.false_eq_true, false_imp_iff, Nat.lt_irrefl]
      rw [wrap_id (by omega) (by omega)]
      exact ⟨⟨k + 1, L, by omega, by omega, rfl, by omega, hL, hX⟩, by omega⟩
    · have h60 : l[k].2.1.length ≤ 60 := by have := of_decide_eq_false hd; omega
      simp only [go_sem, hg, Nat.reduceMul, Nat.reduceLT, Nat.reduceLeDiff, Nat.reduceEqDiff, Nat.reduceBEq, Int.toNat_natCast, Int.reduceToNat, Int.reduceNeg, Int.reduceLT, Int.reduceLE, Int.reduceBEq, Int.reduceBNe, decide_true, decide_false, Bool.false_eq_true, false_imp_iff, Nat.lt_irrefl]
      refine ⟨⟨by omega, by omega⟩, ?_⟩
      refine ACallT.frame (rright_ok l[k] _ (by omega)) ?_
      rintro r h2 rfl
      refine ⟨rfl, ?_⟩
      simp only [go_sem, hg, Nat.reduceMul, Nat.reduceLT, Nat.reduceLeDiff, Nat.reduceEqDiff, Nat.reduceBEq, Int.toNat_natCast, Int.reduceToNat, Int.reduceNeg, Int.reduceLT, Int.reduceLE, Int.reduceBEq, Int.reduceBNe, decide_true, decide_false, Bool.false_eq_true, false_imp_iff, Nat.lt_irrefl]
      refine ⟨⟨by omega, by omega⟩, ?_⟩
      refine ACallT.frame (right_ok l[k] _ (by omega)) ?_
      rintro r h2 rfl
      refine ⟨rfl, ?_⟩
      simp only [go_sem, Nat.reduceMul, Nat.reduceLT, Nat.reduceLeDiff, Nat.reduceEqDiff, Nat.reduceBEq, Int.toNat_natCast, Int.reduceToNat, Int.reduceNeg, Int.reduceLT, Int.reduceLE, Int.reduceBEq, Int.reduceBNe, decide_true, decide_false, Bool.false_eq_true, false_imp_iff, Nat.lt_irrefl]
      refine acond_intro (fun hR => ?_) (fun hR => ?_)
      rotate_left
      · simp only [go_sem, Nat.reduceMul, Nat.reduceLT, Nat.reduceLeDiff, Nat.reduceEqDiff, Nat.reduceBEq, Int.toNat_natCast, Int.reduceToNat, Int.reduceNeg, Int.reduceLT, Int.reduceLE, Int.reduceBEq, Int.reduceBNe, decide_true, decide_false, Bool.false_eq_true, false_imp_iff, Nat.lt_irrefl]
        rw [wrap_id (by omega) (by omega)]
        exact ⟨⟨k + 1, L, by omega, by omega, rfl, by omega, hL, hX⟩, by omega⟩
      · have hL2 : ∀ t ∈ L ++ [l[k]], t.2.1.length ≤ 60 := by
          intro t ht
          rcases List.mem_append.1 ht with ht | ht
          · exact hL t ht
          · rw [List.mem_singleton.1 ht]; exact h60
        rcases hX with ⟨rfl, rfl⟩ | ⟨tg, g, htl, rfl, hg3⟩
        · simp only [go_sem, hg, Nat.reduceMul, Nat.reduceLT, Nat.reduceLeDiff, Nat.reduceEqDiff, Nat.reduceBEq, Int.toNat_natCast, Int.reduceToNat, Int.reduceNeg, Int.reduceLT, Int.reduceLE, Int.reduceBEq, Int.reduceBNe, decide_true, decide_false, Bool.false_eq_true, false_imp_iff, Nat.lt_irrefl]
          refine ⟨⟨by omega, by omega⟩, fun q => absurd q (by simp), fun _ => ?_⟩
          rw [wrap_id (by omega) (by omega)]
          refine ⟨⟨k + 1, [l[k]], by omega, by omega, rfl, by simp, hL2, .inr ⟨_, _, ?_, rfl, ?_⟩⟩, by omega⟩
          · simp
          · rw [getElem?_app]; rfl
        · have hgx : ∀ x, (h' ++ x)[tg]? = some (AObj.arr g 3 (toks L)) := fun x => by rw [List.getElem?_append_left htl]; exact hg3
          simp only [go_sem, hg, hgx, Nat.reduceMul, Nat.reduceLT, Nat.reduceLeDiff, Nat.reduceEqDiff, Nat.reduceBEq, Int.toNat_natCast, Int.reduceToNat, Int.reduceNeg, Int.reduceLT, Int.reduceLE, Int.reduceBEq, Int.reduceBNe, decide_true, decide_false, Bool.false_eq_true, false_imp_iff, Nat.lt_irrefl]
          refine ⟨⟨by omega, by omega⟩, ⟨by omega, by omega⟩, ?_⟩
          rw [wrap_id (by omega) (by omega)]
          refine ⟨⟨k + 1, L ++ [l[k]], by omega, by omega, rfl, by simp; omega, hL2, .inr ⟨tg, g + 1, ?_, by simp, ?_⟩⟩, by omega⟩
          · first | omega | (simp; omega)
          · rw [List.getElem?_set_self (by simp; omega), ← toks_app]; rfl
  · simp only [go_sem, Nat.reduceMul, Nat.reduceLT, Nat.reduceLeDiff, Nat.reduceEqDiff, Nat.reduceBEq, Int.toNat_natCast, Int.reduceToNat, Int.reduceNeg, Int.reduceLT, Int.reduceLE, Int.reduceBEq, Int.reduceBNe, decide_true, decide_false, Bool.false_eq_true, false_imp_iff, Nat.lt_irrefl]
    have hf : few L := ⟨by omega, fun t ht => by have := hL t ht; omega⟩
    refine ACallT.frame (alive_ok _) ?_
    rintro r h2 rfl
    refine ⟨rfl, ?_⟩
    rcases hX with ⟨rfl, rfl⟩ | ⟨tg, g, htl, rfl, hg3⟩
    · simp only [go_sem, Nat.reduceMul, Nat.reduceLT, Nat.reduceLeDiff, Nat.reduceEqDiff, Nat.reduceBEq, Int.toNat_natCast, Int.reduceToNat, Int.reduceNeg, Int.reduceLT, Int.reduceLE, Int.reduceBEq, Int.reduceBNe, decide_true, decide_false, Bool.false_eq_true, false_imp_iff, Nat.lt_irrefl]
      refine ACallT.frame (text_ok [] true _ hf) ?_
      rintro r h2 rfl
      refine ⟨rfl, ?_⟩
      simp only [go_sem, Nat.reduceMul, Nat.reduceLT, Nat.reduceLeDiff, Nat.reduceEqDiff, Nat.reduceBEq, Int.toNat_natCast, Int.reduceToNat, Int.reduceNeg, Int.reduceLT, Int.reduceLE, Int.reduceBEq, Int.reduceBNe, decide_true, decide_false, Bool.false_eq_true, false_imp_iff, Nat.lt_irrefl]
      refine ACallT.by (rtext_ok [] true _ hf) ?_
      rintro r h2 ⟨rfl, rfl⟩
      simp only [go_sem, Nat.reduceMul, Nat.reduceLT, Nat.reduceLeDiff, Nat.reduceEqDiff, Nat.reduceBEq, Int.toNat_natCast, Int.reduceToNat, Int.reduceNeg, Int.reduceLT, Int.reduceLE, Int.reduceBEq, Int.reduceBNe, decide_true, decide_false, Bool.false_eq_true, false_imp_iff, Nat.lt_irrefl]
      refine Fin_plain ?_
      simp
    · have hts : List.take L.length (toks L) = toks L := List.take_of_length_le (by simp [toks])
      simp only [go_sem, Nat.reduceMul, Nat.reduceLT, Nat.reduceLeDiff, Nat.reduceEqDiff, Nat.reduceBEq, Int.toNat_natCast, Int.reduceToNat, Int.reduceNeg, Int.reduceLT, Int.reduceLE, Int.reduceBEq, Int.reduceBNe, decide_true, decide_false, Bool.false_eq_true, false_imp_iff, Nat.lt_irrefl]
      refine ACallT.pure (as' := [.fz false (toks L)]) (p := (g = g ∧ 3 = 3 ∧ 0 + L.length ≤ (toks L).length) ∧ True) (by simp only [lends, lendA, hg3, List.drop_zero, hts]) ⟨⟨rfl, rfl, by rw [toks_len]; omega⟩, trivial⟩ (text_ok L false _ hf) ?_
      rintro r h1 rfl
      refine ⟨rfl, ?_⟩
      simp only [go_sem, Nat.reduceMul, Nat.reduceLT, Nat.reduceLeDiff, Nat.reduceEqDiff, Nat.reduceBEq, Int.toNat_natCast, Int.reduceToNat, Int.reduceNeg, Int.reduceLT, Int.reduceLE, Int.reduceBEq, Int.reduceBNe, decide_true, decide_false, Bool.false_eq_true, false_imp_iff, Nat.lt_irrefl]
      refine ACallT.pure (as' := [.fz false (toks L)]) (p := (g = g ∧ 3 = 3 ∧ 0 + L.length ≤ (toks L).length) ∧ True) (by simp only [lends, lendA, hg3, List.drop_zero, hts]) ⟨⟨rfl, rfl, by rw [toks_len]; omega⟩, trivial⟩ (rtext_ok L false _ hf) ?_
      rintro r h1 ⟨rfl, rfl⟩
      refine ⟨rfl, ?_⟩
      simp only [go_sem, Nat.reduceMul, Nat.reduceLT, Nat.reduceLeDiff, Nat.reduceEqDiff, Nat.reduceBEq, Int.toNat_natCast, Int.reduceToNat, Int.reduceNeg, Int.reduceLT, Int.reduceLE, Int.reduceBEq, Int.reduceBNe, decide_true, decide_false, Bool.false_eq_true, false_imp_iff, Nat.lt_irrefl]
      refine Fin_plain ?_
      simp
end Go.Proofs.Vale
