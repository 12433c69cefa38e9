/- YtchboekipfpheaaDoorVLexY: a text of the proof of this claim, by its prover. -/
import Derived.Test.YtchboekipfpheaaDoorVLexV
set_option linter.unusedVariables false
set_option linter.unusedSimpArgs false
set_option maxHeartbeats 4000000
set_option maxRecDepth 100000
namespace Go.Proofs.Vale
open Go.Proofs Go.Proofs.YtchboekipfpheaaDoorT
attribute [local irreducible] acode aopsL aopsT dopsL dopsT dmL dmT pop popG aop ALoop ADraw ACall AWP AFin acondT ALoopT ADrawT ACallT doP doG doGd

/-! ### The law: Back -/
theorem spaceS_one (t : Tok) : spaceS [t] = 32 :: 10 :: (standS t ++ [9]) := by simp [spaceS]
theorem spaceS_snoc (R : List Tok) (t : Tok) : spaceS (R ++ [t]) = spaceS R ++ (32 :: 10 :: (standS t ++ [9])) := by rw [spaceS_app, spaceS_one]
theorem spaceS_len : ∀ (R : List Tok), (∀ t ∈ R, t.2.1.length ≤ 60) → (spaceS R).length ≤ 65 * R.length
  | [], _ => by simp [spaceS]
  | t :: R, h => by
    have ih := spaceS_len R (fun u hu => h u (by simp [hu]))
    have h1 := stand_len t
    have h2 := h t (by simp)
    simp only [spaceS, List.length_append, List.length_cons, List.length_nil]
    omega
def atK (L : List Tok) (y : AV) (h : List AObj) : Prop := (y = .fz true [] ∧ L = []) ∨ ∃ tg g, tg < h.length ∧ y = .sl tg g 3 0 L.length ∧ h[tg]? = some (.arr g 3 (toks L))
theorem text_at (L : List Tok) (y : AV) (h : List AObj) (hX : atK L y h) (hf : few L) : ACall Tryd.prog 13 [y] h (fun r h' => r = .str (textS L) ∧ h' = h) := by
  rcases hX with ⟨rfl, rfl⟩ | ⟨tg, g, htl, rfl, hg3⟩
  · refine ACall.frame (ACall.mono (text_ok [] true _ hf) ?_)
    rintro r h1 rfl
    exact ⟨rfl, rfl, rfl⟩
  · have hts : List.take L.length (toks L) = toks L := List.take_of_length_le (by simp [toks])
    refine ACall.pure (as' := [.fz false (toks L)]) (p := (g = g ∧ 3 = 3 ∧ 0 + L.length ≤ (toks L).length) ∧ True) (by simp only [lends, lendA, hg3, List.drop_zero, hts]) ⟨⟨rfl, rfl, by rw [toks_len]; omega⟩, trivial⟩ (ACall.mono (text_ok L false _ hf) ?_)
    rintro r h1 rfl
    exact ⟨rfl, rfl, rfl⟩
theorem same_at (D L : List Tok) (c : Bool) (y : AV) (h : List AObj) (hX : atK L y h) (hf : few L) (hD : D.length ≤ 9223372036854775000) : ACall Tryd.prog 10 [.fz c (toks D), y] h (fun r h' => r = .bool (decide (D = L)) ∧ h' = h) := by
  have hf1 := hf.1
  rcases hX with ⟨rfl, rfl⟩ | ⟨tg, g, htl, rfl, hg3⟩
  · exact same_ok D [] c true h hD (by simp)
  · have hts : List.take L.length (toks L) = toks L := List.take_of_length_le (by simp [toks])
    refine ACall.pure (as' := [.fz c (toks D), .fz false (toks L)]) (p := True ∧ (g = g ∧ 3 = 3 ∧ 0 + L.length ≤ (toks L).length) ∧ True) (by simp only [lends, lendA, hg3, List.drop_zero, hts]) ⟨trivial, ⟨rfl, rfl, by rw [toks_len]; omega⟩, trivial⟩ (ACall.mono (same_ok D L c false _ hD (by omega)) ?_)
    rintro r h1 ⟨rfl, rfl⟩
    exact ⟨rfl, rfl, rfl⟩
theorem back_ok (l : List Tok) (s : Str) (c : Bool) (h : List AObj) (hl : l.length ≤ 9223372036854775807) (hs : ∀ t ∈ l, t.2.1.length ≤ 9223372036854775807) : ACall Tryd.prog 5 [.fz c (toks l), .str s] h (fun r _ => r = .bool true) := by
  (refine ACall.of_code Tryd.func5 rfl ?_; simp only [Tryd.f5]; simp only [go_sem, Nat.reduceMul, Nat.reduceLT, Nat.reduceLeDiff, Nat.reduceEqDiff, Nat.reduceBEq, Int.toNat_natCast, Int.reduceToNat, Int.reduceNeg, Int.reduceLT, Int.reduceLE, Int.reduceBEq, Int.reduceBNe, decide_true, decide_false, Bool.false_eq_true, false_imp_iff, Nat.lt_irrefl])
  refine ALoop.over [5, 6, 7, 17, 18, 19, 20, 21, 22, 23, 24, 25, 26, 27, 28, 29, 30, 31, 32, 33, 34, 35, 36, 37, 38, 39, 40, 41, 42, 43, 44, 45, 46, 47, 48, 49, 50, 51, 52, 53, 54, 55, 56, 57] (fun e h' => ∃ (k : Nat) (L : List Tok), k ≤ l.length ∧ k ≤ 100 ∧ e.getD 7 .any = .int .i64 (k : Int) ∧ L.length ≤ k ∧ (∀ t ∈ L, t.2.1.length ≤ 60) ∧ (∀ t ∈ L, rightS t = true) ∧ e.getD 6 .any = .str (spaceS L) ∧ ((e.getD 5 .any = .fz true [] ∧ L = []) ∨ ∃ tg g, tg < h'.length ∧ e.getD 5 .any = .sl tg g 3 0 L.length ∧ h'[tg]? = some (.arr g 3 (toks L)))) (fun e _ => l.length - natA (e.getD 7 .any)) ⟨0, [], by omega, by omega, rfl, by simp, by simp, by simp, rfl, .inl ⟨rfl, rfl⟩⟩ ?_
  simp only [List.length_cons, List.length_nil, Nat.reduceAdd, allL_succ, allL_zero]
  intro y5 y6 y7 y17 y18 y19 y20 y21 y22 y23 y24 y25 y26 y27 y28 y29 y30 y31 y32 y33 y34 y35 y36 y37 y38 y39 y40 y41 y42 y43 y44 y45 y46 y47 y48 y49 y50 y51 y52 y53 y54 y55 y56 y57 h' hI
  simp only [go_sem] at hI
  obtain ⟨k, L, hk, hk2, rfl, hLk, hL, hLR, rfl, hX⟩ := hI
  have hsp := spaceS_len L hL
  simp only [go_sem, Nat.reduceMul, Nat.reduceLT, Nat.reduceLeDiff, Nat.reduceEqDiff, Nat.reduceBEq, Int.toNat_natCast, Int.reduceToNat, Int.reduceNeg, Int.reduceLT, Int.reduceLE, Int.reduceBEq, Int.reduceBNe, decide_true, decide_false, Bool.false_eq_true, false_imp_iff, Nat.lt_irrefl]
  refine acond_intro (fun hc => ?_) (fun hc => ?_)
  · have hlt : k < l.length ∧ k < 100 := by
      by_cases q1 : (k : Int) < (l.length : Int) <;> by_cases q2 : (k : Int) < 100 <;> simp [q1, q2] at hc
      omega
    have hg : (toks l).getD k .any = .agg [.int .i64 l[k].1, .str l[k].2.1, .int .i64 l[k].2.2] := toks_get l k hlt.1
    have hlk := hs l[k] (List.getElem_mem _)
    simp only [go_sem, hg, Nat.reduceMul, Nat.reduceLT, Nat.reduceLeDiff, Nat.reduceEqDiff, Nat.reduceBEq, Int.toNat_natCast, Int.reduceToNat, Int.reduceNeg, Int.reduceLT, Int.reduceLE, Int.reduceBEq, Int.reduceBNe, decide_true, decide_false, Bool.false_eq_true, false_imp_iff, Nat.lt_irrefl]
    refine ⟨⟨by omega, by omega⟩, fun q => ⟨q, by omega, by omega⟩, ?_⟩
    generalize hz : decide (((List.length l[k].2.1 : Nat) : Int) ≤ 60) = z
    cases z with
    | false =>
      simp only [go_sem, Nat.reduceMul, Nat.reduceLT, Nat.reduceLeDiff, Nat.reduceEqDiff, Nat.reduceBEq, Int.toNat_natCast, Int.reduceToNat, Int.reduceNeg, Int.reduceLT, Int.reduceLE, Int.reduceBEq, Int.reduceBNe, decide_true, decide_false, Bool.false_eq_true, false_imp_iff, Nat.lt_irrefl]
      rw [wrap_id (by omega) (by omega)]
      exact ⟨⟨k + 1, L, by omega, by omega, rfl, by omega, hL, hLR, rfl, hX⟩, by omega⟩
    | true =>
      have h60 : l[k].2.1.length ≤ 60 := by have := of_decide_eq_true hz; omega
      simp only [go_sem, Nat.reduceMul, Nat.reduceLT, Nat.reduceLeDiff, Nat.reduceEqDiff, Nat.reduceBEq, Int.toNat_natCast, Int.reduceToNat, Int.reduceNeg, Int.reduceLT, Int.reduceLE, Int.reduceBEq, Int.reduceBNe, decide_true, decide_false, Bool.false_eq_true, false_imp_iff, Nat.lt_irrefl]
      refine ACallT.frame (right_ok l[k] _ (by omega)) ?_
      rintro r h2 rfl
      refine ⟨rfl, ?_⟩
      simp only [go_sem, Nat.reduceMul, Nat.reduceLT, Nat.reduceLeDiff, Nat.reduceEqDiff, Nat.reduceBEq, Int.toNat_natCast, Int.reduceToNat, Int.reduceNeg, Int.reduceLT, Int.reduceLE, Int.reduceBEq, Int.reduceBNe, decide_true, decide_false, Bool.false_eq_true, false_imp_iff, Nat.lt_irrefl]
      refine acond_intro (fun hR => ?_) (fun hR => ?_)
      rotate_left
      · simp only [go_sem, Nat.reduceMul, Nat.reduceLT, Nat.reduceLeDiff, Nat.reduceEqDiff, Nat.reduceBEq, Int.toNat_natCast, Int.reduceToNat, Int.reduceNeg, Int.reduceLT, Int.reduceLE, Int.reduceBEq, Int.reduceBNe, decide_true, decide_false, Bool.false_eq_true, false_imp_iff, Nat.lt_irrefl]
        rw [wrap_id (by omega) (by omega)]
        exact ⟨⟨k + 1, L, by omega, by omega, rfl, by omega, hL, hLR, rfl, hX⟩, by omega⟩
      · have hL2 : ∀ t ∈ L ++ [l[k]], t.2.1.length ≤ 60 := by
          intro t ht
          rcases List.mem_append.1 ht with ht | ht
          · exact hL t ht
          · rw [List.mem_singleton.1 ht]; exact h60
        have hLR2 : ∀ t ∈ L ++ [l[k]], rightS t = true := by
          intro t ht
          rcases List.mem_append.1 ht with ht | ht
          · exact hLR t ht
          · rw [List.mem_singleton.1 ht]; exact hR
        have hone : List.drop k (List.take (k + 1) (toks l)) = toks [l[k]] := by
          rw [toks, ← List.map_take, ← List.map_drop, List.take_succ_eq_append_getElem hlt.1, List.drop_append_of_le_length (by rw [List.length_take]; omega), List.drop_eq_nil_of_le (by rw [List.length_take]; omega)]; rfl
        have hfo : few [l[k]] := ⟨by simp, fun t ht => by rw [List.mem_singleton.1 ht]; omega⟩
        have hst := stand_len l[k]
        have hto : textS [l[k]] = standS l[k] := by simp [textS, Lib.join_one]
        rcases hX with ⟨rfl, rfl⟩ | ⟨tg, g, htl, rfl, hg3⟩
        · simp only [go_sem, hg, Nat.reduceMul, Nat.reduceLT, Nat.reduceLeDiff, Nat.reduceEqDiff, Nat.reduceBEq, Int.toNat_natCast, Int.reduceToNat, Int.reduceNeg, Int.reduceLT, Int.reduceLE, Int.reduceBEq, Int.reduceBNe, decide_true, decide_false, Bool.false_eq_true, false_imp_iff, Nat.lt_irrefl]
          refine ⟨⟨by omega, by omega⟩, fun q => absurd q (by simp), fun _ => ?_⟩
          rw [wrap_id (x := (k : Int) + 1) (by omega) (by omega), show ((k : Int) + 1).toNat = k + 1 by omega, hone]
          refine ⟨by omega, ⟨by omega, by omega, by omega, toks_cells l⟩, ?_⟩
          refine ACallT.frame (text_ok [l[k]] _ _ hfo) ?_
          rintro r h2 rfl
          refine ⟨rfl, ?_⟩
          rw [hto]
          simp only [go_sem, Nat.reduceMul, Nat.reduceLT, Nat.reduceLeDiff, Nat.reduceEqDiff, Nat.reduceBEq, Int.toNat_natCast, Int.reduceToNat, Int.reduceNeg, Int.reduceLT, Int.reduceLE, Int.reduceBEq, Int.reduceBNe, decide_true, decide_false, Bool.false_eq_true, false_imp_iff, Nat.lt_irrefl]
          rw [wrap_id (x := (k : Int) + 1) (by omega) (by omega)]
          refine ⟨by first | omega | (simp; omega), by first | omega | (simp; omega), ⟨k + 1, [l[k]], by omega, by omega, rfl, by simp, hL2, hLR2, by simp [spaceS], .inr ⟨_, _, ?_, rfl, ?_⟩⟩, by omega⟩
          · simp
          · rw [getElem?_app]; rfl
        · have hgx : ∀ x, (h' ++ x)[tg]? = some (AObj.arr g 3 (toks L)) := fun x => by rw [List.getElem?_append_left htl]; exact hg3
          simp only [go_sem, hg, hgx, Nat.reduceMul, Nat.reduceLT, Nat.reduceLeDiff, Nat.reduceEqDiff, Nat.reduceBEq, Int.toNat_natCast, Int.reduceToNat, Int.reduceNeg, Int.reduceLT, Int.reduceLE, Int.reduceBEq, Int.reduceBNe, decide_true, decide_false, Bool.false_eq_true, false_imp_iff, Nat.lt_irrefl]
          rw [wrap_id (x := (k : Int) + 1) (by omega) (by omega), show ((k : Int) + 1).toNat = k + 1 by omega, hone]
          refine ⟨⟨by omega, by omega⟩, ⟨by omega, by omega⟩, by omega, ⟨by omega, by omega, by omega, toks_cells l⟩, ?_⟩
          refine ACallT.frame (text_ok [l[k]] _ _ hfo) ?_
          rintro r h2 rfl
          refine ⟨rfl, ?_⟩
          rw [hto]
          simp only [go_sem, Nat.reduceMul, Nat.reduceLT, Nat.reduceLeDiff, Nat.reduceEqDiff, Nat.reduceBEq, Int.toNat_natCast, Int.reduceToNat, Int.reduceNeg, Int.reduceLT, Int.reduceLE, Int.reduceBEq, Int.reduceBNe, decide_true, decide_false, Bool.false_eq_true, false_imp_iff, Nat.lt_irrefl]
          rw [wrap_id (x := (k : Int) + 1) (by omega) (by omega)]
          refine ⟨by first | omega | (simp; omega), by first | omega | (simp; omega), ⟨k + 1, L ++ [l[k]], by omega, by omega, rfl, by simp; omega, hL2, hLR2, by rw [spaceS_snoc]; try simp, .inr ⟨tg, g + 1, ?_, by simp, ?_⟩⟩, by omega⟩
          · first | omega | (simp; omega)
          · rw [List.getElem?_set_self (by simp; omega), ← toks_app]; rfl
  · have hf : few L := ⟨by omega, fun t ht => by have := hL t ht; omega⟩
    have hf1 := hf.1
    simp only [go_sem, Nat.reduceMul, Nat.reduceLT, Nat.reduceLeDiff, Nat.reduceEqDiff, Nat.reduceBEq, Int.toNat_natCast, Int.reduceToNat, Int.reduceNeg, Int.reduceLT, Int.reduceLE, Int.reduceBEq, Int.reduceBNe, decide_true, decide_false, Bool.false_eq_true, false_imp_iff, Nat.lt_irrefl]
    refine ACallT.by (text_at L _ _ hX hf) ?_
    rintro r h1 ⟨rfl, rfl⟩
    have hlx := textS_len L hf L.length (Nat.le_refl _)
    rw [List.take_length] at hlx
    simp only [go_sem, Nat.reduceMul, Nat.reduceLT, Nat.reduceLeDiff, Nat.reduceEqDiff, Nat.reduceBEq, Int.toNat_natCast, Int.reduceToNat, Int.reduceNeg, Int.reduceLT, Int.reduceLE, Int.reduceBEq, Int.reduceBNe, decide_true, decide_false, Bool.false_eq_true, false_imp_iff, Nat.lt_irrefl]
    have hos : y5.okS ∧ y5.strip = y5 := by rcases hX with ⟨rfl, _⟩ | ⟨tg, g, _, rfl, _⟩ <;> exact ⟨trivial, rfl⟩
    generalize hz1 : decide (((List.length (textS L) : Nat) : Int) ≤ 400) = z1
    cases z1 with
    | false =>
      simp only [go_sem, Nat.reduceMul, Nat.reduceLT, Nat.reduceLeDiff, Nat.reduceEqDiff, Nat.reduceBEq, Int.toNat_natCast, Int.reduceToNat, Int.reduceNeg, Int.reduceLT, Int.reduceLE, Int.reduceBEq, Int.reduceBNe, decide_true, decide_false, Bool.false_eq_true, false_imp_iff, Nat.lt_irrefl]
      generalize hz2 : decide (((List.length (spaceS L) : Nat) : Int) ≤ 400) = z2
      cases z2 with
      | false =>
        simp only [go_sem, Nat.reduceMul, Nat.reduceLT, Nat.reduceLeDiff, Nat.reduceEqDiff, Nat.reduceBEq, Int.toNat_natCast, Int.reduceToNat, Int.reduceNeg, Int.reduceLT, Int.reduceLE, Int.reduceBEq, Int.reduceBNe, decide_true, decide_false, Bool.false_eq_true, false_imp_iff, Nat.lt_irrefl]
        refine acond_intro (fun hq => ?_) (fun hq => ?_)
        · simp only [go_sem, Nat.reduceMul, Nat.reduceLT, Nat.reduceLeDiff, Nat.reduceEqDiff, Nat.reduceBEq, Int.toNat_natCast, Int.reduceToNat, Int.reduceNeg, Int.reduceLT, Int.reduceLE, Int.reduceBEq, Int.reduceBNe, decide_true, decide_false, Bool.false_eq_true, false_imp_iff, Nat.lt_irrefl]
          refine ACallT.frame (alive_ok _) ?_
          rintro r h2 rfl
          refine ⟨rfl, ?_⟩
          simp only [go_sem, Nat.reduceMul, Nat.reduceLT, Nat.reduceLeDiff, Nat.reduceEqDiff, Nat.reduceBEq, Int.toNat_natCast, Int.reduceToNat, Int.reduceNeg, Int.reduceLT, Int.reduceLE, Int.reduceBEq, Int.reduceBNe, decide_true, decide_false, Bool.false_eq_true, false_imp_iff, Nat.lt_irrefl]
          exact Fin_plain rfl
        have hs5 : s.length ≤ 500 := by have := of_decide_eq_false hq; omega
        simp only [go_sem, Nat.reduceMul, Nat.reduceLT, Nat.reduceLeDiff, Nat.reduceEqDiff, Nat.reduceBEq, Int.toNat_natCast, Int.reduceToNat, Int.reduceNeg, Int.reduceLT, Int.reduceLE, Int.reduceBEq, Int.reduceBNe, decide_true, decide_false, Bool.false_eq_true, false_imp_iff, Nat.lt_irrefl]
        refine ACallT.frame (tokens_ok s _ (by omega)) ?_
        intro r h2 hr
        obtain ⟨cA, A, eA, rfl, hlow, hA⟩ := toksK_any hr
        refine ⟨hlow, ?_⟩
        rcases hA with ⟨hN, rfl, rfl⟩ | ⟨hA, rfl⟩
        · simp only [go_sem, Nat.reduceMul, Nat.reduceLT, Nat.reduceLeDiff, Nat.reduceEqDiff, Nat.reduceBEq, Int.toNat_natCast, Int.reduceToNat, Int.reduceNeg, Int.reduceLT, Int.reduceLE, Int.reduceBEq, Int.reduceBNe, decide_true, decide_false, Bool.false_eq_true, false_imp_iff, Nat.lt_irrefl]
          refine ACallT.frame (alive_ok _) ?_
          rintro r h2 rfl
          refine ⟨rfl, ?_⟩
          simp only [go_sem, Nat.reduceMul, Nat.reduceLT, Nat.reduceLeDiff, Nat.reduceEqDiff, Nat.reduceBEq, Int.toNat_natCast, Int.reduceToNat, Int.reduceNeg, Int.reduceLT, Int.reduceLE, Int.reduceBEq, Int.reduceBNe, decide_true, decide_false, Bool.false_eq_true, false_imp_iff, Nat.lt_irrefl]
          exact Fin_plain rfl
        · have hfA := tokens_few s A hA
          have hfA1 := hfA.1
          simp only [go_sem, Nat.reduceMul, Nat.reduceLT, Nat.reduceLeDiff, Nat.reduceEqDiff, Nat.reduceBEq, Int.toNat_natCast, Int.reduceToNat, Int.reduceNeg, Int.reduceLT, Int.reduceLE, Int.reduceBEq, Int.reduceBNe, decide_true, decide_false, Bool.false_eq_true, false_imp_iff, Nat.lt_irrefl]
          refine ACallT.frame (text_ok A cA _ hfA) ?_
          rintro r h2 rfl
          refine ⟨rfl, ?_⟩
          simp only [go_sem, Nat.reduceMul, Nat.reduceLT, Nat.reduceLeDiff, Nat.reduceEqDiff, Nat.reduceBEq, Int.toNat_natCast, Int.reduceToNat, Int.reduceNeg, Int.reduceLT, Int.reduceLE, Int.reduceBEq, Int.reduceBNe, decide_true, decide_false, Bool.false_eq_true, false_imp_iff, Nat.lt_irrefl]
          generalize hz3 : decide ((400 : Int) < ((List.length (textS A) : Nat) : Int)) = z3
          cases z3 with
          | true =>
            simp only [go_sem, Nat.reduceMul, Nat.reduceLT, Nat.reduceLeDiff, Nat.reduceEqDiff, Nat.reduceBEq, Int.toNat_natCast, Int.reduceToNat, Int.reduceNeg, Int.reduceLT, Int.reduceLE, Int.reduceBEq, Int.reduceBNe, decide_true, decide_false, Bool.false_eq_true, false_imp_iff, Nat.lt_irrefl]
            refine ACallT.frame (alive_ok _) ?_
            rintro r h2 rfl
            refine ⟨rfl, ?_⟩
            simp only [go_sem, Nat.reduceMul, Nat.reduceLT, Nat.reduceLeDiff, Nat.reduceEqDiff, Nat.reduceBEq, Int.toNat_natCast, Int.reduceToNat, Int.reduceNeg, Int.reduceLT, Int.reduceLE, Int.reduceBEq, Int.reduceBNe, decide_true, decide_false, Bool.false_eq_true, false_imp_iff, Nat.lt_irrefl]
            exact Fin_plain rfl
          | false =>
            have hle3 : (textS A).length ≤ 400 := by have := of_decide_eq_false hz3; omega
            simp only [go_sem, Nat.reduceMul, Nat.reduceLT, Nat.reduceLeDiff, Nat.reduceEqDiff, Nat.reduceBEq, Int.toNat_natCast, Int.reduceToNat, Int.reduceNeg, Int.reduceLT, Int.reduceLE, Int.reduceBEq, Int.reduceBNe, decide_true, decide_false, Bool.false_eq_true, false_imp_iff, Nat.lt_irrefl]
            refine ACallT.frame (text_ok A cA _ hfA) ?_
            rintro r h2 rfl
            refine ⟨rfl, ?_⟩
            simp only [go_sem, Nat.reduceMul, Nat.reduceLT, Nat.reduceLeDiff, Nat.reduceEqDiff, Nat.reduceBEq, Int.toNat_natCast, Int.reduceToNat, Int.reduceNeg, Int.reduceLT, Int.reduceLE, Int.reduceBEq, Int.reduceBNe, decide_true, decide_false, Bool.false_eq_true, false_imp_iff, Nat.lt_irrefl]
            refine ACallT.frame (tokens_ok (textS A) _ (by omega)) ?_
            intro r h2 hr
            rw [back_law s A hA hle3] at hr
            obtain ⟨cB, rfl⟩ := hr
            refine ⟨by simp [AV.low, lowL, low_toks], ?_⟩
            simp only [go_sem, Nat.reduceMul, Nat.reduceLT, Nat.reduceLeDiff, Nat.reduceEqDiff, Nat.reduceBEq, Int.toNat_natCast, Int.reduceToNat, Int.reduceNeg, Int.reduceLT, Int.reduceLE, Int.reduceBEq, Int.reduceBNe, decide_true, decide_false, Bool.false_eq_true, false_imp_iff, Nat.lt_irrefl]
            refine ACallT.frame (alive_ok _) ?_
            rintro r h2 rfl
            refine ⟨rfl, ?_⟩
            simp only [go_sem, Nat.reduceMul, Nat.reduceLT, Nat.reduceLeDiff, Nat.reduceEqDiff, Nat.reduceBEq, Int.toNat_natCast, Int.reduceToNat, Int.reduceNeg, Int.reduceLT, Int.reduceLE, Int.reduceBEq, Int.reduceBNe, decide_true, decide_false, Bool.false_eq_true, false_imp_iff, Nat.lt_irrefl]
            refine ACallT.by (same_ok A A cA cB _ (by omega) (by omega)) ?_
            rintro r h2 ⟨rfl, rfl⟩
            simp only [go_sem, Nat.reduceMul, Nat.reduceLT, Nat.reduceLeDiff, Nat.reduceEqDiff, Nat.reduceBEq, Int.toNat_natCast, Int.reduceToNat, Int.reduceNeg, Int.reduceLT, Int.reduceLE, Int.reduceBEq, Int.reduceBNe, decide_true, decide_false, Bool.false_eq_true, false_imp_iff, Nat.lt_irrefl]
            refine Fin_plain ?_
            simp
      | true =>
        have hle2 : (spaceS L).length ≤ 400 := by have := of_decide_eq_true hz2; omega
        have hT2 := space_back L hLR hle2
        simp only [go_sem, Nat.reduceMul, Nat.reduceLT, Nat.reduceLeDiff, Nat.reduceEqDiff, Nat.reduceBEq, Int.toNat_natCast, Int.reduceToNat, Int.reduceNeg, Int.reduceLT, Int.reduceLE, Int.reduceBEq, Int.reduceBNe, decide_true, decide_false, Bool.false_eq_true, false_imp_iff, Nat.lt_irrefl]
        refine ACallT.frame (tokens_ok (spaceS L) _ (by omega)) ?_
        intro r h2 hr
        rw [hT2] at hr
        obtain ⟨cc2, rfl⟩ := hr
        refine ⟨by simp [AV.low, lowL, low_toks], ?_⟩
        simp only [go_sem, Nat.reduceMul, Nat.reduceLT, Nat.reduceLeDiff, Nat.reduceEqDiff, Nat.reduceBEq, Int.toNat_natCast, Int.reduceToNat, Int.reduceNeg, Int.reduceLT, Int.reduceLE, Int.reduceBEq, Int.reduceBNe, decide_true, decide_false, Bool.false_eq_true, false_imp_iff, Nat.lt_irrefl]
        refine ⟨hos.1, ?_⟩
        rw [hos.2]
        refine ACallT.by (same_at L L cc2 _ _ hX hf (by omega)) ?_
        rintro r h1 ⟨rfl, rfl⟩
        rw [show decide (L = L) = true by simp]
        simp only [go_sem, Nat.reduceMul, Nat.reduceLT, Nat.reduceLeDiff, Nat.reduceEqDiff, Nat.reduceBEq, Int.toNat_natCast, Int.reduceToNat, Int.reduceNeg, Int.reduceLT, Int.reduceLE, Int.reduceBEq, Int.reduceBNe, decide_true, decide_false, Bool.false_eq_true, false_imp_iff, Nat.lt_irrefl]
        refine acond_intro (fun hq => ?_) (fun hq => ?_)
        · simp only [go_sem, Nat.reduceMul, Nat.reduceLT, Nat.reduceLeDiff, Nat.reduceEqDiff, Nat.reduceBEq, Int.toNat_natCast, Int.reduceToNat, Int.reduceNeg, Int.reduceLT, Int.reduceLE, Int.reduceBEq, Int.reduceBNe, decide_true, decide_false, Bool.false_eq_true, false_imp_iff, Nat.lt_irrefl]
          refine ACallT.frame (alive_ok _) ?_
          rintro r h2 rfl
          refine ⟨rfl, ?_⟩
          simp only [go_sem, Nat.reduceMul, Nat.reduceLT, Nat.reduceLeDiff, Nat.reduceEqDiff, Nat.reduceBEq, Int.toNat_natCast, Int.reduceToNat, Int.reduceNeg, Int.reduceLT, Int.reduceLE, Int.reduceBEq, Int.reduceBNe, decide_true, decide_false, Bool.false_eq_true, false_imp_iff, Nat.lt_irrefl]
          exact Fin_plain rfl
        have hs5 : s.length ≤ 500 := by have := of_decide_eq_false hq; omega
        simp only [go_sem, Nat.reduceMul, Nat.reduceLT, Nat.reduceLeDiff, Nat.reduceEqDiff, Nat.reduceBEq, Int.toNat_natCast, Int.reduceToNat, Int.reduceNeg, Int.reduceLT, Int.reduceLE, Int.reduceBEq, Int.reduceBNe, decide_true, decide_false, Bool.false_eq_true, false_imp_iff, Nat.lt_irrefl]
        refine ACallT.frame (tokens_ok s _ (by omega)) ?_
        intro r h2 hr
        obtain ⟨cA, A, eA, rfl, hlow, hA⟩ := toksK_any hr
        refine ⟨hlow, ?_⟩
        rcases hA with ⟨hN, rfl, rfl⟩ | ⟨hA, rfl⟩
        · simp only [go_sem, Nat.reduceMul, Nat.reduceLT, Nat.reduceLeDiff, Nat.reduceEqDiff, Nat.reduceBEq, Int.toNat_natCast, Int.reduceToNat, Int.reduceNeg, Int.reduceLT, Int.reduceLE, Int.reduceBEq, Int.reduceBNe, decide_true, decide_false, Bool.false_eq_true, false_imp_iff, Nat.lt_irrefl]
          refine ACallT.frame (alive_ok _) ?_
          rintro r h2 rfl
          refine ⟨rfl, ?_⟩
          simp only [go_sem, Nat.reduceMul, Nat.reduceLT, Nat.reduceLeDiff, Nat.reduceEqDiff, Nat.reduceBEq, Int.toNat_natCast, Int.reduceToNat, Int.reduceNeg, Int.reduceLT, Int.reduceLE, Int.reduceBEq, Int.reduceBNe, decide_true, decide_false, Bool.false_eq_true, false_imp_iff, Nat.lt_irrefl]
          exact Fin_plain rfl
        · have hfA := tokens_few s A hA
          have hfA1 := hfA.1
          simp only [go_sem, Nat.reduceMul, Nat.reduceLT, Nat.reduceLeDiff, Nat.reduceEqDiff, Nat.reduceBEq, Int.toNat_natCast, Int.reduceToNat, Int.reduceNeg, Int.reduceLT, Int.reduceLE, Int.reduceBEq, Int.reduceBNe, decide_true, decide_false, Bool.false_eq_true, false_imp_iff, Nat.lt_irrefl]
          refine ACallT.frame (text_ok A cA _ hfA) ?_
          rintro r h2 rfl
          refine ⟨rfl, ?_⟩
          simp only [go_sem, Nat.reduceMul, Nat.reduceLT, Nat.reduceLeDiff, Nat.reduceEqDiff, Nat.reduceBEq, Int.toNat_natCast, Int.reduceToNat, Int.reduceNeg, Int.reduceLT, Int.reduceLE, Int.reduceBEq, Int.reduceBNe, decide_true, decide_false, Bool.false_eq_true, false_imp_iff, Nat.lt_irrefl]
          generalize hz3 : decide ((400 : Int) < ((List.length (textS A) : Nat) : Int)) = z3
          cases z3 with
          | true =>
            simp only [go_sem, Nat.reduceMul, Nat.reduceLT, Nat.reduceLeDiff, Nat.reduceEqDiff, Nat.reduceBEq, Int.toNat_natCast, Int.reduceToNat, Int.reduceNeg, Int.reduceLT, Int.reduceLE, Int.reduceBEq, Int.reduceBNe, decide_true, decide_false, Bool.false_eq_true, false_imp_iff, Nat.lt_irrefl]
            refine ACallT.frame (alive_ok _) ?_
            rintro r h2 rfl
            refine ⟨rfl, ?_⟩
            simp only [go_sem, Nat.reduceMul, Nat.reduceLT, Nat.reduceLeDiff, Nat.reduceEqDiff, Nat.reduceBEq, Int.toNat_natCast, Int.reduceToNat, Int.reduceNeg, Int.reduceLT, Int.reduceLE, Int.reduceBEq, Int.reduceBNe, decide_true, decide_false, Bool.false_eq_true, false_imp_iff, Nat.lt_irrefl]
            exact Fin_plain rfl
          | false =>
            have hle3 : (textS A).length ≤ 400 := by have := of_decide_eq_false hz3; omega
            simp only [go_sem, Nat.reduceMul, Nat.reduceLT, Nat.reduceLeDiff, Nat.reduceEqDiff, Nat.reduceBEq, Int.toNat_natCast, Int.reduceToNat, Int.reduceNeg, Int.reduceLT, Int.reduceLE, Int.reduceBEq, Int.reduceBNe, decide_true, decide_false, Bool.false_eq_true, false_imp_iff, Nat.lt_irrefl]
            refine ACallT.frame (text_ok A cA _ hfA) ?_
            rintro r h2 rfl
            refine ⟨rfl, ?_⟩
            simp only [go_sem, Nat.reduceMul, Nat.reduceLT, Nat.reduceLeDiff, Nat.reduceEqDiff, Nat.reduceBEq, Int.toNat_natCast, Int.reduceToNat, Int.reduceNeg, Int.reduceLT, Int.reduceLE, Int.reduceBEq, Int.reduceBNe, decide_true, decide_false, Bool.false_eq_true, false_imp_iff, Nat.lt_irrefl]
            refine ACallT.frame (tokens_ok (textS A) _ (by omega)) ?_
            intro r h2 hr
            rw [back_law s A hA hle3] at hr
            obtain ⟨cB, rfl⟩ := hr
            refine ⟨by simp [AV.low, lowL, low_toks], ?_⟩
            simp only [go_sem, Nat.reduceMul, Nat.reduceLT, Nat.reduceLeDiff, Nat.reduceEqDiff, Nat.reduceBEq, Int.toNat_natCast, Int.reduceToNat, Int.reduceNeg, Int.reduceLT, Int.reduceLE, Int.reduceBEq, Int.reduceBNe, decide_true, decide_false, Bool.false_eq_true, false_imp_iff, Nat.lt_irrefl]
            refine ACallT.frame (alive_ok _) ?_
            rintro r h2 rfl
            refine ⟨rfl, ?_⟩
            simp only [go_sem, Nat.reduceMul, Nat.reduceLT, Nat.reduceLeDiff, Nat.reduceEqDiff, Nat.reduceBEq, Int.toNat_natCast, Int.reduceToNat, Int.reduceNeg, Int.reduceLT, Int.reduceLE, Int.reduceBEq, Int.reduceBNe, decide_true, decide_false, Bool.false_eq_true, false_imp_iff, Nat.lt_irrefl]
            refine ACallT.by (same_ok A A cA cB _ (by omega) (by omega)) ?_
            rintro r h2 ⟨rfl, rfl⟩
            simp only [go_sem, Nat.reduceMul, Nat.reduceLT, Nat.reduceLeDiff, Nat.reduceEqDiff, Nat.reduceBEq, Int.toNat_natCast, Int.reduceToNat, Int.reduceNeg, Int.reduceLT, Int.reduceLE, Int.reduceBEq, Int.reduceBNe, decide_true, decide_false, Bool.false_eq_true, false_imp_iff, Nat.lt_irrefl]
            refine Fin_plain ?_
            simp
    | true =>
      have hle1 : (textS L).length ≤ 400 := by have := of_decide_eq_true hz1; omega
      have hT1 := right_back L hLR hle1
      simp only [go_sem, Nat.reduceMul, Nat.reduceLT, Nat.reduceLeDiff, Nat.reduceEqDiff, Nat.reduceBEq, Int.toNat_natCast, Int.reduceToNat, Int.reduceNeg, Int.reduceLT, Int.reduceLE, Int.reduceBEq, Int.reduceBNe, decide_true, decide_false, Bool.false_eq_true, false_imp_iff, Nat.lt_irrefl]
      refine ACallT.frame (tokens_ok (textS L) _ (by omega)) ?_
      intro r h2 hr
      rw [hT1] at hr
      obtain ⟨cc1, rfl⟩ := hr
      refine ⟨by simp [AV.low, lowL, low_toks], ?_⟩
      simp only [go_sem, Nat.reduceMul, Nat.reduceLT, Nat.reduceLeDiff, Nat.reduceEqDiff, Nat.reduceBEq, Int.toNat_natCast, Int.reduceToNat, Int.reduceNeg, Int.reduceLT, Int.reduceLE, Int.reduceBEq, Int.reduceBNe, decide_true, decide_false, Bool.false_eq_true, false_imp_iff, Nat.lt_irrefl]
      refine ⟨hos.1, ?_⟩
      rw [hos.2]
      refine ACallT.by (same_at L L cc1 _ _ hX hf (by omega)) ?_
      rintro r h1 ⟨rfl, rfl⟩
      rw [show decide (L = L) = true by simp]
      simp only [go_sem, Nat.reduceMul, Nat.reduceLT, Nat.reduceLeDiff, Nat.reduceEqDiff, Nat.reduceBEq, Int.toNat_natCast, Int.reduceToNat, Int.reduceNeg, Int.reduceLT, Int.reduceLE, Int.reduceBEq, Int.reduceBNe, decide_true, decide_false, Bool.false_eq_true, false_imp_iff, Nat.lt_irrefl]
      generalize hz2 : decide (((List.length (spaceS L) : Nat) : Int) ≤ 400) = z2
      cases z2 with
      | false =>
        simp only [go_sem, Nat.reduceMul, Nat.reduceLT, Nat.reduceLeDiff, Nat.reduceEqDiff, Nat.reduceBEq, Int.toNat_natCast, Int.reduceToNat, Int.reduceNeg, Int.reduceLT, Int.reduceLE, Int.reduceBEq, Int.reduceBNe, decide_true, decide_false, Bool.false_eq_true, false_imp_iff, Nat.lt_irrefl]
        refine acond_intro (fun hq => ?_) (fun hq => ?_)
        · simp only [go_sem, Nat.reduceMul, Nat.reduceLT, Nat.reduceLeDiff, Nat.reduceEqDiff, Nat.reduceBEq, Int.toNat_natCast, Int.reduceToNat, Int.reduceNeg, Int.reduceLT, Int.reduceLE, Int.reduceBEq, Int.reduceBNe, decide_true, decide_false, Bool.false_eq_true, false_imp_iff, Nat.lt_irrefl]
          refine ACallT.frame (alive_ok _) ?_
          rintro r h2 rfl
          refine ⟨rfl, ?_⟩
          simp only [go_sem, Nat.reduceMul, Nat.reduceLT, Nat.reduceLeDiff, Nat.reduceEqDiff, Nat.reduceBEq, Int.toNat_natCast, Int.reduceToNat, Int.reduceNeg, Int.reduceLT, Int.reduceLE, Int.reduceBEq, Int.reduceBNe, decide_true, decide_false, Bool.false_eq_true, false_imp_iff, Nat.lt_irrefl]
          exact Fin_plain rfl
        have hs5 : s.length ≤ 500 := by have := of_decide_eq_false hq; omega
        simp only [go_sem, Nat.reduceMul, Nat.reduceLT, Nat.reduceLeDiff, Nat.reduceEqDiff, Nat.reduceBEq, Int.toNat_natCast, Int.reduceToNat, Int.reduceNeg, Int.reduceLT, Int.reduceLE, Int.reduceBEq, Int.reduceBNe, decide_true, decide_false, Bool.false_eq_true, false_imp_iff, Nat.lt_irrefl]
        refine ACallT.frame (tokens_ok s _ (by omega)) ?_
        intro r h2 hr
        obtain ⟨cA, A, eA, rfl, hlow, hA⟩ := toksK_any hr
        refine ⟨hlow, ?_⟩
        rcases hA with ⟨hN, rfl, rfl⟩ | ⟨hA, rfl⟩
        · simp only [go_sem, Nat.reduceMul, Nat.reduceLT, Nat.reduceLeDiff, Nat.reduceEqDiff, Nat.reduceBEq, Int.toNat_natCast, Int.reduceToNat, Int.reduceNeg, Int.reduceLT, Int.reduceLE, Int.reduceBEq, Int.reduceBNe, decide_true, decide_false, Bool.false_eq_true, false_imp_iff, Nat.lt_irrefl]
          refine ACallT.frame (alive_ok _) ?_
          rintro r h2 rfl
          refine ⟨rfl, ?_⟩
          simp only [go_sem, Nat.reduceMul, Nat.reduceLT, Nat.reduceLeDiff, Nat.reduceEqDiff, Nat.reduceBEq, Int.toNat_natCast, Int.reduceToNat, Int.reduceNeg, Int.reduceLT, Int.reduceLE, Int.reduceBEq, Int.reduceBNe, decide_true, decide_false, Bool.false_eq_true, false_imp_iff, Nat.lt_irrefl]
          exact Fin_plain rfl
        · have hfA := tokens_few s A hA
          have hfA1 := hfA.1
          simp only [go_sem, Nat.reduceMul, Nat.reduceLT, Nat.reduceLeDiff, Nat.reduceEqDiff, Nat.reduceBEq, Int.toNat_natCast, Int.reduceToNat, Int.reduceNeg, Int.reduceLT, Int.reduceLE, Int.reduceBEq, Int.reduceBNe, decide_true, decide_false, Bool.false_eq_true, false_imp_iff, Nat.lt_irrefl]
          refine ACallT.frame (text_ok A cA _ hfA) ?_
          rintro r h2 rfl
          refine ⟨rfl, ?_⟩
          simp only [go_sem, Nat.reduceMul, Nat.reduceLT, Nat.reduceLeDiff, Nat.reduceEqDiff, Nat.reduceBEq, Int.toNat_natCast, Int.reduceToNat, Int.reduceNeg, Int.reduceLT, Int.reduceLE, Int.reduceBEq, Int.reduceBNe, decide_true, decide_false, Bool.false_eq_true, false_imp_iff, Nat.lt_irrefl]
          generalize hz3 : decide ((400 : Int) < ((List.length (textS A) : Nat) : Int)) = z3
          cases z3 with
          | true =>
            simp only [go_sem, Nat.reduceMul, Nat.reduceLT, Nat.reduceLeDiff, Nat.reduceEqDiff, Nat.reduceBEq, Int.toNat_natCast, Int.reduceToNat, Int.reduceNeg, Int.reduceLT, Int.reduceLE, Int.reduceBEq, Int.reduceBNe, decide_true, decide_false, Bool.false_eq_true, false_imp_iff, Nat.lt_irrefl]
            refine ACallT.frame (alive_ok _) ?_
            rintro r h2 rfl
            refine ⟨rfl, ?_⟩
            simp only [go_sem, Nat.reduceMul, Nat.reduceLT, Nat.reduceLeDiff, Nat.reduceEqDiff, Nat.reduceBEq, Int.toNat_natCast, Int.reduceToNat, Int.reduceNeg, Int.reduceLT, Int.reduceLE, Int.reduceBEq, Int.reduceBNe, decide_true, decide_false, Bool.false_eq_true, false_imp_iff, Nat.lt_irrefl]
            exact Fin_plain rfl
          | false =>
            have hle3 : (textS A).length ≤ 400 := by have := of_decide_eq_false hz3; omega
            simp only [go_sem, Nat.reduceMul, Nat.reduceLT, Nat.reduceLeDiff, Nat.reduceEqDiff, Nat.reduceBEq, Int.toNat_natCast, Int.reduceToNat, Int.reduceNeg, Int.reduceLT, Int.reduceLE, Int.reduceBEq, Int.reduceBNe, decide_true, decide_false, Bool.false_eq_true, false_imp_iff, Nat.lt_irrefl]
            refine ACallT.frame (text_ok A cA _ hfA) ?_
            rintro r h2 rfl
            refine ⟨rfl, ?_⟩
            simp only [go_sem, Nat.reduceMul, Nat.reduceLT, Nat.reduceLeDiff, Nat.reduceEqDiff, Nat.reduceBEq, Int.toNat_natCast, Int.reduceToNat, Int.reduceNeg, Int.reduceLT, Int.reduceLE, Int.reduceBEq, Int.reduceBNe, decide_true, decide_false, Bool.false_eq_true, false_imp_iff, Nat.lt_irrefl]
            refine ACallT.frame (tokens_ok (textS A) _ (by omega)) ?_
            intro r h2 hr
            rw [back_law s A hA hle3] at hr
            obtain ⟨cB, rfl⟩ := hr
            refine ⟨by simp [AV.low, lowL, low_toks], ?_⟩
            simp only [go_sem, Nat.reduceMul, Nat.reduceLT, Nat.reduceLeDiff, Nat.reduceEqDiff, Nat.reduceBEq, Int.toNat_natCast, Int.reduceToNat, Int.reduceNeg, Int.reduceLT, Int.reduceLE, Int.reduceBEq, Int.reduceBNe, decide_true, decide_false, Bool.false_eq_true, false_imp_iff, Nat.lt_irrefl]
            refine ACallT.frame (alive_ok _) ?_
            rintro r h2 rfl
            refine ⟨rfl, ?_⟩
            simp only [go_sem, Nat.reduceMul, Nat.reduceLT, Nat.reduceLeDiff, Nat.reduceEqDiff, Nat.reduceBEq, Int.toNat_natCast, Int.reduceToNat, Int.reduceNeg, Int.reduceLT, Int.reduceLE, Int.reduceBEq, Int.reduceBNe, decide_true, decide_false, Bool.false_eq_true, false_imp_iff, Nat.lt_irrefl]
            refine ACallT.by (same_ok A A cA cB _ (by omega) (by omega)) ?_
            rintro r h2 ⟨rfl, rfl⟩
            simp only [go_sem, Nat.reduceMul, Nat.reduceLT, Nat.reduceLeDiff, Nat.reduceEqDiff, Nat.reduceBEq, Int.toNat_natCast, Int.reduceToNat, Int.reduceNeg, Int.reduceLT, Int.reduceLE, Int.reduceBEq, Int.reduceBNe, decide_true, decide_false, Bool.false_eq_true, false_imp_iff, Nat.lt_irrefl]
            refine Fin_plain ?_
            simp
      | true =>
        have hle2 : (spaceS L).length ≤ 400 := by have := of_decide_eq_true hz2; omega
        have hT2 := space_back L hLR hle2
        simp only [go_sem, Nat.reduceMul, Nat.reduceLT, Nat.reduceLeDiff, Nat.reduceEqDiff, Nat.reduceBEq, Int.toNat_natCast, Int.reduceToNat, Int.reduceNeg, Int.reduceLT, Int.reduceLE, Int.reduceBEq, Int.reduceBNe, decide_true, decide_false, Bool.false_eq_true, false_imp_iff, Nat.lt_irrefl]
        refine ACallT.frame (tokens_ok (spaceS L) _ (by omega)) ?_
        intro r h2 hr
        rw [hT2] at hr
        obtain ⟨cc2, rfl⟩ := hr
        refine ⟨by simp [AV.low, lowL, low_toks], ?_⟩
        simp only [go_sem, Nat.reduceMul, Nat.reduceLT, Nat.reduceLeDiff, Nat.reduceEqDiff, Nat.reduceBEq, Int.toNat_natCast, Int.reduceToNat, Int.reduceNeg, Int.reduceLT, Int.reduceLE, Int.reduceBEq, Int.reduceBNe, decide_true, decide_false, Bool.false_eq_true, false_imp_iff, Nat.lt_irrefl]
        refine ⟨hos.1, ?_⟩
        rw [hos.2]
        refine ACallT.by (same_at L L cc2 _ _ hX hf (by omega)) ?_
        rintro r h1 ⟨rfl, rfl⟩
        rw [show decide (L = L) = true by simp]
        simp only [go_sem, Nat.reduceMul, Nat.reduceLT, Nat.reduceLeDiff, Nat.reduceEqDiff, Nat.reduceBEq, Int.toNat_natCast, Int.reduceToNat, Int.reduceNeg, Int.reduceLT, Int.reduceLE, Int.reduceBEq, Int.reduceBNe, decide_true, decide_false, Bool.false_eq_true, false_imp_iff, Nat.lt_irrefl]
        refine acond_intro (fun hq => ?_) (fun hq => ?_)
        · simp only [go_sem, Nat.reduceMul, Nat.reduceLT, Nat.reduceLeDiff, Nat.reduceEqDiff, Nat.reduceBEq, Int.toNat_natCast, Int.reduceToNat, Int.reduceNeg, Int.reduceLT, Int.reduceLE, Int.reduceBEq, Int.reduceBNe, decide_true, decide_false, Bool.false_eq_true, false_imp_iff, Nat.lt_irrefl]
          refine ACallT.frame (alive_ok _) ?_
          rintro r h2 rfl
          refine ⟨rfl, ?_⟩
          simp only [go_sem, Nat.reduceMul, Nat.reduceLT, Nat.reduceLeDiff, Nat.reduceEqDiff, Nat.reduceBEq, Int.toNat_natCast, Int.reduceToNat, Int.reduceNeg, Int.reduceLT, Int.reduceLE, Int.reduceBEq, Int.reduceBNe, decide_true, decide_false, Bool.false_eq_true, false_imp_iff, Nat.lt_irrefl]
          exact Fin_plain rfl
        have hs5 : s.length ≤ 500 := by have := of_decide_eq_false hq; omega
        simp only [go_sem, Nat.reduceMul, Nat.reduceLT, Nat.reduceLeDiff, Nat.reduceEqDiff, Nat.reduceBEq, Int.toNat_natCast, Int.reduceToNat, Int.reduceNeg, Int.reduceLT, Int.reduceLE, Int.reduceBEq, Int.reduceBNe, decide_true, decide_false, Bool.false_eq_true, false_imp_iff, Nat.lt_irrefl]
        refine ACallT.frame (tokens_ok s _ (by omega)) ?_
        intro r h2 hr
        obtain ⟨cA, A, eA, rfl, hlow, hA⟩ := toksK_any hr
        refine ⟨hlow, ?_⟩
        rcases hA with ⟨hN, rfl, rfl⟩ | ⟨hA, rfl⟩
        · simp only [go_sem, Nat.reduceMul, Nat.reduceLT, Nat.reduceLeDiff, Nat.reduceEqDiff, Nat.reduceBEq, Int.toNat_natCast, Int.reduceToNat, Int.reduceNeg, Int.reduceLT, Int.reduceLE, Int.reduceBEq, Int.reduceBNe, decide_true, decide_false, Bool.false_eq_true, false_imp_iff, Nat.lt_irrefl]
          refine ACallT.frame (alive_ok _) ?_
          rintro r h2 rfl
          refine ⟨rfl, ?_⟩
          simp only [go_sem, Nat.reduceMul, Nat.reduceLT, Nat.reduceLeDiff, Nat.reduceEqDiff, Nat.reduceBEq, Int.toNat_natCast, Int.reduceToNat, Int.reduceNeg, Int.reduceLT, Int.reduceLE, Int.reduceBEq, Int.reduceBNe, decide_true, decide_false, Bool.false_eq_true, false_imp_iff, Nat.lt_irrefl]
          exact Fin_plain rfl
        · have hfA := tokens_few s A hA
          have hfA1 := hfA.1
          simp only [go_sem, Nat.reduceMul, Nat.reduceLT, Nat.reduceLeDiff, Nat.reduceEqDiff, Nat.reduceBEq, Int.toNat_natCast, Int.reduceToNat, Int.reduceNeg, Int.reduceLT, Int.reduceLE, Int.reduceBEq, Int.reduceBNe, decide_true, decide_false, Bool.false_eq_true, false_imp_iff, Nat.lt_irrefl]
          refine ACallT.frame (text_ok A cA _ hfA) ?_
          rintro r h2 rfl
          refine ⟨rfl, ?_⟩
          simp only [go_sem, Nat.reduceMul, Nat.reduceLT, Nat.reduceLeDiff, Nat.reduceEqDiff, Nat.reduceBEq, Int.toNat_natCast, Int.reduceToNat, Int.reduceNeg, Int.reduceLT, Int.reduceLE, Int.reduceBEq, Int.reduceBNe, decide_true, decide_false, Bool.false_eq_true, false_imp_iff, Nat.lt_irrefl]
          generalize hz3 : decide ((400 : Int) < ((List.length (textS A) : Nat) : Int)) = z3
          cases z3 with
          | true =>
            simp only [go_sem, Nat.reduceMul, Nat.reduceLT, Nat.reduceLeDiff, Nat.reduceEqDiff, Nat.reduceBEq, Int.toNat_natCast, Int.reduceToNat, Int.reduceNeg, Int.reduceLT, Int.reduceLE, Int.reduceBEq, Int.reduceBNe, decide_true, decide_false, Bool.false_eq_true, false_imp_iff, Nat.lt_irrefl]
            refine ACallT.frame (alive_ok _) ?_
            rintro r h2 rfl
            refine ⟨rfl, ?_⟩
            simp only [go_sem, Nat.reduceMul, Nat.reduceLT, Nat.reduceLeDiff, Nat.reduceEqDiff, Nat.reduceBEq, Int.toNat_natCast, Int.reduceToNat, Int.reduceNeg, Int.reduceLT, Int.reduceLE, Int.reduceBEq, Int.reduceBNe, decide_true, decide_false, Bool.false_eq_true, false_imp_iff, Nat.lt_irrefl]
            exact Fin_plain rfl
          | false =>
            have hle3 : (textS A).length ≤ 400 := by have := of_decide_eq_false hz3; omega
            simp only [go_sem, Nat.reduceMul, Nat.reduceLT, Nat.reduceLeDiff, Nat.reduceEqDiff, Nat.reduceBEq, Int.toNat_natCast, Int.reduceToNat, Int.reduceNeg, Int.reduceLT, Int.reduceLE, Int.reduceBEq, Int.reduceBNe, decide_true, decide_false, Bool.false_eq_true, false_imp_iff, Nat.lt_irrefl]
            refine ACallT.frame (text_ok A cA _ hfA) ?_
            rintro r h2 rfl
            refine ⟨rfl, ?_⟩
            simp only [go_sem, Nat.reduceMul, Nat.reduceLT, Nat.reduceLeDiff, Nat.reduceEqDiff, Nat.reduceBEq, Int.toNat_natCast, Int.reduceToNat, Int.reduceNeg, Int.reduceLT, Int.reduceLE, Int.reduceBEq, Int.reduceBNe, decide_true, decide_false, Bool.false_eq_true, false_imp_iff, Nat.lt_irrefl]
            refine ACallT.frame (tokens_ok (textS A) _ (by omega)) ?_
            intro r h2 hr
            rw [back_law s A hA hle3] at hr
            obtain ⟨cB, rfl⟩ := hr
            refine ⟨by simp [AV.low, lowL, low_toks], ?_⟩
            simp only [go_sem, Nat.reduceMul, Nat.reduceLT, Nat.reduceLeDiff, Nat.reduceEqDiff, Nat.reduceBEq, Int.toNat_natCast, Int.reduceToNat, Int.reduceNeg, Int.reduceLT, Int.reduceLE, Int.reduceBEq, Int.reduceBNe, decide_true, decide_false, Bool.false_eq_true, false_imp_iff, Nat.lt_irrefl]
            refine ACallT.frame (alive_ok _) ?_
            rintro r h2 rfl
            refine ⟨rfl, ?_⟩
            simp only [go_sem, Nat.reduceMul, Nat.reduceLT, Nat.reduceLeDiff, Nat.reduceEqDiff, Nat.reduceBEq, Int.toNat_natCast, Int.reduceToNat, Int.reduceNeg, Int.reduceLT, Int.reduceLE, Int.reduceBEq, Int.reduceBNe, decide_true, decide_false, Bool.false_eq_true, false_imp_iff, Nat.lt_irrefl]
            refine ACallT.by (same_ok A A cA cB _ (by omega) (by omega)) ?_
            rintro r h2 ⟨rfl, rfl⟩
            simp only [go_sem, Nat.reduceMul, Nat.reduceLT, Nat.reduceLeDiff, Nat.reduceEqDiff, Nat.reduceBEq, Int.toNat_natCast, Int.reduceToNat, Int.reduceNeg, Int.reduceLT, Int.reduceLE, Int.reduceBEq, Int.reduceBNe, decide_true, decide_false, Bool.false_eq_true, false_imp_iff, Nat.lt_irrefl]
            refine Fin_plain ?_
            simp
end Go.Proofs.Vale
