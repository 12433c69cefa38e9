/- YtchboekipfpheaaDoorVLexK: a text of the proof of this claim, by its prover. -/
import Derived.Test.YtchboekipfpheaaDoorVLexI
set_option linter.unusedVariables false
set_option linter.unusedSimpArgs false
set_option maxHeartbeats 4000000
set_option maxRecDepth 100000
namespace Go.Proofs.Vale
open Go.Proofs Go.Proofs.YtchboekipfpheaaDoorT
attribute [local irreducible] acode aopsL aopsT dopsL dopsT dmL dmT pop popG aop ALoop ADraw ACall AWP AFin acondT ALoopT ADrawT ACallT doP doG doGd

def oneR (w : Str) : Option Tok :=
  if letB (List.getD w 0 0) = true then some (0, w, 0)
  else if List.getD w 0 0 = 34 then (if w.length < 2 ∨ List.getD w (w.length - 1) 0 ≠ 34 then none else if valueS ((w.take (w.length - 1)).drop 1) = true then some (2, (w.take (w.length - 1)).drop 1, 0) else none)
  else match numR w with | some v => some (1, w, v) | none => none
def oneK (o : Option Tok) (r : AV) : Prop :=
  match o with
  | some t => r = .tup [tokA t, .bool true]
  | none => ∃ t : Tok, r = .tup [tokA t, .bool false]
theorem one_ok (w : Str) (h : List AObj) (hl : 0 < w.length) (hw : w.length ≤ 9223372036854775000) : ACall Tryd.prog 21 [.str w] h (fun r _ => oneK (oneR w) r) := by
  have hR := oneR.eq_1 w
  (refine ACall.of_code Tryd.func21 rfl ?_; simp only [Tryd.f21]; simp only [go_sem, Nat.reduceMul, Nat.reduceLT, Nat.reduceLeDiff, Nat.reduceEqDiff, Nat.reduceBEq, Int.toNat_natCast, Int.reduceToNat, Int.reduceNeg, Int.reduceLT, Int.reduceLE, Int.reduceBEq, Int.reduceBNe, decide_true, decide_false, Bool.false_eq_true, false_imp_iff, Nat.lt_irrefl])
  refine ⟨by omega, ?_⟩
  refine ACallT.by (rletter_ok (List.getD w 0 0) _) ?_
  rintro r h1 ⟨rfl, rfl⟩
  generalize hc0 : List.getD w 0 0 = c at *
  generalize hlc : letB c = lc at *
  cases lc with
  | true =>
    simp only [go_sem, Nat.reduceMul, Nat.reduceLT, Nat.reduceLeDiff, Nat.reduceEqDiff, Nat.reduceBEq, Int.toNat_natCast, Int.reduceToNat, Int.reduceNeg, Int.reduceLT, Int.reduceLE, Int.reduceBEq, Int.reduceBNe, decide_true, decide_false, Bool.false_eq_true, false_imp_iff, Nat.lt_irrefl]
    refine Fin_plain ?_
    rw [hR, if_pos rfl]; rfl
  | false =>
    rw [if_neg (by simp)] at hR
    simp only [go_sem, Nat.reduceMul, Nat.reduceLT, Nat.reduceLeDiff, Nat.reduceEqDiff, Nat.reduceBEq, Int.toNat_natCast, Int.reduceToNat, Int.reduceNeg, Int.reduceLT, Int.reduceLE, Int.reduceBEq, Int.reduceBNe, decide_true, decide_false, Bool.false_eq_true, false_imp_iff, Nat.lt_irrefl]
    refine ⟨by omega, ?_⟩
    rw [hc0, show ((c.toNat : Int) == 34) = (c == 34) from byte_eq c 34 (by omega)]
    generalize hq : (c == 34) = q
    cases q with
    | true =>
      rw [if_pos (by simpa using hq)] at hR
      simp only [go_sem, Nat.reduceMul, Nat.reduceLT, Nat.reduceLeDiff, Nat.reduceEqDiff, Nat.reduceBEq, Int.toNat_natCast, Int.reduceToNat, Int.reduceNeg, Int.reduceLT, Int.reduceLE, Int.reduceBEq, Int.reduceBNe, decide_true, decide_false, Bool.false_eq_true, false_imp_iff, Nat.lt_irrefl]
      generalize hz : decide ((w.length : Int) < 2) = z
      cases z with
      | true =>
        have := of_decide_eq_true hz
        simp only [go_sem, Nat.reduceMul, Nat.reduceLT, Nat.reduceLeDiff, Nat.reduceEqDiff, Nat.reduceBEq, Int.toNat_natCast, Int.reduceToNat, Int.reduceNeg, Int.reduceLT, Int.reduceLE, Int.reduceBEq, Int.reduceBNe, decide_true, decide_false, Bool.false_eq_true, false_imp_iff, Nat.lt_irrefl]
        refine Fin_plain ?_
        rw [hR, if_pos (.inl (by omega))]
        exact ⟨(0, [], 0), rfl⟩
      | false =>
        have h2 := of_decide_eq_false hz
        simp only [go_sem, Nat.reduceMul, Nat.reduceLT, Nat.reduceLeDiff, Nat.reduceEqDiff, Nat.reduceBEq, Int.toNat_natCast, Int.reduceToNat, Int.reduceNeg, Int.reduceLT, Int.reduceLE, Int.reduceBEq, Int.reduceBNe, decide_true, decide_false, Bool.false_eq_true, false_imp_iff, Nat.lt_irrefl]
        rw [wrap_id (x := (w.length : Int) - 1) (by omega) (by omega)]
        rw [show ((w.length : Int) - 1).toNat = w.length - 1 by omega]
        refine ⟨⟨by omega, by omega⟩, ?_⟩
        rw [show (((List.getD w (w.length - 1) 0).toNat : Int) != 34) = (List.getD w (w.length - 1) 0 != 34) by rw [bne, bne, show (((List.getD w (w.length - 1) 0).toNat : Int) == 34) = (List.getD w (w.length - 1) 0 == 34) from byte_eq _ 34 (by omega)]]
        refine acond_intro (fun hb => ?_) (fun hb => ?_)
        · simp only [go_sem, Nat.reduceMul, Nat.reduceLT, Nat.reduceLeDiff, Nat.reduceEqDiff, Nat.reduceBEq, Int.toNat_natCast, Int.reduceToNat, Int.reduceNeg, Int.reduceLT, Int.reduceLE, Int.reduceBEq, Int.reduceBNe, decide_true, decide_false, Bool.false_eq_true, false_imp_iff, Nat.lt_irrefl]
          refine Fin_plain ?_
          rw [hR, if_pos (.inr (by simpa using hb))]
          exact ⟨(0, [], 0), rfl⟩
        · have hb2 : List.getD w (w.length - 1) 0 = 34 := by simpa using hb
          rw [if_neg (by rintro (q | q); · omega
                         · exact q hb2)] at hR
          simp only [go_sem, Nat.reduceMul, Nat.reduceLT, Nat.reduceLeDiff, Nat.reduceEqDiff, Nat.reduceBEq, Int.toNat_natCast, Int.reduceToNat, Int.reduceNeg, Int.reduceLT, Int.reduceLE, Int.reduceBEq, Int.reduceBNe, decide_true, decide_false, Bool.false_eq_true, false_imp_iff, Nat.lt_irrefl]
          rw [wrap_id (x := (w.length : Int) - 1) (by omega) (by omega)]
          rw [show ((w.length : Int) - 1).toNat = w.length - 1 by omega]
          have hvl : (List.drop 1 (List.take (w.length - 1) w)).length ≤ w.length := by rw [List.length_drop, List.length_take]; omega
          refine ⟨⟨by omega, by omega⟩, ?_⟩
          generalize List.drop 1 (List.take (w.length - 1) w) = v at *
          refine ACallT.by (rvalue_ok v _ (by omega)) ?_
          rintro r h1 ⟨rfl, rfl⟩
          generalize valueS v = vv at *
          cases vv with
          | true =>
            simp only [go_sem, Nat.reduceMul, Nat.reduceLT, Nat.reduceLeDiff, Nat.reduceEqDiff, Nat.reduceBEq, Int.toNat_natCast, Int.reduceToNat, Int.reduceNeg, Int.reduceLT, Int.reduceLE, Int.reduceBEq, Int.reduceBNe, decide_true, decide_false, Bool.false_eq_true, false_imp_iff, Nat.lt_irrefl]
            refine Fin_plain ?_
            rw [hR, if_pos rfl]; rfl
          | false =>
            simp only [go_sem, Nat.reduceMul, Nat.reduceLT, Nat.reduceLeDiff, Nat.reduceEqDiff, Nat.reduceBEq, Int.toNat_natCast, Int.reduceToNat, Int.reduceNeg, Int.reduceLT, Int.reduceLE, Int.reduceBEq, Int.reduceBNe, decide_true, decide_false, Bool.false_eq_true, false_imp_iff, Nat.lt_irrefl]
            refine Fin_plain ?_
            rw [hR, if_neg (by simp)]; exact ⟨(2, v, 0), rfl⟩
    | false =>
      rw [if_neg (by simpa using hq)] at hR
      simp only [go_sem, Nat.reduceMul, Nat.reduceLT, Nat.reduceLeDiff, Nat.reduceEqDiff, Nat.reduceBEq, Int.toNat_natCast, Int.reduceToNat, Int.reduceNeg, Int.reduceLT, Int.reduceLE, Int.reduceBEq, Int.reduceBNe, decide_true, decide_false, Bool.false_eq_true, false_imp_iff, Nat.lt_irrefl]
      refine ACallT.by (rnumber_ok w _ hl hw) ?_
      rintro r h1 ⟨hr, rfl⟩
      unfold numK at hr
      subst hr
      rcases hn : numR w with _ | v
      · rw [hn] at hR
        simp only [go_sem, Nat.reduceMul, Nat.reduceLT, Nat.reduceLeDiff, Nat.reduceEqDiff, Nat.reduceBEq, Int.toNat_natCast, Int.reduceToNat, Int.reduceNeg, Int.reduceLT, Int.reduceLE, Int.reduceBEq, Int.reduceBNe, decide_true, decide_false, Bool.false_eq_true, false_imp_iff, Nat.lt_irrefl]
        refine Fin_plain ?_
        rw [hR]; exact ⟨(1, w, 0), rfl⟩
      · rw [hn] at hR
        simp only [go_sem, Nat.reduceMul, Nat.reduceLT, Nat.reduceLeDiff, Nat.reduceEqDiff, Nat.reduceBEq, Int.toNat_natCast, Int.reduceToNat, Int.reduceNeg, Int.reduceLT, Int.reduceLE, Int.reduceBEq, Int.reduceBNe, decide_true, decide_false, Bool.false_eq_true, false_imp_iff, Nat.lt_irrefl]
        refine Fin_plain ?_
        rw [hR]; rfl
end Go.Proofs.Vale

set_option linter.unusedVariables false
set_option linter.unusedSimpArgs false
set_option maxHeartbeats 4000000
set_option maxRecDepth 100000
namespace Go.Proofs.Vale
open Go.Proofs Go.Proofs.YtchboekipfpheaaDoorT
attribute [local irreducible] acode aopsL aopsT dopsL dopsT dmL dmT pop popG aop ALoop ADraw ACall AWP AFin acondT ALoopT ADrawT ACallT doP doG doGd

/-! ### The document's tokens -/
def gapB (b : UInt8) : Bool := bif (bif b == 32 then true else b == 9) then true else b == 10
def tokRF : Nat → Str → Option (List Tok)
  | _, [] => some []
  | 0, _ :: _ => none
  | n + 1, c :: r =>
    if gapB c = true then tokRF n r
    else if signB c = true then (tokRF n r).map ((3, [c], 0) :: ·)
    else if letB c = false ∧ figB c = false ∧ c ≠ 45 ∧ c ≠ 34 then none
    else match oneR ((c :: r).take (endN (c :: r))) with
      | none => none
      | some t => (tokRF n ((c :: r).drop (endN (c :: r)))).map (t :: ·)
def tokensR (s : Str) : Option (List Tok) := if 400 < s.length then none else tokRF s.length s
theorem endN_le (u : Str) (h : 0 < u.length) : 1 ≤ endN u ∧ endN u ≤ u.length := by
  unfold endN
  split
  · omega
  · exact uptoN_le _ u h
theorem rtokens_ok (s : Str) (h : List AObj) (hs : s.length ≤ 9223372036854775000) : ACall Tryd.prog 9 [.str s] h (fun r _ => toksK (tokensR s) r) := by
  (refine ACall.of_code Tryd.func9 rfl ?_; simp only [Tryd.f9]; simp only [go_sem, Nat.reduceMul, Nat.reduceLT, Nat.reduceLeDiff, Nat.reduceEqDiff, Nat.reduceBEq, Int.toNat_natCast, Int.reduceToNat, Int.reduceNeg, Int.reduceLT, Int.reduceLE, Int.reduceBEq, Int.reduceBNe, decide_true, decide_false, Bool.false_eq_true, false_imp_iff, Nat.lt_irrefl])
  generalize hz : decide ((400 : Int) < (s.length : Int)) = z
  cases z with
  | true =>
    have := of_decide_eq_true hz
    simp only [go_sem, Nat.reduceMul, Nat.reduceLT, Nat.reduceLeDiff, Nat.reduceEqDiff, Nat.reduceBEq, Int.toNat_natCast, Int.reduceToNat, Int.reduceNeg, Int.reduceLT, Int.reduceLE, Int.reduceBEq, Int.reduceBNe, decide_true, decide_false, Bool.false_eq_true, false_imp_iff, Nat.lt_irrefl]
    refine Fin_plain ?_
    rw [tokensR, if_pos (by omega)]; rfl
  | false =>
    have := of_decide_eq_false hz
    have hT : tokensR s = tokRF s.length s := by rw [tokensR, if_neg (by omega)]
    simp only [go_sem, Nat.reduceMul, Nat.reduceLT, Nat.reduceLeDiff, Nat.reduceEqDiff, Nat.reduceBEq, Int.toNat_natCast, Int.reduceToNat, Int.reduceNeg, Int.reduceLT, Int.reduceLE, Int.reduceBEq, Int.reduceBNe, decide_true, decide_false, Bool.false_eq_true, false_imp_iff, Nat.lt_irrefl]
    refine ALoop.over [2, 3, 4, 5, 6, 7, 8, 9, 10, 11, 12, 16, 17, 18, 19, 20, 21, 22, 23, 24, 25, 26, 27, 28, 29, 30, 31, 32, 33, 34, 35, 36, 37, 38, 39, 40, 41, 42, 43, 44, 45, 46, 47, 48, 49, 50, 51, 52, 53, 54, 55, 56, 57, 58, 59, 60, 61, 62, 63, 64, 65, 66, 67, 68, 69, 70, 71, 72, 73, 74, 75, 76, 77, 78, 79, 80, 81, 82, 83, 84] (fun e h' => ∃ (i n : Nat) (L : List Tok), e.getD 5 .any = .int .i64 (i : Int) ∧ i ≤ s.length ∧ s.length ≤ n + i ∧ n + L.length ≤ 400 ∧ tokensR s = (tokRF n (s.drop i)).map (L ++ ·) ∧ ((e.getD 4 .any = .fz true [] ∧ L = []) ∨ ∃ t g, t < h'.length ∧ e.getD 4 .any = .sl t g 3 0 L.length ∧ h'[t]? = some (.arr g 3 (toks L)))) (fun e _ => s.length - natA (e.getD 5 .any)) ⟨0, s.length, [], rfl, by omega, by omega, by simp; omega, by rw [hT]; simp, .inl ⟨rfl, rfl⟩⟩ ?_
    simp only [List.length_cons, List.length_nil, Nat.reduceAdd, allL_succ, allL_zero]
    intro y2 y3 y4 y5 y6 y7 y8 y9 y10 y11 y12 y16 y17 y18 y19 y20 y21 y22 y23 y24 y25 y26 y27 y28 y29 y30 y31 y32 y33 y34 y35 y36 y37 y38 y39 y40 y41 y42 y43 y44 y45 y46 y47 y48 y49 y50 y51 y52 y53 y54 y55 y56 y57 y58 y59 y60 y61 y62 y63 y64 y65 y66 y67 y68 y69 y70 y71 y72 y73 y74 y75 y76 y77 y78 y79 y80 y81 y82 y83 y84 h' hI
    simp only [go_sem] at hI
    obtain ⟨i, n, L, rfl, hi, hn, hnL, hA, hX⟩ := hI
    simp only [go_sem, Nat.reduceMul, Nat.reduceLT, Nat.reduceLeDiff, Nat.reduceEqDiff, Nat.reduceBEq, Int.toNat_natCast, Int.reduceToNat, Int.reduceNeg, Int.reduceLT, Int.reduceLE, Int.reduceBEq, Int.reduceBNe, decide_true, decide_false, Bool.false_eq_true, false_imp_iff, Nat.lt_irrefl]
    refine acond_intro (fun hc => ?_) (fun hc => ?_)
    · have hlt : i < s.length := by have := of_decide_eq_true hc; omega
      have hg0 : List.getD s i 0 = s[i] := str_get s i hlt
      obtain ⟨m, rfl⟩ : ∃ m, n = m + 1 := ⟨n - 1, by omega⟩
      have hdr : s.drop i = s[i] :: s.drop (i + 1) := List.drop_eq_getElem_cons hlt
      have hul : (s.drop i).length = s.length - i := List.length_drop
      have hen := endN_le (s.drop i) (by omega)
      rw [hdr, tokRF, ← hdr] at hA
      simp only [go_sem, hg0, Nat.reduceMul, Nat.reduceLT, Nat.reduceLeDiff, Nat.reduceEqDiff, Nat.reduceBEq, Int.toNat_natCast, Int.reduceToNat, Int.reduceNeg, Int.reduceLT, Int.reduceLE, Int.reduceBEq, Int.reduceBNe, decide_true, decide_false, Bool.false_eq_true, false_imp_iff, Nat.lt_irrefl]
      generalize hcc : s[i] = c at *
      refine ⟨⟨by omega, by omega⟩, ?_⟩
      have hgap : (bif bif ((c.toNat : Int) == 32) then true else ((c.toNat : Int) == 9) then true else ((c.toNat : Int) == 10)) = gapB c := by
        rw [show ((c.toNat : Int) == 32) = (c == 32) from byte_eq c 32 (by omega), show ((c.toNat : Int) == 9) = (c == 9) from byte_eq c 9 (by omega), show ((c.toNat : Int) == 10) = (c == 10) from byte_eq c 10 (by omega)]; rfl
      rw [hgap]
      generalize hgp : gapB c = gp at *
      cases gp with
      | true =>
        rw [if_pos rfl] at hA
        simp only [go_sem, Nat.reduceMul, Nat.reduceLT, Nat.reduceLeDiff, Nat.reduceEqDiff, Nat.reduceBEq, Int.toNat_natCast, Int.reduceToNat, Int.reduceNeg, Int.reduceLT, Int.reduceLE, Int.reduceBEq, Int.reduceBNe, decide_true, decide_false, Bool.false_eq_true, false_imp_iff, Nat.lt_irrefl]
        rw [wrap_id (by omega) (by omega)]
        exact ⟨⟨i + 1, m, L, rfl, by omega, by omega, by omega, hA, hX⟩, by omega⟩
      | false =>
        rw [if_neg (by simp)] at hA
        simp only [go_sem, Nat.reduceMul, Nat.reduceLT, Nat.reduceLeDiff, Nat.reduceEqDiff, Nat.reduceBEq, Int.toNat_natCast, Int.reduceToNat, Int.reduceNeg, Int.reduceLT, Int.reduceLE, Int.reduceBEq, Int.reduceBNe, decide_true, decide_false, Bool.false_eq_true, false_imp_iff, Nat.lt_irrefl]
        refine ACallT.by (rsign_ok c _) ?_
        rintro r h1 ⟨rfl, rfl⟩
        generalize hsg : signB c = sg at *
        cases sg with
        | true =>
          rw [if_pos rfl] at hA
          have hone : List.drop i (List.take (i + 1) s) = [c] := by
            rw [List.take_succ_eq_append_getElem hlt, List.drop_append_of_le_length (by rw [List.length_take]; omega), List.drop_eq_nil_of_le (by rw [List.length_take]; omega), hcc]; rfl
          simp only [go_sem, Nat.reduceMul, Nat.reduceLT, Nat.reduceLeDiff, Nat.reduceEqDiff, Nat.reduceBEq, Int.toNat_natCast, Int.reduceToNat, Int.reduceNeg, Int.reduceLT, Int.reduceLE, Int.reduceBEq, Int.reduceBNe, decide_true, decide_false, Bool.false_eq_true, false_imp_iff, Nat.lt_irrefl]
          rw [wrap_id (x := (i : Int) + 1) (by omega) (by omega), show ((i : Int) + 1).toNat = i + 1 by omega, hone]
          refine ⟨⟨by omega, by omega, by omega⟩, ?_⟩
          rcases hX with ⟨rfl, rfl⟩ | ⟨tg, g, htl, rfl, hg⟩
          · simp only [go_sem, Nat.reduceMul, Nat.reduceLT, Nat.reduceLeDiff, Nat.reduceEqDiff, Nat.reduceBEq, Int.toNat_natCast, Int.reduceToNat, Int.reduceNeg, Int.reduceLT, Int.reduceLE, Int.reduceBEq, Int.reduceBNe, decide_true, decide_false, Bool.false_eq_true, false_imp_iff, Nat.lt_irrefl]
            refine ⟨fun q => absurd q (by simp), fun _ => ?_⟩
            rw [wrap_id (by omega) (by omega)]
            refine ⟨⟨i + 1, m, [(3, [c], 0)], rfl, by omega, by omega, by simp at hnL ⊢; omega, by rw [hA]; simp [Function.comp_def], .inr ⟨_, _, ?_, rfl, ?_⟩⟩, by omega⟩
            · simp
            · rw [getElem?_app]; rfl
          · have hgx : ∀ x, (h1 ++ x)[tg]? = some (AObj.arr g 3 (toks L)) := fun x => by rw [List.getElem?_append_left htl]; exact hg
            simp only [go_sem, hgx, Nat.reduceMul, Nat.reduceLT, Nat.reduceLeDiff, Nat.reduceEqDiff, Nat.reduceBEq, Int.toNat_natCast, Int.reduceToNat, Int.reduceNeg, Int.reduceLT, Int.reduceLE, Int.reduceBEq, Int.reduceBNe, decide_true, decide_false, Bool.false_eq_true, false_imp_iff, Nat.lt_irrefl]
            refine ⟨⟨by omega, by omega⟩, ?_⟩
            rw [wrap_id (by omega) (by omega)]
            refine ⟨⟨i + 1, m, L ++ [(3, [c], 0)], rfl, by omega, by omega, by simp; omega, by rw [hA]; simp [Function.comp_def], .inr ⟨tg, g + 1, ?_, by simp, ?_⟩⟩, by omega⟩
            · first | omega | (simp; omega)
            · rw [List.getElem?_set_self (by simp; omega), ← toks_app]; rfl
        | false =>
          rw [if_neg (by simp)] at hA
          simp only [go_sem, Nat.reduceMul, Nat.reduceLT, Nat.reduceLeDiff, Nat.reduceEqDiff, Nat.reduceBEq, Int.toNat_natCast, Int.reduceToNat, Int.reduceNeg, Int.reduceLT, Int.reduceLE, Int.reduceBEq, Int.reduceBNe, decide_true, decide_false, Bool.false_eq_true, false_imp_iff, Nat.lt_irrefl]
          refine ACallT.by (rletter_ok c _) ?_
          rintro r h1 ⟨rfl, rfl⟩
          simp only [go_sem, Nat.reduceMul, Nat.reduceLT, Nat.reduceLeDiff, Nat.reduceEqDiff, Nat.reduceBEq, Int.toNat_natCast, Int.reduceToNat, Int.reduceNeg, Int.reduceLT, Int.reduceLE, Int.reduceBEq, Int.reduceBNe, decide_true, decide_false, Bool.false_eq_true, false_imp_iff, Nat.lt_irrefl]
          refine ACallT.by (rfigure_ok c _) ?_
          rintro r h1 ⟨rfl, rfl⟩
          generalize hlc : letB c = lc at *
          generalize hfc : figB c = fc at *
          simp only [go_sem, Nat.reduceMul, Nat.reduceLT, Nat.reduceLeDiff, Nat.reduceEqDiff, Nat.reduceBEq, Int.toNat_natCast, Int.reduceToNat, Int.reduceNeg, Int.reduceLT, Int.reduceLE, Int.reduceBEq, Int.reduceBNe, decide_true, decide_false, Bool.false_eq_true, false_imp_iff, Nat.lt_irrefl]
          have h45 : ((c.toNat : Int) != 45) = (c != 45) := by rw [bne, bne, show ((c.toNat : Int) == 45) = (c == 45) from byte_eq c 45 (by omega)]
          have h34 : ((c.toNat : Int) != 34) = (c != 34) := by rw [bne, bne, show ((c.toNat : Int) == 34) = (c == 34) from byte_eq c 34 (by omega)]
          have hcond : (bif (bif (bif !lc then !fc else false) then ((c.toNat : Int) != 45) else false) then ((c.toNat : Int) != 34) else false) = decide (lc = false ∧ fc = false ∧ c ≠ 45 ∧ c ≠ 34) := by
            rw [h45, h34]
            by_cases e1 : c = 45 <;> by_cases e2 : c = 34 <;> cases lc <;> cases fc <;> simp [e1, e2]
          rw [hcond]
          refine acond_intro (fun hb => ?_) (fun hb => ?_)
          · rw [if_pos (of_decide_eq_true hb)] at hA
            simp only [go_sem, Nat.reduceMul, Nat.reduceLT, Nat.reduceLeDiff, Nat.reduceEqDiff, Nat.reduceBEq, Int.toNat_natCast, Int.reduceToNat, Int.reduceNeg, Int.reduceLT, Int.reduceLE, Int.reduceBEq, Int.reduceBNe, decide_true, decide_false, Bool.false_eq_true, false_imp_iff, Nat.lt_irrefl]
            refine Fin_plain ?_
            rw [hA]; rfl
          · rw [if_neg (of_decide_eq_false hb)] at hA
            simp only [go_sem, Nat.reduceMul, Nat.reduceLT, Nat.reduceLeDiff, Nat.reduceEqDiff, Nat.reduceBEq, Int.toNat_natCast, Int.reduceToNat, Int.reduceNeg, Int.reduceLT, Int.reduceLE, Int.reduceBEq, Int.reduceBNe, decide_true, decide_false, Bool.false_eq_true, false_imp_iff, Nat.lt_irrefl]
            refine ACallT.by (end_ok s i _ hlt hs) ?_
            rintro r h1 ⟨rfl, rfl⟩
            generalize hE : endN (s.drop i) = E at *
            have htk : List.drop i (List.take (i + E) s) = (s.drop i).take E := by rw [List.drop_take]; congr 1; omega
            have hwl : ((s.drop i).take E).length = E := by rw [List.length_take]; omega
            simp only [go_sem, Nat.reduceMul, Nat.reduceLT, Nat.reduceLeDiff, Nat.reduceEqDiff, Nat.reduceBEq, Int.toNat_natCast, Int.reduceToNat, Int.reduceNeg, Int.reduceLT, Int.reduceLE, Int.reduceBEq, Int.reduceBNe, decide_true, decide_false, Bool.false_eq_true, false_imp_iff, Nat.lt_irrefl]
            rw [htk]
            refine ⟨⟨by omega, by omega, by omega⟩, ?_⟩
            generalize (s.drop i).take E = w at *
            refine ACallT.frame (one_ok w _ (by omega) (by omega)) ?_
            intro r h2 hr
            unfold oneK at hr
            rcases hns : oneR w with _ | t
            · rw [hns] at hr hA
              obtain ⟨t, rfl⟩ := hr
              refine ⟨by simp [AV.low, lowL, tokA], ?_⟩
              simp only [tokA]
              simp only [go_sem, Nat.reduceMul, Nat.reduceLT, Nat.reduceLeDiff, Nat.reduceEqDiff, Nat.reduceBEq, Int.toNat_natCast, Int.reduceToNat, Int.reduceNeg, Int.reduceLT, Int.reduceLE, Int.reduceBEq, Int.reduceBNe, decide_true, decide_false, Bool.false_eq_true, false_imp_iff, Nat.lt_irrefl]
              refine Fin_plain ?_
              rw [hA]; rfl
            · rw [hns] at hr hA
              simp only at hr hA
              subst hr
              rw [List.drop_drop] at hA
              refine ⟨by simp [AV.low, lowL, tokA], ?_⟩
              simp only [tokA]
              simp only [go_sem, Nat.reduceMul, Nat.reduceLT, Nat.reduceLeDiff, Nat.reduceEqDiff, Nat.reduceBEq, Int.toNat_natCast, Int.reduceToNat, Int.reduceNeg, Int.reduceLT, Int.reduceLE, Int.reduceBEq, Int.reduceBNe, decide_true, decide_false, Bool.false_eq_true, false_imp_iff, Nat.lt_irrefl]
              rcases hX with ⟨rfl, rfl⟩ | ⟨tg, g, htl, rfl, hg⟩
              · simp only [go_sem, Nat.reduceMul, Nat.reduceLT, Nat.reduceLeDiff, Nat.reduceEqDiff, Nat.reduceBEq, Int.toNat_natCast, Int.reduceToNat, Int.reduceNeg, Int.reduceLT, Int.reduceLE, Int.reduceBEq, Int.reduceBNe, decide_true, decide_false, Bool.false_eq_true, false_imp_iff, Nat.lt_irrefl]
                refine ⟨fun q => absurd q (by simp), fun _ => ?_⟩
                refine ⟨⟨i + E, m, [t], rfl, by omega, by omega, by simp at hnL ⊢; omega, by rw [hA]; simp [Function.comp_def], .inr ⟨_, _, ?_, rfl, ?_⟩⟩, by omega⟩
                · simp
                · rw [getElem?_app]; rfl
              · have hgx : ∀ x, (h1 ++ x)[tg]? = some (AObj.arr g 3 (toks L)) := fun x => by rw [List.getElem?_append_left htl]; exact hg
                simp only [go_sem, hgx, Nat.reduceMul, Nat.reduceLT, Nat.reduceLeDiff, Nat.reduceEqDiff, Nat.reduceBEq, Int.toNat_natCast, Int.reduceToNat, Int.reduceNeg, Int.reduceLT, Int.reduceLE, Int.reduceBEq, Int.reduceBNe, decide_true, decide_false, Bool.false_eq_true, false_imp_iff, Nat.lt_irrefl]
                refine ⟨⟨by omega, by omega⟩, ?_⟩
                refine ⟨⟨i + E, m, L ++ [t], rfl, by omega, by omega, by simp; omega, by rw [hA]; simp [Function.comp_def], .inr ⟨tg, g + 1, ?_, by simp, ?_⟩⟩, by omega⟩
                · first | omega | (simp; omega)
                · rw [List.getElem?_set_self (by simp; omega), ← toks_app]; rfl
    · have hge : i = s.length := by have := of_decide_eq_false hc; omega
      subst hge
      rw [List.drop_length] at hA
      have hB : tokensR s = some L := by
        rw [hA]
        have : tokRF n [] = some [] := by cases n <;> rfl
        rw [this]; simp
      simp only [go_sem, Nat.reduceMul, Nat.reduceLT, Nat.reduceLeDiff, Nat.reduceEqDiff, Nat.reduceBEq, Int.toNat_natCast, Int.reduceToNat, Int.reduceNeg, Int.reduceLT, Int.reduceLE, Int.reduceBEq, Int.reduceBNe, decide_true, decide_false, Bool.false_eq_true, false_imp_iff, Nat.lt_irrefl]
      rw [hB]
      rcases hX with ⟨rfl, rfl⟩ | ⟨tg, g, htl, rfl, hg⟩
      · exact Fin_plain ⟨true, rfl⟩
      · refine Fin_freeze 4 ?_
        simp only [frz_tup, List.map_cons, List.map_nil, frz_sl, frz_int, hg]
        rw [frz_toks rfl]
        exact ⟨false, rfl⟩
end Go.Proofs.Vale
