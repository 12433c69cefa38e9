/- YtchboekipfpheaaDoorVLexI: a text of the proof of this claim, by its prover. -/
import Derived.Test.YtchboekipfpheaaDoorVLexH
set_option linter.unusedVariables false
set_option linter.unusedSimpArgs false
set_option maxHeartbeats 4000000
set_option maxRecDepth 100000
namespace Go.Proofs.Vale
open Go.Proofs Go.Proofs.YtchboekipfpheaaDoorT
attribute [local irreducible] acode aopsL aopsT dopsL dopsT dmL dmT pop popG aop ALoop ADraw ACall AWP AFin acondT ALoopT ADrawT ACallT doP doG doGd

/-! ### The document's numbers -/
def atN (w : Str) : Nat := if 0 < w.length ∧ List.getD w 0 0 = 45 then 1 else 0
def numRF : Int → Str → Option Int
  | n, [] => some n
  | n, b :: l => if figB b = true ∧ n ≤ 461168601842738790 then numRF (10 * n + ((b.toNat : Int) - 48)) l else none
def numR (w : Str) : Option Int :=
  match numRF 0 (w.drop (atN w)) with
  | none => none
  | some n => if w.length = atN w ∨ 4611686018427387904 < n ∨ (List.getD w (atN w) 0 = 48 ∧ atN w + 1 < w.length) then none else some (if atN w = 1 then -n else n)
def numK (o : Option Int) (r : AV) : Prop := r = match o with
  | none => .tup [.int .i64 0, .bool false]
  | some v => .tup [.int .i64 v, .bool true]
theorem u8_id {x : Int} (h0 : 0 ≤ x) (h1 : x ≤ 255) : IntKind.u8.wrap x = x := by simp [IntKind.wrap, IntKind.signed, IntKind.bits]; omega
theorem fig_bounds (b : UInt8) (h : figB b = true) : 48 ≤ b.toNat ∧ b.toNat ≤ 57 := by
  unfold figB at h
  cases q : decide ((48 : Int) ≤ (b.toNat : Int)) with
  | false => rw [q] at h; cases h
  | true =>
    rw [q] at h
    have h1 := of_decide_eq_true q
    have h2 := of_decide_eq_true h
    omega
theorem rnumber_ok (w : Str) (h : List AObj) (hl : 0 < w.length) (hw : w.length ≤ 9223372036854775000) : ACall Tryd.prog 36 [.str w] h (fun r h' => numK (numR w) r ∧ h' = h) := by
  (refine ACall.of_code Tryd.func36 rfl ?_; simp only [Tryd.f36]; simp only [go_sem, Nat.reduceMul, Nat.reduceLT, Nat.reduceLeDiff, Nat.reduceEqDiff, Nat.reduceBEq, Int.toNat_natCast, Int.reduceToNat, Int.reduceNeg, Int.reduceLT, Int.reduceLE, Int.reduceBEq, Int.reduceBNe, decide_true, decide_false, Bool.false_eq_true, false_imp_iff, Nat.lt_irrefl])
  rw [show decide ((0 : Int) < (w.length : Int)) = true by simp; omega]
  simp only [go_sem, Nat.reduceMul, Nat.reduceLT, Nat.reduceLeDiff, Nat.reduceEqDiff, Nat.reduceBEq, Int.toNat_natCast, Int.reduceToNat, Int.reduceNeg, Int.reduceLT, Int.reduceLE, Int.reduceBEq, Int.reduceBNe, decide_true, decide_false, Bool.false_eq_true, false_imp_iff, Nat.lt_irrefl]
  refine ⟨by omega, ?_⟩
  rw [show (((List.getD w 0 0).toNat : Int) == 45) = (List.getD w 0 0 == 45) from byte_eq _ 45 (by omega)]
  generalize hq : (List.getD w 0 0 == 45) = q
  cases q with
  | true =>
    have hat : atN w = 1 := by rw [atN, if_pos ⟨hl, by simpa using hq⟩]
    simp only [go_sem, Nat.reduceMul, Nat.reduceLT, Nat.reduceLeDiff, Nat.reduceEqDiff, Nat.reduceBEq, Int.toNat_natCast, Int.reduceToNat, Int.reduceNeg, Int.reduceLT, Int.reduceLE, Int.reduceBEq, Int.reduceBNe, decide_true, decide_false, Bool.false_eq_true, false_imp_iff, Nat.lt_irrefl]
    have hR : numR w = match numRF 0 (w.drop 1) with
      | none => none
      | some n => if w.length = 1 ∨ 4611686018427387904 < n ∨ (List.getD w 1 0 = 48 ∧ 1 + 1 < w.length) then none else some (if 1 = 1 then -n else n) := by rw [numR, hat]
    generalize hR0 : numRF 0 (w.drop 1) = R0 at hR
    refine ALoop.over [2, 3, 5, 6, 7, 17, 18, 19, 20, 21, 22, 23, 24, 25, 26, 27, 28, 29, 30, 31, 32, 33, 34, 35, 36, 37, 38, 39, 40] (fun e h' => h' = h ∧ ∃ (k : Nat) (n : Int), 1 ≤ k ∧ k ≤ w.length ∧ e.getD 6 .any = .int .i64 (k : Int) ∧ e.getD 5 .any = .int .i64 n ∧ 0 ≤ n ∧ n ≤ 4611686018427387909 ∧ numRF n (w.drop k) = R0) (fun e _ => w.length - natA (e.getD 6 .any)) ⟨rfl, 1, 0, Nat.le_refl _, by omega, rfl, rfl, by omega, by omega, hR0⟩ ?_
    simp only [List.length_cons, List.length_nil, Nat.reduceAdd, allL_succ, allL_zero]
    intro y2 y3 y5 y6 y7 y17 y18 y19 y20 y21 y22 y23 y24 y25 y26 y27 y28 y29 y30 y31 y32 y33 y34 y35 y36 y37 y38 y39 y40 h' hI
    simp only [go_sem] at hI
    obtain ⟨rfl, k, n, hk1, hk, rfl, rfl, hn0, hn1, hA⟩ := hI
    simp only [go_sem, Nat.reduceMul, Nat.reduceLT, Nat.reduceLeDiff, Nat.reduceEqDiff, Nat.reduceBEq, Int.toNat_natCast, Int.reduceToNat, Int.reduceNeg, Int.reduceLT, Int.reduceLE, Int.reduceBEq, Int.reduceBNe, decide_true, decide_false, Bool.false_eq_true, false_imp_iff, Nat.lt_irrefl]
    refine acond_intro (fun hc => ?_) (fun hc => ?_)
    · have hlt : k < w.length := by have := of_decide_eq_true hc; omega
      have hgk : List.getD w k 0 = w[k] := str_get w k hlt
      rw [List.drop_eq_getElem_cons hlt, numRF] at hA
      simp only [go_sem, hgk, Nat.reduceMul, Nat.reduceLT, Nat.reduceLeDiff, Nat.reduceEqDiff, Nat.reduceBEq, Int.toNat_natCast, Int.reduceToNat, Int.reduceNeg, Int.reduceLT, Int.reduceLE, Int.reduceBEq, Int.reduceBNe, decide_true, decide_false, Bool.false_eq_true, false_imp_iff, Nat.lt_irrefl]
      refine ⟨⟨by omega, by omega⟩, ?_⟩
      refine ACallT.by (rfigure_ok w[k] _) ?_
      rintro r h1 ⟨rfl, rfl⟩
      generalize hf : figB w[k] = f at *
      cases f with
      | false =>
        rw [if_neg (by simp)] at hA
        simp only [go_sem, Nat.reduceMul, Nat.reduceLT, Nat.reduceLeDiff, Nat.reduceEqDiff, Nat.reduceBEq, Int.toNat_natCast, Int.reduceToNat, Int.reduceNeg, Int.reduceLT, Int.reduceLE, Int.reduceBEq, Int.reduceBNe, decide_true, decide_false, Bool.false_eq_true, false_imp_iff, Nat.lt_irrefl]
        refine Fin_plain ⟨?_, rfl⟩
        rw [hR, ← hA]; rfl
      | true =>
        have hfb := fig_bounds _ hf
        simp only [go_sem, Nat.reduceMul, Nat.reduceLT, Nat.reduceLeDiff, Nat.reduceEqDiff, Nat.reduceBEq, Int.toNat_natCast, Int.reduceToNat, Int.reduceNeg, Int.reduceLT, Int.reduceLE, Int.reduceBEq, Int.reduceBNe, decide_true, decide_false, Bool.false_eq_true, false_imp_iff, Nat.lt_irrefl]
        generalize hz3 : decide ((461168601842738790 : Int) < n) = z3
        cases z3 with
        | true =>
          have := of_decide_eq_true hz3
          rw [if_neg (by simp; omega)] at hA
          simp only [go_sem, Nat.reduceMul, Nat.reduceLT, Nat.reduceLeDiff, Nat.reduceEqDiff, Nat.reduceBEq, Int.toNat_natCast, Int.reduceToNat, Int.reduceNeg, Int.reduceLT, Int.reduceLE, Int.reduceBEq, Int.reduceBNe, decide_true, decide_false, Bool.false_eq_true, false_imp_iff, Nat.lt_irrefl]
          refine Fin_plain ⟨?_, rfl⟩
          rw [hR, ← hA]; rfl
        | false =>
          have := of_decide_eq_false hz3
          rw [if_pos (by simp; omega)] at hA
          simp only [go_sem, hgk, Nat.reduceMul, Nat.reduceLT, Nat.reduceLeDiff, Nat.reduceEqDiff, Nat.reduceBEq, Int.toNat_natCast, Int.reduceToNat, Int.reduceNeg, Int.reduceLT, Int.reduceLE, Int.reduceBEq, Int.reduceBNe, decide_true, decide_false, Bool.false_eq_true, false_imp_iff, Nat.lt_irrefl]
          rw [wrap_id (x := 10 * n) (by omega) (by omega), u8_id (x := ((w[k]).toNat : Int) - 48) (by omega) (by omega), wrap_id (x := ((w[k]).toNat : Int) - 48) (by omega) (by omega), wrap_id (by omega) (by omega), wrap_id (by omega) (by omega)]
          exact ⟨⟨by omega, by omega⟩, ⟨k + 1, _, by omega, by omega, rfl, rfl, by omega, by omega, hA⟩, by omega⟩
    · have hge : k = w.length := by have := of_decide_eq_false hc; omega
      subst hge
      rw [List.drop_length, numRF] at hA
      rw [← hA] at hR
      simp only at hR
      simp only [go_sem, Nat.reduceMul, Nat.reduceLT, Nat.reduceLeDiff, Nat.reduceEqDiff, Nat.reduceBEq, Int.toNat_natCast, Int.reduceToNat, Int.reduceNeg, Int.reduceLT, Int.reduceLE, Int.reduceBEq, Int.reduceBNe, decide_true, decide_false, Bool.false_eq_true, false_imp_iff, Nat.lt_irrefl]
      generalize hza : ((w.length : Int) == (1 : Int)) = za
      have hza' : za = true ↔ w.length = 1 := by rw [← hza]; simp; try omega
      cases za with
      | true =>
        simp only [go_sem, Nat.reduceMul, Nat.reduceLT, Nat.reduceLeDiff, Nat.reduceEqDiff, Nat.reduceBEq, Int.toNat_natCast, Int.reduceToNat, Int.reduceNeg, Int.reduceLT, Int.reduceLE, Int.reduceBEq, Int.reduceBNe, decide_true, decide_false, Bool.false_eq_true, false_imp_iff, Nat.lt_irrefl]
        refine Fin_plain ⟨?_, rfl⟩
        rw [hR, if_pos (.inl (hza'.1 rfl))]; rfl
      | false =>
        have hza2 : ¬ w.length = 1 := fun q => by have := hza'.2 q; cases this
        simp only [go_sem, Nat.reduceMul, Nat.reduceLT, Nat.reduceLeDiff, Nat.reduceEqDiff, Nat.reduceBEq, Int.toNat_natCast, Int.reduceToNat, Int.reduceNeg, Int.reduceLT, Int.reduceLE, Int.reduceBEq, Int.reduceBNe, decide_true, decide_false, Bool.false_eq_true, false_imp_iff, Nat.lt_irrefl]
        generalize hzb : decide ((4611686018427387904 : Int) < n) = zb
        cases zb with
        | true =>
          simp only [go_sem, Nat.reduceMul, Nat.reduceLT, Nat.reduceLeDiff, Nat.reduceEqDiff, Nat.reduceBEq, Int.toNat_natCast, Int.reduceToNat, Int.reduceNeg, Int.reduceLT, Int.reduceLE, Int.reduceBEq, Int.reduceBNe, decide_true, decide_false, Bool.false_eq_true, false_imp_iff, Nat.lt_irrefl]
          refine Fin_plain ⟨?_, rfl⟩
          rw [hR, if_pos (.inr (.inl (of_decide_eq_true hzb)))]; rfl
        | false =>
          have hzb2 := of_decide_eq_false hzb
          simp only [go_sem, Nat.reduceMul, Nat.reduceLT, Nat.reduceLeDiff, Nat.reduceEqDiff, Nat.reduceBEq, Int.toNat_natCast, Int.reduceToNat, Int.reduceNeg, Int.reduceLT, Int.reduceLE, Int.reduceBEq, Int.reduceBNe, decide_true, decide_false, Bool.false_eq_true, false_imp_iff, Nat.lt_irrefl]
          refine ⟨by omega, ?_⟩
          have hzc : (bif (((List.getD w 1 0).toNat : Int) == 48) then decide (IntKind.i64.wrap ((1 : Int) + 1) < (w.length : Int)) else false) = decide (List.getD w 1 0 = 48 ∧ 1 + 1 < w.length) := by
            rw [show (((List.getD w 1 0).toNat : Int) == 48) = (List.getD w 1 0 == 48) from byte_eq _ 48 (by omega), wrap_id (by omega) (by omega)]
            by_cases e : List.getD w 1 0 = 48
            · rw [e]
              simp
              try omega
            · have h1 : (List.getD w 1 0 == 48) = false := by simpa using e
              have h2 : decide (List.getD w 1 0 = 48 ∧ 1 + 1 < w.length) = false := decide_eq_false (fun q => e q.1)
              rw [h1, h2]; rfl
          rw [hzc]
          refine acond_intro (fun hb => ?_) (fun hb => ?_)
          · simp only [go_sem, Nat.reduceMul, Nat.reduceLT, Nat.reduceLeDiff, Nat.reduceEqDiff, Nat.reduceBEq, Int.toNat_natCast, Int.reduceToNat, Int.reduceNeg, Int.reduceLT, Int.reduceLE, Int.reduceBEq, Int.reduceBNe, decide_true, decide_false, Bool.false_eq_true, false_imp_iff, Nat.lt_irrefl]
            refine Fin_plain ⟨?_, rfl⟩
            rw [hR, if_pos (.inr (.inr (of_decide_eq_true hb)))]; rfl
          · have hb2 := of_decide_eq_false hb
            have hS : numR w = some (-n) := by
              rw [hR, if_neg]
              · simp
              · rintro (q | q | q)
                · exact hza2 q
                · exact hzb2 q
                · exact hb2 q
            simp only [go_sem, Nat.reduceMul, Nat.reduceLT, Nat.reduceLeDiff, Nat.reduceEqDiff, Nat.reduceBEq, Int.toNat_natCast, Int.reduceToNat, Int.reduceNeg, Int.reduceLT, Int.reduceLE, Int.reduceBEq, Int.reduceBNe, decide_true, decide_false, Bool.false_eq_true, false_imp_iff, Nat.lt_irrefl]
            rw [wrap_id (by omega) (by omega)]
            exact Fin_plain ⟨by rw [hS]; simp [numK], rfl⟩
  | false =>
    have hat : atN w = 0 := by rw [atN, if_neg (fun z => by have := z.2; rw [this] at hq; cases hq)]
    simp only [go_sem, Nat.reduceMul, Nat.reduceLT, Nat.reduceLeDiff, Nat.reduceEqDiff, Nat.reduceBEq, Int.toNat_natCast, Int.reduceToNat, Int.reduceNeg, Int.reduceLT, Int.reduceLE, Int.reduceBEq, Int.reduceBNe, decide_true, decide_false, Bool.false_eq_true, false_imp_iff, Nat.lt_irrefl]
    have hR : numR w = match numRF 0 (w.drop 0) with
      | none => none
      | some n => if w.length = 0 ∨ 4611686018427387904 < n ∨ (List.getD w 0 0 = 48 ∧ 0 + 1 < w.length) then none else some (if 0 = 1 then -n else n) := by rw [numR, hat]
    generalize hR0 : numRF 0 (w.drop 0) = R0 at hR
    refine ALoop.over [2, 3, 5, 6, 7, 17, 18, 19, 20, 21, 22, 23, 24, 25, 26, 27, 28, 29, 30, 31, 32, 33, 34, 35, 36, 37, 38, 39, 40] (fun e h' => h' = h ∧ ∃ (k : Nat) (n : Int), 0 ≤ k ∧ k ≤ w.length ∧ e.getD 6 .any = .int .i64 (k : Int) ∧ e.getD 5 .any = .int .i64 n ∧ 0 ≤ n ∧ n ≤ 4611686018427387909 ∧ numRF n (w.drop k) = R0) (fun e _ => w.length - natA (e.getD 6 .any)) ⟨rfl, 0, 0, Nat.le_refl _, by omega, rfl, rfl, by omega, by omega, hR0⟩ ?_
    simp only [List.length_cons, List.length_nil, Nat.reduceAdd, allL_succ, allL_zero]
    intro y2 y3 y5 y6 y7 y17 y18 y19 y20 y21 y22 y23 y24 y25 y26 y27 y28 y29 y30 y31 y32 y33 y34 y35 y36 y37 y38 y39 y40 h' hI
    simp only [go_sem] at hI
    obtain ⟨rfl, k, n, hk1, hk, rfl, rfl, hn0, hn1, hA⟩ := hI
    simp only [go_sem, Nat.reduceMul, Nat.reduceLT, Nat.reduceLeDiff, Nat.reduceEqDiff, Nat.reduceBEq, Int.toNat_natCast, Int.reduceToNat, Int.reduceNeg, Int.reduceLT, Int.reduceLE, Int.reduceBEq, Int.reduceBNe, decide_true, decide_false, Bool.false_eq_true, false_imp_iff, Nat.lt_irrefl]
    refine acond_intro (fun hc => ?_) (fun hc => ?_)
    · have hlt : k < w.length := by have := of_decide_eq_true hc; omega
      have hgk : List.getD w k 0 = w[k] := str_get w k hlt
      rw [List.drop_eq_getElem_cons hlt, numRF] at hA
      simp only [go_sem, hgk, Nat.reduceMul, Nat.reduceLT, Nat.reduceLeDiff, Nat.reduceEqDiff, Nat.reduceBEq, Int.toNat_natCast, Int.reduceToNat, Int.reduceNeg, Int.reduceLT, Int.reduceLE, Int.reduceBEq, Int.reduceBNe, decide_true, decide_false, Bool.false_eq_true, false_imp_iff, Nat.lt_irrefl]
      refine ⟨⟨by omega, by omega⟩, ?_⟩
      refine ACallT.by (rfigure_ok w[k] _) ?_
      rintro r h1 ⟨rfl, rfl⟩
      generalize hf : figB w[k] = f at *
      cases f with
      | false =>
        rw [if_neg (by simp)] at hA
        simp only [go_sem, Nat.reduceMul, Nat.reduceLT, Nat.reduceLeDiff, Nat.reduceEqDiff, Nat.reduceBEq, Int.toNat_natCast, Int.reduceToNat, Int.reduceNeg, Int.reduceLT, Int.reduceLE, Int.reduceBEq, Int.reduceBNe, decide_true, decide_false, Bool.false_eq_true, false_imp_iff, Nat.lt_irrefl]
        refine Fin_plain ⟨?_, rfl⟩
        rw [hR, ← hA]; rfl
      | true =>
        have hfb := fig_bounds _ hf
        simp only [go_sem, Nat.reduceMul, Nat.reduceLT, Nat.reduceLeDiff, Nat.reduceEqDiff, Nat.reduceBEq, Int.toNat_natCast, Int.reduceToNat, Int.reduceNeg, Int.reduceLT, Int.reduceLE, Int.reduceBEq, Int.reduceBNe, decide_true, decide_false, Bool.false_eq_true, false_imp_iff, Nat.lt_irrefl]
        generalize hz3 : decide ((461168601842738790 : Int) < n) = z3
        cases z3 with
        | true =>
          have := of_decide_eq_true hz3
          rw [if_neg (by simp; omega)] at hA
          simp only [go_sem, Nat.reduceMul, Nat.reduceLT, Nat.reduceLeDiff, Nat.reduceEqDiff, Nat.reduceBEq, Int.toNat_natCast, Int.reduceToNat, Int.reduceNeg, Int.reduceLT, Int.reduceLE, Int.reduceBEq, Int.reduceBNe, decide_true, decide_false, Bool.false_eq_true, false_imp_iff, Nat.lt_irrefl]
          refine Fin_plain ⟨?_, rfl⟩
          rw [hR, ← hA]; rfl
        | false =>
          have := of_decide_eq_false hz3
          rw [if_pos (by simp; omega)] at hA
          simp only [go_sem, hgk, Nat.reduceMul, Nat.reduceLT, Nat.reduceLeDiff, Nat.reduceEqDiff, Nat.reduceBEq, Int.toNat_natCast, Int.reduceToNat, Int.reduceNeg, Int.reduceLT, Int.reduceLE, Int.reduceBEq, Int.reduceBNe, decide_true, decide_false, Bool.false_eq_true, false_imp_iff, Nat.lt_irrefl]
          rw [wrap_id (x := 10 * n) (by omega) (by omega), u8_id (x := ((w[k]).toNat : Int) - 48) (by omega) (by omega), wrap_id (x := ((w[k]).toNat : Int) - 48) (by omega) (by omega), wrap_id (by omega) (by omega), wrap_id (by omega) (by omega)]
          exact ⟨⟨by omega, by omega⟩, ⟨k + 1, _, by omega, by omega, rfl, rfl, by omega, by omega, hA⟩, by omega⟩
    · have hge : k = w.length := by have := of_decide_eq_false hc; omega
      subst hge
      rw [List.drop_length, numRF] at hA
      rw [← hA] at hR
      simp only at hR
      simp only [go_sem, Nat.reduceMul, Nat.reduceLT, Nat.reduceLeDiff, Nat.reduceEqDiff, Nat.reduceBEq, Int.toNat_natCast, Int.reduceToNat, Int.reduceNeg, Int.reduceLT, Int.reduceLE, Int.reduceBEq, Int.reduceBNe, decide_true, decide_false, Bool.false_eq_true, false_imp_iff, Nat.lt_irrefl]
      generalize hza : ((w.length : Int) == (0 : Int)) = za
      have hza' : za = true ↔ w.length = 0 := by rw [← hza]; simp; try omega
      cases za with
      | true =>
        simp only [go_sem, Nat.reduceMul, Nat.reduceLT, Nat.reduceLeDiff, Nat.reduceEqDiff, Nat.reduceBEq, Int.toNat_natCast, Int.reduceToNat, Int.reduceNeg, Int.reduceLT, Int.reduceLE, Int.reduceBEq, Int.reduceBNe, decide_true, decide_false, Bool.false_eq_true, false_imp_iff, Nat.lt_irrefl]
        refine Fin_plain ⟨?_, rfl⟩
        rw [hR, if_pos (.inl (hza'.1 rfl))]; rfl
      | false =>
        have hza2 : ¬ w.length = 0 := fun q => by have := hza'.2 q; cases this
        simp only [go_sem, Nat.reduceMul, Nat.reduceLT, Nat.reduceLeDiff, Nat.reduceEqDiff, Nat.reduceBEq, Int.toNat_natCast, Int.reduceToNat, Int.reduceNeg, Int.reduceLT, Int.reduceLE, Int.reduceBEq, Int.reduceBNe, decide_true, decide_false, Bool.false_eq_true, false_imp_iff, Nat.lt_irrefl]
        generalize hzb : decide ((4611686018427387904 : Int) < n) = zb
        cases zb with
        | true =>
          simp only [go_sem, Nat.reduceMul, Nat.reduceLT, Nat.reduceLeDiff, Nat.reduceEqDiff, Nat.reduceBEq, Int.toNat_natCast, Int.reduceToNat, Int.reduceNeg, Int.reduceLT, Int.reduceLE, Int.reduceBEq, Int.reduceBNe, decide_true, decide_false, Bool.false_eq_true, false_imp_iff, Nat.lt_irrefl]
          refine Fin_plain ⟨?_, rfl⟩
          rw [hR, if_pos (.inr (.inl (of_decide_eq_true hzb)))]; rfl
        | false =>
          have hzb2 := of_decide_eq_false hzb
          simp only [go_sem, Nat.reduceMul, Nat.reduceLT, Nat.reduceLeDiff, Nat.reduceEqDiff, Nat.reduceBEq, Int.toNat_natCast, Int.reduceToNat, Int.reduceNeg, Int.reduceLT, Int.reduceLE, Int.reduceBEq, Int.reduceBNe, decide_true, decide_false, Bool.false_eq_true, false_imp_iff, Nat.lt_irrefl]
          refine ⟨by omega, ?_⟩
          have hzc : (bif (((List.getD w 0 0).toNat : Int) == 48) then decide (IntKind.i64.wrap ((0 : Int) + 1) < (w.length : Int)) else false) = decide (List.getD w 0 0 = 48 ∧ 0 + 1 < w.length) := by
            rw [show (((List.getD w 0 0).toNat : Int) == 48) = (List.getD w 0 0 == 48) from byte_eq _ 48 (by omega), wrap_id (by omega) (by omega)]
            by_cases e : List.getD w 0 0 = 48
            · rw [e]
              simp
              try omega
            · have h1 : (List.getD w 0 0 == 48) = false := by simpa using e
              have h2 : decide (List.getD w 0 0 = 48 ∧ 0 + 1 < w.length) = false := decide_eq_false (fun q => e q.1)
              rw [h1, h2]; rfl
          rw [hzc]
          refine acond_intro (fun hb => ?_) (fun hb => ?_)
          · simp only [go_sem, Nat.reduceMul, Nat.reduceLT, Nat.reduceLeDiff, Nat.reduceEqDiff, Nat.reduceBEq, Int.toNat_natCast, Int.reduceToNat, Int.reduceNeg, Int.reduceLT, Int.reduceLE, Int.reduceBEq, Int.reduceBNe, decide_true, decide_false, Bool.false_eq_true, false_imp_iff, Nat.lt_irrefl]
            refine Fin_plain ⟨?_, rfl⟩
            rw [hR, if_pos (.inr (.inr (of_decide_eq_true hb)))]; rfl
          · have hb2 := of_decide_eq_false hb
            have hS : numR w = some n := by
              rw [hR, if_neg]
              · simp
              · rintro (q | q | q)
                · exact hza2 q
                · exact hzb2 q
                · exact hb2 q
            simp only [go_sem, Nat.reduceMul, Nat.reduceLT, Nat.reduceLeDiff, Nat.reduceEqDiff, Nat.reduceBEq, Int.toNat_natCast, Int.reduceToNat, Int.reduceNeg, Int.reduceLT, Int.reduceLE, Int.reduceBEq, Int.reduceBNe, decide_true, decide_false, Bool.false_eq_true, false_imp_iff, Nat.lt_irrefl]
            exact Fin_plain ⟨by rw [hS]; simp [numK], rfl⟩
end Go.Proofs.Vale
