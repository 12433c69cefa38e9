/- YtinajnnflgpjbaaVDictQ: a text of the proof of this claim, by its prover. -/
import Derived.Test.YtinajnnflgpjbaaVDictP
set_option linter.unusedVariables false
set_option linter.unusedSimpArgs false
set_option maxHeartbeats 4000000
set_option maxRecDepth 100000
namespace Go.Proofs.Vale
open Go.Proofs Go.Proofs.YtinajnnflgpjbaaT
attribute [local irreducible] acode aopsL aopsT dopsL dopsT pop popG aop ALoop ADraw ACall AWP AFin acondT ALoopT ADrawT ACallT doP doG doGd

/-! ### The document's reader -/
def RrAt (h : List AObj) (t : Nat) (c : Bool) (B : Str) (I : Nat) (bad : Bool) : Prop := h[t]? = some (.arr 0 3 [.agg [.fz c (bytesA B), .int .i64 I, .bool bad]])
def nxB (o : Option (Nat × Nat)) : AV := match o with
  | some (u, n) => .tup [.int .u64 u, .int .i64 n]
  | none => .tup [.int .u64 0, .int .i64 0]
theorem number_ok (t : Nat) (c : Bool) (B : Str) (I : Nat) (bad : Bool) (h : List AObj) (hB : B.length ≤ 4611686018427387904) (hI : I ≤ B.length) (hr : RrAt h t c B I bad) : ACall Try.prog 89 [.ref t 0 3 0 0] h (fun r h' => r = nxB (nxt (B.drop I)) ∧ h' = h) := by
  simp only [RrAt] at hr
  (refine ACall.of_code Try.func89 rfl ?_; simp only [Try.f89]; simp only [go_sem, Nat.reduceMul, Nat.reduceLT, Nat.reduceLeDiff, Nat.reduceEqDiff, Nat.reduceBEq, Int.toNat_natCast, Int.reduceToNat, Int.reduceNeg, Int.reduceLT, Int.reduceLE, Int.reduceBEq, Int.reduceBNe, decide_true, decide_false, Bool.false_eq_true, false_imp_iff, Nat.lt_irrefl])
  refine ALoop.over [2, 3, 4, 5, 6, 7, 8, 9, 10, 11, 12, 13, 14, 15, 16, 17, 18, 19, 20, 21, 22, 23, 24, 25, 26, 27, 28, 29, 30, 31, 32, 33, 34, 35, 36, 37, 38, 39, 40, 41, 42, 43, 44, 45, 46, 47, 48, 49, 50, 51, 52, 53, 54, 55, 56, 57] (fun e h' => h' = h ∧ ∃ (i u : Nat), i ≤ 10 ∧ I + i ≤ B.length ∧ e.getD 5 .any = .int .i64 i ∧ e.getD 4 .any = .int .u64 u ∧ u < 18446744073709551616 ∧ nxt (B.drop I) = nxtF (10 - i) i u (B.drop (I + i))) (fun e _ => 10 - natA (e.getD 5 .any)) ⟨rfl, 0, 0, by simp, by simpa using hI, rfl, rfl, by omega, rfl⟩ ?_
  simp only [List.length_cons, List.length_nil, Nat.reduceAdd, allL_succ, allL_zero]
  intro y2 y3 y4 y5 y6 y7 y8 y9 y10 y11 y12 y13 y14 y15 y16 y17 y18 y19 y20 y21 y22 y23 y24 y25 y26 y27 y28 y29 y30 y31 y32 y33 y34 y35 y36 y37 y38 y39 y40 y41 y42 y43 y44 y45 y46 y47 y48 y49 y50 y51 y52 y53 y54 y55 y56 y57 h' hI2
  simp only [go_sem] at hI2
  obtain ⟨rfl, i, u, hi, hiB, rfl, rfl, hu, hnx⟩ := hI2
  simp only [go_sem, Nat.reduceMul, Nat.reduceLT, Nat.reduceLeDiff, Nat.reduceEqDiff, Nat.reduceBEq, Int.toNat_natCast, Int.reduceToNat, Int.reduceNeg, Int.reduceLT, Int.reduceLE, Int.reduceBEq, Int.reduceBNe, decide_true, decide_false, Bool.false_eq_true, false_imp_iff, Nat.lt_irrefl]
  refine ADrawT.quiet mixedOrdersD (by kernel_rfl) ?_
  simp only [go_sem, hr, Nat.reduceMul, Nat.reduceLT, Nat.reduceLeDiff, Nat.reduceEqDiff, Nat.reduceBEq, Int.toNat_natCast, Int.reduceToNat, Int.reduceNeg, Int.reduceLT, Int.reduceLE, Int.reduceBEq, Int.reduceBNe, decide_true, decide_false, Bool.false_eq_true, false_imp_iff, Nat.lt_irrefl]
  have hwi : IntKind.i64.wrap ((I : Int) + (i : Int)) = ((I + i : Nat) : Int) := by rw [wrap_id (by omega) (by omega)]; omega
  generalize hd1 : decide ((i : Int) < 10) = d1
  cases d1 with
  | false =>
    have := of_decide_eq_false hd1
    simp only [go_sem, hr, Nat.reduceMul, Nat.reduceLT, Nat.reduceLeDiff, Nat.reduceEqDiff, Nat.reduceBEq, Int.toNat_natCast, Int.reduceToNat, Int.reduceNeg, Int.reduceLT, Int.reduceLE, Int.reduceBEq, Int.reduceBNe, decide_true, decide_false, Bool.false_eq_true, false_imp_iff, Nat.lt_irrefl]
    refine Fin_plain ?_
    have : i = 10 := by omega
    subst this
    rw [hnx]; exact ⟨rfl, rfl⟩
  | true =>
    have hi10 := of_decide_eq_true hd1
    simp only [go_sem, hr, Nat.reduceMul, Nat.reduceLT, Nat.reduceLeDiff, Nat.reduceEqDiff, Nat.reduceBEq, Int.toNat_natCast, Int.reduceToNat, Int.reduceNeg, Int.reduceLT, Int.reduceLE, Int.reduceBEq, Int.reduceBNe, decide_true, decide_false, Bool.false_eq_true, false_imp_iff, Nat.lt_irrefl]
    generalize hd2 : decide (IntKind.i64.wrap ((I : Int) + (i : Int)) < (B.length : Int)) = d2
    rw [hwi] at hd2
    cases d2 with
    | false =>
      have := of_decide_eq_false hd2
      simp only [go_sem, hr, Nat.reduceMul, Nat.reduceLT, Nat.reduceLeDiff, Nat.reduceEqDiff, Nat.reduceBEq, Int.toNat_natCast, Int.reduceToNat, Int.reduceNeg, Int.reduceLT, Int.reduceLE, Int.reduceBEq, Int.reduceBNe, decide_true, decide_false, Bool.false_eq_true, false_imp_iff, Nat.lt_irrefl]
      refine Fin_plain ?_
      rw [hnx, List.drop_eq_nil_of_le (by omega)]
      cases 10 - i <;> exact ⟨rfl, rfl⟩
    | true =>
      have hlt := of_decide_eq_true hd2
      have hib : I + i < B.length := by omega
      simp only [go_sem, hr, Nat.reduceMul, Nat.reduceLT, Nat.reduceLeDiff, Nat.reduceEqDiff, Nat.reduceBEq, Int.toNat_natCast, Int.reduceToNat, Int.reduceNeg, Int.reduceLT, Int.reduceLE, Int.reduceBEq, Int.reduceBNe, decide_true, decide_false, Bool.false_eq_true, false_imp_iff, Nat.lt_irrefl]
      refine ADrawT.quiet mixedOrdersD (by kernel_rfl) ?_
      simp only [go_sem, hr, Nat.reduceMul, Nat.reduceLT, Nat.reduceLeDiff, Nat.reduceEqDiff, Nat.reduceBEq, Int.toNat_natCast, Int.reduceToNat, Int.reduceNeg, Int.reduceLT, Int.reduceLE, Int.reduceBEq, Int.reduceBNe, decide_true, decide_false, Bool.false_eq_true, false_imp_iff, Nat.lt_irrefl]
      generalize hw : IntKind.i64.wrap ((I : Int) + (i : Int)) = w at hwi
      subst hwi
      have hstep : nxtF (10 - i) i u (B.drop (I + i)) = if (i = 0 ∧ B[I + i] = 128) ∨ 144115188075855872 ≤ u then none else if B[I + i].toNat < 128 then some (128 * u + B[I + i].toNat % 128, i + 1) else nxtF (10 - (i + 1)) (i + 1) (128 * u + B[I + i].toNat % 128) (B.drop (I + (i + 1))) := by
        rw [List.drop_eq_getElem_cons hib, show 10 - i = (10 - (i + 1)) + 1 by omega]; rfl
      rw [hstep] at hnx
      have hc256 := B[I + i].toNat_lt
      simp only [go_sem, bytes_get B (I + i) hib, Nat.reduceMul, Nat.reduceLT, Nat.reduceLeDiff, Nat.reduceEqDiff, Nat.reduceBEq, Int.toNat_natCast, Int.reduceToNat, Int.reduceNeg, Int.reduceLT, Int.reduceLE, Int.reduceBEq, Int.reduceBNe, decide_true, decide_false, Bool.false_eq_true, false_imp_iff, Nat.lt_irrefl]
      refine ⟨⟨by omega, by omega⟩, ?_⟩
      generalize B[I + i] = ch at *
      have hcd : (bif bif (i : Int) == 0 then (ch.toNat : Int) == 128 else false then true else decide ((144115188075855871 : Int) < (u : Int))) = decide ((i = 0 ∧ ch = 128) ∨ 144115188075855872 ≤ u) := by
        rw [byte_is, nat_is0]
        have : decide ((144115188075855871 : Int) < (u : Int)) = decide (144115188075855872 ≤ u) := by congr 1; simp; omega
        rw [this]
        by_cases q1 : i = 0 <;> by_cases q2 : ch = 128 <;> by_cases q3 : 144115188075855872 ≤ u <;> simp [q1, q2, q3]
      generalize (bif bif (i : Int) == 0 then (ch.toNat : Int) == 128 else false then true else decide ((144115188075855871 : Int) < (u : Int))) = d at hcd
      subst hcd
      refine acond_intro (fun hc2 => ?_) (fun hc2 => ?_)
      · have := of_decide_eq_true hc2
        rw [if_pos this] at hnx
        simp only [go_sem, Nat.reduceMul, Nat.reduceLT, Nat.reduceLeDiff, Nat.reduceEqDiff, Nat.reduceBEq, Int.toNat_natCast, Int.reduceToNat, Int.reduceNeg, Int.reduceLT, Int.reduceLE, Int.reduceBEq, Int.reduceBNe, decide_true, decide_false, Bool.false_eq_true, false_imp_iff, Nat.lt_irrefl]
        refine Fin_plain ?_
        rw [hnx]; exact ⟨rfl, rfl⟩
      · have hnc := of_decide_eq_false hc2
        rw [if_neg hnc] at hnx
        have hu57 : u < 144115188075855872 := by omega
        simp only [go_sem, Nat.reduceMul, Nat.reduceLT, Nat.reduceLeDiff, Nat.reduceEqDiff, Nat.reduceBEq, Int.toNat_natCast, Int.reduceToNat, Int.reduceNeg, Int.reduceLT, Int.reduceLE, Int.reduceBEq, Int.reduceBNe, decide_true, decide_false, Bool.false_eq_true, false_imp_iff, Nat.lt_irrefl]
        refine ⟨by decide, ?_⟩
        have hv : IntKind.u64.wrap (IntKind.u64.wrap (128 * (u : Int)) + IntKind.u64.wrap ((ch.toNat : Int).tmod 128)) = ((128 * u + ch.toNat % 128 : Nat) : Int) := by
          have e1 : (ch.toNat : Int).tmod 128 = ((ch.toNat % 128 : Nat) : Int) := by rw [Int.tmod_eq_emod_of_nonneg (by omega)]; omega
          rw [e1, show 128 * (u : Int) = ((128 * u : Nat) : Int) by omega, u64_wrap _ (by omega), u64_wrap _ (by omega), show ((128 * u : Nat) : Int) + ((ch.toNat % 128 : Nat) : Int) = ((128 * u + ch.toNat % 128 : Nat) : Int) by omega, u64_wrap _ (by omega)]
        generalize IntKind.u64.wrap (IntKind.u64.wrap (128 * (u : Int)) + IntKind.u64.wrap ((ch.toNat : Int).tmod 128)) = u2 at hv
        subst hv
        have hw1 : IntKind.i64.wrap ((i : Int) + 1) = ((i + 1 : Nat) : Int) := by rw [wrap_id (by omega) (by omega)]; omega
        refine acond_intro (fun hc3 => ?_) (fun hc3 => ?_)
        · have := of_decide_eq_true hc3
          rw [if_pos (by omega)] at hnx
          simp only [go_sem, Nat.reduceMul, Nat.reduceLT, Nat.reduceLeDiff, Nat.reduceEqDiff, Nat.reduceBEq, Int.toNat_natCast, Int.reduceToNat, Int.reduceNeg, Int.reduceLT, Int.reduceLE, Int.reduceBEq, Int.reduceBNe, decide_true, decide_false, Bool.false_eq_true, false_imp_iff, Nat.lt_irrefl]
          refine Fin_plain ?_
          rw [hnx, hw1]; exact ⟨rfl, rfl⟩
        · have := of_decide_eq_false hc3
          rw [if_neg (by omega)] at hnx
          simp only [go_sem, Nat.reduceMul, Nat.reduceLT, Nat.reduceLeDiff, Nat.reduceEqDiff, Nat.reduceBEq, Int.toNat_natCast, Int.reduceToNat, Int.reduceNeg, Int.reduceLT, Int.reduceLE, Int.reduceBEq, Int.reduceBNe, decide_true, decide_false, Bool.false_eq_true, false_imp_iff, Nat.lt_irrefl]
          exact ⟨⟨i + 1, 128 * u + ch.toNat % 128, by omega, by omega, by rw [hw1], rfl, by omega, hnx⟩, by rw [hw1]; omega⟩
def rrV (o : Option (Int × Str)) : AV := match o with
  | some (v, _) => .tup [.int .i64 v, .int .i64 0]
  | none => .tup [.int .i64 0, .int .i64 11]
def rrObj (c : Bool) (B : Str) (I : Nat) (bad : Bool) : AObj := .arr 0 3 [.agg [.fz c (bytesA B), .int .i64 I, .bool bad]]
/-- Where the document's reader is behind a number. -/
def rrO (lo hi : Int) (c : Bool) (B : Str) (I : Nat) (bad : Bool) : AObj := match nxt (B.drop I) with
  | some (u, n) => if unf u < lo ∨ hi < unf u then rrObj c B I true else rrObj c B (I + n) bad
  | none => rrObj c B I true
theorem unfold0 (h : List AObj) : ACall Try.prog 90 [.int .u64 0] h (fun r _ => r = .int .i64 0) := runfold_ok 0 h (by decide)
theorem rrint_ok (t : Nat) (c : Bool) (B : Str) (I : Nat) (bad : Bool) (lo hi : Int) (h : List AObj) (hB : B.length ≤ 4611686018427387904) (hI : I ≤ B.length) (hr : RrAt h t c B I bad) : ACall Try.prog 75 [.ref t 0 3 0 0, .int .i64 lo, .int .i64 hi] h (fun r h' => r = rrV (rdInt lo hi (B.drop I)) ∧ h' = h.set t (rrO lo hi c B I bad)) := by
  have hn := number_ok t c B I bad h hB hI hr
  simp only [RrAt] at hr
  (refine ACall.of_code Try.func75 rfl ?_; simp only [Try.f75]; simp only [go_sem, Nat.reduceMul, Nat.reduceLT, Nat.reduceLeDiff, Nat.reduceEqDiff, Nat.reduceBEq, Int.toNat_natCast, Int.reduceToNat, Int.reduceNeg, Int.reduceLT, Int.reduceLE, Int.reduceBEq, Int.reduceBNe, decide_true, decide_false, Bool.false_eq_true, false_imp_iff, Nat.lt_irrefl])
  refine ACallT.by hn ?_
  cases hx : nxt (B.drop I) with
  | none =>
    have h1 : rdInt lo hi (B.drop I) = none := by simp only [rdInt, hx]
    have h2 : rrO lo hi c B I bad = rrObj c B I true := by simp only [rrO, hx]
    rw [h1, h2]
    rintro _ _ ⟨rfl, rfl⟩
    simp only [nxB]
    simp only [go_sem, Nat.reduceMul, Nat.reduceLT, Nat.reduceLeDiff, Nat.reduceEqDiff, Nat.reduceBEq, Int.toNat_natCast, Int.reduceToNat, Int.reduceNeg, Int.reduceLT, Int.reduceLE, Int.reduceBEq, Int.reduceBNe, decide_true, decide_false, Bool.false_eq_true, false_imp_iff, Nat.lt_irrefl]
    (refine ACallT.pure (by simp only [go_sem, Nat.reduceMul, Nat.reduceLT, Nat.reduceLeDiff, Nat.reduceEqDiff, Nat.reduceBEq, Int.toNat_natCast, Int.reduceToNat, Int.reduceNeg, Int.reduceLT, Int.reduceLE, Int.reduceBEq, Int.reduceBNe, decide_true, decide_false, Bool.false_eq_true, false_imp_iff, Nat.lt_irrefl]; rfl) (by first | trivial | assumption | (simp only [go_sem, Nat.reduceMul, Nat.reduceLT, Nat.reduceLeDiff, Nat.reduceEqDiff, Nat.reduceBEq, Int.toNat_natCast, Int.reduceToNat, Int.reduceNeg, Int.reduceLT, Int.reduceLE, Int.reduceBEq, Int.reduceBNe, decide_true, decide_false, Bool.false_eq_true, false_imp_iff, Nat.lt_irrefl]; done) | (simp only [go_sem, Nat.reduceMul, Nat.reduceLT, Nat.reduceLeDiff, Nat.reduceEqDiff, Nat.reduceBEq, Int.toNat_natCast, Int.reduceToNat, Int.reduceNeg, Int.reduceLT, Int.reduceLE, Int.reduceBEq, Int.reduceBNe, decide_true, decide_false, Bool.false_eq_true, false_imp_iff, Nat.lt_irrefl]; first | trivial | assumption | omega | decide | (refine ⟨?_, ?_⟩ <;> first | trivial | assumption | omega | decide))) (unfold0 _) ?_; refine fun _ _ e => ?_; subst e; refine ⟨rfl, ?_⟩; simp only [go_sem, Nat.reduceMul, Nat.reduceLT, Nat.reduceLeDiff, Nat.reduceEqDiff, Nat.reduceBEq, Int.toNat_natCast, Int.reduceToNat, Int.reduceNeg, Int.reduceLT, Int.reduceLE, Int.reduceBEq, Int.reduceBNe, decide_true, decide_false, Bool.false_eq_true, false_imp_iff, Nat.lt_irrefl])
    simp only [go_sem, hr, Nat.reduceMul, Nat.reduceLT, Nat.reduceLeDiff, Nat.reduceEqDiff, Nat.reduceBEq, Int.toNat_natCast, Int.reduceToNat, Int.reduceNeg, Int.reduceLT, Int.reduceLE, Int.reduceBEq, Int.reduceBNe, decide_true, decide_false, Bool.false_eq_true, false_imp_iff, Nat.lt_irrefl]
    refine Fin_plain ?_; exact ⟨rfl, rfl⟩
  | some p =>
    obtain ⟨u, n⟩ := p
    obtain ⟨hn1, hn2, hn3, hu⟩ := nxt_n hx
    have hub := unf_bound hu
    rintro _ _ ⟨rfl, rfl⟩
    simp only [nxB]
    simp only [go_sem, Nat.reduceMul, Nat.reduceLT, Nat.reduceLeDiff, Nat.reduceEqDiff, Nat.reduceBEq, Int.toNat_natCast, Int.reduceToNat, Int.reduceNeg, Int.reduceLT, Int.reduceLE, Int.reduceBEq, Int.reduceBNe, decide_true, decide_false, Bool.false_eq_true, false_imp_iff, Nat.lt_irrefl]
    (refine ACallT.pure (by simp only [go_sem, Nat.reduceMul, Nat.reduceLT, Nat.reduceLeDiff, Nat.reduceEqDiff, Nat.reduceBEq, Int.toNat_natCast, Int.reduceToNat, Int.reduceNeg, Int.reduceLT, Int.reduceLE, Int.reduceBEq, Int.reduceBNe, decide_true, decide_false, Bool.false_eq_true, false_imp_iff, Nat.lt_irrefl]; rfl) (by first | trivial | assumption | (simp only [go_sem, Nat.reduceMul, Nat.reduceLT, Nat.reduceLeDiff, Nat.reduceEqDiff, Nat.reduceBEq, Int.toNat_natCast, Int.reduceToNat, Int.reduceNeg, Int.reduceLT, Int.reduceLE, Int.reduceBEq, Int.reduceBNe, decide_true, decide_false, Bool.false_eq_true, false_imp_iff, Nat.lt_irrefl]; done) | (simp only [go_sem, Nat.reduceMul, Nat.reduceLT, Nat.reduceLeDiff, Nat.reduceEqDiff, Nat.reduceBEq, Int.toNat_natCast, Int.reduceToNat, Int.reduceNeg, Int.reduceLT, Int.reduceLE, Int.reduceBEq, Int.reduceBNe, decide_true, decide_false, Bool.false_eq_true, false_imp_iff, Nat.lt_irrefl]; first | trivial | assumption | omega | decide | (refine ⟨?_, ?_⟩ <;> first | trivial | assumption | omega | decide))) (runfold_ok u _ hu) ?_; refine fun _ _ e => ?_; subst e; refine ⟨rfl, ?_⟩; simp only [go_sem, Nat.reduceMul, Nat.reduceLT, Nat.reduceLeDiff, Nat.reduceEqDiff, Nat.reduceBEq, Int.toNat_natCast, Int.reduceToNat, Int.reduceNeg, Int.reduceLT, Int.reduceLE, Int.reduceBEq, Int.reduceBNe, decide_true, decide_false, Bool.false_eq_true, false_imp_iff, Nat.lt_irrefl])
    have hcd : (bif bif (n : Int) == 0 then true else decide (unf u < lo) then true else decide (hi < unf u)) = decide (unf u < lo ∨ hi < unf u) := by
      rw [show ((n : Int) == 0) = false by rw [beq_eq_false_iff_ne]; omega]
      by_cases q1 : unf u < lo <;> by_cases q2 : hi < unf u <;> simp [q1, q2]
    generalize (bif bif (n : Int) == 0 then true else decide (unf u < lo) then true else decide (hi < unf u)) = d at hcd
    subst hcd
    have h1 : rdInt lo hi (B.drop I) = if unf u < lo ∨ hi < unf u then none else some (unf u, (B.drop I).drop n) := by simp only [rdInt, hx]
    have h2 : rrO lo hi c B I bad = if unf u < lo ∨ hi < unf u then rrObj c B I true else rrObj c B (I + n) bad := by simp only [rrO, hx]
    refine acond_intro (fun hc => ?_) (fun hc => ?_)
    · rw [if_pos (of_decide_eq_true hc)] at h1 h2
      rw [h1, h2]
      simp only [go_sem, hr, Nat.reduceMul, Nat.reduceLT, Nat.reduceLeDiff, Nat.reduceEqDiff, Nat.reduceBEq, Int.toNat_natCast, Int.reduceToNat, Int.reduceNeg, Int.reduceLT, Int.reduceLE, Int.reduceBEq, Int.reduceBNe, decide_true, decide_false, Bool.false_eq_true, false_imp_iff, Nat.lt_irrefl]
      refine Fin_plain ?_; exact ⟨rfl, rfl⟩
    · rw [if_neg (of_decide_eq_false hc)] at h1 h2
      rw [h1, h2]
      have hdl : (B.drop I).length = B.length - I := by simp
      have hw : IntKind.i64.wrap ((I : Int) + (n : Int)) = ((I + n : Nat) : Int) := by rw [wrap_id (by omega) (by omega)]; omega
      simp only [go_sem, hr, Nat.reduceMul, Nat.reduceLT, Nat.reduceLeDiff, Nat.reduceEqDiff, Nat.reduceBEq, Int.toNat_natCast, Int.reduceToNat, Int.reduceNeg, Int.reduceLT, Int.reduceLE, Int.reduceBEq, Int.reduceBNe, decide_true, decide_false, Bool.false_eq_true, false_imp_iff, Nat.lt_irrefl]
      rw [hw]
      refine Fin_plain ?_; exact ⟨rfl, rfl⟩
/-- A text out of the document's reader. -/
def rrTO (most : Int) (c : Bool) (B : Str) (I : Nat) (bad : Bool) : AObj := match nxt (B.drop I) with
  | some (u, n) => if unf u < 0 ∨ most < unf u ∨ ((B.length - I : Nat) : Int) - n < unf u then rrObj c B I true else rrObj c B (I + n + (unf u).toNat) bad
  | none => rrObj c B I true
def rrTV (o : Option (Str × Str)) : AV := match o with
  | some (s, _) => .tup [.str s, .int .i64 0]
  | none => .tup [.str [], .int .i64 11]
theorem rrtext_ok (t : Nat) (c : Bool) (B : Str) (I : Nat) (bad : Bool) (hi : Int) (h : List AObj) (hB : B.length ≤ 4611686018427387904) (hI : I ≤ B.length) (hr : RrAt h t c B I bad) : ACall Try.prog 76 [.ref t 0 3 0 0, .int .i64 hi] h (fun r h' => r = rrTV (rdTx hi (B.drop I)) ∧ h' = h.set t (rrTO hi c B I bad)) := by
  have hn := rrint_ok t c B I bad 0 hi h hB hI hr
  have htl : t < h.length := (List.getElem?_eq_some_iff.1 hr).1
  simp only [RrAt] at hr
  (refine ACall.of_code Try.func76 rfl ?_; simp only [Try.f76]; simp only [go_sem, Nat.reduceMul, Nat.reduceLT, Nat.reduceLeDiff, Nat.reduceEqDiff, Nat.reduceBEq, Int.toNat_natCast, Int.reduceToNat, Int.reduceNeg, Int.reduceLT, Int.reduceLE, Int.reduceBEq, Int.reduceBNe, decide_true, decide_false, Bool.false_eq_true, false_imp_iff, Nat.lt_irrefl])
  simp only [go_sem, hr, Nat.reduceMul, Nat.reduceLT, Nat.reduceLeDiff, Nat.reduceEqDiff, Nat.reduceBEq, Int.toNat_natCast, Int.reduceToNat, Int.reduceNeg, Int.reduceLT, Int.reduceLE, Int.reduceBEq, Int.reduceBNe, decide_true, decide_false, Bool.false_eq_true, false_imp_iff, Nat.lt_irrefl]
  refine ACallT.by hn ?_
  have hs : ∀ x, (h.set t x)[t]? = some x := fun x => List.getElem?_set_self htl
  cases hx : nxt (B.drop I) with
  | none =>
    have h0 : rdInt 0 hi (B.drop I) = none := by simp only [rdInt, hx]
    have h2 : rrO 0 hi c B I bad = rrObj c B I true := by simp only [rrO, hx]
    have h1 : rdTx hi (B.drop I) = none := by simp only [rdTx, hx]
    have h3 : rrTO hi c B I bad = rrObj c B I true := by simp only [rrTO, hx]
    rw [h0, h2, h1, h3]
    rintro _ _ ⟨rfl, rfl⟩
    simp only [rrV, rrTV, rrObj]
    simp only [go_sem, Nat.reduceMul, Nat.reduceLT, Nat.reduceLeDiff, Nat.reduceEqDiff, Nat.reduceBEq, Int.toNat_natCast, Int.reduceToNat, Int.reduceNeg, Int.reduceLT, Int.reduceLE, Int.reduceBEq, Int.reduceBNe, decide_true, decide_false, Bool.false_eq_true, false_imp_iff, Nat.lt_irrefl]
    refine ADrawT.quiet mixedOrdersD (by kernel_rfl) ?_
    simp only [go_sem, hs, List.set_set, Nat.reduceMul, Nat.reduceLT, Nat.reduceLeDiff, Nat.reduceEqDiff, Nat.reduceBEq, Int.toNat_natCast, Int.reduceToNat, Int.reduceNeg, Int.reduceLT, Int.reduceLE, Int.reduceBEq, Int.reduceBNe, decide_true, decide_false, Bool.false_eq_true, false_imp_iff, Nat.lt_irrefl]
    refine Fin_plain ?_; exact ⟨rfl, rfl⟩
  | some p =>
    obtain ⟨u, n⟩ := p
    obtain ⟨hn1, hn2, hn3, hu⟩ := nxt_n hx
    have hub := unf_bound hu
    have hdl : (B.drop I).length = B.length - I := by simp
    have e0 : rdInt 0 hi (B.drop I) = if unf u < 0 ∨ hi < unf u then none else some (unf u, (B.drop I).drop n) := by simp only [rdInt, hx]
    have e1 : rrO 0 hi c B I bad = if unf u < 0 ∨ hi < unf u then rrObj c B I true else rrObj c B (I + n) bad := by simp only [rrO, hx]
    have e2 : rdTx hi (B.drop I) = if unf u < 0 ∨ hi < unf u ∨ ((B.drop I).length : Int) - n < unf u then none else some (((B.drop I).drop n).take (unf u).toNat, (B.drop I).drop (n + (unf u).toNat)) := by simp only [rdTx, hx]
    have e3 : rrTO hi c B I bad = if unf u < 0 ∨ hi < unf u ∨ ((B.length - I : Nat) : Int) - n < unf u then rrObj c B I true else rrObj c B (I + n + (unf u).toNat) bad := by simp only [rrTO, hx]
    rw [hdl] at e2
    by_cases hc : unf u < 0 ∨ hi < unf u
    · rw [if_pos hc] at e0 e1
      rw [if_pos (by omega)] at e2 e3
      rw [e0, e1, e2, e3]
      rintro _ _ ⟨rfl, rfl⟩
      simp only [rrV, rrTV, rrObj]
      simp only [go_sem, Nat.reduceMul, Nat.reduceLT, Nat.reduceLeDiff, Nat.reduceEqDiff, Nat.reduceBEq, Int.toNat_natCast, Int.reduceToNat, Int.reduceNeg, Int.reduceLT, Int.reduceLE, Int.reduceBEq, Int.reduceBNe, decide_true, decide_false, Bool.false_eq_true, false_imp_iff, Nat.lt_irrefl]
      refine ADrawT.quiet mixedOrdersD (by kernel_rfl) ?_
      simp only [go_sem, hs, List.set_set, Nat.reduceMul, Nat.reduceLT, Nat.reduceLeDiff, Nat.reduceEqDiff, Nat.reduceBEq, Int.toNat_natCast, Int.reduceToNat, Int.reduceNeg, Int.reduceLT, Int.reduceLE, Int.reduceBEq, Int.reduceBNe, decide_true, decide_false, Bool.false_eq_true, false_imp_iff, Nat.lt_irrefl]
      refine Fin_plain ?_; exact ⟨rfl, rfl⟩
    · rw [if_neg hc] at e0 e1
      rw [e0, e1]
      rintro _ _ ⟨rfl, rfl⟩
      simp only [rrV, rrObj]
      simp only [go_sem, Nat.reduceMul, Nat.reduceLT, Nat.reduceLeDiff, Nat.reduceEqDiff, Nat.reduceBEq, Int.toNat_natCast, Int.reduceToNat, Int.reduceNeg, Int.reduceLT, Int.reduceLE, Int.reduceBEq, Int.reduceBNe, decide_true, decide_false, Bool.false_eq_true, false_imp_iff, Nat.lt_irrefl]
      refine ADrawT.quiet mixedOrdersD (by kernel_rfl) ?_
      have hw : IntKind.i64.wrap ((B.length : Int) - ((I + n : Nat) : Int)) = (B.length : Int) - ((I + n : Nat) : Int) := wrap_id (by omega) (by omega)
      simp only [go_sem, hs, List.set_set, Nat.reduceMul, Nat.reduceLT, Nat.reduceLeDiff, Nat.reduceEqDiff, Nat.reduceBEq, Int.toNat_natCast, Int.reduceToNat, Int.reduceNeg, Int.reduceLT, Int.reduceLE, Int.reduceBEq, Int.reduceBNe, decide_true, decide_false, Bool.false_eq_true, false_imp_iff, Nat.lt_irrefl]
      generalize hd : decide (IntKind.i64.wrap ((B.length : Int) - ((I + n : Nat) : Int)) < unf u) = d
      rw [hw] at hd
      cases d with
      | true =>
        have := of_decide_eq_true hd
        rw [if_pos (by omega)] at e2 e3
        rw [e2, e3]
        simp only [go_sem, hs, List.set_set, Nat.reduceMul, Nat.reduceLT, Nat.reduceLeDiff, Nat.reduceEqDiff, Nat.reduceBEq, Int.toNat_natCast, Int.reduceToNat, Int.reduceNeg, Int.reduceLT, Int.reduceLE, Int.reduceBEq, Int.reduceBNe, decide_true, decide_false, Bool.false_eq_true, false_imp_iff, Nat.lt_irrefl]
        refine Fin_plain ?_; exact ⟨rfl, rfl⟩
      | false =>
        have hle := of_decide_eq_false hd
        rw [if_neg (by omega)] at e2 e3
        rw [e2, e3]
        have hv : unf u = ((unf u).toNat : Int) := by omega
        generalize (unf u).toNat = k at *
        have hw2 : IntKind.i64.wrap (((I + n : Nat) : Int) + unf u) = ((I + n + k : Nat) : Int) := by rw [hv, wrap_id (by omega) (by omega)]; omega
        simp only [go_sem, hs, List.set_set, Nat.reduceMul, Nat.reduceLT, Nat.reduceLeDiff, Nat.reduceEqDiff, Nat.reduceBEq, Int.toNat_natCast, Int.reduceToNat, Int.reduceNeg, Int.reduceLT, Int.reduceLE, Int.reduceBEq, Int.reduceBNe, decide_true, decide_false, Bool.false_eq_true, false_imp_iff, Nat.lt_irrefl]
        refine ADrawT.quiet mixedOrdersD (by kernel_rfl) ?_
        simp only [go_sem, hs, List.set_set, Nat.reduceMul, Nat.reduceLT, Nat.reduceLeDiff, Nat.reduceEqDiff, Nat.reduceBEq, Int.toNat_natCast, Int.reduceToNat, Int.reduceNeg, Int.reduceLT, Int.reduceLE, Int.reduceBEq, Int.reduceBNe, decide_true, decide_false, Bool.false_eq_true, false_imp_iff, Nat.lt_irrefl]
        have hw3 : IntKind.i64.wrap (((I + n + k : Nat) : Int) - unf u) = ((I + n : Nat) : Int) := by rw [hv, wrap_id (by omega) (by omega)]; omega
        rw [hw2, hw3, Int.toNat_natCast, Int.toNat_natCast, take_bytes', drop_bytes, bytesA_byteOf]
        refine ⟨⟨by omega, by omega, by omega, bytesA_cells⟩, bytesA_ok _, ?_⟩
        refine Fin_plain ?_
        refine ⟨?_, rfl⟩
        simp only [rrTV]
        rw [List.drop_take, List.drop_drop, show I + n + k - (I + n) = k by omega]
def rrN (o : Option (Int × Str)) : Int := match o with
  | some (v, _) => v
  | none => 0
def rrS (o : Option (Str × Str)) : Str := match o with
  | some (s, _) => s
  | none => []
theorem rN_ok (t : Nat) (c : Bool) (B : Str) (I : Nat) (bad : Bool) (lo hi : Int) (h : List AObj) (hB : B.length ≤ 4611686018427387904) (hI : I ≤ B.length) (hr : RrAt h t c B I bad) : ACall Try.prog 62 [.ref t 0 3 0 0, .int .i64 lo, .int .i64 hi] h (fun r h' => r = .int .i64 (rrN (rdInt lo hi (B.drop I))) ∧ h' = h.set t (rrO lo hi c B I bad)) := by
  have hn := rrint_ok t c B I bad lo hi h hB hI hr
  (refine ACall.of_code Try.func62 rfl ?_; simp only [Try.f62]; simp only [go_sem, Nat.reduceMul, Nat.reduceLT, Nat.reduceLeDiff, Nat.reduceEqDiff, Nat.reduceBEq, Int.toNat_natCast, Int.reduceToNat, Int.reduceNeg, Int.reduceLT, Int.reduceLE, Int.reduceBEq, Int.reduceBNe, decide_true, decide_false, Bool.false_eq_true, false_imp_iff, Nat.lt_irrefl])
  refine ACallT.by hn ?_
  rintro _ _ ⟨rfl, rfl⟩
  cases rdInt lo hi (B.drop I) with
  | none => simp only [rrV, rrN]; simp only [go_sem, Nat.reduceMul, Nat.reduceLT, Nat.reduceLeDiff, Nat.reduceEqDiff, Nat.reduceBEq, Int.toNat_natCast, Int.reduceToNat, Int.reduceNeg, Int.reduceLT, Int.reduceLE, Int.reduceBEq, Int.reduceBNe, decide_true, decide_false, Bool.false_eq_true, false_imp_iff, Nat.lt_irrefl]; refine Fin_plain ?_; exact ⟨rfl, rfl⟩
  | some p => obtain ⟨v, b⟩ := p; simp only [rrV, rrN]; simp only [go_sem, Nat.reduceMul, Nat.reduceLT, Nat.reduceLeDiff, Nat.reduceEqDiff, Nat.reduceBEq, Int.toNat_natCast, Int.reduceToNat, Int.reduceNeg, Int.reduceLT, Int.reduceLE, Int.reduceBEq, Int.reduceBNe, decide_true, decide_false, Bool.false_eq_true, false_imp_iff, Nat.lt_irrefl]; refine Fin_plain ?_; exact ⟨rfl, rfl⟩
theorem rT_ok (t : Nat) (c : Bool) (B : Str) (I : Nat) (bad : Bool) (hi : Int) (h : List AObj) (hB : B.length ≤ 4611686018427387904) (hI : I ≤ B.length) (hr : RrAt h t c B I bad) : ACall Try.prog 63 [.ref t 0 3 0 0, .int .i64 hi] h (fun r h' => r = .str (rrS (rdTx hi (B.drop I))) ∧ h' = h.set t (rrTO hi c B I bad)) := by
  have hn := rrtext_ok t c B I bad hi h hB hI hr
  (refine ACall.of_code Try.func63 rfl ?_; simp only [Try.f63]; simp only [go_sem, Nat.reduceMul, Nat.reduceLT, Nat.reduceLeDiff, Nat.reduceEqDiff, Nat.reduceBEq, Int.toNat_natCast, Int.reduceToNat, Int.reduceNeg, Int.reduceLT, Int.reduceLE, Int.reduceBEq, Int.reduceBNe, decide_true, decide_false, Bool.false_eq_true, false_imp_iff, Nat.lt_irrefl])
  refine ACallT.by hn ?_
  rintro _ _ ⟨rfl, rfl⟩
  cases rdTx hi (B.drop I) with
  | none => simp only [rrTV, rrS]; simp only [go_sem, Nat.reduceMul, Nat.reduceLT, Nat.reduceLeDiff, Nat.reduceEqDiff, Nat.reduceBEq, Int.toNat_natCast, Int.reduceToNat, Int.reduceNeg, Int.reduceLT, Int.reduceLE, Int.reduceBEq, Int.reduceBNe, decide_true, decide_false, Bool.false_eq_true, false_imp_iff, Nat.lt_irrefl]; refine Fin_plain ?_; exact ⟨rfl, rfl⟩
  | some p => obtain ⟨v, b⟩ := p; simp only [rrTV, rrS]; simp only [go_sem, Nat.reduceMul, Nat.reduceLT, Nat.reduceLeDiff, Nat.reduceEqDiff, Nat.reduceBEq, Int.toNat_natCast, Int.reduceToNat, Int.reduceNeg, Int.reduceLT, Int.reduceLE, Int.reduceBEq, Int.reduceBNe, decide_true, decide_false, Bool.false_eq_true, false_imp_iff, Nat.lt_irrefl]; refine Fin_plain ?_; exact ⟨rfl, rfl⟩
theorem rwhole_ok (t : Nat) (c : Bool) (B : Str) (I : Nat) (bad : Bool) (h : List AObj) (hr : RrAt h t c B I bad) : ACall Try.prog 64 [.ref t 0 3 0 0] h (fun r h' => r = .bool (!bad && decide (I = B.length)) ∧ h' = h) := by
  simp only [RrAt] at hr
  (refine ACall.of_code Try.func64 rfl ?_; simp only [Try.f64]; simp only [go_sem, Nat.reduceMul, Nat.reduceLT, Nat.reduceLeDiff, Nat.reduceEqDiff, Nat.reduceBEq, Int.toNat_natCast, Int.reduceToNat, Int.reduceNeg, Int.reduceLT, Int.reduceLE, Int.reduceBEq, Int.reduceBNe, decide_true, decide_false, Bool.false_eq_true, false_imp_iff, Nat.lt_irrefl])
  refine ADrawT.quiet mixedOrdersD (by kernel_rfl) ?_
  simp only [go_sem, hr, Nat.reduceMul, Nat.reduceLT, Nat.reduceLeDiff, Nat.reduceEqDiff, Nat.reduceBEq, Int.toNat_natCast, Int.reduceToNat, Int.reduceNeg, Int.reduceLT, Int.reduceLE, Int.reduceBEq, Int.reduceBNe, decide_true, decide_false, Bool.false_eq_true, false_imp_iff, Nat.lt_irrefl]
  cases bad with
  | true =>
    simp only [go_sem, hr, Nat.reduceMul, Nat.reduceLT, Nat.reduceLeDiff, Nat.reduceEqDiff, Nat.reduceBEq, Int.toNat_natCast, Int.reduceToNat, Int.reduceNeg, Int.reduceLT, Int.reduceLE, Int.reduceBEq, Int.reduceBNe, decide_true, decide_false, Bool.false_eq_true, false_imp_iff, Nat.lt_irrefl]
    refine Fin_plain ?_; exact ⟨rfl, rfl⟩
  | false =>
    simp only [go_sem, hr, Nat.reduceMul, Nat.reduceLT, Nat.reduceLeDiff, Nat.reduceEqDiff, Nat.reduceBEq, Int.toNat_natCast, Int.reduceToNat, Int.reduceNeg, Int.reduceLT, Int.reduceLE, Int.reduceBEq, Int.reduceBNe, decide_true, decide_false, Bool.false_eq_true, false_imp_iff, Nat.lt_irrefl]
    refine Fin_plain ?_
    refine ⟨?_, rfl⟩
    have : ((I : Int) == (B.length : Int)) = decide (I = B.length) := by
      by_cases q : I = B.length
      · simp [q]
      · simp [q]; omega
    rw [this]; rfl
end Go.Proofs.Vale
