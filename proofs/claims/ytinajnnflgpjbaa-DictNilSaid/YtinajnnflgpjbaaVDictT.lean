/- YtinajnnflgpjbaaVDictT: a text of the proof of this claim, by its prover. -/
import Derived.Test.YtinajnnflgpjbaaVDictR
import Derived.Test.YtinajnnflgpjbaaVDictE
import Derived.Test.YtinajnnflgpjbaaVTurn
set_option linter.unusedVariables false
set_option linter.unusedSimpArgs false
set_option maxHeartbeats 4000000
set_option maxRecDepth 100000
namespace Go.Proofs.Vale
open Go.Proofs Go.Proofs.YtinajnnflgpjbaaT
attribute [local irreducible] acode aopsL aopsT dopsL dopsT pop popG aop ALoop ADraw ACall AWP AFin acondT ALoopT ADrawT ACallT doP doG doGd

def rpS (b last : Str) (first : Bool) : Option (Str × Str) := match rdInt 0 last.length b with
  | none => none
  | some (k, b1) => match rdTx 24 b1 with
    | none => none
    | some (s0, b2) => if dfits (last.take k.toNat ++ s0) = true ∧ (first = false → sLt last (last.take k.toNat ++ s0) = true) then some (last.take k.toNat ++ s0, b2) else none
def rpF : Nat → Bool → Str → Str → List Str → Option (Str × List Str)
  | 0, _, b, _, acc => some (b, acc)
  | n + 1, first, b, last, acc => match rpS b last first with
    | none => none
    | some (s, b2) => rpF n false b2 s (acc ++ [s])
def rparseF (b : Str) : Option (List Str) := match rdInt 0 65536 b with
  | none => none
  | some (n, b1) => match rpF n.toNat true b1 [] [] with
    | none => none
    | some (b2, L) => if b2 = [] ∧ bytesF L = b then some L else none
def rparV (c : Bool) (o : Option (List Str)) : AV := match o with
  | some L => .tup [.fz c (strs L), .int .i64 0]
  | none => .tup [.fz true [], .int .i64 61]
theorem rrO_bad {lo hi : Int} {c : Bool} {B : Str} {I : Nat} {bad : Bool} (h : rdInt lo hi (B.drop I) = none) : rrO lo hi c B I bad = rrObj c B I true := by
  simp only [rdInt] at h
  simp only [rrO]
  split at h
  · rename_i u n hx
    split at h
    · rename_i hc; rw [hx]; simp only; rw [if_pos hc]
    · cases h
  · rename_i hx; rw [hx]
theorem rrO_good {lo hi : Int} {c : Bool} {B : Str} {I : Nat} {bad : Bool} {v : Int} {b : Str} (h : rdInt lo hi (B.drop I) = some (v, b)) (hI : I ≤ B.length) : ∃ I2, I2 ≤ B.length ∧ b = B.drop I2 ∧ rrO lo hi c B I bad = rrObj c B I2 bad := by
  simp only [rdInt] at h
  simp only [rrO]
  split at h
  · rename_i u n hx
    split at h
    · cases h
    · rename_i hc
      injection h with h; injection h with h1 h2
      have := nxt_n hx
      simp only [List.length_drop] at this
      rw [hx]; simp only; rw [if_neg hc]
      exact ⟨I + n, by omega, by rw [← h2, List.drop_drop], rfl⟩
  · cases h
theorem rrTO_bad {hi : Int} {c : Bool} {B : Str} {I : Nat} {bad : Bool} (h : rdTx hi (B.drop I) = none) : rrTO hi c B I bad = rrObj c B I true := by
  simp only [rdTx, List.length_drop] at h
  simp only [rrTO]
  split at h
  · rename_i u n hx
    split at h
    · rename_i hc; rw [hx]; simp only; rw [if_pos hc]
    · cases h
  · rename_i hx; rw [hx]
theorem rrTO_good {hi : Int} {c : Bool} {B : Str} {I : Nat} {bad : Bool} {s b : Str} (h : rdTx hi (B.drop I) = some (s, b)) (hI : I ≤ B.length) : ∃ I2, I2 ≤ B.length ∧ b = B.drop I2 ∧ rrTO hi c B I bad = rrObj c B I2 bad := by
  simp only [rdTx, List.length_drop] at h
  simp only [rrTO]
  split at h
  · rename_i u n hx
    split at h
    · cases h
    · rename_i hc
      injection h with h; injection h with h1 h2
      have := nxt_n hx
      simp only [List.length_drop] at this
      rw [hx]; simp only; rw [if_neg hc]
      exact ⟨I + n + (unf u).toNat, by omega, by rw [← h2, List.drop_drop]; congr 1; omega, rfl⟩
  · cases h
/-- What a round of the document's reader reads. -/
theorem rround (c : Bool) (B : Str) (I : Nat) (last : Str) (hI : I ≤ B.length) (hl : last.length ≤ 24) : ∃ (kk : Nat) (S0 : Str) (I2 I3 : Nat) (bad2 bad3 : Bool), rrN (rdInt 0 last.length (B.drop I)) = (kk : Int) ∧ kk ≤ last.length ∧ rrO 0 last.length c B I false = rrObj c B I2 bad2 ∧ I2 ≤ B.length ∧
    rrS (rdTx 24 (B.drop I2)) = S0 ∧ S0.length ≤ 24 ∧ rrTO 24 c B I2 bad2 = rrObj c B I3 bad3 ∧ I3 ≤ B.length ∧
    (bad3 = true → ∀ first, rpS (B.drop I) last first = none) ∧ (bad3 = false → ∀ first, rpS (B.drop I) last first = if dfits (last.take kk ++ S0) = true ∧ (first = false → sLt last (last.take kk ++ S0) = true) then some (last.take kk ++ S0, B.drop I3) else none) := by
  have text : ∀ (I2 : Nat) (bad2 : Bool), I2 ≤ B.length → ∃ (S0 : Str) (I3 : Nat) (bad3 : Bool), rrS (rdTx 24 (B.drop I2)) = S0 ∧ S0.length ≤ 24 ∧ rrTO 24 c B I2 bad2 = rrObj c B I3 bad3 ∧ I3 ≤ B.length ∧ (rdTx 24 (B.drop I2) = none → bad3 = true) ∧ (∀ s b, rdTx 24 (B.drop I2) = some (s, b) → bad3 = bad2 ∧ s = S0 ∧ b = B.drop I3) := by
    intro I2 bad2 h2
    cases hx : rdTx 24 (B.drop I2) with
    | none => exact ⟨[], I2, true, rfl, by simp, rrTO_bad hx, h2, fun _ => rfl, fun s b q => (nomatch q)⟩
    | some p =>
      obtain ⟨s, b⟩ := p
      obtain ⟨I3, q1, q2, q3⟩ := rrTO_good (c := c) (bad := bad2) hx h2
      have := (rdTx_ok hx).1
      exact ⟨s, I3, bad2, rfl, by omega, q3, q1, fun q => (nomatch q), fun s' b' q => by injection q with q; injection q with e1 e2; subst e1 e2; exact ⟨rfl, rfl, q2⟩⟩
  cases hk : rdInt 0 last.length (B.drop I) with
  | none =>
    obtain ⟨S0, I3, bad3, t1, t2, t3, t4, t5, t6⟩ := text I true hI
    have hb3 : bad3 = true := by
      cases hx : rdTx 24 (B.drop I) with
      | none => exact t5 hx
      | some p => exact (t6 p.1 p.2 hx).1
    exact ⟨0, S0, I, I3, true, bad3, rfl, by omega, rrO_bad hk, hI, t1, t2, t3, t4, fun _ first => by simp only [rpS, hk], fun q => by rw [hb3] at q; cases q⟩
  | some p =>
    obtain ⟨v, b1⟩ := p
    obtain ⟨h1, h2, -⟩ := rdInt_ok hk
    obtain ⟨I2, q1, q2, q3⟩ := rrO_good (c := c) (bad := false) hk hI
    obtain ⟨S0, I3, bad3, t1, t2, t3, t4, t5, t6⟩ := text I2 false q1
    refine ⟨v.toNat, S0, I2, I3, false, bad3, ?_, by omega, q3, q1, t1, t2, t3, t4, fun q first => ?_, fun q first => ?_⟩
    · show v = _; omega
    · cases hx : rdTx 24 (B.drop I2) with
      | none => simp only [rpS, hk, q2, hx]
      | some p => have := (t6 p.1 p.2 hx).1; rw [this] at q; cases q
    · cases hx : rdTx 24 (B.drop I2) with
      | none => have := t5 hx; rw [this] at q; cases q
      | some p =>
        obtain ⟨-, e1, e2⟩ := t6 p.1 p.2 hx
        simp only [rpS, hk, q2, hx, e1, e2]
theorem rwhole_fz (c : Bool) (B : Str) (I : Nat) (bad : Bool) (h : List AObj) : ACall Try.prog 64 [.ptr (.agg [.fz c (bytesA B), .int .i64 I, .bool bad])] h (fun r _ => r = .bool (!bad && decide (I = B.length))) := by
  (refine ACall.of_code Try.func64 rfl ?_; simp only [Try.f64]; simp only [go_sem, Nat.reduceMul, Nat.reduceLT, Nat.reduceLeDiff, Nat.reduceEqDiff, Nat.reduceBEq, Int.toNat_natCast, Int.reduceToNat, Int.reduceNeg, Int.reduceLT, Int.reduceLE, Int.reduceBEq, Int.reduceBNe, decide_true, decide_false, Bool.false_eq_true, false_imp_iff, Nat.lt_irrefl])
  refine ADrawT.quiet mixedOrdersD (by kernel_rfl) ?_
  simp only [go_sem, Nat.reduceMul, Nat.reduceLT, Nat.reduceLeDiff, Nat.reduceEqDiff, Nat.reduceBEq, Int.toNat_natCast, Int.reduceToNat, Int.reduceNeg, Int.reduceLT, Int.reduceLE, Int.reduceBEq, Int.reduceBNe, decide_true, decide_false, Bool.false_eq_true, false_imp_iff, Nat.lt_irrefl]
  cases bad with
  | true =>
    simp only [go_sem, Nat.reduceMul, Nat.reduceLT, Nat.reduceLeDiff, Nat.reduceEqDiff, Nat.reduceBEq, Int.toNat_natCast, Int.reduceToNat, Int.reduceNeg, Int.reduceLT, Int.reduceLE, Int.reduceBEq, Int.reduceBNe, decide_true, decide_false, Bool.false_eq_true, false_imp_iff, Nat.lt_irrefl]
    refine Fin_plain rfl
  | false =>
    simp only [go_sem, Nat.reduceMul, Nat.reduceLT, Nat.reduceLeDiff, Nat.reduceEqDiff, Nat.reduceBEq, Int.toNat_natCast, Int.reduceToNat, Int.reduceNeg, Int.reduceLT, Int.reduceLE, Int.reduceBEq, Int.reduceBNe, decide_true, decide_false, Bool.false_eq_true, false_imp_iff, Nat.lt_irrefl]
    refine Fin_plain ?_
    have : ((I : Int) == (B.length : Int)) = decide (I = B.length) := by
      by_cases q : I = B.length
      · simp [q]
      · simp [q]; omega
    rw [this]; rfl
theorem rparse_ok (c : Bool) (B : Str) (h : List AObj) (hb : B.length ≤ 100000000000) : ACall Try.prog 39 [.fz c (bytesA B)] h (fun r _ => ∃ c', r = rparV c' (rparseF B)) := by
  (refine ACall.of_code Try.func39 rfl ?_; simp only [Try.f39]; simp only [go_sem, Nat.reduceMul, Nat.reduceLT, Nat.reduceLeDiff, Nat.reduceEqDiff, Nat.reduceBEq, Int.toNat_natCast, Int.reduceToNat, Int.reduceNeg, Int.reduceLT, Int.reduceLE, Int.reduceBEq, Int.reduceBNe, decide_true, decide_false, Bool.false_eq_true, false_imp_iff, Nat.lt_irrefl])
  have hr1 : RrAt (h ++ [rrObj c B 0 false]) h.length c B 0 false := by simp only [RrAt]; rw [getElem?_app0]; rfl
  refine ACallT.by (rN_ok h.length c B 0 false 0 65536 _ (by omega) (by omega) hr1) ?_
  rw [List.drop_zero]
  rintro _ _ ⟨rfl, rfl⟩
  have hset : ∀ x y : AObj, (h ++ [y]).set h.length x = h ++ [x] := fun x y => by rw [set_app0]; rfl
  rw [hset]
  cases hn : rdInt 0 65536 B with
  | none =>
    have hp : rparseF B = none := by simp only [rparseF, hn]
    rw [rrO_bad (I := 0) (by rw [List.drop_zero]; exact hn)]
    have hr2 : (h ++ [rrObj c B 0 true])[h.length]? = some (rrObj c B 0 true) := by rw [getElem?_app0]; rfl
    generalize h ++ [rrObj c B 0 true] = h2 at *
    generalize h.length = tr at *
    simp only [rrN]
    simp only [go_sem, Nat.reduceMul, Nat.reduceLT, Nat.reduceLeDiff, Nat.reduceEqDiff, Nat.reduceBEq, Int.toNat_natCast, Int.reduceToNat, Int.reduceNeg, Int.reduceLT, Int.reduceLE, Int.reduceBEq, Int.reduceBNe, decide_true, decide_false, Bool.false_eq_true, false_imp_iff, Nat.lt_irrefl]
    refine ALoop.over [2, 3, 6, 7, 8, 9, 10, 11, 17, 18, 19, 20, 21, 22, 23, 24, 25, 26, 27, 28, 29, 30, 31, 32, 33, 34, 35, 36, 37, 38, 39, 40, 41, 42, 43, 44, 45, 46, 47, 48, 49, 50, 51, 52, 53, 54, 55, 56] (fun e h' => h' = h2 ∧ e.getD 8 .any = .int .i64 0 ∧ e.getD 6 .any = .fz true []) (fun e _ => 0) ⟨rfl, rfl, rfl⟩ ?_
    simp only [List.length_cons, List.length_nil, Nat.reduceAdd, allL_succ, allL_zero]
    intro y2 y3 y6 y7 y8 y9 y10 y11 y17 y18 y19 y20 y21 y22 y23 y24 y25 y26 y27 y28 y29 y30 y31 y32 y33 y34 y35 y36 y37 y38 y39 y40 y41 y42 y43 y44 y45 y46 y47 y48 y49 y50 y51 y52 y53 y54 y55 y56 h' hI
    simp only [go_sem] at hI
    obtain ⟨rfl, rfl, rfl⟩ := hI
    simp only [rrObj] at hr2
    simp only [go_sem, hr2, Nat.reduceMul, Nat.reduceLT, Nat.reduceLeDiff, Nat.reduceEqDiff, Nat.reduceBEq, Int.toNat_natCast, Int.reduceToNat, Int.reduceNeg, Int.reduceLT, Int.reduceLE, Int.reduceBEq, Int.reduceBNe, decide_true, decide_false, Bool.false_eq_true, false_imp_iff, Nat.lt_irrefl]
    refine ADrawT.freeze 4 ?_
    simp only [go_sem, hr2, Nat.reduceMul, Nat.reduceLT, Nat.reduceLeDiff, Nat.reduceEqDiff, Nat.reduceBEq, Int.toNat_natCast, Int.reduceToNat, Int.reduceNeg, Int.reduceLT, Int.reduceLE, Int.reduceBEq, Int.reduceBNe, decide_true, decide_false, Bool.false_eq_true, false_imp_iff, Nat.lt_irrefl]
    refine ADrawT.quiet mixedOrdersD (by kernel_rfl) ?_
    simp only [go_sem, Nat.reduceMul, Nat.reduceLT, Nat.reduceLeDiff, Nat.reduceEqDiff, Nat.reduceBEq, Int.toNat_natCast, Int.reduceToNat, Int.reduceNeg, Int.reduceLT, Int.reduceLE, Int.reduceBEq, Int.reduceBNe, decide_true, decide_false, Bool.false_eq_true, false_imp_iff, Nat.lt_irrefl]
    refine doX_intro (.bool false) ?_ ?_
    · simp only [go_sem, Nat.reduceMul, Nat.reduceLT, Nat.reduceLeDiff, Nat.reduceEqDiff, Nat.reduceBEq, Int.toNat_natCast, Int.reduceToNat, Int.reduceNeg, Int.reduceLT, Int.reduceLE, Int.reduceBEq, Int.reduceBNe, decide_true, decide_false, Bool.false_eq_true, false_imp_iff, Nat.lt_irrefl]
      (refine ACallT.pure (by simp only [go_sem, Nat.reduceMul, Nat.reduceLT, Nat.reduceLeDiff, Nat.reduceEqDiff, Nat.reduceBEq, Int.toNat_natCast, Int.reduceToNat, Int.reduceNeg, Int.reduceLT, Int.reduceLE, Int.reduceBEq, Int.reduceBNe, decide_true, decide_false, Bool.false_eq_true, false_imp_iff, Nat.lt_irrefl]; rfl) (by first | trivial | assumption | (simp only [go_sem, Nat.reduceMul, Nat.reduceLT, Nat.reduceLeDiff, Nat.reduceEqDiff, Nat.reduceBEq, Int.toNat_natCast, Int.reduceToNat, Int.reduceNeg, Int.reduceLT, Int.reduceLE, Int.reduceBEq, Int.reduceBNe, decide_true, decide_false, Bool.false_eq_true, false_imp_iff, Nat.lt_irrefl]; done) | (simp only [go_sem, Nat.reduceMul, Nat.reduceLT, Nat.reduceLeDiff, Nat.reduceEqDiff, Nat.reduceBEq, Int.toNat_natCast, Int.reduceToNat, Int.reduceNeg, Int.reduceLT, Int.reduceLE, Int.reduceBEq, Int.reduceBNe, decide_true, decide_false, Bool.false_eq_true, false_imp_iff, Nat.lt_irrefl]; first | trivial | assumption | omega | decide | (refine ⟨?_, ?_⟩ <;> first | trivial | assumption | omega | decide))) (rwhole_fz c B 0 true _) ?_; refine fun _ _ e => ?_; subst e; refine ⟨rfl, ?_⟩; simp only [go_sem, Nat.reduceMul, Nat.reduceLT, Nat.reduceLeDiff, Nat.reduceEqDiff, Nat.reduceBEq, Int.toNat_natCast, Int.reduceToNat, Int.reduceNeg, Int.reduceLT, Int.reduceLE, Int.reduceBEq, Int.reduceBNe, decide_true, decide_false, Bool.false_eq_true, false_imp_iff, Nat.lt_irrefl])
    simp only [go_sem, Nat.reduceMul, Nat.reduceLT, Nat.reduceLeDiff, Nat.reduceEqDiff, Nat.reduceBEq, Int.toNat_natCast, Int.reduceToNat, Int.reduceNeg, Int.reduceLT, Int.reduceLE, Int.reduceBEq, Int.reduceBNe, decide_true, decide_false, Bool.false_eq_true, false_imp_iff, Nat.lt_irrefl]
    refine Fin_plain ?_
    rw [hp]; exact ⟨true, rfl⟩
  | some p =>
    obtain ⟨n0, b1⟩ := p
    obtain ⟨hn1, hn2, hb1⟩ := rdInt_ok hn
    have hp : rparseF B = match rpF n0.toNat true b1 [] [] with
      | none => none
      | some (b2, L) => if b2 = [] ∧ bytesF L = B then some L else none := by simp only [rparseF, hn]
    obtain ⟨n, rfl⟩ : ∃ n : Nat, n0 = (n : Int) := ⟨n0.toNat, by omega⟩
    rw [Int.toNat_natCast] at hp
    obtain ⟨I1, hI1, rfl, hrr⟩ := rrO_good (c := c) (bad := false) (I := 0) (B := B) (by rw [List.drop_zero]; exact hn) (by omega)
    rw [hrr]
    have hr2 : (h ++ [rrObj c B I1 false])[h.length]? = some (rrObj c B I1 false) := by rw [getElem?_app0]; rfl
    generalize h ++ [rrObj c B I1 false] = h2 at *
    generalize h.length = tr at *
    simp only [rrN]
    simp only [go_sem, Nat.reduceMul, Nat.reduceLT, Nat.reduceLeDiff, Nat.reduceEqDiff, Nat.reduceBEq, Int.toNat_natCast, Int.reduceToNat, Int.reduceNeg, Int.reduceLT, Int.reduceLE, Int.reduceBEq, Int.reduceBNe, decide_true, decide_false, Bool.false_eq_true, false_imp_iff, Nat.lt_irrefl]
    refine ALoop.over [2, 3, 6, 7, 8, 9, 10, 11, 17, 18, 19, 20, 21, 22, 23, 24, 25, 26, 27, 28, 29, 30, 31, 32, 33, 34, 35, 36, 37, 38, 39, 40, 41, 42, 43, 44, 45, 46, 47, 48, 49, 50, 51, 52, 53, 54, 55, 56] (fun e h' => ∃ (i I : Nat) (bad : Bool) (last : Str) (L : List Str) (X : AV), e.getD 8 .any = .int .i64 i ∧ i ≤ n ∧ e.getD 7 .any = .str last ∧ e.getD 6 .any = X ∧ h'[tr]? = some (.arr 0 3 [.agg [.fz c (bytesA B), .int .i64 I, .bool bad]]) ∧ I ≤ B.length ∧
        ((X = .fz true [] ∧ L = []) ∨ ∃ t g, X = .sl t g 1 0 L.length ∧ h'[t]? = some (.arr g 1 (strs L)) ∧ t ≠ tr) ∧ (bad = false → rpF n true (B.drop I1) [] [] = rpF (n - i) (i == 0) (B.drop I) last L) ∧ (bad = true → rpF n true (B.drop I1) [] [] = none) ∧ L.length ≤ i ∧ last.length ≤ 24 ∧ ∀ s ∈ L, s.length ≤ 24) (fun e _ => n - natA (e.getD 8 .any))
      ⟨0, I1, false, [], [], .fz true [], rfl, by omega, rfl, rfl, hr2, hI1, .inl ⟨rfl, rfl⟩, fun _ => rfl, fun q => (by cases q), by simp, by simp, by simp⟩ ?_
    simp only [List.length_cons, List.length_nil, Nat.reduceAdd, allL_succ, allL_zero]
    intro y2 y3 y6 y7 y8 y9 y10 y11 y17 y18 y19 y20 y21 y22 y23 y24 y25 y26 y27 y28 y29 y30 y31 y32 y33 y34 y35 y36 y37 y38 y39 y40 y41 y42 y43 y44 y45 y46 y47 y48 y49 y50 y51 y52 y53 y54 y55 y56 h' hI
    simp only [go_sem] at hI
    obtain ⟨i, I, bad, last, L, X, rfl, hin, rfl, rfl, hr, hIB, hX, hg1, hg2, hLi, hll, hLs⟩ := hI
    simp only [go_sem, hr, Nat.reduceMul, Nat.reduceLT, Nat.reduceLeDiff, Nat.reduceEqDiff, Nat.reduceBEq, Int.toNat_natCast, Int.reduceToNat, Int.reduceNeg, Int.reduceLT, Int.reduceLE, Int.reduceBEq, Int.reduceBNe, decide_true, decide_false, Bool.false_eq_true, false_imp_iff, Nat.lt_irrefl]
    refine acond_intro (fun hc => ?_) (fun hc => ?_)
    · obtain ⟨hlt, rfl⟩ : i < n ∧ bad = false := by
        by_cases q : (i : Int) < (n : Int)
        · simp [q] at hc; exact ⟨by omega, hc⟩
        · simp [q] at hc
      have hg1 := hg1 rfl
      obtain ⟨kk, S0, I2, I3, bad2, bad3, e1, e2, e3, e4, e5, e6, e7, e8, e9, e10⟩ := rround c B I last hIB hll
      have htl : tr < h'.length := (List.getElem?_eq_some_iff.1 hr).1
      simp only [go_sem, Nat.reduceMul, Nat.reduceLT, Nat.reduceLeDiff, Nat.reduceEqDiff, Nat.reduceBEq, Int.toNat_natCast, Int.reduceToNat, Int.reduceNeg, Int.reduceLT, Int.reduceLE, Int.reduceBEq, Int.reduceBNe, decide_true, decide_false, Bool.false_eq_true, false_imp_iff, Nat.lt_irrefl]
      refine ACallT.by (rN_ok tr c B I false 0 last.length _ (by omega) hIB hr) ?_
      rw [e1, e3]
      rintro _ _ ⟨rfl, rfl⟩
      simp only [go_sem, Nat.reduceMul, Nat.reduceLT, Nat.reduceLeDiff, Nat.reduceEqDiff, Nat.reduceBEq, Int.toNat_natCast, Int.reduceToNat, Int.reduceNeg, Int.reduceLT, Int.reduceLE, Int.reduceBEq, Int.reduceBNe, decide_true, decide_false, Bool.false_eq_true, false_imp_iff, Nat.lt_irrefl]
      have hr4 : RrAt (h'.set tr (rrObj c B I2 bad2)) tr c B I2 bad2 := List.getElem?_set_self htl
      have hT := rT_ok tr c B I2 bad2 24 _ (by omega) e4 hr4
      rw [e5, e7, List.set_set] at hT
      refine ADrawT.turn 4 (h'.set tr (rrObj c B I3 bad3)) (.str S0) mixedOrdersD (by kernel_rfl) (by kernel_rfl) (by decide) ?_
      simp only [go_sem, List.take_succ_cons, List.take_zero, List.drop_succ_cons, List.drop_zero, QTurn, List.getElem_toArray, List.getElem_cons_succ, List.getElem_cons_zero, Nat.reduceMul, Nat.reduceLT, Nat.reduceLeDiff, Nat.reduceEqDiff, Nat.reduceBEq, Int.toNat_natCast, Int.reduceToNat, Int.reduceNeg, Int.reduceLT, Int.reduceLE, Int.reduceBEq, Int.reduceBNe, decide_true, decide_false, Bool.false_eq_true, false_imp_iff, Nat.lt_irrefl]
      have hSl : (List.take kk last ++ S0).length ≤ 48 := by rw [List.length_append, List.length_take]; omega
      refine ⟨⟨by omega, by omega⟩, ACallT.by hT (fun _ _ q => q), by rw [List.length_append] at hSl; omega, ?_⟩
      have hstep : ∀ o, rpS (B.drop I) last (i == 0) = o → rpF n true (B.drop I1) [] [] = match o with
          | none => none
          | some (s, b2) => rpF (n - (i + 1)) false b2 s (L ++ [s]) := by
        intro o ho
        rw [hg1, show n - i = (n - (i + 1)) + 1 by omega]
        subst ho; rfl
      have hr5 : (h'.set tr (rrObj c B I3 bad3))[tr]? = some (AObj.arr 0 3 [AV.agg [AV.fz c (bytesA B), AV.int IntKind.i64 I3, AV.bool bad3]]) := List.getElem?_set_self htl
      have hX5 : (y6 = AV.fz true [] ∧ L = []) ∨ ∃ t g, y6 = AV.sl t g 1 0 L.length ∧ (h'.set tr (rrObj c B I3 bad3))[t]? = some (AObj.arr g 1 (strs L)) ∧ t ≠ tr := by
        rcases hX with q | ⟨t, g, q1, q2, q3⟩
        · exact .inl q
        · exact .inr ⟨t, g, q1, by rw [List.getElem?_set_ne (fun q => q3 q.symm)]; exact q2, q3⟩
      generalize h'.set tr (rrObj c B I3 bad3) = h4 at *
      generalize hS : List.take kk last ++ S0 = S at *
      have hnone : (dfits S = true ∧ ((i == 0) = false → sLt last S = true) → False) → rparseF B = none := by
        intro q
        rw [hp]
        have : rpS (B.drop I) last (i == 0) = none := by
          cases hb3 : bad3 with
          | true => exact e9 hb3 _
          | false => rw [e10 hb3, if_neg q]
        rw [hstep _ this]
      (refine ACallT.pure (by simp only [go_sem, Nat.reduceMul, Nat.reduceLT, Nat.reduceLeDiff, Nat.reduceEqDiff, Nat.reduceBEq, Int.toNat_natCast, Int.reduceToNat, Int.reduceNeg, Int.reduceLT, Int.reduceLE, Int.reduceBEq, Int.reduceBNe, decide_true, decide_false, Bool.false_eq_true, false_imp_iff, Nat.lt_irrefl]; rfl) (by first | trivial | assumption | (simp only [go_sem, Nat.reduceMul, Nat.reduceLT, Nat.reduceLeDiff, Nat.reduceEqDiff, Nat.reduceBEq, Int.toNat_natCast, Int.reduceToNat, Int.reduceNeg, Int.reduceLT, Int.reduceLE, Int.reduceBEq, Int.reduceBNe, decide_true, decide_false, Bool.false_eq_true, false_imp_iff, Nat.lt_irrefl]; done) | (simp only [go_sem, Nat.reduceMul, Nat.reduceLT, Nat.reduceLeDiff, Nat.reduceEqDiff, Nat.reduceBEq, Int.toNat_natCast, Int.reduceToNat, Int.reduceNeg, Int.reduceLT, Int.reduceLE, Int.reduceBEq, Int.reduceBNe, decide_true, decide_false, Bool.false_eq_true, false_imp_iff, Nat.lt_irrefl]; first | trivial | assumption | omega | decide | (refine ⟨?_, ?_⟩ <;> first | trivial | assumption | omega | decide))) (rfits_ok S _) ?_; refine fun _ _ e => ?_; subst e; refine ⟨rfl, ?_⟩)
      cases hf : dfits S with
      | false =>
        have := hnone (fun q => by rw [hf] at q; cases q.1)
        simp only [go_sem, Nat.reduceMul, Nat.reduceLT, Nat.reduceLeDiff, Nat.reduceEqDiff, Nat.reduceBEq, Int.toNat_natCast, Int.reduceToNat, Int.reduceNeg, Int.reduceLT, Int.reduceLE, Int.reduceBEq, Int.reduceBNe, decide_true, decide_false, Bool.false_eq_true, false_imp_iff, Nat.lt_irrefl]
        refine Fin_plain ?_
        rw [this]; exact ⟨true, rfl⟩
      | true =>
        have hS24 : S.length ≤ 24 := by simp only [dfits] at hf; simp at hf; exact hf.2
        simp only [go_sem, Nat.reduceMul, Nat.reduceLT, Nat.reduceLeDiff, Nat.reduceEqDiff, Nat.reduceBEq, Int.toNat_natCast, Int.reduceToNat, Int.reduceNeg, Int.reduceLT, Int.reduceLE, Int.reduceBEq, Int.reduceBNe, decide_true, decide_false, Bool.false_eq_true, false_imp_iff, Nat.lt_irrefl]
        have hcd : (bif decide ((0 : Int) < (i : Int)) then !Op.bytesLess last S else false) = !decide ((i == 0) = false → sLt last S = true) := by
          by_cases q : i = 0
          · subst q; simp
          · have : (i == 0) = false := by simp [q]
            have h0 : (0 : Int) < (i : Int) := by omega
            simp only [h0, decide_true, this, true_implies, cond_true]
            rw [show Op.bytesLess last S = sLt last S from rfl]
            cases sLt last S <;> simp
        generalize (bif decide ((0 : Int) < (i : Int)) then !Op.bytesLess last S else false) = d at hcd
        cases d with
        | true =>
          have hq : ¬ ((i == 0) = false → sLt last S = true) := by
            intro q; rw [decide_eq_true q] at hcd; cases hcd
          have := hnone (fun q => hq q.2)
          simp only [go_sem, Nat.reduceMul, Nat.reduceLT, Nat.reduceLeDiff, Nat.reduceEqDiff, Nat.reduceBEq, Int.toNat_natCast, Int.reduceToNat, Int.reduceNeg, Int.reduceLT, Int.reduceLE, Int.reduceBEq, Int.reduceBNe, decide_true, decide_false, Bool.false_eq_true, false_imp_iff, Nat.lt_irrefl]
          refine Fin_plain ?_
          rw [this]; exact ⟨true, rfl⟩
        | false =>
          have hq : ((i == 0) = false → sLt last S = true) := by
            by_cases q : ((i == 0) = false → sLt last S = true)
            · exact q
            · rw [decide_eq_false q] at hcd; cases hcd
          have hn1' : bad3 = false → rpF n true (B.drop I1) [] [] = rpF (n - (i + 1)) (i + 1 == 0) (B.drop I3) S (L ++ [S]) := by
            intro hb3
            have h := e10 hb3 (i == 0)
            rw [if_pos ⟨hf, hq⟩] at h
            rw [hstep _ h]; rfl
          have hn2' : bad3 = true → rpF n true (B.drop I1) [] [] = none := fun hb3 => hstep _ (e9 hb3 _)
          have hw : IntKind.i64.wrap ((i : Int) + 1) = ((i + 1 : Nat) : Int) := by rw [wrap_id (by omega) (by omega)]; omega
          have hLS : ∀ s ∈ L ++ [S], s.length ≤ 24 := by
            intro s hs
            rcases List.mem_append.1 hs with q | q
            · exact hLs s q
            · simp only [List.mem_singleton] at q; subst q; exact hS24
          have htr4 : tr < h4.length := (List.getElem?_eq_some_iff.1 hr5).1
          have hr6 : ∀ x, (h4 ++ x)[tr]? = some (AObj.arr 0 3 [AV.agg [AV.fz c (bytesA B), AV.int IntKind.i64 I3, AV.bool bad3]]) := fun x => by rw [List.getElem?_append_left htr4]; exact hr5
          rcases hX5 with ⟨rfl, rfl⟩ | ⟨t, g, rfl, hg, ht1⟩
          · simp only [go_sem, Nat.reduceMul, Nat.reduceLT, Nat.reduceLeDiff, Nat.reduceEqDiff, Nat.reduceBEq, Int.toNat_natCast, Int.reduceToNat, Int.reduceNeg, Int.reduceLT, Int.reduceLE, Int.reduceBEq, Int.reduceBNe, decide_true, decide_false, Bool.false_eq_true, false_imp_iff, Nat.lt_irrefl]
            refine ⟨fun q => by simp at q, fun _ => ⟨⟨i + 1, I3, bad3, S, [S], .sl (h4.length + 1) 0 1 0 1, by rw [hw], by omega, rfl, rfl, hr6 _, e8, .inr ⟨h4.length + 1, 0, rfl, by rw [getElem?_app]; rfl, by omega⟩, hn1', hn2', by simp, hS24, by simpa using hLS⟩, by rw [hw]; omega⟩⟩
          · have htl4 : t < h4.length := (List.getElem?_eq_some_iff.1 hg).1
            have hg6 : ∀ x, (h4 ++ x)[t]? = some (AObj.arr g 1 (strs L)) := fun x => by rw [List.getElem?_append_left htl4]; exact hg
            simp only [go_sem, hg6, Nat.reduceMul, Nat.reduceLT, Nat.reduceLeDiff, Nat.reduceEqDiff, Nat.reduceBEq, Int.toNat_natCast, Int.reduceToNat, Int.reduceNeg, Int.reduceLT, Int.reduceLE, Int.reduceBEq, Int.reduceBNe, decide_true, decide_false, Bool.false_eq_true, false_imp_iff, Nat.lt_irrefl]
            refine ⟨⟨by omega, by omega⟩, ⟨i + 1, I3, bad3, S, L ++ [S], .sl t (g + 1) 1 0 (L.length + 1), by rw [hw], by omega, rfl, rfl, ?_, e8, .inr ⟨t, g + 1, by simp, ?_, ht1⟩, hn1', hn2', by simp; omega, hS24, hLS⟩, by rw [hw]; omega⟩
            · rw [List.getElem?_set_ne ht1]; exact hr6 _
            · rw [List.getElem?_set_self (by simp; omega)]; simp [strs]
    · have hX2 : ∃ c2, frzA h' 4 y6 = .fz c2 (strs L) := by
        rcases hX with ⟨rfl, rfl⟩ | ⟨t, g, rfl, hg, -⟩
        · exact ⟨true, rfl⟩
        · exact ⟨false, frz_strs hg⟩
      obtain ⟨c2, hX2⟩ := hX2
      simp only [go_sem, Nat.reduceMul, Nat.reduceLT, Nat.reduceLeDiff, Nat.reduceEqDiff, Nat.reduceBEq, Int.toNat_natCast, Int.reduceToNat, Int.reduceNeg, Int.reduceLT, Int.reduceLE, Int.reduceBEq, Int.reduceBNe, decide_true, decide_false, Bool.false_eq_true, false_imp_iff, Nat.lt_irrefl]
      refine ADrawT.freeze 4 ?_
      simp only [go_sem, hr, hX2, Nat.reduceMul, Nat.reduceLT, Nat.reduceLeDiff, Nat.reduceEqDiff, Nat.reduceBEq, Int.toNat_natCast, Int.reduceToNat, Int.reduceNeg, Int.reduceLT, Int.reduceLE, Int.reduceBEq, Int.reduceBNe, decide_true, decide_false, Bool.false_eq_true, false_imp_iff, Nat.lt_irrefl]
      refine ADrawT.quiet mixedOrdersD (by kernel_rfl) ?_
      simp only [go_sem, Nat.reduceMul, Nat.reduceLT, Nat.reduceLeDiff, Nat.reduceEqDiff, Nat.reduceBEq, Int.toNat_natCast, Int.reduceToNat, Int.reduceNeg, Int.reduceLT, Int.reduceLE, Int.reduceBEq, Int.reduceBNe, decide_true, decide_false, Bool.false_eq_true, false_imp_iff, Nat.lt_irrefl]
      refine doX_intro (.bool (!bad && decide (I = B.length))) ?_ ?_
      · simp only [go_sem, Nat.reduceMul, Nat.reduceLT, Nat.reduceLeDiff, Nat.reduceEqDiff, Nat.reduceBEq, Int.toNat_natCast, Int.reduceToNat, Int.reduceNeg, Int.reduceLT, Int.reduceLE, Int.reduceBEq, Int.reduceBNe, decide_true, decide_false, Bool.false_eq_true, false_imp_iff, Nat.lt_irrefl]
        (refine ACallT.pure (by simp only [go_sem, Nat.reduceMul, Nat.reduceLT, Nat.reduceLeDiff, Nat.reduceEqDiff, Nat.reduceBEq, Int.toNat_natCast, Int.reduceToNat, Int.reduceNeg, Int.reduceLT, Int.reduceLE, Int.reduceBEq, Int.reduceBNe, decide_true, decide_false, Bool.false_eq_true, false_imp_iff, Nat.lt_irrefl]; rfl) (by first | trivial | assumption | (simp only [go_sem, Nat.reduceMul, Nat.reduceLT, Nat.reduceLeDiff, Nat.reduceEqDiff, Nat.reduceBEq, Int.toNat_natCast, Int.reduceToNat, Int.reduceNeg, Int.reduceLT, Int.reduceLE, Int.reduceBEq, Int.reduceBNe, decide_true, decide_false, Bool.false_eq_true, false_imp_iff, Nat.lt_irrefl]; done) | (simp only [go_sem, Nat.reduceMul, Nat.reduceLT, Nat.reduceLeDiff, Nat.reduceEqDiff, Nat.reduceBEq, Int.toNat_natCast, Int.reduceToNat, Int.reduceNeg, Int.reduceLT, Int.reduceLE, Int.reduceBEq, Int.reduceBNe, decide_true, decide_false, Bool.false_eq_true, false_imp_iff, Nat.lt_irrefl]; first | trivial | assumption | omega | decide | (refine ⟨?_, ?_⟩ <;> first | trivial | assumption | omega | decide))) (rwhole_fz c B I bad _) ?_; refine fun _ _ e => ?_; subst e; refine ⟨rfl, ?_⟩; simp only [go_sem, Nat.reduceMul, Nat.reduceLT, Nat.reduceLeDiff, Nat.reduceEqDiff, Nat.reduceBEq, Int.toNat_natCast, Int.reduceToNat, Int.reduceNeg, Int.reduceLT, Int.reduceLE, Int.reduceBEq, Int.reduceBNe, decide_true, decide_false, Bool.false_eq_true, false_imp_iff, Nat.lt_irrefl])
      cases bad with
      | true =>
        have hnone : rparseF B = none := by rw [hp, hg2 rfl]
        simp only [go_sem, Nat.reduceMul, Nat.reduceLT, Nat.reduceLeDiff, Nat.reduceEqDiff, Nat.reduceBEq, Int.toNat_natCast, Int.reduceToNat, Int.reduceNeg, Int.reduceLT, Int.reduceLE, Int.reduceBEq, Int.reduceBNe, decide_true, decide_false, Bool.false_eq_true, false_imp_iff, Nat.lt_irrefl]
        refine Fin_plain ?_
        rw [hnone]; exact ⟨true, rfl⟩
      | false =>
        have hie : i = n := by
          by_cases q : (i : Int) < (n : Int)
          · simp [q] at hc
          · omega
        have hg1 := hg1 rfl
        rw [hie, Nat.sub_self] at hg1
        have hg3 : rpF 0 (n == 0) (B.drop I) last L = some (B.drop I, L) := rfl
        rw [hg1, hg3] at hp
        simp only at hp
        generalize hw : (!false && decide (I = B.length)) = w
        cases w with
        | false =>
          have hIl : B.drop I ≠ [] := by
            intro q
            have := congrArg List.length q
            simp at this hw; omega
          rw [if_neg (fun q => hIl q.1)] at hp
          simp only [go_sem, Nat.reduceMul, Nat.reduceLT, Nat.reduceLeDiff, Nat.reduceEqDiff, Nat.reduceBEq, Int.toNat_natCast, Int.reduceToNat, Int.reduceNeg, Int.reduceLT, Int.reduceLE, Int.reduceBEq, Int.reduceBNe, decide_true, decide_false, Bool.false_eq_true, false_imp_iff, Nat.lt_irrefl]
          refine Fin_plain ?_
          rw [hp]; exact ⟨true, rfl⟩
        | true =>
          have hIl : B.drop I = [] := by
            have : I = B.length := by simpa using hw
            rw [this]; simp
          have hL1 : L.length ≤ 65536 := by omega
          simp only [go_sem, Nat.reduceMul, Nat.reduceLT, Nat.reduceLeDiff, Nat.reduceEqDiff, Nat.reduceBEq, Int.toNat_natCast, Int.reduceToNat, Int.reduceNeg, Int.reduceLT, Int.reduceLE, Int.reduceBEq, Int.reduceBNe, decide_true, decide_false, Bool.false_eq_true, false_imp_iff, Nat.lt_irrefl]
          refine doX_intro (.fz false (bytesA (bytesF L))) ?_ ?_
          · simp only [go_sem, Nat.reduceMul, Nat.reduceLT, Nat.reduceLeDiff, Nat.reduceEqDiff, Nat.reduceBEq, Int.toNat_natCast, Int.reduceToNat, Int.reduceNeg, Int.reduceLT, Int.reduceLE, Int.reduceBEq, Int.reduceBNe, decide_true, decide_false, Bool.false_eq_true, false_imp_iff, Nat.lt_irrefl]
            (refine ACallT.frame (rbytes_ok c2 L _ (by omega) (fun s hs => by have := hLs s hs; omega)) ?_; refine fun _ _ e => ?_; subst e; refine ⟨by (first | rfl | (simp only [AV.low, lowL, low_strs, low_bytes, Bool.and_true, Bool.and_self])), ?_⟩; simp only [go_sem, Nat.reduceMul, Nat.reduceLT, Nat.reduceLeDiff, Nat.reduceEqDiff, Nat.reduceBEq, Int.toNat_natCast, Int.reduceToNat, Int.reduceNeg, Int.reduceLT, Int.reduceLE, Int.reduceBEq, Int.reduceBNe, decide_true, decide_false, Bool.false_eq_true, false_imp_iff, Nat.lt_irrefl])
          simp only [go_sem, Nat.reduceMul, Nat.reduceLT, Nat.reduceLeDiff, Nat.reduceEqDiff, Nat.reduceBEq, Int.toNat_natCast, Int.reduceToNat, Int.reduceNeg, Int.reduceLT, Int.reduceLE, Int.reduceBEq, Int.reduceBNe, decide_true, decide_false, Bool.false_eq_true, false_imp_iff, Nat.lt_irrefl]
          refine ⟨bytesA_ok _, bytesA_ok _, ?_⟩
          rw [bytesA_byteOf, bytesA_byteOf]
          generalize hcmp : (bytesF L != B) = cmp
          cases cmp with
          | true =>
            have hne : bytesF L ≠ B := by simpa using hcmp
            rw [if_neg (fun q => hne q.2)] at hp
            simp only [go_sem, Nat.reduceMul, Nat.reduceLT, Nat.reduceLeDiff, Nat.reduceEqDiff, Nat.reduceBEq, Int.toNat_natCast, Int.reduceToNat, Int.reduceNeg, Int.reduceLT, Int.reduceLE, Int.reduceBEq, Int.reduceBNe, decide_true, decide_false, Bool.false_eq_true, false_imp_iff, Nat.lt_irrefl]
            refine Fin_plain ?_
            rw [hp]; exact ⟨true, rfl⟩
          | false =>
            have he : bytesF L = B := by simpa using hcmp
            rw [if_pos ⟨hIl, he⟩] at hp
            simp only [go_sem, Nat.reduceMul, Nat.reduceLT, Nat.reduceLeDiff, Nat.reduceEqDiff, Nat.reduceBEq, Int.toNat_natCast, Int.reduceToNat, Int.reduceNeg, Int.reduceLT, Int.reduceLE, Int.reduceBEq, Int.reduceBNe, decide_true, decide_false, Bool.false_eq_true, false_imp_iff, Nat.lt_irrefl]
            refine Fin_plain ?_
            rw [hp]; exact ⟨c2, rfl⟩
end Go.Proofs.Vale
