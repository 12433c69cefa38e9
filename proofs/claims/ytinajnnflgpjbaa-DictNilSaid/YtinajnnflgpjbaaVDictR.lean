/- YtinajnnflgpjbaaVDictR: a text of the proof of this claim, by its prover. -/
import Derived.Test.YtinajnnflgpjbaaVDictQ
import Derived.Test.YtinajnnflgpjbaaVDictD
set_option linter.unusedVariables false
set_option linter.unusedSimpArgs false
set_option maxHeartbeats 4000000
set_option maxRecDepth 100000
namespace Go.Proofs.Vale
open Go.Proofs Go.Proofs.YtinajnnflgpjbaaT
attribute [local irreducible] acode aopsL aopsT dopsL dopsT pop popG aop ALoop ADraw ACall AWP AFin acondT ALoopT ADrawT ACallT doP doG doGd

/-! ### A dictionary out of bytes -/
/-- The next text behind last. -/
def ppS (b last : Str) : Option (Str × Str) := match rdInt 0 last.length b with
  | none => none
  | some (k, b1) => match rdTx 24 b1 with
    | none => none
    | some (s0, b2) => if dfits (last.take k.toNat ++ s0) = true ∧ sLt last (last.take k.toNat ++ s0) = true ∧ (cmn last (last.take k.toNat ++ s0) : Int) = k then some (last.take k.toNat ++ s0, b2) else none
def ppF : Nat → Str → Str → List Str → Option (Str × List Str)
  | 0, b, _, acc => some (b, acc)
  | n + 1, b, last, acc => match ppS b last with
    | none => none
    | some (s, b2) => ppF n b2 s (acc ++ [s])
def parseF (b : Str) : Option (List Str) := match rdInt 0 65536 b with
  | none => none
  | some (n, b1) => match ppF n.toNat b1 [] [] with
    | none => none
    | some (b2, L) => if b2 = [] then some L else none
theorem rdInt_ok {lo hi : Int} {b b1 : Str} {v : Int} (h : rdInt lo hi b = some (v, b1)) : lo ≤ v ∧ v ≤ hi ∧ b1.length ≤ b.length := by
  simp only [rdInt] at h
  cases hx : nxt b with
  | none => rw [hx] at h; cases h
  | some p =>
    obtain ⟨u, n⟩ := p
    rw [hx] at h; simp only at h
    split at h
    · cases h
    · injection h with h; injection h with h1 h2; subst h1 h2
      refine ⟨by omega, by omega, by simp⟩
theorem rdTx_ok {hi : Int} {b b1 s : Str} (h : rdTx hi b = some (s, b1)) : (s.length : Int) ≤ hi ∧ b1.length ≤ b.length := by
  simp only [rdTx] at h
  cases hx : nxt b with
  | none => rw [hx] at h; cases h
  | some p =>
    obtain ⟨u, n⟩ := p
    rw [hx] at h; simp only at h
    split at h
    · cases h
    · injection h with h; injection h with h1 h2; subst h1 h2
      refine ⟨?_, by simp⟩
      simp only [List.length_take]; omega
def parV (c : Bool) (o : Option (List Str)) : AV := match o with
  | some L => .tup [dictA (some c) L, .int .i64 0]
  | none => .tup [.nilp, .int .i64 61]
theorem parse_ok (c : Bool) (b : Str) (h : List AObj) (hb : b.length ≤ 100000000000) : ACall Try.prog 38 [.fz c (bytesA b)] h (fun r _ => ∃ c', r = parV c' (parseF b)) := by
  (refine ACall.of_code Try.func38 rfl ?_; simp only [Try.f38]; simp only [go_sem, Nat.reduceMul, Nat.reduceLT, Nat.reduceLeDiff, Nat.reduceEqDiff, Nat.reduceBEq, Int.toNat_natCast, Int.reduceToNat, Int.reduceNeg, Int.reduceLT, Int.reduceLE, Int.reduceBEq, Int.reduceBNe, decide_true, decide_false, Bool.false_eq_true, false_imp_iff, Nat.lt_irrefl])
  refine ACallT.by (open_ok c b _ (by omega)) ?_
  rintro _ _ ⟨e, c1, rfl, rfl⟩
  have hr1 : RdAt (h ++ (e ++ [.arr 0 1 [.agg [.fz c1 (bytesA b)]]])) (h.length + e.length) c1 b := by
    simp only [RdAt]; rw [getElem?_app, getElem?_app0]; rfl
  generalize h ++ (e ++ [AObj.arr 0 1 [AV.agg [AV.fz c1 (bytesA b)]]]) = h1 at *
  generalize h.length + e.length = tr at *
  have htr : tr < h1.length := (List.getElem?_eq_some_iff.1 hr1).1
  simp only [go_sem, Nat.reduceMul, Nat.reduceLT, Nat.reduceLeDiff, Nat.reduceEqDiff, Nat.reduceBEq, Int.toNat_natCast, Int.reduceToNat, Int.reduceNeg, Int.reduceLT, Int.reduceLE, Int.reduceBEq, Int.reduceBNe, decide_true, decide_false, Bool.false_eq_true, false_imp_iff, Nat.lt_irrefl]
  have hr2 : RdAt (h1 ++ [AObj.arr 0 1 [AV.agg [AV.fz true []]]]) tr c1 b := by
    simp only [RdAt]; rw [List.getElem?_append_left htr]; exact hr1
  have hd2 : (h1 ++ [AObj.arr 0 1 [AV.agg [AV.fz true []]]])[h1.length]? = some (AObj.arr 0 1 [AV.agg [AV.fz true []]]) := by rw [getElem?_app0]; rfl
  generalize h1 ++ [AObj.arr 0 1 [AV.agg [AV.fz true []]]] = h2 at *
  have hne : tr ≠ h1.length := by omega
  generalize h1.length = td at *
  refine ACallT.by (rint_ok tr c1 b 0 65536 _ (by omega) hr2) ?_
  rintro _ _ ⟨rfl, rfl⟩
  cases hn : rdInt 0 65536 b with
  | none =>
    have hp : parseF b = none := by simp only [parseF, hn]
    simp only [rdV, rdO']
    simp only [go_sem, Nat.reduceMul, Nat.reduceLT, Nat.reduceLeDiff, Nat.reduceEqDiff, Nat.reduceBEq, Int.toNat_natCast, Int.reduceToNat, Int.reduceNeg, Int.reduceLT, Int.reduceLE, Int.reduceBEq, Int.reduceBNe, decide_true, decide_false, Bool.false_eq_true, false_imp_iff, Nat.lt_irrefl]
    refine ALoop.over [2, 3, 6, 7, 9, 10, 11, 12, 22, 23, 24, 25, 26, 27, 28, 29, 30, 31, 32, 33, 34, 35, 36, 37, 38, 39, 40, 41, 42, 43, 44, 45, 46, 47, 48, 49, 50, 51, 52, 53, 54, 55, 56, 57, 58, 59, 60, 61, 62, 63, 64, 65, 66, 67, 68, 69, 70, 71, 72, 73, 74, 75, 76, 77, 78] (fun e h' => e.getD 7 .any = .int .i64 0) (fun e _ => 0) rfl ?_
    simp only [List.length_cons, List.length_nil, Nat.reduceAdd, allL_succ, allL_zero]
    intro y2 y3 y6 y7 y9 y10 y11 y12 y22 y23 y24 y25 y26 y27 y28 y29 y30 y31 y32 y33 y34 y35 y36 y37 y38 y39 y40 y41 y42 y43 y44 y45 y46 y47 y48 y49 y50 y51 y52 y53 y54 y55 y56 y57 y58 y59 y60 y61 y62 y63 y64 y65 y66 y67 y68 y69 y70 y71 y72 y73 y74 y75 y76 y77 y78 h' hI
    simp only [go_sem] at hI
    subst hI
    simp only [go_sem, Nat.reduceMul, Nat.reduceLT, Nat.reduceLeDiff, Nat.reduceEqDiff, Nat.reduceBEq, Int.toNat_natCast, Int.reduceToNat, Int.reduceNeg, Int.reduceLT, Int.reduceLE, Int.reduceBEq, Int.reduceBNe, decide_true, decide_false, Bool.false_eq_true, false_imp_iff, Nat.lt_irrefl]
    refine Fin_plain ?_
    rw [hp]; exact ⟨true, rfl⟩
  | some p =>
    obtain ⟨n0, b1⟩ := p
    obtain ⟨hn1, hn2, hb1⟩ := rdInt_ok hn
    have hp : parseF b = match ppF n0.toNat b1 [] [] with
      | none => none
      | some (b2, L) => if b2 = [] then some L else none := by simp only [parseF, hn]
    obtain ⟨n, rfl⟩ : ∃ n : Nat, n0 = (n : Int) := ⟨n0.toNat, by omega⟩
    rw [Int.toNat_natCast] at hp
    simp only [rdV, rdO']
    have htl : tr < h2.length := (List.getElem?_eq_some_iff.1 hr2).1
    have hr3 : (h2.set tr (AObj.arr 0 1 [AV.agg [AV.fz c1 (bytesA b1)]]))[tr]? = some (AObj.arr 0 1 [AV.agg [AV.fz c1 (bytesA b1)]]) := List.getElem?_set_self htl
    have hd3 : (h2.set tr (AObj.arr 0 1 [AV.agg [AV.fz c1 (bytesA b1)]]))[td]? = some (AObj.arr 0 1 [AV.agg [AV.fz true []]]) := by rw [List.getElem?_set_ne hne]; exact hd2
    generalize h2.set tr (AObj.arr 0 1 [AV.agg [AV.fz c1 (bytesA b1)]]) = h3 at *
    simp only [go_sem, Nat.reduceMul, Nat.reduceLT, Nat.reduceLeDiff, Nat.reduceEqDiff, Nat.reduceBEq, Int.toNat_natCast, Int.reduceToNat, Int.reduceNeg, Int.reduceLT, Int.reduceLE, Int.reduceBEq, Int.reduceBNe, decide_true, decide_false, Bool.false_eq_true, false_imp_iff, Nat.lt_irrefl]
    refine ALoop.over [2, 3, 6, 7, 9, 10, 11, 12, 22, 23, 24, 25, 26, 27, 28, 29, 30, 31, 32, 33, 34, 35, 36, 37, 38, 39, 40, 41, 42, 43, 44, 45, 46, 47, 48, 49, 50, 51, 52, 53, 54, 55, 56, 57, 58, 59, 60, 61, 62, 63, 64, 65, 66, 67, 68, 69, 70, 71, 72, 73, 74, 75, 76, 77, 78] (fun e h' => ∃ (k : Nat) (bb last : Str) (L : List Str) (X : AV), e.getD 7 .any = .int .i64 k ∧ e.getD 6 .any = .str last ∧ h'[tr]? = some (.arr 0 1 [.agg [.fz c1 (bytesA bb)]]) ∧ h'[td]? = some (.arr 0 1 [.agg [X]]) ∧
        ((X = .fz true [] ∧ L = []) ∨ ∃ t g, X = .sl t g 1 0 L.length ∧ h'[t]? = some (.arr g 1 (strs L)) ∧ t ≠ tr ∧ t ≠ td) ∧ ppF n b1 [] [] = ppF k bb last L ∧ L.length + k ≤ 65536 ∧ bb.length ≤ 100000000000 ∧ last.length ≤ 24) (fun e _ => natA (e.getD 7 .any)) ⟨n, b1, [], [], .fz true [], rfl, rfl, hr3, hd3, .inl ⟨rfl, rfl⟩, rfl, by simp; omega, by omega, by simp⟩ ?_
    simp only [List.length_cons, List.length_nil, Nat.reduceAdd, allL_succ, allL_zero]
    intro y2 y3 y6 y7 y9 y10 y11 y12 y22 y23 y24 y25 y26 y27 y28 y29 y30 y31 y32 y33 y34 y35 y36 y37 y38 y39 y40 y41 y42 y43 y44 y45 y46 y47 y48 y49 y50 y51 y52 y53 y54 y55 y56 y57 y58 y59 y60 y61 y62 y63 y64 y65 y66 y67 y68 y69 y70 y71 y72 y73 y74 y75 y76 y77 y78 h' hI
    simp only [go_sem] at hI
    obtain ⟨k, bb, last, L, X, rfl, rfl, hr, hd, hX, hpp, hLk, hbb, hlast⟩ := hI
    simp only [go_sem, Nat.reduceMul, Nat.reduceLT, Nat.reduceLeDiff, Nat.reduceEqDiff, Nat.reduceBEq, Int.toNat_natCast, Int.reduceToNat, Int.reduceNeg, Int.reduceLT, Int.reduceLE, Int.reduceBEq, Int.reduceBNe, decide_true, decide_false, Bool.false_eq_true, false_imp_iff, Nat.lt_irrefl]
    cases k with
    | zero =>
      generalize hz : decide ((0 : Int) < ((0 : Nat) : Int)) = z
      obtain rfl : z = false := by rw [← hz]; decide
      simp only [go_sem, Nat.reduceMul, Nat.reduceLT, Nat.reduceLeDiff, Nat.reduceEqDiff, Nat.reduceBEq, Int.toNat_natCast, Int.reduceToNat, Int.reduceNeg, Int.reduceLT, Int.reduceLE, Int.reduceBEq, Int.reduceBNe, decide_true, decide_false, Bool.false_eq_true, false_imp_iff, Nat.lt_irrefl]
      refine ACallT.by (rleft_ok tr c1 bb _ hr) ?_
      rintro _ _ ⟨rfl, rfl⟩
      simp only [go_sem, Nat.reduceMul, Nat.reduceLT, Nat.reduceLeDiff, Nat.reduceEqDiff, Nat.reduceBEq, Int.toNat_natCast, Int.reduceToNat, Int.reduceNeg, Int.reduceLT, Int.reduceLE, Int.reduceBEq, Int.reduceBNe, decide_true, decide_false, Bool.false_eq_true, false_imp_iff, Nat.lt_irrefl]
      have hp2 : ppF 0 bb last L = some (bb, L) := rfl
      rw [hpp, hp2] at hp
      simp only at hp
      generalize hz2 : decide ((0 : Int) < ((List.length bb : Nat) : Int)) = z2
      cases z2 with
      | true =>
        have : bb ≠ [] := fun q => by subst q; simp at hz2
        rw [if_neg this] at hp
        simp only [go_sem, Nat.reduceMul, Nat.reduceLT, Nat.reduceLeDiff, Nat.reduceEqDiff, Nat.reduceBEq, Int.toNat_natCast, Int.reduceToNat, Int.reduceNeg, Int.reduceLT, Int.reduceLE, Int.reduceBEq, Int.reduceBNe, decide_true, decide_false, Bool.false_eq_true, false_imp_iff, Nat.lt_irrefl]
        refine Fin_plain ?_
        rw [hp]; exact ⟨true, rfl⟩
      | false =>
        have : bb = [] := by
          have := of_decide_eq_false hz2
          cases bb with
          | nil => rfl
          | cons a q => simp at this
        rw [if_pos this] at hp
        simp only [go_sem, Nat.reduceMul, Nat.reduceLT, Nat.reduceLeDiff, Nat.reduceEqDiff, Nat.reduceBEq, Int.toNat_natCast, Int.reduceToNat, Int.reduceNeg, Int.reduceLT, Int.reduceLE, Int.reduceBEq, Int.reduceBNe, decide_true, decide_false, Bool.false_eq_true, false_imp_iff, Nat.lt_irrefl]
        refine Fin_freeze 6 ?_
        rw [hp]
        simp only [go_sem, hd, Nat.reduceMul, Nat.reduceLT, Nat.reduceLeDiff, Nat.reduceEqDiff, Nat.reduceBEq, Int.toNat_natCast, Int.reduceToNat, Int.reduceNeg, Int.reduceLT, Int.reduceLE, Int.reduceBEq, Int.reduceBNe, decide_true, decide_false, Bool.false_eq_true, false_imp_iff, Nat.lt_irrefl]
        rcases hX with ⟨rfl, rfl⟩ | ⟨t, g, rfl, hg, -⟩
        · refine ⟨true, ?_⟩
          simp only [go_sem, Nat.reduceMul, Nat.reduceLT, Nat.reduceLeDiff, Nat.reduceEqDiff, Nat.reduceBEq, Int.toNat_natCast, Int.reduceToNat, Int.reduceNeg, Int.reduceLT, Int.reduceLE, Int.reduceBEq, Int.reduceBNe, decide_true, decide_false, Bool.false_eq_true, false_imp_iff, Nat.lt_irrefl]
          rfl
        · refine ⟨false, ?_⟩
          simp only [go_sem, hg, Nat.reduceMul, Nat.reduceLT, Nat.reduceLeDiff, Nat.reduceEqDiff, Nat.reduceBEq, Int.toNat_natCast, Int.reduceToNat, Int.reduceNeg, Int.reduceLT, Int.reduceLE, Int.reduceBEq, Int.reduceBNe, decide_true, decide_false, Bool.false_eq_true, false_imp_iff, Nat.lt_irrefl]
          rw [frzO_all (strs_len L).symm (flatS L)]
          rfl
    | succ k =>
      generalize hz : decide ((0 : Int) < ((k + 1 : Nat) : Int)) = z
      obtain rfl : z = true := by rw [← hz]; simp
      simp only [go_sem, Nat.reduceMul, Nat.reduceLT, Nat.reduceLeDiff, Nat.reduceEqDiff, Nat.reduceBEq, Int.toNat_natCast, Int.reduceToNat, Int.reduceNeg, Int.reduceLT, Int.reduceLE, Int.reduceBEq, Int.reduceBNe, decide_true, decide_false, Bool.false_eq_true, false_imp_iff, Nat.lt_irrefl]
      have hr' : RdAt h' tr c1 bb := hr
      refine ACallT.by (rint_ok tr c1 bb 0 last.length _ (by omega) hr') ?_
      have hq : ppF (k + 1) bb last L = match ppS bb last with
        | none => none
        | some (s, b2) => ppF k b2 s (L ++ [s]) := rfl
      cases hk : rdInt 0 last.length bb with
      | none =>
        have hnone : parseF b = none := by rw [hp, hpp, hq]; simp only [ppS, hk]
        rintro _ _ ⟨rfl, rfl⟩
        simp only [rdV, rdO']
        simp only [go_sem, Nat.reduceMul, Nat.reduceLT, Nat.reduceLeDiff, Nat.reduceEqDiff, Nat.reduceBEq, Int.toNat_natCast, Int.reduceToNat, Int.reduceNeg, Int.reduceLT, Int.reduceLE, Int.reduceBEq, Int.reduceBNe, decide_true, decide_false, Bool.false_eq_true, false_imp_iff, Nat.lt_irrefl]
        refine ACallT.by (rtext_ok tr c1 bb 24 _ (by omega) hr') ?_
        rintro _ _ ⟨rfl, rfl⟩
        cases rdTx 24 bb with
        | none =>
          simp only [rdTV, rdTO]; simp only [go_sem, Nat.reduceMul, Nat.reduceLT, Nat.reduceLeDiff, Nat.reduceEqDiff, Nat.reduceBEq, Int.toNat_natCast, Int.reduceToNat, Int.reduceNeg, Int.reduceLT, Int.reduceLE, Int.reduceBEq, Int.reduceBNe, decide_true, decide_false, Bool.false_eq_true, false_imp_iff, Nat.lt_irrefl]
          refine Fin_plain ?_
          rw [hnone]; exact ⟨true, rfl⟩
        | some q =>
          obtain ⟨s0, b3⟩ := q
          simp only [rdTV, rdTO]; simp only [go_sem, Nat.reduceMul, Nat.reduceLT, Nat.reduceLeDiff, Nat.reduceEqDiff, Nat.reduceBEq, Int.toNat_natCast, Int.reduceToNat, Int.reduceNeg, Int.reduceLT, Int.reduceLE, Int.reduceBEq, Int.reduceBNe, decide_true, decide_false, Bool.false_eq_true, false_imp_iff, Nat.lt_irrefl]
          refine Fin_plain ?_
          rw [hnone]; exact ⟨true, rfl⟩
      | some p =>
        obtain ⟨kk, b2⟩ := p
        obtain ⟨hk1, hk2, hb2⟩ := rdInt_ok hk
        obtain ⟨kn, rfl⟩ : ∃ kn : Nat, kk = (kn : Int) := ⟨kk.toNat, by omega⟩
        have htl' : tr < h'.length := (List.getElem?_eq_some_iff.1 hr).1
        rintro _ _ ⟨rfl, rfl⟩
        simp only [rdV, rdO']
        simp only [go_sem, Nat.reduceMul, Nat.reduceLT, Nat.reduceLeDiff, Nat.reduceEqDiff, Nat.reduceBEq, Int.toNat_natCast, Int.reduceToNat, Int.reduceNeg, Int.reduceLT, Int.reduceLE, Int.reduceBEq, Int.reduceBNe, decide_true, decide_false, Bool.false_eq_true, false_imp_iff, Nat.lt_irrefl]
        have hr4 : RdAt (h'.set tr (.arr 0 1 [.agg [.fz c1 (bytesA b2)]])) tr c1 b2 := List.getElem?_set_self htl'
        refine ACallT.by (rtext_ok tr c1 b2 24 _ (by omega) hr4) ?_
        rintro _ _ ⟨rfl, rfl⟩
        cases hx : rdTx 24 b2 with
        | none =>
          have hnone : parseF b = none := by rw [hp, hpp, hq]; simp only [ppS, hk, hx]
          simp only [rdTV, rdTO]; simp only [go_sem, Nat.reduceMul, Nat.reduceLT, Nat.reduceLeDiff, Nat.reduceEqDiff, Nat.reduceBEq, Int.toNat_natCast, Int.reduceToNat, Int.reduceNeg, Int.reduceLT, Int.reduceLE, Int.reduceBEq, Int.reduceBNe, decide_true, decide_false, Bool.false_eq_true, false_imp_iff, Nat.lt_irrefl]
          refine Fin_plain ?_
          rw [hnone]; exact ⟨true, rfl⟩
        | some q =>
          obtain ⟨s0, b3⟩ := q
          obtain ⟨hs0, hb3⟩ := rdTx_ok hx
          simp only [rdTV, rdTO, List.set_set]
          simp only [go_sem, Nat.reduceMul, Nat.reduceLT, Nat.reduceLeDiff, Nat.reduceEqDiff, Nat.reduceBEq, Int.toNat_natCast, Int.reduceToNat, Int.reduceNeg, Int.reduceLT, Int.reduceLE, Int.reduceBEq, Int.reduceBNe, decide_true, decide_false, Bool.false_eq_true, false_imp_iff, Nat.lt_irrefl]
          have hsl : (List.take kn last).length = kn := by simp; omega
          have hSl : (List.take kn last ++ s0).length ≤ 48 := by rw [List.length_append]; omega
          have hpps : ppS bb last = if dfits (last.take kn ++ s0) = true ∧ sLt last (last.take kn ++ s0) = true ∧ (cmn last (last.take kn ++ s0) : Int) = (kn : Int) then some (last.take kn ++ s0, b3) else none := by
            simp only [ppS, hk, hx, Int.toNat_natCast]
          have hr5 : (h'.set tr (AObj.arr 0 1 [AV.agg [AV.fz c1 (bytesA b3)]]))[tr]? = some (AObj.arr 0 1 [AV.agg [AV.fz c1 (bytesA b3)]]) := List.getElem?_set_self htl'
          have hd5 : (h'.set tr (AObj.arr 0 1 [AV.agg [AV.fz c1 (bytesA b3)]]))[td]? = some (AObj.arr 0 1 [AV.agg [X]]) := by rw [List.getElem?_set_ne hne]; exact hd
          have hX5 : (X = AV.fz true [] ∧ L = []) ∨ ∃ t g, X = AV.sl t g 1 0 L.length ∧ (h'.set tr (AObj.arr 0 1 [AV.agg [AV.fz c1 (bytesA b3)]]))[t]? = some (AObj.arr g 1 (strs L)) ∧ t ≠ tr ∧ t ≠ td := by
            rcases hX with q | ⟨t, g, q1, q2, q3, q4⟩
            · exact .inl q
            · exact .inr ⟨t, g, q1, by rw [List.getElem?_set_ne (fun q => q3 q.symm)]; exact q2, q3, q4⟩
          generalize h'.set tr (AObj.arr 0 1 [AV.agg [AV.fz c1 (bytesA b3)]]) = h4 at *
          refine ⟨⟨by omega, by omega⟩, by rw [hsl]; omega, ?_⟩
          generalize hS : List.take kn last ++ s0 = S at *
          (refine ACallT.pure (by simp only [go_sem, Nat.reduceMul, Nat.reduceLT, Nat.reduceLeDiff, Nat.reduceEqDiff, Nat.reduceBEq, Int.toNat_natCast, Int.reduceToNat, Int.reduceNeg, Int.reduceLT, Int.reduceLE, Int.reduceBEq, Int.reduceBNe, decide_true, decide_false, Bool.false_eq_true, false_imp_iff, Nat.lt_irrefl]; rfl) (by first | trivial | assumption | (simp only [go_sem, Nat.reduceMul, Nat.reduceLT, Nat.reduceLeDiff, Nat.reduceEqDiff, Nat.reduceBEq, Int.toNat_natCast, Int.reduceToNat, Int.reduceNeg, Int.reduceLT, Int.reduceLE, Int.reduceBEq, Int.reduceBNe, decide_true, decide_false, Bool.false_eq_true, false_imp_iff, Nat.lt_irrefl]; done) | (simp only [go_sem, Nat.reduceMul, Nat.reduceLT, Nat.reduceLeDiff, Nat.reduceEqDiff, Nat.reduceBEq, Int.toNat_natCast, Int.reduceToNat, Int.reduceNeg, Int.reduceLT, Int.reduceLE, Int.reduceBEq, Int.reduceBNe, decide_true, decide_false, Bool.false_eq_true, false_imp_iff, Nat.lt_irrefl]; first | trivial | assumption | omega | decide | (refine ⟨?_, ?_⟩ <;> first | trivial | assumption | omega | decide))) (dfits_ok S _) ?_; refine fun _ _ e => ?_; subst e; refine ⟨rfl, ?_⟩)
          cases hf : dfits S with
          | false =>
            have hnone : parseF b = none := by rw [hp, hpp, hq, hpps, if_neg (by rw [hf]; simp)]
            simp only [go_sem, Nat.reduceMul, Nat.reduceLT, Nat.reduceLeDiff, Nat.reduceEqDiff, Nat.reduceBEq, Int.toNat_natCast, Int.reduceToNat, Int.reduceNeg, Int.reduceLT, Int.reduceLE, Int.reduceBEq, Int.reduceBNe, decide_true, decide_false, Bool.false_eq_true, false_imp_iff, Nat.lt_irrefl]
            refine Fin_plain ?_
            rw [hnone]; exact ⟨true, rfl⟩
          | true =>
            have hS24 : S.length ≤ 24 := by simp only [dfits] at hf; simp at hf; exact hf.2
            simp only [go_sem, Nat.reduceMul, Nat.reduceLT, Nat.reduceLeDiff, Nat.reduceEqDiff, Nat.reduceBEq, Int.toNat_natCast, Int.reduceToNat, Int.reduceNeg, Int.reduceLT, Int.reduceLE, Int.reduceBEq, Int.reduceBNe, decide_true, decide_false, Bool.false_eq_true, false_imp_iff, Nat.lt_irrefl]
            generalize hlt : Op.bytesLess last S = bl
            cases bl with
            | false =>
              have hnone : parseF b = none := by rw [hp, hpp, hq, hpps, if_neg (by intro q; rw [show sLt last S = false from hlt] at q; simp at q)]
              simp only [go_sem, Nat.reduceMul, Nat.reduceLT, Nat.reduceLeDiff, Nat.reduceEqDiff, Nat.reduceBEq, Int.toNat_natCast, Int.reduceToNat, Int.reduceNeg, Int.reduceLT, Int.reduceLE, Int.reduceBEq, Int.reduceBNe, decide_true, decide_false, Bool.false_eq_true, false_imp_iff, Nat.lt_irrefl]
              refine Fin_plain ?_
              rw [hnone]; exact ⟨true, rfl⟩
            | true =>
              simp only [go_sem, Nat.reduceMul, Nat.reduceLT, Nat.reduceLeDiff, Nat.reduceEqDiff, Nat.reduceBEq, Int.toNat_natCast, Int.reduceToNat, Int.reduceNeg, Int.reduceLT, Int.reduceLE, Int.reduceBEq, Int.reduceBNe, decide_true, decide_false, Bool.false_eq_true, false_imp_iff, Nat.lt_irrefl]
              (refine ACallT.pure (by simp only [go_sem, Nat.reduceMul, Nat.reduceLT, Nat.reduceLeDiff, Nat.reduceEqDiff, Nat.reduceBEq, Int.toNat_natCast, Int.reduceToNat, Int.reduceNeg, Int.reduceLT, Int.reduceLE, Int.reduceBEq, Int.reduceBNe, decide_true, decide_false, Bool.false_eq_true, false_imp_iff, Nat.lt_irrefl]; rfl) (by first | trivial | assumption | (simp only [go_sem, Nat.reduceMul, Nat.reduceLT, Nat.reduceLeDiff, Nat.reduceEqDiff, Nat.reduceBEq, Int.toNat_natCast, Int.reduceToNat, Int.reduceNeg, Int.reduceLT, Int.reduceLE, Int.reduceBEq, Int.reduceBNe, decide_true, decide_false, Bool.false_eq_true, false_imp_iff, Nat.lt_irrefl]; done) | (simp only [go_sem, Nat.reduceMul, Nat.reduceLT, Nat.reduceLeDiff, Nat.reduceEqDiff, Nat.reduceBEq, Int.toNat_natCast, Int.reduceToNat, Int.reduceNeg, Int.reduceLT, Int.reduceLE, Int.reduceBEq, Int.reduceBNe, decide_true, decide_false, Bool.false_eq_true, false_imp_iff, Nat.lt_irrefl]; first | trivial | assumption | omega | decide | (refine ⟨?_, ?_⟩ <;> first | trivial | assumption | omega | decide))) (common_ok last S _ (by omega) (by omega)) ?_; refine fun _ _ e => ?_; subst e; refine ⟨rfl, ?_⟩; simp only [go_sem, Nat.reduceMul, Nat.reduceLT, Nat.reduceLeDiff, Nat.reduceEqDiff, Nat.reduceBEq, Int.toNat_natCast, Int.reduceToNat, Int.reduceNeg, Int.reduceLT, Int.reduceLE, Int.reduceBEq, Int.reduceBNe, decide_true, decide_false, Bool.false_eq_true, false_imp_iff, Nat.lt_irrefl])
              generalize hcm : ((cmn last S : Int) != (kn : Int)) = cm
              cases cm with
              | true =>
                have hnone : parseF b = none := by rw [hp, hpp, hq, hpps, if_neg (by intro q; rw [q.2.2] at hcm; simp at hcm)]
                simp only [go_sem, Nat.reduceMul, Nat.reduceLT, Nat.reduceLeDiff, Nat.reduceEqDiff, Nat.reduceBEq, Int.toNat_natCast, Int.reduceToNat, Int.reduceNeg, Int.reduceLT, Int.reduceLE, Int.reduceBEq, Int.reduceBNe, decide_true, decide_false, Bool.false_eq_true, false_imp_iff, Nat.lt_irrefl]
                refine Fin_plain ?_
                rw [hnone]; exact ⟨true, rfl⟩
              | false =>
                have hce : (cmn last S : Int) = (kn : Int) := by simpa using hcm
                rw [hpps, if_pos ⟨hf, hlt, hce⟩] at hq
                simp only at hq
                rw [hq] at hpp
                have hw : IntKind.i64.wrap (((k + 1 : Nat) : Int) - 1) = (k : Int) := by rw [wrap_id (by omega) (by omega)]; omega
                have htd : td < h4.length := (List.getElem?_eq_some_iff.1 hd5).1
                have htr4 : tr < h4.length := (List.getElem?_eq_some_iff.1 hr5).1
                have hd6 : ∀ x, (h4 ++ x)[td]? = some (AObj.arr 0 1 [AV.agg [X]]) := fun x => by rw [List.getElem?_append_left htd]; exact hd5
                have hr6 : ∀ x, (h4 ++ x)[tr]? = some (AObj.arr 0 1 [AV.agg [AV.fz c1 (bytesA b3)]]) := fun x => by rw [List.getElem?_append_left htr4]; exact hr5
                rcases hX5 with ⟨rfl, rfl⟩ | ⟨t, g, rfl, hg, ht1, ht2⟩
                · simp only [go_sem, hd5, hd6, Nat.reduceMul, Nat.reduceLT, Nat.reduceLeDiff, Nat.reduceEqDiff, Nat.reduceBEq, Int.toNat_natCast, Int.reduceToNat, Int.reduceNeg, Int.reduceLT, Int.reduceLE, Int.reduceBEq, Int.reduceBNe, decide_true, decide_false, Bool.false_eq_true, false_imp_iff, Nat.lt_irrefl]
                  refine ⟨fun q => by simp at q, fun _ => ⟨⟨k, b3, S, [S], .sl (h4.length + 1) 0 1 0 1, by rw [hw], rfl, ?_, ?_, .inr ⟨h4.length + 1, 0, rfl, ?_, by omega, by omega⟩, hpp, by simp at hLk ⊢; omega, by omega, by omega⟩, by rw [hw]; omega⟩⟩
                  · rw [List.getElem?_set_ne (Ne.symm hne)]; exact hr6 _
                  · exact List.getElem?_set_self (by simp; omega)
                  · rw [List.getElem?_set_ne (by omega), getElem?_app]; rfl
                · have htl4 : t < h4.length := (List.getElem?_eq_some_iff.1 hg).1
                  have hg6 : ∀ x, (h4 ++ x)[t]? = some (AObj.arr g 1 (strs L)) := fun x => by rw [List.getElem?_append_left htl4]; exact hg
                  have hd7 : ∀ x y, ((h4 ++ x).set t y)[td]? = some (AObj.arr 0 1 [AV.agg [AV.sl t g 1 0 L.length]]) := fun x y => by rw [List.getElem?_set_ne ht2]; exact hd6 x
                  simp only [go_sem, hd5, hd6, hg6, hd7, Nat.reduceMul, Nat.reduceLT, Nat.reduceLeDiff, Nat.reduceEqDiff, Nat.reduceBEq, Int.toNat_natCast, Int.reduceToNat, Int.reduceNeg, Int.reduceLT, Int.reduceLE, Int.reduceBEq, Int.reduceBNe, decide_true, decide_false, Bool.false_eq_true, false_imp_iff, Nat.lt_irrefl]
                  refine ⟨⟨by omega, by omega⟩, ⟨k, b3, S, L ++ [S], .sl t (g + 1) 1 0 (L.length + 1), by rw [hw], rfl, ?_, ?_, .inr ⟨t, g + 1, by simp, ?_, ht1, ht2⟩, hpp, by simp; omega, by omega, by omega⟩, by rw [hw]; omega⟩
                  · rw [List.getElem?_set_ne (Ne.symm hne), List.getElem?_set_ne ht1]; exact hr6 _
                  · exact List.getElem?_set_self (by simp; omega)
                  · rw [List.getElem?_set_ne (Ne.symm ht2), List.getElem?_set_self (by simp; omega)]; simp [strs]
end Go.Proofs.Vale
