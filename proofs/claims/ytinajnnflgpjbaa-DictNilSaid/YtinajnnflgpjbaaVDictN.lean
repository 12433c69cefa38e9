/- YtinajnnflgpjbaaVDictN: a text of the proof of this claim, by its prover. -/
import Derived.Test.YtinajnnflgpjbaaVDictX
set_option linter.unusedVariables false
set_option linter.unusedSimpArgs false
set_option maxHeartbeats 4000000
set_option maxRecDepth 100000
namespace Go.Proofs.Vale
open Go.Proofs Go.Proofs.YtinajnnflgpjbaaT
attribute [local irreducible] acode aopsL aopsT dopsL dopsT pop popG aop ALoop ADraw ACall AWP AFin acondT ALoopT ADrawT ACallT doP doG doGd

/-! ### Joined -/
theorem grow_ok (n : Nat) (h : List AObj) (hn : n ≤ 8796093022000) : ACall Try.prog 72 [.fz true [], .int .i64 n] h (fun r h' => (n = 0 ∧ r = .fz true [] ∧ h' = h) ∨ (r = .sl h.length 0 1 0 0 ∧ h' = h ++ [.arr 0 1 []])) := by
  (refine ACall.of_code Try.func72 rfl ?_; simp only [Try.f72]; simp only [go_sem, Nat.reduceMul, Nat.reduceLT, Nat.reduceLeDiff, Nat.reduceEqDiff, Nat.reduceBEq, Int.toNat_natCast, Int.reduceToNat, Int.reduceNeg, Int.reduceLT, Int.reduceLE, Int.reduceBEq, Int.reduceBNe, decide_true, decide_false, Bool.false_eq_true, false_imp_iff, Nat.lt_irrefl])
  generalize hz : decide ((n : Int) < 0) = z
  obtain rfl : z = false := by rw [← hz]; simp
  simp only [go_sem, Nat.reduceMul, Nat.reduceLT, Nat.reduceLeDiff, Nat.reduceEqDiff, Nat.reduceBEq, Int.toNat_natCast, Int.reduceToNat, Int.reduceNeg, Int.reduceLT, Int.reduceLE, Int.reduceBEq, Int.reduceBNe, decide_true, decide_false, Bool.false_eq_true, false_imp_iff, Nat.lt_irrefl]
  have hw : IntKind.i64.wrap ((n : Int) - IntKind.i64.wrap (((0 : Nat) : Int) - ((0 : Nat) : Int))) = (n : Int) := by
    rw [show IntKind.i64.wrap (((0 : Nat) : Int) - ((0 : Nat) : Int)) = 0 by decide, wrap_id (by omega) (by omega)]; omega
  generalize IntKind.i64.wrap ((n : Int) - IntKind.i64.wrap (((0 : Nat) : Int) - ((0 : Nat) : Int))) = w at hw
  subst hw
  refine acond_intro (fun hc => ?_) (fun hc => ?_)
  · have h0 : (0 : Int) < (n : Int) := of_decide_eq_true hc
    simp only [go_sem, Nat.reduceMul, Nat.reduceLT, Nat.reduceLeDiff, Nat.reduceEqDiff, Nat.reduceBEq, Int.toNat_natCast, Int.reduceToNat, Int.reduceNeg, Int.reduceLT, Int.reduceLE, Int.reduceBEq, Int.reduceBNe, decide_true, decide_false, Bool.false_eq_true, false_imp_iff, Nat.lt_irrefl]
    refine ⟨⟨by omega, by omega, by simp⟩, ⟨by omega, by omega, by omega⟩, ⟨by omega, by omega⟩, ?_⟩
    refine Fin_plain ?_
    exact .inr ⟨rfl, rfl⟩
  · have h0 := of_decide_eq_false hc
    simp only [go_sem, Nat.reduceMul, Nat.reduceLT, Nat.reduceLeDiff, Nat.reduceEqDiff, Nat.reduceBEq, Int.toNat_natCast, Int.reduceToNat, Int.reduceNeg, Int.reduceLT, Int.reduceLE, Int.reduceBEq, Int.reduceBNe, decide_true, decide_false, Bool.false_eq_true, false_imp_iff, Nat.lt_irrefl]
    refine Fin_plain ?_
    exact .inl ⟨by omega, rfl, rfl⟩
def fzs (l : List (Bool × List Str)) : List AV := l.map fun p => .fz p.1 (strs p.2)
theorem fzs_get (l : List (Bool × List Str)) (k : Nat) (h : k < l.length) : (fzs l).getD k .any = .fz (l[k]).1 (strs (l[k]).2) := by simp [fzs, List.getD_eq_getElem?_getD, h]
@[go_sem] theorem fzs_len (l : List (Bool × List Str)) : (fzs l).length = l.length := by simp [fzs]
def tot (l : List (Bool × List Str)) : List Str := l.flatMap (·.2)
theorem tot_snoc (l : List (Bool × List Str)) (k : Nat) (h : k < l.length) : tot (l.take (k + 1)) = tot (l.take k) ++ (l[k]).2 := by
  rw [List.take_succ_eq_append_getElem h, tot, List.flatMap_append]; simp [tot]
theorem tot_le (l : List (Bool × List Str)) (k : Nat) : (tot (l.take k)).length ≤ (tot l).length := by
  conv => rhs; rw [← List.take_append_drop k l]
  simp only [tot, List.flatMap_append, List.length_append]; omega
theorem concat_ok (c : Bool) (l : List (Bool × List Str)) (h : List AObj) (hl : l.length ≤ 1000000) (ht : (tot l).length ≤ 4000000000) : ACall Try.prog 56 [.fz c (fzs l)] h (fun r _ => ∃ c', r = .fz c' (strs (tot l))) := by
  (refine ACall.of_code Try.func56 rfl ?_; simp only [Try.f56]; simp only [go_sem, Nat.reduceMul, Nat.reduceLT, Nat.reduceLeDiff, Nat.reduceEqDiff, Nat.reduceBEq, Int.toNat_natCast, Int.reduceToNat, Int.reduceNeg, Int.reduceLT, Int.reduceLE, Int.reduceBEq, Int.reduceBNe, decide_true, decide_false, Bool.false_eq_true, false_imp_iff, Nat.lt_irrefl])
  refine ALoop.over [3, 5, 11, 12, 13, 14, 15, 16, 17, 18, 19, 20, 21, 22] (fun e h' => h' = h ∧ ∃ k : Nat, k ≤ l.length ∧ e.getD 11 .any = .int .i64 k ∧ e.getD 3 .any = .int .i64 (tot (l.take k)).length) (fun e _ => l.length - natA (e.getD 11 .any)) ⟨rfl, 0, by simp, rfl, by simp [tot]⟩ ?_
  simp only [List.length_cons, List.length_nil, Nat.reduceAdd, allL_succ, allL_zero]
  intro y3 y5 y11 y12 y13 y14 y15 y16 y17 y18 y19 y20 y21 y22 h' hI
  simp only [go_sem] at hI
  obtain ⟨rfl, k, hk, rfl, rfl⟩ := hI
  simp only [go_sem, Nat.reduceMul, Nat.reduceLT, Nat.reduceLeDiff, Nat.reduceEqDiff, Nat.reduceBEq, Int.toNat_natCast, Int.reduceToNat, Int.reduceNeg, Int.reduceLT, Int.reduceLE, Int.reduceBEq, Int.reduceBNe, decide_true, decide_false, Bool.false_eq_true, false_imp_iff, Nat.lt_irrefl]
  refine acond_intro (fun hc => ?_) (fun hc => ?_)
  · have hlt : k < l.length := by have := of_decide_eq_true hc; omega
    have hsn := tot_snoc l k hlt
    have hle := tot_le l (k + 1)
    rw [hsn, List.length_append] at hle
    simp only [go_sem, fzs_get l k hlt, Nat.reduceMul, Nat.reduceLT, Nat.reduceLeDiff, Nat.reduceEqDiff, Nat.reduceBEq, Int.toNat_natCast, Int.reduceToNat, Int.reduceNeg, Int.reduceLT, Int.reduceLE, Int.reduceBEq, Int.reduceBNe, decide_true, decide_false, Bool.false_eq_true, false_imp_iff, Nat.lt_irrefl]
    refine ⟨⟨by omega, by omega⟩, ?_⟩
    have hw : IntKind.i64.wrap (((tot (l.take k)).length : Int) + ((l[k]).2.length : Int)) = ((tot (l.take (k + 1))).length : Int) := by
      rw [hsn, List.length_append, wrap_id (by omega) (by omega)]; omega
    generalize IntKind.i64.wrap (((tot (l.take k)).length : Int) + ((l[k]).2.length : Int)) = w at hw
    subst hw
    generalize hz : decide (((tot (l.take (k + 1))).length : Int) < 0) = z
    obtain rfl : z = false := by rw [← hz]; simp
    simp only [go_sem, Nat.reduceMul, Nat.reduceLT, Nat.reduceLeDiff, Nat.reduceEqDiff, Nat.reduceBEq, Int.toNat_natCast, Int.reduceToNat, Int.reduceNeg, Int.reduceLT, Int.reduceLE, Int.reduceBEq, Int.reduceBNe, decide_true, decide_false, Bool.false_eq_true, false_imp_iff, Nat.lt_irrefl]
    rw [wrap_id (x := (k : Int) + 1) (by omega) (by omega)]
    exact ⟨⟨k + 1, by omega, rfl, rfl⟩, by omega⟩
  · have hge : k = l.length := by have := of_decide_eq_false hc; omega
    subst hge
    rw [List.take_length] at *
    simp only [go_sem, Nat.reduceMul, Nat.reduceLT, Nat.reduceLeDiff, Nat.reduceEqDiff, Nat.reduceBEq, Int.toNat_natCast, Int.reduceToNat, Int.reduceNeg, Int.reduceLT, Int.reduceLE, Int.reduceBEq, Int.reduceBNe, decide_true, decide_false, Bool.false_eq_true, false_imp_iff, Nat.lt_irrefl]
    refine ACallT.by (grow_ok (tot l).length _ (by omega)) ?_
    intro r h1 hr
    have hr2 : r = .fz true [] ∨ ∃ t g, r = .sl t g 1 0 0 ∧ h1[t]? = some (.arr g 1 []) := by
      rcases hr with ⟨-, rfl, rfl⟩ | ⟨rfl, rfl⟩
      · exact .inl rfl
      · exact .inr ⟨h'.length, 0, rfl, by rw [getElem?_app0]; rfl⟩
    clear hr
    have h0 : (r = .fz true [] ∧ tot (l.take 0) = []) ∨ ∃ t g, r = .sl t g 1 0 (tot (l.take 0)).length ∧ h1[t]? = some (.arr g 1 (strs (tot (l.take 0)))) := by
      rcases hr2 with rfl | ⟨t, g, rfl, hg⟩
      · exact .inl ⟨rfl, rfl⟩
      · exact .inr ⟨t, g, rfl, hg⟩
    simp only [go_sem, Nat.reduceMul, Nat.reduceLT, Nat.reduceLeDiff, Nat.reduceEqDiff, Nat.reduceBEq, Int.toNat_natCast, Int.reduceToNat, Int.reduceNeg, Int.reduceLT, Int.reduceLE, Int.reduceBEq, Int.reduceBNe, decide_true, decide_false, Bool.false_eq_true, false_imp_iff, Nat.lt_irrefl]
    refine ALoop.over [6, 8, 27, 28, 29, 30, 31, 32, 33, 34] (fun e h' => ∃ k : Nat, k ≤ l.length ∧ e.getD 27 .any = .int .i64 k ∧ ((e.getD 6 .any = .fz true [] ∧ tot (l.take k) = []) ∨ ∃ t g, e.getD 6 .any = .sl t g 1 0 (tot (l.take k)).length ∧ h'[t]? = some (.arr g 1 (strs (tot (l.take k)))))) (fun e _ => l.length - natA (e.getD 27 .any)) ⟨0, by simp, rfl, h0⟩ ?_
    simp only [List.length_cons, List.length_nil, Nat.reduceAdd, allL_succ, allL_zero]
    intro y6 y8 y27 y28 y29 y30 y31 y32 y33 y34 h2 hI
    simp only [go_sem] at hI
    obtain ⟨k, hk, rfl, hX⟩ := hI
    simp only [go_sem, Nat.reduceMul, Nat.reduceLT, Nat.reduceLeDiff, Nat.reduceEqDiff, Nat.reduceBEq, Int.toNat_natCast, Int.reduceToNat, Int.reduceNeg, Int.reduceLT, Int.reduceLE, Int.reduceBEq, Int.reduceBNe, decide_true, decide_false, Bool.false_eq_true, false_imp_iff, Nat.lt_irrefl]
    refine acond_intro (fun hc => ?_) (fun hc => ?_)
    · have hlt : k < l.length := by have := of_decide_eq_true hc; omega
      have hsn := tot_snoc l k hlt
      have hle := tot_le l (k + 1)
      rw [hsn, List.length_append] at hle
      have hw : IntKind.i64.wrap ((k : Int) + 1) = ((k + 1 : Nat) : Int) := by rw [wrap_id (by omega) (by omega)]; omega
      simp only [go_sem, fzs_get l k hlt, Nat.reduceMul, Nat.reduceLT, Nat.reduceLeDiff, Nat.reduceEqDiff, Nat.reduceBEq, Int.toNat_natCast, Int.reduceToNat, Int.reduceNeg, Int.reduceLT, Int.reduceLE, Int.reduceBEq, Int.reduceBNe, decide_true, decide_false, Bool.false_eq_true, false_imp_iff, Nat.lt_irrefl]
      refine ⟨⟨by omega, by omega⟩, ?_⟩
      rcases hX with ⟨rfl, h0⟩ | ⟨t, g, rfl, hg⟩
      · rw [h0, List.nil_append] at hsn
        simp only [go_sem, Nat.reduceMul, Nat.reduceLT, Nat.reduceLeDiff, Nat.reduceEqDiff, Nat.reduceBEq, Int.toNat_natCast, Int.reduceToNat, Int.reduceNeg, Int.reduceLT, Int.reduceLE, Int.reduceBEq, Int.reduceBNe, decide_true, decide_false, Bool.false_eq_true, false_imp_iff, Nat.lt_irrefl]
        refine ⟨⟨by omega, by omega, okEl_strs _⟩, fun q => ⟨⟨k + 1, by omega, by rw [hw], .inl ?_⟩, by rw [hw]; omega⟩, fun _ => ⟨⟨k + 1, by omega, by rw [hw], .inr ⟨h2.length, 0, by rw [hsn], ?_⟩⟩, by rw [hw]; omega⟩⟩
        · rw [hsn]
          have := congrArg List.length q
          rw [strs_len] at this
          exact List.length_eq_zero_iff.1 this
        · rw [getElem?_app0, hsn]; rfl
      · simp only [go_sem, hg, Nat.reduceMul, Nat.reduceLT, Nat.reduceLeDiff, Nat.reduceEqDiff, Nat.reduceBEq, Int.toNat_natCast, Int.reduceToNat, Int.reduceNeg, Int.reduceLT, Int.reduceLE, Int.reduceBEq, Int.reduceBNe, decide_true, decide_false, Bool.false_eq_true, false_imp_iff, Nat.lt_irrefl]
        refine ⟨⟨by omega, by omega, okEl_strs _⟩, ⟨k + 1, by omega, by rw [hw], .inr ⟨t, g + 1, by rw [hsn, List.length_append], ?_⟩⟩, by rw [hw]; omega⟩
        rw [List.getElem?_set_self (List.getElem?_eq_some_iff.1 hg).1, hsn, strs_app]
    · have hge : k = l.length := by have := of_decide_eq_false hc; omega
      subst hge
      rw [List.take_length] at hX
      simp only [go_sem, Nat.reduceMul, Nat.reduceLT, Nat.reduceLeDiff, Nat.reduceEqDiff, Nat.reduceBEq, Int.toNat_natCast, Int.reduceToNat, Int.reduceNeg, Int.reduceLT, Int.reduceLE, Int.reduceBEq, Int.reduceBNe, decide_true, decide_false, Bool.false_eq_true, false_imp_iff, Nat.lt_irrefl]
      refine Fin_freeze 4 ?_
      rcases hX with ⟨rfl, h0⟩ | ⟨t, g, rfl, hg⟩
      · rw [h0]; exact ⟨true, rfl⟩
      · exact ⟨false, frz_strs hg⟩
def intsA (l : List Int) : List AV := l.map (.int .i64 ·)
theorem low_ints (n : Nat) : ∀ l : List Int, lowL n (intsA l) = true
  | [] => rfl
  | s :: l => by simp only [intsA, List.map_cons, lowL, AV.low, Bool.true_and]; exact low_ints n l
theorem flatInts (l : List Int) : ∀ y ∈ intsA l, flatX y = true := by
  intro y hy; simp only [intsA, List.mem_map] at hy; obtain ⟨b, _, rfl⟩ := hy; rfl
@[go_sem] theorem intsA_len (l : List Int) : (intsA l).length = l.length := by simp [intsA]
theorem okEl_ints (l : List Int) : (intsA l).all (okEl 1) = true := by simp [intsA, okEl, AV.cells, AV.one]
theorem ints_app (a b : List Int) : intsA a ++ intsA b = intsA (a ++ b) := by simp [intsA]
theorem frz_ints {h : List AObj} {t g : Nat} {l : List Int} (hg : h[t]? = some (.arr g 1 (intsA l))) : frzA h 4 (.sl t g 1 0 l.length) = .fz false (intsA l) := by
  simp only [frz_sl, hg]
  exact frzO_all (intsA_len l).symm (flatInts l)
/-- The numbers of texts in a dictionary. -/
theorem numbers_ok (c : Bool) (m : List Str) (d : Option Bool) (l : List Str) (h : List AObj) (hm : m.length ≤ 4611686018427387904) (hr : Rise m) (hl : l.length ≤ 4000000000) : ACall Try.prog 57 [dictA (some c) m, dictA d l] h (fun r _ => ∃ c', r = .fz c' (intsA ((dictL d l).map (fnd m)))) := by
  have hl2 : (dictL d l).length ≤ 4000000000 := by cases d <;> simp [dictL, hl]
  (refine ACall.of_code Try.func57 rfl ?_; simp only [Try.f57]; simp only [go_sem, Nat.reduceMul, Nat.reduceLT, Nat.reduceLeDiff, Nat.reduceEqDiff, Nat.reduceBEq, Int.toNat_natCast, Int.reduceToNat, Int.reduceNeg, Int.reduceLT, Int.reduceLE, Int.reduceBEq, Int.reduceBNe, decide_true, decide_false, Bool.false_eq_true, false_imp_iff, Nat.lt_irrefl])
  (refine ACallT.frame (all_ok' d l _) ?_; refine fun _ _ e => ?_; subst e; refine ⟨by (first | rfl | (simp only [AV.low, lowL, low_strs, low_bytes, Bool.and_true, Bool.and_self])), ?_⟩; simp only [go_sem, Nat.reduceMul, Nat.reduceLT, Nat.reduceLeDiff, Nat.reduceEqDiff, Nat.reduceBEq, Int.toNat_natCast, Int.reduceToNat, Int.reduceNeg, Int.reduceLT, Int.reduceLE, Int.reduceBEq, Int.reduceBNe, decide_true, decide_false, Bool.false_eq_true, false_imp_iff, Nat.lt_irrefl])
  generalize dictL d l = L at *
  refine ALoop.over [5, 7, 8, 9, 13, 14, 15, 16, 17, 18, 19, 20, 21, 22, 23, 24, 25, 26, 27] (fun e h' => ∃ k : Nat, k ≤ L.length ∧ e.getD 13 .any = .int .i64 k ∧ ((e.getD 5 .any = .fz true [] ∧ k = 0) ∨ ∃ t g, e.getD 5 .any = .sl t g 1 0 ((L.take k).map (fnd m)).length ∧ h'[t]? = some (.arr g 1 (intsA ((L.take k).map (fnd m)))))) (fun e _ => L.length - natA (e.getD 13 .any)) ⟨0, by simp, rfl, .inl ⟨rfl, rfl⟩⟩ ?_
  simp only [List.length_cons, List.length_nil, Nat.reduceAdd, allL_succ, allL_zero]
  intro y5 y7 y8 y9 y13 y14 y15 y16 y17 y18 y19 y20 y21 y22 y23 y24 y25 y26 y27 h' hI
  simp only [go_sem] at hI
  obtain ⟨k, hk, rfl, hX⟩ := hI
  simp only [go_sem, Nat.reduceMul, Nat.reduceLT, Nat.reduceLeDiff, Nat.reduceEqDiff, Nat.reduceBEq, Int.toNat_natCast, Int.reduceToNat, Int.reduceNeg, Int.reduceLT, Int.reduceLE, Int.reduceBEq, Int.reduceBNe, decide_true, decide_false, Bool.false_eq_true, false_imp_iff, Nat.lt_irrefl]
  refine acond_intro (fun hc => ?_) (fun hc => ?_)
  · have hlt : k < L.length := by have := of_decide_eq_true hc; omega
    have hw : IntKind.i64.wrap ((k : Int) + 1) = ((k + 1 : Nat) : Int) := by rw [wrap_id (by omega) (by omega)]; omega
    have hsn : (L.take (k + 1)).map (fnd m) = (L.take k).map (fnd m) ++ [fnd m L[k]] := by
      rw [List.take_succ_eq_append_getElem hlt, List.map_append]; rfl
    have htl : ((L.take k).map (fnd m)).length = k := by simp; omega
    simp only [go_sem, strs_get L k hlt, Nat.reduceMul, Nat.reduceLT, Nat.reduceLeDiff, Nat.reduceEqDiff, Nat.reduceBEq, Int.toNat_natCast, Int.reduceToNat, Int.reduceNeg, Int.reduceLT, Int.reduceLE, Int.reduceBEq, Int.reduceBNe, decide_true, decide_false, Bool.false_eq_true, false_imp_iff, Nat.lt_irrefl]
    refine ⟨⟨by omega, by omega⟩, ?_⟩
    (refine ACallT.pure (by simp only [go_sem, Nat.reduceMul, Nat.reduceLT, Nat.reduceLeDiff, Nat.reduceEqDiff, Nat.reduceBEq, Int.toNat_natCast, Int.reduceToNat, Int.reduceNeg, Int.reduceLT, Int.reduceLE, Int.reduceBEq, Int.reduceBNe, decide_true, decide_false, Bool.false_eq_true, false_imp_iff, Nat.lt_irrefl]; rfl) (by first | trivial | assumption | (simp only [go_sem, Nat.reduceMul, Nat.reduceLT, Nat.reduceLeDiff, Nat.reduceEqDiff, Nat.reduceBEq, Int.toNat_natCast, Int.reduceToNat, Int.reduceNeg, Int.reduceLT, Int.reduceLE, Int.reduceBEq, Int.reduceBNe, decide_true, decide_false, Bool.false_eq_true, false_imp_iff, Nat.lt_irrefl]; done) | (simp only [go_sem, Nat.reduceMul, Nat.reduceLT, Nat.reduceLeDiff, Nat.reduceEqDiff, Nat.reduceBEq, Int.toNat_natCast, Int.reduceToNat, Int.reduceNeg, Int.reduceLT, Int.reduceLE, Int.reduceBEq, Int.reduceBNe, decide_true, decide_false, Bool.false_eq_true, false_imp_iff, Nat.lt_irrefl]; first | trivial | assumption | omega | decide | (refine ⟨?_, ?_⟩ <;> first | trivial | assumption | omega | decide))) (find_ok2 c m L[k] _ hm hr) ?_; refine fun _ _ e => ?_; subst e; refine ⟨rfl, ?_⟩; simp only [go_sem, Nat.reduceMul, Nat.reduceLT, Nat.reduceLeDiff, Nat.reduceEqDiff, Nat.reduceBEq, Int.toNat_natCast, Int.reduceToNat, Int.reduceNeg, Int.reduceLT, Int.reduceLE, Int.reduceBEq, Int.reduceBNe, decide_true, decide_false, Bool.false_eq_true, false_imp_iff, Nat.lt_irrefl])
    rcases hX with ⟨rfl, h0⟩ | ⟨t, g, rfl, hg⟩
    · have hm0 : (L.take k).map (fnd m) = [] := List.length_eq_zero_iff.1 (by omega)
      rw [hm0, List.nil_append] at hsn
      simp only [go_sem, Nat.reduceMul, Nat.reduceLT, Nat.reduceLeDiff, Nat.reduceEqDiff, Nat.reduceBEq, Int.toNat_natCast, Int.reduceToNat, Int.reduceNeg, Int.reduceLT, Int.reduceLE, Int.reduceBEq, Int.reduceBNe, decide_true, decide_false, Bool.false_eq_true, false_imp_iff, Nat.lt_irrefl]
      refine ⟨fun q => by simp at q, fun _ => ⟨⟨k + 1, by omega, by rw [hw], .inr ⟨h'.length + 1, 0, ?_, ?_⟩⟩, by rw [hw]; omega⟩⟩
      · rw [hsn]; rfl
      · rw [getElem?_app, hsn]; rfl
    · have hg2 : ∀ x, (h' ++ x)[t]? = some (AObj.arr g 1 (intsA ((L.take k).map (fnd m)))) := fun x => by
        rw [List.getElem?_append_left (List.getElem?_eq_some_iff.1 hg).1]; exact hg
      generalize (L.take k).map (fnd m) = M at *
      simp only [go_sem, hg2, Nat.reduceMul, Nat.reduceLT, Nat.reduceLeDiff, Nat.reduceEqDiff, Nat.reduceBEq, Int.toNat_natCast, Int.reduceToNat, Int.reduceNeg, Int.reduceLT, Int.reduceLE, Int.reduceBEq, Int.reduceBNe, decide_true, decide_false, Bool.false_eq_true, false_imp_iff, Nat.lt_irrefl]
      refine ⟨⟨by omega, by omega⟩, ⟨k + 1, by omega, by rw [hw], .inr ⟨t, g + 1, by rw [hsn]; simp, ?_⟩⟩, by rw [hw]; omega⟩
      rw [List.getElem?_set_self (by have := (List.getElem?_eq_some_iff.1 hg).1; simp; omega), hsn]; simp [intsA]
  · have hge : k = L.length := by have := of_decide_eq_false hc; omega
    subst hge
    rw [List.take_length] at hX
    simp only [go_sem, Nat.reduceMul, Nat.reduceLT, Nat.reduceLeDiff, Nat.reduceEqDiff, Nat.reduceBEq, Int.toNat_natCast, Int.reduceToNat, Int.reduceNeg, Int.reduceLT, Int.reduceLE, Int.reduceBEq, Int.reduceBNe, decide_true, decide_false, Bool.false_eq_true, false_imp_iff, Nat.lt_irrefl]
    refine Fin_freeze 4 ?_
    rcases hX with ⟨rfl, h0⟩ | ⟨t, g, rfl, hg⟩
    · rw [List.length_eq_zero_iff.1 h0]; exact ⟨true, rfl⟩
    · exact ⟨false, frz_ints hg⟩
theorem join_ok (d1 d2 : Option Bool) (l1 l2 : List Str) (h : List AObj) (h1 : l1.length ≤ 1000000000) (h2 : l2.length ≤ 1000000000) (hk : newOk (dictL d1 l1 ++ dictL d2 l2) = true) : ACall Try.prog 36 [dictA d1 l1, dictA d2 l2] h (fun r _ => ∃ c c1 c2, r = .tup [dictA (some c) (newL (dictL d1 l1 ++ dictL d2 l2)), .fz c1 (intsA ((dictL d1 l1).map (fnd (newL (dictL d1 l1 ++ dictL d2 l2))))), .fz c2 (intsA ((dictL d2 l2).map (fnd (newL (dictL d1 l1 ++ dictL d2 l2)))))]) := by
  have e1 : (dictL d1 l1).length ≤ 1000000000 := by cases d1 <;> simp [dictL, h1]
  have e2 : (dictL d2 l2).length ≤ 1000000000 := by cases d2 <;> simp [dictL, h2]
  have ht : tot [(dictC d1, dictL d1 l1), (dictC d2, dictL d2 l2)] = dictL d1 l1 ++ dictL d2 l2 := by simp [tot]
  have hr := (newL_rise (dictL d1 l1 ++ dictL d2 l2)).1
  have hl := newL_len (dictL d1 l1 ++ dictL d2 l2)
  rw [List.length_append] at hl
  (refine ACall.of_code Try.func36 rfl ?_; simp only [Try.f36]; simp only [go_sem, Nat.reduceMul, Nat.reduceLT, Nat.reduceLeDiff, Nat.reduceEqDiff, Nat.reduceBEq, Int.toNat_natCast, Int.reduceToNat, Int.reduceNeg, Int.reduceLT, Int.reduceLE, Int.reduceBEq, Int.reduceBNe, decide_true, decide_false, Bool.false_eq_true, false_imp_iff, Nat.lt_irrefl])
  (refine ACallT.frame (all_ok' d1 l1 _) ?_; refine fun _ _ e => ?_; subst e; refine ⟨by (first | rfl | (simp only [AV.low, lowL, low_strs, low_bytes, Bool.and_true, Bool.and_self])), ?_⟩; simp only [go_sem, Nat.reduceMul, Nat.reduceLT, Nat.reduceLeDiff, Nat.reduceEqDiff, Nat.reduceBEq, Int.toNat_natCast, Int.reduceToNat, Int.reduceNeg, Int.reduceLT, Int.reduceLE, Int.reduceBEq, Int.reduceBNe, decide_true, decide_false, Bool.false_eq_true, false_imp_iff, Nat.lt_irrefl])
  (refine ACallT.frame (all_ok' d2 l2 _) ?_; refine fun _ _ e => ?_; subst e; refine ⟨by (first | rfl | (simp only [AV.low, lowL, low_strs, low_bytes, Bool.and_true, Bool.and_self])), ?_⟩; simp only [go_sem, Nat.reduceMul, Nat.reduceLT, Nat.reduceLeDiff, Nat.reduceEqDiff, Nat.reduceBEq, Int.toNat_natCast, Int.reduceToNat, Int.reduceNeg, Int.reduceLT, Int.reduceLE, Int.reduceBEq, Int.reduceBNe, decide_true, decide_false, Bool.false_eq_true, false_imp_iff, Nat.lt_irrefl])
  refine ACallT.frz 4 (as' := [.fz false (fzs [(dictC d1, dictL d1 l1), (dictC d2, dictL d2 l2)])]) (by simp only [go_sem, Nat.reduceMul, Nat.reduceLT, Nat.reduceLeDiff, Nat.reduceEqDiff, Nat.reduceBEq, Int.toNat_natCast, Int.reduceToNat, Int.reduceNeg, Int.reduceLT, Int.reduceLE, Int.reduceBEq, Int.reduceBNe, decide_true, decide_false, Bool.false_eq_true, false_imp_iff, Nat.lt_irrefl]; exact congrArg (fun z => [z]) (frzO_all (l := fzs [(dictC d1, dictL d1 l1), (dictC d2, dictL d2 l2)]) rfl (by intro y hy; simp only [fzs, List.mem_map] at hy; obtain ⟨p, _, rfl⟩ := hy; rfl))) (concat_ok false _ _ (by simp) (by rw [ht, List.length_append]; omega)) ?_
  rintro _ h3 ⟨c3, rfl⟩
  rw [ht]
  simp only [go_sem, Nat.reduceMul, Nat.reduceLT, Nat.reduceLeDiff, Nat.reduceEqDiff, Nat.reduceBEq, Int.toNat_natCast, Int.reduceToNat, Int.reduceNeg, Int.reduceLT, Int.reduceLE, Int.reduceBEq, Int.reduceBNe, decide_true, decide_false, Bool.false_eq_true, false_imp_iff, Nat.lt_irrefl]
  refine ACallT.frame (new_good _ c3 _ (by rw [List.length_append]; omega) hk) ?_
  rintro _ _ ⟨c4, rfl⟩
  refine ⟨by simp only [AV.low, lowL, dictA, low_strs, Bool.and_true, Bool.and_self], ?_⟩
  generalize newL (dictL d1 l1 ++ dictL d2 l2) = m at *
  simp only [go_sem, Nat.reduceMul, Nat.reduceLT, Nat.reduceLeDiff, Nat.reduceEqDiff, Nat.reduceBEq, Int.toNat_natCast, Int.reduceToNat, Int.reduceNeg, Int.reduceLT, Int.reduceLE, Int.reduceBEq, Int.reduceBNe, decide_true, decide_false, Bool.false_eq_true, false_imp_iff, Nat.lt_irrefl]
  refine ACallT.frame (numbers_ok c4 m d1 l1 _ (by omega) hr (by omega)) ?_
  rintro _ _ ⟨c5, rfl⟩
  refine ⟨by simp only [AV.low, low_ints], ?_⟩
  simp only [go_sem, Nat.reduceMul, Nat.reduceLT, Nat.reduceLeDiff, Nat.reduceEqDiff, Nat.reduceBEq, Int.toNat_natCast, Int.reduceToNat, Int.reduceNeg, Int.reduceLT, Int.reduceLE, Int.reduceBEq, Int.reduceBNe, decide_true, decide_false, Bool.false_eq_true, false_imp_iff, Nat.lt_irrefl]
  refine ACallT.frame (numbers_ok c4 m d2 l2 _ (by omega) hr (by omega)) ?_
  rintro _ _ ⟨c6, rfl⟩
  refine ⟨by simp only [AV.low, low_ints], ?_⟩
  simp only [go_sem, Nat.reduceMul, Nat.reduceLT, Nat.reduceLeDiff, Nat.reduceEqDiff, Nat.reduceBEq, Int.toNat_natCast, Int.reduceToNat, Int.reduceNeg, Int.reduceLT, Int.reduceLE, Int.reduceBEq, Int.reduceBNe, decide_true, decide_false, Bool.false_eq_true, false_imp_iff, Nat.lt_irrefl]
  refine Fin_plain ?_
  exact ⟨c4, c5, c6, rfl⟩
theorem nil_ok (c : Bool) (l : List Str) (s : Str) (h : List AObj) (hl : l.length * 16 ≤ 140737488351232) : ACall Try.prog 9 [.fz c (strs l), .str s] h (fun r _ => r = .bool true) := by
  (refine ACall.of_code Try.func9 rfl ?_; simp only [Try.f9]; simp only [go_sem, Nat.reduceMul, Nat.reduceLT, Nat.reduceLeDiff, Nat.reduceEqDiff, Nat.reduceBEq, Int.toNat_natCast, Int.reduceToNat, Int.reduceNeg, Int.reduceLT, Int.reduceLE, Int.reduceBEq, Int.reduceBNe, decide_true, decide_false, Bool.false_eq_true, false_imp_iff, Nat.lt_irrefl])
  (refine ACallT.pure (by simp only [go_sem, Nat.reduceMul, Nat.reduceLT, Nat.reduceLeDiff, Nat.reduceEqDiff, Nat.reduceBEq, Int.toNat_natCast, Int.reduceToNat, Int.reduceNeg, Int.reduceLT, Int.reduceLE, Int.reduceBEq, Int.reduceBNe, decide_true, decide_false, Bool.false_eq_true, false_imp_iff, Nat.lt_irrefl]; rfl) (by first | trivial | assumption | (simp only [go_sem, Nat.reduceMul, Nat.reduceLT, Nat.reduceLeDiff, Nat.reduceEqDiff, Nat.reduceBEq, Int.toNat_natCast, Int.reduceToNat, Int.reduceNeg, Int.reduceLT, Int.reduceLE, Int.reduceBEq, Int.reduceBNe, decide_true, decide_false, Bool.false_eq_true, false_imp_iff, Nat.lt_irrefl]; done) | (simp only [go_sem, Nat.reduceMul, Nat.reduceLT, Nat.reduceLeDiff, Nat.reduceEqDiff, Nat.reduceBEq, Int.toNat_natCast, Int.reduceToNat, Int.reduceNeg, Int.reduceLT, Int.reduceLE, Int.reduceBEq, Int.reduceBNe, decide_true, decide_false, Bool.false_eq_true, false_imp_iff, Nat.lt_irrefl]; first | trivial | assumption | omega | decide | (refine ⟨?_, ?_⟩ <;> first | trivial | assumption | omega | decide))) (lfits_ok l c _ (by omega)) ?_; refine fun _ _ e => ?_; subst e; refine ⟨rfl, ?_⟩; simp only [go_sem, Nat.reduceMul, Nat.reduceLT, Nat.reduceLeDiff, Nat.reduceEqDiff, Nat.reduceBEq, Int.toNat_natCast, Int.reduceToNat, Int.reduceNeg, Int.reduceLT, Int.reduceLE, Int.reduceBEq, Int.reduceBNe, decide_true, decide_false, Bool.false_eq_true, false_imp_iff, Nat.lt_irrefl])
  generalize hf : (decide (l.length ≤ 100) && l.all fun s => decide (List.length s ≤ 60)) = b
  generalize hok : newOk l = ok
  cases ok with
  | false =>
    (refine ACallT.frame (new_bad l c _ (by omega) hok) ?_; refine fun _ _ e => ?_; subst e; refine ⟨by (first | rfl | (simp only [AV.low, lowL, low_strs, low_bytes, Bool.and_true, Bool.and_self])), ?_⟩; simp only [go_sem, Nat.reduceMul, Nat.reduceLT, Nat.reduceLeDiff, Nat.reduceEqDiff, Nat.reduceBEq, Int.toNat_natCast, Int.reduceToNat, Int.reduceNeg, Int.reduceLT, Int.reduceLE, Int.reduceBEq, Int.reduceBNe, decide_true, decide_false, Bool.false_eq_true, false_imp_iff, Nat.lt_irrefl])
    generalize hcnd : (bif bif !b then true else decide (60 < ((List.length s : Nat) : Int)) then true else true) = b2
    obtain rfl : b2 = true := by rw [← hcnd]; cases b <;> simp
    simp only [go_sem, Nat.reduceMul, Nat.reduceLT, Nat.reduceLeDiff, Nat.reduceEqDiff, Nat.reduceBEq, Int.toNat_natCast, Int.reduceToNat, Int.reduceNeg, Int.reduceLT, Int.reduceLE, Int.reduceBEq, Int.reduceBNe, decide_true, decide_false, Bool.false_eq_true, false_imp_iff, Nat.lt_irrefl]
    (refine ACallT.pure (by simp only [go_sem, Nat.reduceMul, Nat.reduceLT, Nat.reduceLeDiff, Nat.reduceEqDiff, Nat.reduceBEq, Int.toNat_natCast, Int.reduceToNat, Int.reduceNeg, Int.reduceLT, Int.reduceLE, Int.reduceBEq, Int.reduceBNe, decide_true, decide_false, Bool.false_eq_true, false_imp_iff, Nat.lt_irrefl]; rfl) (by first | trivial | assumption | (simp only [go_sem, Nat.reduceMul, Nat.reduceLT, Nat.reduceLeDiff, Nat.reduceEqDiff, Nat.reduceBEq, Int.toNat_natCast, Int.reduceToNat, Int.reduceNeg, Int.reduceLT, Int.reduceLE, Int.reduceBEq, Int.reduceBNe, decide_true, decide_false, Bool.false_eq_true, false_imp_iff, Nat.lt_irrefl]; done) | (simp only [go_sem, Nat.reduceMul, Nat.reduceLT, Nat.reduceLeDiff, Nat.reduceEqDiff, Nat.reduceBEq, Int.toNat_natCast, Int.reduceToNat, Int.reduceNeg, Int.reduceLT, Int.reduceLE, Int.reduceBEq, Int.reduceBNe, decide_true, decide_false, Bool.false_eq_true, false_imp_iff, Nat.lt_irrefl]; first | trivial | assumption | omega | decide | (refine ⟨?_, ?_⟩ <;> first | trivial | assumption | omega | decide))) (alive_ok _) ?_; refine fun _ _ e => ?_; subst e; refine ⟨rfl, ?_⟩; simp only [go_sem, Nat.reduceMul, Nat.reduceLT, Nat.reduceLeDiff, Nat.reduceEqDiff, Nat.reduceBEq, Int.toNat_natCast, Int.reduceToNat, Int.reduceNeg, Int.reduceLT, Int.reduceLE, Int.reduceBEq, Int.reduceBNe, decide_true, decide_false, Bool.false_eq_true, false_imp_iff, Nat.lt_irrefl])
    exact Fin_plain rfl
  | true =>
    refine ACallT.frame (new_good l c _ (by omega) hok) ?_
    rintro _ _ ⟨c1, rfl⟩
    refine ⟨by simp only [AV.low, lowL, dictA, low_strs, Bool.and_true, Bool.and_self], ?_⟩
    simp only [go_sem, Nat.reduceMul, Nat.reduceLT, Nat.reduceLeDiff, Nat.reduceEqDiff, Nat.reduceBEq, Int.toNat_natCast, Int.reduceToNat, Int.reduceNeg, Int.reduceLT, Int.reduceLE, Int.reduceBEq, Int.reduceBNe, decide_true, decide_false, Bool.false_eq_true, false_imp_iff, Nat.lt_irrefl]
    refine acond_intro (fun hc => ?_) (fun hc => ?_)
    · simp only [go_sem, Nat.reduceMul, Nat.reduceLT, Nat.reduceLeDiff, Nat.reduceEqDiff, Nat.reduceBEq, Int.toNat_natCast, Int.reduceToNat, Int.reduceNeg, Int.reduceLT, Int.reduceLE, Int.reduceBEq, Int.reduceBNe, decide_true, decide_false, Bool.false_eq_true, false_imp_iff, Nat.lt_irrefl]
      (refine ACallT.pure (by simp only [go_sem, Nat.reduceMul, Nat.reduceLT, Nat.reduceLeDiff, Nat.reduceEqDiff, Nat.reduceBEq, Int.toNat_natCast, Int.reduceToNat, Int.reduceNeg, Int.reduceLT, Int.reduceLE, Int.reduceBEq, Int.reduceBNe, decide_true, decide_false, Bool.false_eq_true, false_imp_iff, Nat.lt_irrefl]; rfl) (by first | trivial | assumption | (simp only [go_sem, Nat.reduceMul, Nat.reduceLT, Nat.reduceLeDiff, Nat.reduceEqDiff, Nat.reduceBEq, Int.toNat_natCast, Int.reduceToNat, Int.reduceNeg, Int.reduceLT, Int.reduceLE, Int.reduceBEq, Int.reduceBNe, decide_true, decide_false, Bool.false_eq_true, false_imp_iff, Nat.lt_irrefl]; done) | (simp only [go_sem, Nat.reduceMul, Nat.reduceLT, Nat.reduceLeDiff, Nat.reduceEqDiff, Nat.reduceBEq, Int.toNat_natCast, Int.reduceToNat, Int.reduceNeg, Int.reduceLT, Int.reduceLE, Int.reduceBEq, Int.reduceBNe, decide_true, decide_false, Bool.false_eq_true, false_imp_iff, Nat.lt_irrefl]; first | trivial | assumption | omega | decide | (refine ⟨?_, ?_⟩ <;> first | trivial | assumption | omega | decide))) (alive_ok _) ?_; refine fun _ _ e => ?_; subst e; refine ⟨rfl, ?_⟩; simp only [go_sem, Nat.reduceMul, Nat.reduceLT, Nat.reduceLeDiff, Nat.reduceEqDiff, Nat.reduceBEq, Int.toNat_natCast, Int.reduceToNat, Int.reduceNeg, Int.reduceLT, Int.reduceLE, Int.reduceBEq, Int.reduceBNe, decide_true, decide_false, Bool.false_eq_true, false_imp_iff, Nat.lt_irrefl])
      exact Fin_plain rfl
    · obtain ⟨rfl, hs⟩ : b = true ∧ s.length ≤ 60 := by
        cases b with
        | false => simp at hc
        | true => simp at hc; exact ⟨rfl, by omega⟩
      have hf2 : l.length ≤ 100 ∧ ∀ s ∈ l, s.length ≤ 60 := by simpa using hf
      have hm1 := newL_len l
      have hr := (newL_rise l).1
      have hm : newL (newL l) = newL l := new_uniq hr (fun x => Iff.rfl)
      have hok2 : newOk (newL l) = true := by
        have := hok
        simp only [newOk] at this ⊢
        rw [hm]; exact this
      have hf0 : ∀ h1, ACall Try.prog 28 [.nilp, .str s] h1 (fun r _ => r = .tup [.int .i64 0, .bool false]) := fun h1 => (find_ok none [] s h1 (by simp) List.Pairwise.nil).mono fun r _ e => by rw [e, if_neg (by simp [dictL])]
      have ht0 : ∀ h1, ACall Try.prog 30 [.nilp, .int .i64 0] h1 (fun r _ => r = .tup [.str [], .bool false]) := fun h1 => (text_ok none [] 0 h1).mono fun r _ e => by rw [e]; rfl
      have hl0 : ∀ h1, ACall Try.prog 37 [.nilp] h1 (fun r _ => r = .int .i64 0) := fun h1 => (len_ok none [] h1).mono fun r _ e => by rw [e]; rfl
      have hu0 : ∀ h1, ACall Try.prog 32 [.nilp, .str s] h1 (fun r _ => r = .int .i64 0) := fun h1 => (upto_ok none [] s h1 (by simp) List.Pairwise.nil).mono fun r _ e => by rw [e]; rfl
      have hb0 : ∀ h1, ACall Try.prog 34 [.nilp] h1 (fun r _ => r = .fz false (bytesA [0])) := fun h1 => (bytes_ok none [] h1 (by simp) (by simp)).mono fun r _ e => by
        rw [e]; simp [dictL, bytesF, encF, vb, vhi_zero]
      have hj := fun h1 => join_ok none (some c1) [] (newL l) h1 (by simp) (by omega) (by simpa [dictL] using hok2)
      simp only [dictL, List.nil_append, hm, List.map_nil] at hj
      generalize newL l = m at *
      simp only [go_sem, Nat.reduceMul, Nat.reduceLT, Nat.reduceLeDiff, Nat.reduceEqDiff, Nat.reduceBEq, Int.toNat_natCast, Int.reduceToNat, Int.reduceNeg, Int.reduceLT, Int.reduceLE, Int.reduceBEq, Int.reduceBNe, decide_true, decide_false, Bool.false_eq_true, false_imp_iff, Nat.lt_irrefl]
      (refine ACallT.pure (by simp only [go_sem, Nat.reduceMul, Nat.reduceLT, Nat.reduceLeDiff, Nat.reduceEqDiff, Nat.reduceBEq, Int.toNat_natCast, Int.reduceToNat, Int.reduceNeg, Int.reduceLT, Int.reduceLE, Int.reduceBEq, Int.reduceBNe, decide_true, decide_false, Bool.false_eq_true, false_imp_iff, Nat.lt_irrefl]; rfl) (by first | trivial | assumption | (simp only [go_sem, Nat.reduceMul, Nat.reduceLT, Nat.reduceLeDiff, Nat.reduceEqDiff, Nat.reduceBEq, Int.toNat_natCast, Int.reduceToNat, Int.reduceNeg, Int.reduceLT, Int.reduceLE, Int.reduceBEq, Int.reduceBNe, decide_true, decide_false, Bool.false_eq_true, false_imp_iff, Nat.lt_irrefl]; done) | (simp only [go_sem, Nat.reduceMul, Nat.reduceLT, Nat.reduceLeDiff, Nat.reduceEqDiff, Nat.reduceBEq, Int.toNat_natCast, Int.reduceToNat, Int.reduceNeg, Int.reduceLT, Int.reduceLE, Int.reduceBEq, Int.reduceBNe, decide_true, decide_false, Bool.false_eq_true, false_imp_iff, Nat.lt_irrefl]; first | trivial | assumption | omega | decide | (refine ⟨?_, ?_⟩ <;> first | trivial | assumption | omega | decide))) (hf0 _) ?_; refine fun _ _ e => ?_; subst e; refine ⟨rfl, ?_⟩; simp only [go_sem, Nat.reduceMul, Nat.reduceLT, Nat.reduceLeDiff, Nat.reduceEqDiff, Nat.reduceBEq, Int.toNat_natCast, Int.reduceToNat, Int.reduceNeg, Int.reduceLT, Int.reduceLE, Int.reduceBEq, Int.reduceBNe, decide_true, decide_false, Bool.false_eq_true, false_imp_iff, Nat.lt_irrefl])
      (refine ACallT.pure (by simp only [go_sem, Nat.reduceMul, Nat.reduceLT, Nat.reduceLeDiff, Nat.reduceEqDiff, Nat.reduceBEq, Int.toNat_natCast, Int.reduceToNat, Int.reduceNeg, Int.reduceLT, Int.reduceLE, Int.reduceBEq, Int.reduceBNe, decide_true, decide_false, Bool.false_eq_true, false_imp_iff, Nat.lt_irrefl]; rfl) (by first | trivial | assumption | (simp only [go_sem, Nat.reduceMul, Nat.reduceLT, Nat.reduceLeDiff, Nat.reduceEqDiff, Nat.reduceBEq, Int.toNat_natCast, Int.reduceToNat, Int.reduceNeg, Int.reduceLT, Int.reduceLE, Int.reduceBEq, Int.reduceBNe, decide_true, decide_false, Bool.false_eq_true, false_imp_iff, Nat.lt_irrefl]; done) | (simp only [go_sem, Nat.reduceMul, Nat.reduceLT, Nat.reduceLeDiff, Nat.reduceEqDiff, Nat.reduceBEq, Int.toNat_natCast, Int.reduceToNat, Int.reduceNeg, Int.reduceLT, Int.reduceLE, Int.reduceBEq, Int.reduceBNe, decide_true, decide_false, Bool.false_eq_true, false_imp_iff, Nat.lt_irrefl]; first | trivial | assumption | omega | decide | (refine ⟨?_, ?_⟩ <;> first | trivial | assumption | omega | decide))) (ht0 _) ?_; refine fun _ _ e => ?_; subst e; refine ⟨rfl, ?_⟩; simp only [go_sem, Nat.reduceMul, Nat.reduceLT, Nat.reduceLeDiff, Nat.reduceEqDiff, Nat.reduceBEq, Int.toNat_natCast, Int.reduceToNat, Int.reduceNeg, Int.reduceLT, Int.reduceLE, Int.reduceBEq, Int.reduceBNe, decide_true, decide_false, Bool.false_eq_true, false_imp_iff, Nat.lt_irrefl])
      refine ACallT.frame (hj _) ?_
      rintro _ _ ⟨c2, c3, c4, rfl⟩
      refine ⟨by simp only [AV.low, lowL, dictA, low_strs, low_ints, Bool.and_true, Bool.and_self], ?_⟩
      simp only [go_sem, Nat.reduceMul, Nat.reduceLT, Nat.reduceLeDiff, Nat.reduceEqDiff, Nat.reduceBEq, Int.toNat_natCast, Int.reduceToNat, Int.reduceNeg, Int.reduceLT, Int.reduceLE, Int.reduceBEq, Int.reduceBNe, decide_true, decide_false, Bool.false_eq_true, false_imp_iff, Nat.lt_irrefl]
      (refine ACallT.pure (by simp only [go_sem, Nat.reduceMul, Nat.reduceLT, Nat.reduceLeDiff, Nat.reduceEqDiff, Nat.reduceBEq, Int.toNat_natCast, Int.reduceToNat, Int.reduceNeg, Int.reduceLT, Int.reduceLE, Int.reduceBEq, Int.reduceBNe, decide_true, decide_false, Bool.false_eq_true, false_imp_iff, Nat.lt_irrefl]; rfl) (by first | trivial | assumption | (simp only [go_sem, Nat.reduceMul, Nat.reduceLT, Nat.reduceLeDiff, Nat.reduceEqDiff, Nat.reduceBEq, Int.toNat_natCast, Int.reduceToNat, Int.reduceNeg, Int.reduceLT, Int.reduceLE, Int.reduceBEq, Int.reduceBNe, decide_true, decide_false, Bool.false_eq_true, false_imp_iff, Nat.lt_irrefl]; done) | (simp only [go_sem, Nat.reduceMul, Nat.reduceLT, Nat.reduceLeDiff, Nat.reduceEqDiff, Nat.reduceBEq, Int.toNat_natCast, Int.reduceToNat, Int.reduceNeg, Int.reduceLT, Int.reduceLE, Int.reduceBEq, Int.reduceBNe, decide_true, decide_false, Bool.false_eq_true, false_imp_iff, Nat.lt_irrefl]; first | trivial | assumption | omega | decide | (refine ⟨?_, ?_⟩ <;> first | trivial | assumption | omega | decide))) (alive_ok _) ?_; refine fun _ _ e => ?_; subst e; refine ⟨rfl, ?_⟩; simp only [go_sem, Nat.reduceMul, Nat.reduceLT, Nat.reduceLeDiff, Nat.reduceEqDiff, Nat.reduceBEq, Int.toNat_natCast, Int.reduceToNat, Int.reduceNeg, Int.reduceLT, Int.reduceLE, Int.reduceBEq, Int.reduceBNe, decide_true, decide_false, Bool.false_eq_true, false_imp_iff, Nat.lt_irrefl])
      (refine ACallT.pure (by simp only [go_sem, Nat.reduceMul, Nat.reduceLT, Nat.reduceLeDiff, Nat.reduceEqDiff, Nat.reduceBEq, Int.toNat_natCast, Int.reduceToNat, Int.reduceNeg, Int.reduceLT, Int.reduceLE, Int.reduceBEq, Int.reduceBNe, decide_true, decide_false, Bool.false_eq_true, false_imp_iff, Nat.lt_irrefl]; rfl) (by first | trivial | assumption | (simp only [go_sem, Nat.reduceMul, Nat.reduceLT, Nat.reduceLeDiff, Nat.reduceEqDiff, Nat.reduceBEq, Int.toNat_natCast, Int.reduceToNat, Int.reduceNeg, Int.reduceLT, Int.reduceLE, Int.reduceBEq, Int.reduceBNe, decide_true, decide_false, Bool.false_eq_true, false_imp_iff, Nat.lt_irrefl]; done) | (simp only [go_sem, Nat.reduceMul, Nat.reduceLT, Nat.reduceLeDiff, Nat.reduceEqDiff, Nat.reduceBEq, Int.toNat_natCast, Int.reduceToNat, Int.reduceNeg, Int.reduceLT, Int.reduceLE, Int.reduceBEq, Int.reduceBNe, decide_true, decide_false, Bool.false_eq_true, false_imp_iff, Nat.lt_irrefl]; first | trivial | assumption | omega | decide | (refine ⟨?_, ?_⟩ <;> first | trivial | assumption | omega | decide))) (hl0 _) ?_; refine fun _ _ e => ?_; subst e; refine ⟨rfl, ?_⟩; simp only [go_sem, Nat.reduceMul, Nat.reduceLT, Nat.reduceLeDiff, Nat.reduceEqDiff, Nat.reduceBEq, Int.toNat_natCast, Int.reduceToNat, Int.reduceNeg, Int.reduceLT, Int.reduceLE, Int.reduceBEq, Int.reduceBNe, decide_true, decide_false, Bool.false_eq_true, false_imp_iff, Nat.lt_irrefl])
      (refine ACallT.pure (by simp only [go_sem, Nat.reduceMul, Nat.reduceLT, Nat.reduceLeDiff, Nat.reduceEqDiff, Nat.reduceBEq, Int.toNat_natCast, Int.reduceToNat, Int.reduceNeg, Int.reduceLT, Int.reduceLE, Int.reduceBEq, Int.reduceBNe, decide_true, decide_false, Bool.false_eq_true, false_imp_iff, Nat.lt_irrefl]; rfl) (by first | trivial | assumption | (simp only [go_sem, Nat.reduceMul, Nat.reduceLT, Nat.reduceLeDiff, Nat.reduceEqDiff, Nat.reduceBEq, Int.toNat_natCast, Int.reduceToNat, Int.reduceNeg, Int.reduceLT, Int.reduceLE, Int.reduceBEq, Int.reduceBNe, decide_true, decide_false, Bool.false_eq_true, false_imp_iff, Nat.lt_irrefl]; done) | (simp only [go_sem, Nat.reduceMul, Nat.reduceLT, Nat.reduceLeDiff, Nat.reduceEqDiff, Nat.reduceBEq, Int.toNat_natCast, Int.reduceToNat, Int.reduceNeg, Int.reduceLT, Int.reduceLE, Int.reduceBEq, Int.reduceBNe, decide_true, decide_false, Bool.false_eq_true, false_imp_iff, Nat.lt_irrefl]; first | trivial | assumption | omega | decide | (refine ⟨?_, ?_⟩ <;> first | trivial | assumption | omega | decide))) (hu0 _) ?_; refine fun _ _ e => ?_; subst e; refine ⟨rfl, ?_⟩; simp only [go_sem, Nat.reduceMul, Nat.reduceLT, Nat.reduceLeDiff, Nat.reduceEqDiff, Nat.reduceBEq, Int.toNat_natCast, Int.reduceToNat, Int.reduceNeg, Int.reduceLT, Int.reduceLE, Int.reduceBEq, Int.reduceBNe, decide_true, decide_false, Bool.false_eq_true, false_imp_iff, Nat.lt_irrefl])
      (refine ACallT.frame (hb0 _) ?_; refine fun _ _ e => ?_; subst e; refine ⟨by (first | rfl | (simp only [AV.low, lowL, low_strs, low_bytes, Bool.and_true, Bool.and_self])), ?_⟩; simp only [go_sem, Nat.reduceMul, Nat.reduceLT, Nat.reduceLeDiff, Nat.reduceEqDiff, Nat.reduceBEq, Int.toNat_natCast, Int.reduceToNat, Int.reduceNeg, Int.reduceLT, Int.reduceLE, Int.reduceBEq, Int.reduceBNe, decide_true, decide_false, Bool.false_eq_true, false_imp_iff, Nat.lt_irrefl])
      refine ⟨bytesA_ok _, ?_⟩
      generalize hbz : (List.map byteOf (bytesA [0]) == [0]) = z
      obtain rfl : z = true := by rw [← hbz]; rfl
      simp only [go_sem, Nat.reduceMul, Nat.reduceLT, Nat.reduceLeDiff, Nat.reduceEqDiff, Nat.reduceBEq, Int.toNat_natCast, Int.reduceToNat, Int.reduceNeg, Int.reduceLT, Int.reduceLE, Int.reduceBEq, Int.reduceBNe, decide_true, decide_false, Bool.false_eq_true, false_imp_iff, Nat.lt_irrefl]
      (refine ACallT.pure (by simp only [go_sem, Nat.reduceMul, Nat.reduceLT, Nat.reduceLeDiff, Nat.reduceEqDiff, Nat.reduceBEq, Int.toNat_natCast, Int.reduceToNat, Int.reduceNeg, Int.reduceLT, Int.reduceLE, Int.reduceBEq, Int.reduceBNe, decide_true, decide_false, Bool.false_eq_true, false_imp_iff, Nat.lt_irrefl]; rfl) (by first | trivial | assumption | (simp only [go_sem, Nat.reduceMul, Nat.reduceLT, Nat.reduceLeDiff, Nat.reduceEqDiff, Nat.reduceBEq, Int.toNat_natCast, Int.reduceToNat, Int.reduceNeg, Int.reduceLT, Int.reduceLE, Int.reduceBEq, Int.reduceBNe, decide_true, decide_false, Bool.false_eq_true, false_imp_iff, Nat.lt_irrefl]; done) | (simp only [go_sem, Nat.reduceMul, Nat.reduceLT, Nat.reduceLeDiff, Nat.reduceEqDiff, Nat.reduceBEq, Int.toNat_natCast, Int.reduceToNat, Int.reduceNeg, Int.reduceLT, Int.reduceLE, Int.reduceBEq, Int.reduceBNe, decide_true, decide_false, Bool.false_eq_true, false_imp_iff, Nat.lt_irrefl]; first | trivial | assumption | omega | decide | (refine ⟨?_, ?_⟩ <;> first | trivial | assumption | omega | decide))) (len_ok (some c2) m _) ?_; refine fun _ _ e => ?_; subst e; refine ⟨rfl, ?_⟩; simp only [go_sem, Nat.reduceMul, Nat.reduceLT, Nat.reduceLeDiff, Nat.reduceEqDiff, Nat.reduceBEq, Int.toNat_natCast, Int.reduceToNat, Int.reduceNeg, Int.reduceLT, Int.reduceLE, Int.reduceBEq, Int.reduceBNe, decide_true, decide_false, Bool.false_eq_true, false_imp_iff, Nat.lt_irrefl])
      (refine ACallT.pure (by simp only [go_sem, Nat.reduceMul, Nat.reduceLT, Nat.reduceLeDiff, Nat.reduceEqDiff, Nat.reduceBEq, Int.toNat_natCast, Int.reduceToNat, Int.reduceNeg, Int.reduceLT, Int.reduceLE, Int.reduceBEq, Int.reduceBNe, decide_true, decide_false, Bool.false_eq_true, false_imp_iff, Nat.lt_irrefl]; rfl) (by first | trivial | assumption | (simp only [go_sem, Nat.reduceMul, Nat.reduceLT, Nat.reduceLeDiff, Nat.reduceEqDiff, Nat.reduceBEq, Int.toNat_natCast, Int.reduceToNat, Int.reduceNeg, Int.reduceLT, Int.reduceLE, Int.reduceBEq, Int.reduceBNe, decide_true, decide_false, Bool.false_eq_true, false_imp_iff, Nat.lt_irrefl]; done) | (simp only [go_sem, Nat.reduceMul, Nat.reduceLT, Nat.reduceLeDiff, Nat.reduceEqDiff, Nat.reduceBEq, Int.toNat_natCast, Int.reduceToNat, Int.reduceNeg, Int.reduceLT, Int.reduceLE, Int.reduceBEq, Int.reduceBNe, decide_true, decide_false, Bool.false_eq_true, false_imp_iff, Nat.lt_irrefl]; first | trivial | assumption | omega | decide | (refine ⟨?_, ?_⟩ <;> first | trivial | assumption | omega | decide))) (len_ok (some c1) m _) ?_; refine fun _ _ e => ?_; subst e; refine ⟨rfl, ?_⟩; simp only [go_sem, Nat.reduceMul, Nat.reduceLT, Nat.reduceLeDiff, Nat.reduceEqDiff, Nat.reduceBEq, Int.toNat_natCast, Int.reduceToNat, Int.reduceNeg, Int.reduceLT, Int.reduceLE, Int.reduceBEq, Int.reduceBNe, decide_true, decide_false, Bool.false_eq_true, false_imp_iff, Nat.lt_irrefl])
      generalize hz0 : ((((0 : Nat) : Int)) == 0) = z
      obtain rfl : z = true := by rw [← hz0]; rfl
      simp only [go_sem, Nat.reduceMul, Nat.reduceLT, Nat.reduceLeDiff, Nat.reduceEqDiff, Nat.reduceBEq, Int.toNat_natCast, Int.reduceToNat, Int.reduceNeg, Int.reduceLT, Int.reduceLE, Int.reduceBEq, Int.reduceBNe, decide_true, decide_false, Bool.false_eq_true, false_imp_iff, Nat.lt_irrefl]
      (refine ACallT.pure (by simp only [go_sem, Nat.reduceMul, Nat.reduceLT, Nat.reduceLeDiff, Nat.reduceEqDiff, Nat.reduceBEq, Int.toNat_natCast, Int.reduceToNat, Int.reduceNeg, Int.reduceLT, Int.reduceLE, Int.reduceBEq, Int.reduceBNe, decide_true, decide_false, Bool.false_eq_true, false_imp_iff, Nat.lt_irrefl]; rfl) (by first | trivial | assumption | (simp only [go_sem, Nat.reduceMul, Nat.reduceLT, Nat.reduceLeDiff, Nat.reduceEqDiff, Nat.reduceBEq, Int.toNat_natCast, Int.reduceToNat, Int.reduceNeg, Int.reduceLT, Int.reduceLE, Int.reduceBEq, Int.reduceBNe, decide_true, decide_false, Bool.false_eq_true, false_imp_iff, Nat.lt_irrefl]; done) | (simp only [go_sem, Nat.reduceMul, Nat.reduceLT, Nat.reduceLeDiff, Nat.reduceEqDiff, Nat.reduceBEq, Int.toNat_natCast, Int.reduceToNat, Int.reduceNeg, Int.reduceLT, Int.reduceLE, Int.reduceBEq, Int.reduceBNe, decide_true, decide_false, Bool.false_eq_true, false_imp_iff, Nat.lt_irrefl]; first | trivial | assumption | omega | decide | (refine ⟨?_, ?_⟩ <;> first | trivial | assumption | omega | decide))) (len_ok (some c1) m _) ?_; refine fun _ _ e => ?_; subst e; refine ⟨rfl, ?_⟩; simp only [go_sem, Nat.reduceMul, Nat.reduceLT, Nat.reduceLeDiff, Nat.reduceEqDiff, Nat.reduceBEq, Int.toNat_natCast, Int.reduceToNat, Int.reduceNeg, Int.reduceLT, Int.reduceLE, Int.reduceBEq, Int.reduceBNe, decide_true, decide_false, Bool.false_eq_true, false_imp_iff, Nat.lt_irrefl])
      refine Fin_plain ?_
      simp
end Go.Proofs.Vale
