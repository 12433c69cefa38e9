/- YthgafblmefjkdaaDoorVSchG: a text of the proof of this claim, by its prover. -/
import Derived.Test.YthgafblmefjkdaaDoorVSchF
set_option linter.unusedVariables false
set_option linter.unusedSimpArgs false
set_option maxHeartbeats 4000000
set_option maxRecDepth 100000
namespace Go.Proofs.Vale
open Go.Proofs Go.Proofs.YthgafblmefjkdaaDoorT
attribute [local irreducible] acode aopsL aopsT dopsL dopsT pop popG aop ALoop ADraw ACall AWP AFin acondT ALoopT ADrawT ACallT doP doG doGd

theorem indexFn_ok (fn : Nat) (p : Str → Bool) (he : entersB Tryd.prog fn = true) (l : List Str) (c : Bool) (h : List AObj) (hf : ∀ s ∈ l, ∀ h, ACall Tryd.prog fn [.str s] h (fun r _ => r = .bool (p s))) (hl : l.length ≤ 9223372036854775807) : ACall Tryd.prog 44 [.fz c (strs l), .func (.func fn) [] []] h (fun r _ => ∃ i : Int, r = .int .i64 i ∧ decide (0 ≤ i) = l.any p) := by
  (refine ACall.of_code Tryd.func44 rfl ?_; simp only [Tryd.f44]; simp only [go_sem, Nat.reduceMul, Nat.reduceLT, Nat.reduceLeDiff, Nat.reduceEqDiff, Nat.reduceBEq, Int.toNat_natCast, Int.reduceToNat, Int.reduceNeg, Int.reduceLT, Int.reduceLE, Int.reduceBEq, Int.reduceBNe, decide_true, decide_false, Bool.false_eq_true, false_imp_iff, Nat.lt_irrefl])
  refine ALoop.over [4, 5, 8, 9, 10, 11, 12, 13, 14, 15, 16, 17, 18] (fun e h' => ∃ k : Nat, k ≤ l.length ∧ e.getD 8 .any = .int .i64 k ∧ (l.take k).any p = false) (fun e _ => l.length - natA (e.getD 8 .any)) ⟨0, by simp, rfl, by simp⟩ ?_
  simp only [List.length_cons, List.length_nil, Nat.reduceAdd, allL_succ, allL_zero]
  intro y4 y5 y8 y9 y10 y11 y12 y13 y14 y15 y16 y17 y18 h' hI
  simp only [go_sem] at hI
  obtain ⟨k, hk, rfl, hall⟩ := hI
  simp only [go_sem, Nat.reduceMul, Nat.reduceLT, Nat.reduceLeDiff, Nat.reduceEqDiff, Nat.reduceBEq, Int.toNat_natCast, Int.reduceToNat, Int.reduceNeg, Int.reduceLT, Int.reduceLE, Int.reduceBEq, Int.reduceBNe, decide_true, decide_false, Bool.false_eq_true, false_imp_iff, Nat.lt_irrefl]
  refine acond_intro (fun hc => ?_) (fun hc => ?_)
  · have hlt : k < l.length := by simpa using hc
    simp only [go_sem, strs_get l _ hlt, he, Nat.reduceMul, Nat.reduceLT, Nat.reduceLeDiff, Nat.reduceEqDiff, Nat.reduceBEq, Int.toNat_natCast, Int.reduceToNat, Int.reduceNeg, Int.reduceLT, Int.reduceLE, Int.reduceBEq, Int.reduceBNe, decide_true, decide_false, Bool.false_eq_true, false_imp_iff, Nat.lt_irrefl]
    refine ⟨⟨by omega, by omega⟩, ?_⟩
    (refine ACallT.pure (by simp only [go_sem, Nat.reduceMul, Nat.reduceLT, Nat.reduceLeDiff, Nat.reduceEqDiff, Nat.reduceBEq, Int.toNat_natCast, Int.reduceToNat, Int.reduceNeg, Int.reduceLT, Int.reduceLE, Int.reduceBEq, Int.reduceBNe, decide_true, decide_false, Bool.false_eq_true, false_imp_iff, Nat.lt_irrefl]; rfl) (by first | trivial | assumption | (simp only [go_sem, Nat.reduceMul, Nat.reduceLT, Nat.reduceLeDiff, Nat.reduceEqDiff, Nat.reduceBEq, Int.toNat_natCast, Int.reduceToNat, Int.reduceNeg, Int.reduceLT, Int.reduceLE, Int.reduceBEq, Int.reduceBNe, decide_true, decide_false, Bool.false_eq_true, false_imp_iff, Nat.lt_irrefl]; done) | (simp only [go_sem, Nat.reduceMul, Nat.reduceLT, Nat.reduceLeDiff, Nat.reduceEqDiff, Nat.reduceBEq, Int.toNat_natCast, Int.reduceToNat, Int.reduceNeg, Int.reduceLT, Int.reduceLE, Int.reduceBEq, Int.reduceBNe, decide_true, decide_false, Bool.false_eq_true, false_imp_iff, Nat.lt_irrefl]; first | trivial | assumption | omega | decide | (refine ⟨?_, ?_⟩ <;> first | trivial | assumption | omega | decide))) (hf l[k] (List.getElem_mem _) _) ?_; refine fun _ _ e => ?_; subst e; refine ⟨rfl, ?_⟩)
    generalize hb : p l[k] = b
    cases b with
    | true =>
      simp only [go_sem, Nat.reduceMul, Nat.reduceLT, Nat.reduceLeDiff, Nat.reduceEqDiff, Nat.reduceBEq, Int.toNat_natCast, Int.reduceToNat, Int.reduceNeg, Int.reduceLT, Int.reduceLE, Int.reduceBEq, Int.reduceBNe, decide_true, decide_false, Bool.false_eq_true, false_imp_iff, Nat.lt_irrefl]
      refine Fin_plain ⟨k, rfl, ?_⟩
      have : l.any p = true := by rw [List.any_eq_true]; exact ⟨l[k], List.getElem_mem _, hb⟩
      rw [this]; simp
    | false =>
      simp only [go_sem, Nat.reduceMul, Nat.reduceLT, Nat.reduceLeDiff, Nat.reduceEqDiff, Nat.reduceBEq, Int.toNat_natCast, Int.reduceToNat, Int.reduceNeg, Int.reduceLT, Int.reduceLE, Int.reduceBEq, Int.reduceBNe, decide_true, decide_false, Bool.false_eq_true, false_imp_iff, Nat.lt_irrefl]
      rw [wrap_id (by omega) (by omega)]
      refine ⟨⟨k + 1, by omega, rfl, ?_⟩, by omega⟩
      rw [List.take_succ_eq_append_getElem hlt, List.any_append, hall]; simp [hb]
  · have hge : k = l.length := by have : ¬ k < l.length := by simpa using hc
                                  omega
    simp only [go_sem, Nat.reduceMul, Nat.reduceLT, Nat.reduceLeDiff, Nat.reduceEqDiff, Nat.reduceBEq, Int.toNat_natCast, Int.reduceToNat, Int.reduceNeg, Int.reduceLT, Int.reduceLE, Int.reduceBEq, Int.reduceBNe, decide_true, decide_false, Bool.false_eq_true, false_imp_iff, Nat.lt_irrefl]
    refine Fin_plain ⟨-1, rfl, ?_⟩
    subst hge
    rw [List.take_length] at hall
    rw [hall]; rfl
theorem containsFn_ok (fn : Nat) (p : Str → Bool) (he : entersB Tryd.prog fn = true) (l : List Str) (c : Bool) (h : List AObj) (hf : ∀ s ∈ l, ∀ h, ACall Tryd.prog fn [.str s] h (fun r _ => r = .bool (p s))) (hl : l.length ≤ 9223372036854775807) : ACall Tryd.prog 28 [.fz c (strs l), .func (.func fn) [] []] h (fun r _ => r = .bool (l.any p)) := by
  (refine ACall.of_code Tryd.func28 rfl ?_; simp only [Tryd.f28]; simp only [go_sem, Nat.reduceMul, Nat.reduceLT, Nat.reduceLeDiff, Nat.reduceEqDiff, Nat.reduceBEq, Int.toNat_natCast, Int.reduceToNat, Int.reduceNeg, Int.reduceLT, Int.reduceLE, Int.reduceBEq, Int.reduceBNe, decide_true, decide_false, Bool.false_eq_true, false_imp_iff, Nat.lt_irrefl])
  refine ACallT.by (indexFn_ok fn p he l c _ hf hl) ?_
  rintro r h1 ⟨i, rfl, hi⟩
  simp only [go_sem, Nat.reduceMul, Nat.reduceLT, Nat.reduceLeDiff, Nat.reduceEqDiff, Nat.reduceBEq, Int.toNat_natCast, Int.reduceToNat, Int.reduceNeg, Int.reduceLT, Int.reduceLE, Int.reduceBEq, Int.reduceBNe, decide_true, decide_false, Bool.false_eq_true, false_imp_iff, Nat.lt_irrefl]
  exact Fin_plain (by rw [hi])
theorem right1_ok (s : Str) (h : List AObj) (hs : s.length ≤ 9223372036854775807) : ACall Tryd.prog 29 [.str s] h (fun r _ => r = .bool (!nameS s)) := by
  (refine ACall.of_code Tryd.func29 rfl ?_; simp only [Tryd.f29]; simp only [go_sem, Nat.reduceMul, Nat.reduceLT, Nat.reduceLeDiff, Nat.reduceEqDiff, Nat.reduceBEq, Int.toNat_natCast, Int.reduceToNat, Int.reduceNeg, Int.reduceLT, Int.reduceLE, Int.reduceBEq, Int.reduceBNe, decide_true, decide_false, Bool.false_eq_true, false_imp_iff, Nat.lt_irrefl])
  refine ACallT.by (name_ok s _ hs) ?_
  rintro r h1 rfl
  simp only [go_sem, Nat.reduceMul, Nat.reduceLT, Nat.reduceLeDiff, Nat.reduceEqDiff, Nat.reduceBEq, Int.toNat_natCast, Int.reduceToNat, Int.reduceNeg, Int.reduceLT, Int.reduceLE, Int.reduceBEq, Int.reduceBNe, decide_true, decide_false, Bool.false_eq_true, false_imp_iff, Nat.lt_irrefl]
  exact Fin_plain rfl
theorem getElem?_app0' {h : List AObj} {o : AObj} : (h ++ [o])[h.length]? = some o := by simp
def srt (l : List Str) : List Str := l.mergeSort fun x y => decide (x ≤ y)
def apartS (l : List Str) : Bool := ((Lib.compact (srt l)).length : Int) == ((srt l).length : Int)
def sizesS (d m : List Str) : Bool := decide (0 < d.length) && decide (d.length ≤ 6) && decide (m.length ≤ 4)
def rightS (d m : List Str) : Bool := apartS (d ++ m) && sizesS d m && !((srt (d ++ m)).any fun s => !nameS s)
theorem sizes_eq (d m : List Str) : (bif (bif decide ((0 : Int) < (d.length : Int)) then decide ((d.length : Int) ≤ 6) else false) then decide ((m.length : Int) ≤ 4) else false) = sizesS d m := by
  have e1 : decide ((0 : Int) < (d.length : Int)) = decide (0 < d.length) := by congr 1; simp
  have e2 : decide ((d.length : Int) ≤ 6) = decide (d.length ≤ 6) := by congr 1; simp; omega
  have e3 : decide ((m.length : Int) ≤ 4) = decide (m.length ≤ 4) := by congr 1; simp; omega
  rw [e1, e2, e3, sizesS]
  cases decide (0 < d.length) <;> cases decide (d.length ≤ 6) <;> rfl
theorem zero_sizes : (bif (bif decide ((0 : Int) < ((0 : Nat) : Int)) then decide (((0 : Nat) : Int) ≤ 6) else false) then decide (((0 : Nat) : Int) ≤ 4) else false) = false := by decide
theorem right_ok (c1 c2 : Bool) (d m : List Str) (h : List AObj) (hd : d.length + m.length ≤ 8796093022000) (hL : ∀ s ∈ d ++ m, s.length ≤ 9223372036854775807) : ACall Tryd.prog 11 [schA c1 c2 d m] h (fun r _ => r = .bool (rightS d m)) := by
  have ht : tot [(c1, d), (c2, m)] = d ++ m := by simp [tot]
  simp only [schA]
  (refine ACall.of_code Tryd.func11 rfl ?_; simp only [Tryd.f11]; simp only [go_sem, Nat.reduceMul, Nat.reduceLT, Nat.reduceLeDiff, Nat.reduceEqDiff, Nat.reduceBEq, Int.toNat_natCast, Int.reduceToNat, Int.reduceNeg, Int.reduceLT, Int.reduceLE, Int.reduceBEq, Int.reduceBNe, decide_true, decide_false, Bool.false_eq_true, false_imp_iff, Nat.lt_irrefl])
  refine ACallT.lastArg (s := 1) (h0 := h ++ [.arr 0 2 [schA c1 c2 d m]]) (l := fzs [(c1, d), (c2, m)]) (by intro y hy; simp only [fzs, List.mem_map] at hy; obtain ⟨p, _, rfl⟩ := hy; rfl) (by simp [schA, fzs]) (by simp [fzs]) (concat_own false _ _ (by simp) (by rw [ht, List.length_append]; omega)) ?_
  rintro r h3 ⟨ext, rfl, hR⟩
  rw [ht] at hR
  have hbx : ((h ++ [AObj.arr 0 2 [schA c1 c2 d m]]) ++ [AObj.dead] ++ ext)[h.length]? = some (.arr 0 2 [.agg [.fz c1 (strs d), .fz c2 (strs m)]]) := by simp [schA]
  have hlen : (d ++ m).length = d.length + m.length := List.length_append
  rw [show ((h ++ [AObj.arr 0 2 [schA c1 c2 d m]]) ++ [AObj.dead]).length = h.length + 2 by simp] at hR
  generalize ((h ++ [AObj.arr 0 2 [schA c1 c2 d m]]) ++ [AObj.dead] ++ ext) = H at *
  have hS : (srt (d ++ m)).length = (d ++ m).length := by simp [srt]
  have hR2 : rightS d m = ((((Lib.compact (srt (d ++ m))).length : Int) == ((srt (d ++ m)).length : Int)) && sizesS d m && !((srt (d ++ m)).any fun s => !nameS s)) := rfl
  generalize ha : d ++ m = a at *
  rcases hR with ⟨rfl, h0⟩ | ⟨t, g, htl, rfl, hg⟩
  · have hd0 : d = [] := List.length_eq_zero_iff.1 (by rw [h0] at hlen; simp at hlen; omega)
    have hm0 : m = [] := List.length_eq_zero_iff.1 (by rw [h0] at hlen; simp at hlen; omega)
    subst hd0 hm0
    simp only [go_sem, Nat.reduceMul, Nat.reduceLT, Nat.reduceLeDiff, Nat.reduceEqDiff, Nat.reduceBEq, Int.toNat_natCast, Int.reduceToNat, Int.reduceNeg, Int.reduceLT, Int.reduceLE, Int.reduceBEq, Int.reduceBNe, decide_true, decide_false, Bool.false_eq_true, false_imp_iff, Nat.lt_irrefl]
    refine ACallT.by (sort_nil true _) ?_
    rintro _ _ ⟨rfl, rfl⟩
    simp only [go_sem, Nat.reduceMul, Nat.reduceLT, Nat.reduceLeDiff, Nat.reduceEqDiff, Nat.reduceBEq, Int.toNat_natCast, Int.reduceToNat, Int.reduceNeg, Int.reduceLT, Int.reduceLE, Int.reduceBEq, Int.reduceBNe, decide_true, decide_false, Bool.false_eq_true, false_imp_iff, Nat.lt_irrefl]
    refine ACallT.by (clone_ok [] true _ (by simp)) ?_
    rename_i h3
    rintro r H3 (⟨-, rfl, rfl⟩ | ⟨g', rfl, rfl⟩)
    · simp only [go_sem, Nat.reduceMul, Nat.reduceLT, Nat.reduceLeDiff, Nat.reduceEqDiff, Nat.reduceBEq, Int.toNat_natCast, Int.reduceToNat, Int.reduceNeg, Int.reduceLT, Int.reduceLE, Int.reduceBEq, Int.reduceBNe, decide_true, decide_false, Bool.false_eq_true, false_imp_iff, Nat.lt_irrefl]
      refine ACallT.by (compact_nil true _) ?_
      rintro _ _ ⟨rfl, rfl⟩
      simp only [go_sem, hbx, Nat.reduceMul, Nat.reduceLT, Nat.reduceLeDiff, Nat.reduceEqDiff, Nat.reduceBEq, Int.toNat_natCast, Int.reduceToNat, Int.reduceNeg, Int.reduceLT, Int.reduceLE, Int.reduceBEq, Int.reduceBNe, decide_true, decide_false, Bool.false_eq_true, false_imp_iff, Nat.lt_irrefl]
      rw [zero_sizes]
      simp only [go_sem, Nat.reduceMul, Nat.reduceLT, Nat.reduceLeDiff, Nat.reduceEqDiff, Nat.reduceBEq, Int.toNat_natCast, Int.reduceToNat, Int.reduceNeg, Int.reduceLT, Int.reduceLE, Int.reduceBEq, Int.reduceBNe, decide_true, decide_false, Bool.false_eq_true, false_imp_iff, Nat.lt_irrefl]
      refine Fin_plain ?_
      rw [hR2, show sizesS [] [] = false from rfl, Bool.and_false]; rfl
    · have hb2 : (h3 ++ [AObj.arr g' 1 (strs [])])[h.length]? = some (.arr 0 2 [.agg [.fz c1 (strs []), .fz c2 (strs [])]]) := by
        rw [List.getElem?_append_left (List.getElem?_eq_some_iff.1 hbx).1]; exact hbx
      simp only [go_sem, Nat.reduceMul, Nat.reduceLT, Nat.reduceLeDiff, Nat.reduceEqDiff, Nat.reduceBEq, Int.toNat_natCast, Int.reduceToNat, Int.reduceNeg, Int.reduceLT, Int.reduceLE, Int.reduceBEq, Int.reduceBNe, decide_true, decide_false, Bool.false_eq_true, false_imp_iff, Nat.lt_irrefl]
      refine ACallT.by (compact_ok [] h3.length g' _ (by simp) getElem?_app0') ?_
      rintro _ _ ⟨rfl, rfl⟩
      have hb3 : ((h3 ++ [AObj.arr g' 1 (strs [])]).set h3.length (.arr g' 1 (strs (Lib.compact [] ++ List.replicate (([] : List Str).length - (Lib.compact ([] : List (List UInt8))).length) []))))[h.length]? = some (.arr 0 2 [.agg [.fz c1 (strs []), .fz c2 (strs [])]]) := by
        rw [List.getElem?_set_ne (by have := (List.getElem?_eq_some_iff.1 hbx).1; omega)]; exact hb2
      generalize ((h3 ++ [AObj.arr g' 1 (strs [])]).set h3.length (.arr g' 1 (strs (Lib.compact [] ++ List.replicate (([] : List Str).length - (Lib.compact ([] : List (List UInt8))).length) [])))) = H5 at hb3 ⊢
      have hc0 : (Lib.compact ([] : List (List UInt8))).length = 0 := by decide
      rw [hc0]
      simp only [go_sem, hb3, Nat.reduceMul, Nat.reduceLT, Nat.reduceLeDiff, Nat.reduceEqDiff, Nat.reduceBEq, Int.toNat_natCast, Int.reduceToNat, Int.reduceNeg, Int.reduceLT, Int.reduceLE, Int.reduceBEq, Int.reduceBNe, decide_true, decide_false, Bool.false_eq_true, false_imp_iff, Nat.lt_irrefl]
      rw [zero_sizes]
      simp only [go_sem, Nat.reduceMul, Nat.reduceLT, Nat.reduceLeDiff, Nat.reduceEqDiff, Nat.reduceBEq, Int.toNat_natCast, Int.reduceToNat, Int.reduceNeg, Int.reduceLT, Int.reduceLE, Int.reduceBEq, Int.reduceBNe, decide_true, decide_false, Bool.false_eq_true, false_imp_iff, Nat.lt_irrefl]
      refine Fin_plain ?_
      rw [hR2, show sizesS [] [] = false from rfl, Bool.and_false]; rfl
  · simp only [go_sem, Nat.reduceMul, Nat.reduceLT, Nat.reduceLeDiff, Nat.reduceEqDiff, Nat.reduceBEq, Int.toNat_natCast, Int.reduceToNat, Int.reduceNeg, Int.reduceLT, Int.reduceLE, Int.reduceBEq, Int.reduceBNe, decide_true, decide_false, Bool.false_eq_true, false_imp_iff, Nat.lt_irrefl]
    refine ACallT.by (sort_ok a t g H (by omega) hg) ?_
    rintro _ _ ⟨rfl, rfl⟩
    have htH := (List.getElem?_eq_some_iff.1 hg).1
    have hg2 : (H.set t (.arr g 1 (strs (srt a))))[t]? = some (.arr g 1 (strs (srt a))) := List.getElem?_set_self htH
    have hbx2 : (H.set t (.arr g 1 (strs (srt a))))[h.length]? = some (.arr 0 2 [.agg [.fz c1 (strs d), .fz c2 (strs m)]]) := by rw [List.getElem?_set_ne (by omega)]; exact hbx
    rw [show (AObj.arr g 1 (strs (a.mergeSort fun x y => decide (x ≤ y)))) = AObj.arr g 1 (strs (srt a)) from rfl]
    have htH2 : t < (H.set t (.arr g 1 (strs (srt a)))).length := by rw [List.length_set]; exact htH
    generalize H.set t (.arr g 1 (strs (srt a))) = H2 at *
    have hall : ∀ s ∈ srt a, s.length ≤ 9223372036854775807 := fun s hs => hL s (by rw [srt, List.mem_mergeSort] at hs; exact hs)
    rw [← hS]
    generalize srt a = S at *
    simp only [go_sem, Nat.reduceMul, Nat.reduceLT, Nat.reduceLeDiff, Nat.reduceEqDiff, Nat.reduceBEq, Int.toNat_natCast, Int.reduceToNat, Int.reduceNeg, Int.reduceLT, Int.reduceLE, Int.reduceBEq, Int.reduceBNe, decide_true, decide_false, Bool.false_eq_true, false_imp_iff, Nat.lt_irrefl]
    refine ACallT.by (clone_own S t g H2 (by omega) hg2) ?_
    rintro r H3 (⟨h0, rfl, rfl⟩ | ⟨g', rfl, rfl⟩)
    · have hd0 : d = [] := List.length_eq_zero_iff.1 (by rw [h0] at hS; simp at hS; omega)
      have hm0 : m = [] := List.length_eq_zero_iff.1 (by rw [h0] at hS; simp at hS; omega)
      subst hd0 hm0
      simp only [go_sem, Nat.reduceMul, Nat.reduceLT, Nat.reduceLeDiff, Nat.reduceEqDiff, Nat.reduceBEq, Int.toNat_natCast, Int.reduceToNat, Int.reduceNeg, Int.reduceLT, Int.reduceLE, Int.reduceBEq, Int.reduceBNe, decide_true, decide_false, Bool.false_eq_true, false_imp_iff, Nat.lt_irrefl]
      refine ACallT.by (compact_nil true _) ?_
      rintro _ _ ⟨rfl, rfl⟩
      simp only [go_sem, hbx2, Nat.reduceMul, Nat.reduceLT, Nat.reduceLeDiff, Nat.reduceEqDiff, Nat.reduceBEq, Int.toNat_natCast, Int.reduceToNat, Int.reduceNeg, Int.reduceLT, Int.reduceLE, Int.reduceBEq, Int.reduceBNe, decide_true, decide_false, Bool.false_eq_true, false_imp_iff, Nat.lt_irrefl]
      rw [zero_sizes]
      generalize (((0 : Nat) : Int) == (S.length : Int)) = z
      cases z <;>
      · simp only [go_sem, Nat.reduceMul, Nat.reduceLT, Nat.reduceLeDiff, Nat.reduceEqDiff, Nat.reduceBEq, Int.toNat_natCast, Int.reduceToNat, Int.reduceNeg, Int.reduceLT, Int.reduceLE, Int.reduceBEq, Int.reduceBNe, decide_true, decide_false, Bool.false_eq_true, false_imp_iff, Nat.lt_irrefl]
        refine Fin_plain ?_
        rw [hR2, show sizesS [] [] = false from rfl, Bool.and_false]; rfl
    · simp only [go_sem, Nat.reduceMul, Nat.reduceLT, Nat.reduceLeDiff, Nat.reduceEqDiff, Nat.reduceBEq, Int.toNat_natCast, Int.reduceToNat, Int.reduceNeg, Int.reduceLT, Int.reduceLE, Int.reduceBEq, Int.reduceBNe, decide_true, decide_false, Bool.false_eq_true, false_imp_iff, Nat.lt_irrefl]
      refine ACallT.by (compact_ok S H2.length g' _ (by omega) getElem?_app0') ?_
      rintro _ _ ⟨rfl, rfl⟩
      have hbx5 : ((H2 ++ [AObj.arr g' 1 (strs S)]).set H2.length (.arr g' 1 (strs (Lib.compact S ++ List.replicate (S.length - (Lib.compact S).length) []))))[h.length]? = some (.arr 0 2 [.agg [.fz c1 (strs d), .fz c2 (strs m)]]) := by
        rw [List.getElem?_set_ne (by omega), List.getElem?_append_left (by omega)]; exact hbx2
      have hg5 : ((H2 ++ [AObj.arr g' 1 (strs S)]).set H2.length (.arr g' 1 (strs (Lib.compact S ++ List.replicate (S.length - (Lib.compact S).length) []))))[t]? = some (.arr g 1 (strs S)) := by
        rw [List.getElem?_set_ne (by omega), List.getElem?_append_left htH2]; exact hg2
      generalize (H2 ++ [AObj.arr g' 1 (strs S)]).set H2.length (.arr g' 1 (strs (Lib.compact S ++ List.replicate (S.length - (Lib.compact S).length) []))) = H5 at *
      simp only [go_sem, hbx5, Nat.reduceMul, Nat.reduceLT, Nat.reduceLeDiff, Nat.reduceEqDiff, Nat.reduceBEq, Int.toNat_natCast, Int.reduceToNat, Int.reduceNeg, Int.reduceLT, Int.reduceLE, Int.reduceBEq, Int.reduceBNe, decide_true, decide_false, Bool.false_eq_true, false_imp_iff, Nat.lt_irrefl]
      have hB : (bif (((Lib.compact S).length : Int) == (S.length : Int)) then (bif (bif decide ((0 : Int) < (d.length : Int)) then decide ((d.length : Int) ≤ 6) else false) then decide ((m.length : Int) ≤ 4) else false) else false) = ((((Lib.compact S).length : Int) == (S.length : Int)) && sizesS d m) := by
        rw [sizes_eq]; cases (((Lib.compact S).length : Int) == (S.length : Int)) <;> rfl
      rw [hB]
      generalize ((((Lib.compact S).length : Int) == (S.length : Int)) && sizesS d m) = z at hR2 ⊢
      cases z with
      | false => simp only [go_sem, Nat.reduceMul, Nat.reduceLT, Nat.reduceLeDiff, Nat.reduceEqDiff, Nat.reduceBEq, Int.toNat_natCast, Int.reduceToNat, Int.reduceNeg, Int.reduceLT, Int.reduceLE, Int.reduceBEq, Int.reduceBNe, decide_true, decide_false, Bool.false_eq_true, false_imp_iff, Nat.lt_irrefl]; refine Fin_plain ?_; rw [hR2]; rfl
      | true =>
        simp only [go_sem, Nat.reduceMul, Nat.reduceLT, Nat.reduceLeDiff, Nat.reduceEqDiff, Nat.reduceBEq, Int.toNat_natCast, Int.reduceToNat, Int.reduceNeg, Int.reduceLT, Int.reduceLE, Int.reduceBEq, Int.reduceBNe, decide_true, decide_false, Bool.false_eq_true, false_imp_iff, Nat.lt_irrefl]
        refine ACallT.pure (by simp only [go_sem, hg5, Nat.reduceMul, Nat.reduceLT, Nat.reduceLeDiff, Nat.reduceEqDiff, Nat.reduceBEq, Int.toNat_natCast, Int.reduceToNat, Int.reduceNeg, Int.reduceLT, Int.reduceLE, Int.reduceBEq, Int.reduceBNe, decide_true, decide_false, Bool.false_eq_true, false_imp_iff, Nat.lt_irrefl]; rfl) (by first | trivial | assumption | (simp only [go_sem, Nat.reduceMul, Nat.reduceLT, Nat.reduceLeDiff, Nat.reduceEqDiff, Nat.reduceBEq, Int.toNat_natCast, Int.reduceToNat, Int.reduceNeg, Int.reduceLT, Int.reduceLE, Int.reduceBEq, Int.reduceBNe, decide_true, decide_false, Bool.false_eq_true, false_imp_iff, Nat.lt_irrefl]; done) | (simp only [go_sem, Nat.reduceMul, Nat.reduceLT, Nat.reduceLeDiff, Nat.reduceEqDiff, Nat.reduceBEq, Int.toNat_natCast, Int.reduceToNat, Int.reduceNeg, Int.reduceLT, Int.reduceLE, Int.reduceBEq, Int.reduceBNe, decide_true, decide_false, Bool.false_eq_true, false_imp_iff, Nat.lt_irrefl]; first | trivial | assumption | omega | decide | (refine ⟨?_, ?_⟩ <;> first | trivial | assumption | omega | decide))) (containsFn_ok 29 (fun s => !nameS s) en29 S false _ (fun s hs h => right1_ok s h (hall s hs)) (by omega)) ?_
        refine fun _ _ e => ?_
        subst e
        refine ⟨rfl, ?_⟩
        simp only [go_sem, Nat.reduceMul, Nat.reduceLT, Nat.reduceLeDiff, Nat.reduceEqDiff, Nat.reduceBEq, Int.toNat_natCast, Int.reduceToNat, Int.reduceNeg, Int.reduceLT, Int.reduceLE, Int.reduceBEq, Int.reduceBNe, decide_true, decide_false, Bool.false_eq_true, false_imp_iff, Nat.lt_irrefl]
        refine Fin_plain ?_
        rw [hR2]; rfl
end Go.Proofs.Vale
