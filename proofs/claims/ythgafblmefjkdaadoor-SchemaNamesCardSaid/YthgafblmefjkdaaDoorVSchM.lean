/- YthgafblmefjkdaaDoorVSchM: a text of the proof of this claim, by its prover. -/
import Derived.Test.YthgafblmefjkdaaDoorVSchL
set_option linter.unusedVariables false
set_option linter.unusedSimpArgs false
set_option maxHeartbeats 4000000
set_option maxRecDepth 100000
namespace Go.Proofs.Vale
open Go.Proofs Go.Proofs.YthgafblmefjkdaaDoorT
attribute [local irreducible] acode aopsL aopsT dopsL dopsT pop popG aop ALoop ADraw ACall AWP AFin acondT ALoopT ADrawT ACallT doP doG doGd

theorem ACallT.part {P : Program} {f : FuncId} {xs xs' : List AV} {h h2 : List AObj} {K : AV → List AObj → Prop} {t : Tag K} (T : Nat → Bool) (k : Nat) (hlen : h2.length = h.length) (hp : ∀ i o, h2[i]? = some o → PartO T h i o) (hl : xs.map (frzT T h k) = xs') (a : ACallT P f xs' h2 K t) : ACallT P f xs h K t := by
  unfold ACallT at a ⊢; exact ACall.partArgs T k hlen hp hl a
def T2 (n : Nat) (i : Nat) : Bool := i == n || i == n + 1
def al3 (n : Nat) : List AObj := [.arr 0 1 (strs cityL), .arr 0 1 (strs costL), .arr 0 2 [.agg [.sl n 0 1 0 2, .sl (n + 1) 0 1 0 1]]]
def al3' : List AObj := [.dead, .dead, .arr 0 2 [schA false false cityL costL]]
theorem al_frz (h : List AObj) : frzT (T2 h.length) (h ++ al3 h.length) 3 (.agg [.sl h.length 0 1 0 2, .sl (h.length + 1) 0 1 0 1]) = schA false false cityL costL := by
  have e1 : frzT (T2 h.length) (h ++ al3 h.length) 2 (.sl h.length 0 1 0 2) = .fz false (strs cityL) :=
    frzT_all (k := 0) (s := 1) (l := strs cityL) (by rw [getElem?_app0]; rfl) (by simp [T2]) rfl (flatS _)
  have e2 : frzT (T2 h.length) (h ++ al3 h.length) 2 (.sl (h.length + 1) 0 1 0 1) = .fz false (strs costL) :=
    frzT_all (k := 0) (s := 1) (l := strs costL) (by rw [getElem?_app]; rfl) (by simp [T2]) rfl (flatS _)
  show AV.agg ([AV.sl h.length 0 1 0 2, AV.sl (h.length + 1) 0 1 0 1].map (frzT (T2 h.length) (h ++ al3 h.length) 2)) = _
  rw [List.map_cons, List.map_cons, e1, e2]; rfl
theorem al_part (h : List AObj) : ∀ i o, (h ++ al3')[i]? = some o → PartO (T2 h.length) (h ++ al3 h.length) i o := by
  intro i o ho
  rcases Nat.lt_or_ge i h.length with q | q
  · refine PartO.same (by simp [T2]; omega) ?_
    rw [List.getElem?_append_left q] at ho ⊢; exact ho
  · obtain ⟨j, rfl⟩ : ∃ j, i = h.length + j := ⟨i - h.length, by omega⟩
    rw [getElem?_app] at ho
    match j, ho with
    | 0, ho => injection ho with ho; exact .inl ho.symm
    | 1, ho => injection ho with ho; exact .inl ho.symm
    | 2, ho =>
      injection ho with ho
      refine .inr ⟨by simp [T2], .inr ⟨0, 2, [.agg [.sl h.length 0 1 0 2, .sl (h.length + 1) 0 1 0 1]], 3, by rw [getElem?_app]; rfl, ?_, ?_⟩⟩
      · rw [List.map_cons, al_frz]; exact ho.symm
      · intro y hy; simp only [List.mem_singleton] at hy; subst hy; rw [al_frz]; rfl
    | j + 3, ho => simp [al3'] at ho
def alE : List Str := [[], [120, 32, 121]]
def al5 (n : Nat) : List AObj := [.dead, .dead, .arr 0 2 [schA false false cityL costL], .arr 0 1 (strs alE), .arr 0 1 (intsA [-4])]
def al5' : List AObj := [.dead, .dead, .arr 0 2 [schA false false cityL costL], .dead, .dead]
theorem flatInts (l : List Int) : ∀ y ∈ intsA l, flatX y = true := by
  intro y hy; simp only [intsA, List.mem_map] at hy; obtain ⟨b, _, rfl⟩ := hy; rfl
theorem al_frz5 (h : List AObj) : frzT (T2 (h.length + 3)) (h ++ al5 h.length) 3 (.agg [.int .i64 3, .sl (h.length + 3) 0 1 0 2, .sl (h.length + 4) 0 1 0 1]) = evA' 3 false false alE [-4] := by
  have e1 : frzT (T2 (h.length + 3)) (h ++ al5 h.length) 2 (.sl (h.length + 3) 0 1 0 2) = .fz false (strs alE) :=
    frzT_all (k := 0) (s := 1) (l := strs alE) (by rw [getElem?_app]; rfl) (by simp [T2]) rfl (flatS _)
  have e2 : frzT (T2 (h.length + 3)) (h ++ al5 h.length) 2 (.sl (h.length + 4) 0 1 0 1) = .fz false (intsA [-4]) :=
    frzT_all (k := 0) (s := 1) (l := intsA [-4]) (by rw [getElem?_app]; rfl) (by simp [T2]) rfl (flatInts _)
  show AV.agg ([AV.int .i64 3, AV.sl (h.length + 3) 0 1 0 2, AV.sl (h.length + 4) 0 1 0 1].map (frzT (T2 (h.length + 3)) (h ++ al5 h.length) 2)) = _
  rw [List.map_cons, List.map_cons, List.map_cons, e1, e2]; rfl
theorem al_part5 (h : List AObj) : ∀ i o, (h ++ al5')[i]? = some o → PartO (T2 (h.length + 3)) (h ++ al5 h.length) i o := by
  intro i o ho
  rcases Nat.lt_or_ge i h.length with q | q
  · refine PartO.same (by simp [T2]; omega) ?_
    rw [List.getElem?_append_left q] at ho ⊢; exact ho
  · obtain ⟨j, rfl⟩ : ∃ j, i = h.length + j := ⟨i - h.length, by omega⟩
    rw [getElem?_app] at ho
    match j, ho with
    | 0, ho => injection ho with ho; exact .inl ho.symm
    | 1, ho => injection ho with ho; exact .inl ho.symm
    | 2, ho => exact PartO.same (by simp [T2]) (by rw [getElem?_app]; exact ho)
    | 3, ho => injection ho with ho; exact .inl ho.symm
    | 4, ho => injection ho with ho; exact .inl ho.symm
    | j + 5, ho => simp [al5'] at ho
theorem alive_ok (h : List AObj) : ACall Tryd.prog 8 [] h (fun r _ => r = .bool true) := by
  have hd : ∀ h, ACall Tryd.prog 12 [schA false false cityL costL, .str [107, 105, 110, 100]] h (fun r _ => r = .tup [.int .i64 1, .bool true]) := fun h => by
    have := dim_ok false false cityL costL [107, 105, 110, 100] h (by decide)
    rw [v3] at this; exact this
  have hr : ∀ h, ACall Tryd.prog 11 [schA false false cityL costL] h (fun r _ => r = .bool true) := fun h => by
    have := right_ok false false cityL costL h (by decide) (by decide)
    rw [right_alive] at this; exact this
  have hv : ∀ s ∈ alE, ValOk s := fun s hs h => value_ok s h (by revert s; decide) (by revert s; decide)
  have hc : ∀ h, ACall Tryd.prog 15 [schA false false cityL costL, evA' 3 false false alE [-4]] h (fun r _ => r = .int .i64 0) := fun h => by
    have := check_ok false false false false cityL costL alE 3 [-4] h (by decide) (by decide) hv
    rw [show checkS cityL costL 3 alE [-4] = 0 from c1] at this; exact this
  have hn1 : ∀ h, ACall Tryd.prog 9 [.str [97, 95, 49]] h (fun r _ => r = .bool true) := fun h => by
    have := name_ok [97, 95, 49] h (by decide); rw [n1] at this; exact this
  have hn2 : ∀ h, ACall Tryd.prog 9 [.str [115, 117, 109]] h (fun r _ => r = .bool false) := fun h => by
    have := name_ok [115, 117, 109] h (by decide); rw [n2] at this; exact this
  have hv1 : ∀ h, ACall Tryd.prog 10 [.str [97, 34]] h (fun r _ => r = .bool false) := fun h => by
    have := value_ok [97, 34] h (by decide) (by decide); rw [v1] at this; exact this
  (refine ACall.of_code Tryd.func8 rfl ?_; simp only [Tryd.f8]; simp only [go_sem, Nat.reduceMul, Nat.reduceLT, Nat.reduceLeDiff, Nat.reduceEqDiff, Nat.reduceBEq, Int.toNat_natCast, Int.reduceToNat, Int.reduceNeg, Int.reduceLT, Int.reduceLE, Int.reduceBEq, Int.reduceBNe, decide_true, decide_false, Bool.false_eq_true, false_imp_iff, Nat.lt_irrefl])
  refine ACallT.part (xs' := [schA false false cityL costL, .str [107, 105, 110, 100]]) (h2 := h ++ al3') (T2 h.length) 3 (by simp [al3']) (al_part h) (by rw [List.map_cons]; exact congrArg (fun z => [z, AV.str [107, 105, 110, 100]]) (al_frz h)) ?_
  simp only [al3', schA]
  (refine ACallT.pure (by simp only [go_sem, Nat.reduceMul, Nat.reduceLT, Nat.reduceLeDiff, Nat.reduceEqDiff, Nat.reduceBEq, Int.toNat_natCast, Int.reduceToNat, Int.reduceNeg, Int.reduceLT, Int.reduceLE, Int.reduceBEq, Int.reduceBNe, decide_true, decide_false, Bool.false_eq_true, false_imp_iff, Nat.lt_irrefl]; rfl) (by first | trivial | assumption | (simp only [go_sem, Nat.reduceMul, Nat.reduceLT, Nat.reduceLeDiff, Nat.reduceEqDiff, Nat.reduceBEq, Int.toNat_natCast, Int.reduceToNat, Int.reduceNeg, Int.reduceLT, Int.reduceLE, Int.reduceBEq, Int.reduceBNe, decide_true, decide_false, Bool.false_eq_true, false_imp_iff, Nat.lt_irrefl]; done) | (simp only [go_sem, Nat.reduceMul, Nat.reduceLT, Nat.reduceLeDiff, Nat.reduceEqDiff, Nat.reduceBEq, Int.toNat_natCast, Int.reduceToNat, Int.reduceNeg, Int.reduceLT, Int.reduceLE, Int.reduceBEq, Int.reduceBNe, decide_true, decide_false, Bool.false_eq_true, false_imp_iff, Nat.lt_irrefl]; first | trivial | assumption | omega | decide | (refine ⟨?_, ?_⟩ <;> first | trivial | assumption | omega | decide))) (hd _) ?_; refine fun _ _ e => ?_; subst e; refine ⟨rfl, ?_⟩; simp only [go_sem, Nat.reduceMul, Nat.reduceLT, Nat.reduceLeDiff, Nat.reduceEqDiff, Nat.reduceBEq, Int.toNat_natCast, Int.reduceToNat, Int.reduceNeg, Int.reduceLT, Int.reduceLE, Int.reduceBEq, Int.reduceBNe, decide_true, decide_false, Bool.false_eq_true, false_imp_iff, Nat.lt_irrefl])
  (refine ACallT.pure (by simp only [go_sem, Nat.reduceMul, Nat.reduceLT, Nat.reduceLeDiff, Nat.reduceEqDiff, Nat.reduceBEq, Int.toNat_natCast, Int.reduceToNat, Int.reduceNeg, Int.reduceLT, Int.reduceLE, Int.reduceBEq, Int.reduceBNe, decide_true, decide_false, Bool.false_eq_true, false_imp_iff, Nat.lt_irrefl]; rfl) (by first | trivial | assumption | (simp only [go_sem, Nat.reduceMul, Nat.reduceLT, Nat.reduceLeDiff, Nat.reduceEqDiff, Nat.reduceBEq, Int.toNat_natCast, Int.reduceToNat, Int.reduceNeg, Int.reduceLT, Int.reduceLE, Int.reduceBEq, Int.reduceBNe, decide_true, decide_false, Bool.false_eq_true, false_imp_iff, Nat.lt_irrefl]; done) | (simp only [go_sem, Nat.reduceMul, Nat.reduceLT, Nat.reduceLeDiff, Nat.reduceEqDiff, Nat.reduceBEq, Int.toNat_natCast, Int.reduceToNat, Int.reduceNeg, Int.reduceLT, Int.reduceLE, Int.reduceBEq, Int.reduceBNe, decide_true, decide_false, Bool.false_eq_true, false_imp_iff, Nat.lt_irrefl]; first | trivial | assumption | omega | decide | (refine ⟨?_, ?_⟩ <;> first | trivial | assumption | omega | decide))) (hr _) ?_; refine fun _ _ e => ?_; subst e; refine ⟨rfl, ?_⟩; simp only [go_sem, Nat.reduceMul, Nat.reduceLT, Nat.reduceLeDiff, Nat.reduceEqDiff, Nat.reduceBEq, Int.toNat_natCast, Int.reduceToNat, Int.reduceNeg, Int.reduceLT, Int.reduceLE, Int.reduceBEq, Int.reduceBNe, decide_true, decide_false, Bool.false_eq_true, false_imp_iff, Nat.lt_irrefl])
  refine ACallT.part (xs' := [schA false false cityL costL, evA' 3 false false alE [-4]]) (h2 := h ++ al5') (T2 (h.length + 3)) 3 (by simp [al5']) (al_part5 h) (congrArg (fun z => [schA false false cityL costL, z]) (al_frz5 h)) ?_
  simp only [al5', schA, evA']
  (refine ACallT.pure (by simp only [go_sem, Nat.reduceMul, Nat.reduceLT, Nat.reduceLeDiff, Nat.reduceEqDiff, Nat.reduceBEq, Int.toNat_natCast, Int.reduceToNat, Int.reduceNeg, Int.reduceLT, Int.reduceLE, Int.reduceBEq, Int.reduceBNe, decide_true, decide_false, Bool.false_eq_true, false_imp_iff, Nat.lt_irrefl]; rfl) (by first | trivial | assumption | (simp only [go_sem, Nat.reduceMul, Nat.reduceLT, Nat.reduceLeDiff, Nat.reduceEqDiff, Nat.reduceBEq, Int.toNat_natCast, Int.reduceToNat, Int.reduceNeg, Int.reduceLT, Int.reduceLE, Int.reduceBEq, Int.reduceBNe, decide_true, decide_false, Bool.false_eq_true, false_imp_iff, Nat.lt_irrefl]; done) | (simp only [go_sem, Nat.reduceMul, Nat.reduceLT, Nat.reduceLeDiff, Nat.reduceEqDiff, Nat.reduceBEq, Int.toNat_natCast, Int.reduceToNat, Int.reduceNeg, Int.reduceLT, Int.reduceLE, Int.reduceBEq, Int.reduceBNe, decide_true, decide_false, Bool.false_eq_true, false_imp_iff, Nat.lt_irrefl]; first | trivial | assumption | omega | decide | (refine ⟨?_, ?_⟩ <;> first | trivial | assumption | omega | decide))) (hc _) ?_; refine fun _ _ e => ?_; subst e; refine ⟨rfl, ?_⟩; simp only [go_sem, Nat.reduceMul, Nat.reduceLT, Nat.reduceLeDiff, Nat.reduceEqDiff, Nat.reduceBEq, Int.toNat_natCast, Int.reduceToNat, Int.reduceNeg, Int.reduceLT, Int.reduceLE, Int.reduceBEq, Int.reduceBNe, decide_true, decide_false, Bool.false_eq_true, false_imp_iff, Nat.lt_irrefl])
  (refine ACallT.pure (by simp only [go_sem, Nat.reduceMul, Nat.reduceLT, Nat.reduceLeDiff, Nat.reduceEqDiff, Nat.reduceBEq, Int.toNat_natCast, Int.reduceToNat, Int.reduceNeg, Int.reduceLT, Int.reduceLE, Int.reduceBEq, Int.reduceBNe, decide_true, decide_false, Bool.false_eq_true, false_imp_iff, Nat.lt_irrefl]; rfl) (by first | trivial | assumption | (simp only [go_sem, Nat.reduceMul, Nat.reduceLT, Nat.reduceLeDiff, Nat.reduceEqDiff, Nat.reduceBEq, Int.toNat_natCast, Int.reduceToNat, Int.reduceNeg, Int.reduceLT, Int.reduceLE, Int.reduceBEq, Int.reduceBNe, decide_true, decide_false, Bool.false_eq_true, false_imp_iff, Nat.lt_irrefl]; done) | (simp only [go_sem, Nat.reduceMul, Nat.reduceLT, Nat.reduceLeDiff, Nat.reduceEqDiff, Nat.reduceBEq, Int.toNat_natCast, Int.reduceToNat, Int.reduceNeg, Int.reduceLT, Int.reduceLE, Int.reduceBEq, Int.reduceBNe, decide_true, decide_false, Bool.false_eq_true, false_imp_iff, Nat.lt_irrefl]; first | trivial | assumption | omega | decide | (refine ⟨?_, ?_⟩ <;> first | trivial | assumption | omega | decide))) (hn1 _) ?_; refine fun _ _ e => ?_; subst e; refine ⟨rfl, ?_⟩; simp only [go_sem, Nat.reduceMul, Nat.reduceLT, Nat.reduceLeDiff, Nat.reduceEqDiff, Nat.reduceBEq, Int.toNat_natCast, Int.reduceToNat, Int.reduceNeg, Int.reduceLT, Int.reduceLE, Int.reduceBEq, Int.reduceBNe, decide_true, decide_false, Bool.false_eq_true, false_imp_iff, Nat.lt_irrefl])
  (refine ACallT.pure (by simp only [go_sem, Nat.reduceMul, Nat.reduceLT, Nat.reduceLeDiff, Nat.reduceEqDiff, Nat.reduceBEq, Int.toNat_natCast, Int.reduceToNat, Int.reduceNeg, Int.reduceLT, Int.reduceLE, Int.reduceBEq, Int.reduceBNe, decide_true, decide_false, Bool.false_eq_true, false_imp_iff, Nat.lt_irrefl]; rfl) (by first | trivial | assumption | (simp only [go_sem, Nat.reduceMul, Nat.reduceLT, Nat.reduceLeDiff, Nat.reduceEqDiff, Nat.reduceBEq, Int.toNat_natCast, Int.reduceToNat, Int.reduceNeg, Int.reduceLT, Int.reduceLE, Int.reduceBEq, Int.reduceBNe, decide_true, decide_false, Bool.false_eq_true, false_imp_iff, Nat.lt_irrefl]; done) | (simp only [go_sem, Nat.reduceMul, Nat.reduceLT, Nat.reduceLeDiff, Nat.reduceEqDiff, Nat.reduceBEq, Int.toNat_natCast, Int.reduceToNat, Int.reduceNeg, Int.reduceLT, Int.reduceLE, Int.reduceBEq, Int.reduceBNe, decide_true, decide_false, Bool.false_eq_true, false_imp_iff, Nat.lt_irrefl]; first | trivial | assumption | omega | decide | (refine ⟨?_, ?_⟩ <;> first | trivial | assumption | omega | decide))) (hn2 _) ?_; refine fun _ _ e => ?_; subst e; refine ⟨rfl, ?_⟩; simp only [go_sem, Nat.reduceMul, Nat.reduceLT, Nat.reduceLeDiff, Nat.reduceEqDiff, Nat.reduceBEq, Int.toNat_natCast, Int.reduceToNat, Int.reduceNeg, Int.reduceLT, Int.reduceLE, Int.reduceBEq, Int.reduceBNe, decide_true, decide_false, Bool.false_eq_true, false_imp_iff, Nat.lt_irrefl])
  (refine ACallT.pure (by simp only [go_sem, Nat.reduceMul, Nat.reduceLT, Nat.reduceLeDiff, Nat.reduceEqDiff, Nat.reduceBEq, Int.toNat_natCast, Int.reduceToNat, Int.reduceNeg, Int.reduceLT, Int.reduceLE, Int.reduceBEq, Int.reduceBNe, decide_true, decide_false, Bool.false_eq_true, false_imp_iff, Nat.lt_irrefl]; rfl) (by first | trivial | assumption | (simp only [go_sem, Nat.reduceMul, Nat.reduceLT, Nat.reduceLeDiff, Nat.reduceEqDiff, Nat.reduceBEq, Int.toNat_natCast, Int.reduceToNat, Int.reduceNeg, Int.reduceLT, Int.reduceLE, Int.reduceBEq, Int.reduceBNe, decide_true, decide_false, Bool.false_eq_true, false_imp_iff, Nat.lt_irrefl]; done) | (simp only [go_sem, Nat.reduceMul, Nat.reduceLT, Nat.reduceLeDiff, Nat.reduceEqDiff, Nat.reduceBEq, Int.toNat_natCast, Int.reduceToNat, Int.reduceNeg, Int.reduceLT, Int.reduceLE, Int.reduceBEq, Int.reduceBNe, decide_true, decide_false, Bool.false_eq_true, false_imp_iff, Nat.lt_irrefl]; first | trivial | assumption | omega | decide | (refine ⟨?_, ?_⟩ <;> first | trivial | assumption | omega | decide))) (hv1 _) ?_; refine fun _ _ e => ?_; subst e; refine ⟨rfl, ?_⟩; simp only [go_sem, Nat.reduceMul, Nat.reduceLT, Nat.reduceLeDiff, Nat.reduceEqDiff, Nat.reduceBEq, Int.toNat_natCast, Int.reduceToNat, Int.reduceNeg, Int.reduceLT, Int.reduceLE, Int.reduceBEq, Int.reduceBNe, decide_true, decide_false, Bool.false_eq_true, false_imp_iff, Nat.lt_irrefl])
  exact Fin_plain rfl
end Go.Proofs.Vale
