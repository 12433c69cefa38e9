/- YtmhcmpeffhlaeaaGreatVDimG: a text of the proof of this claim, by its prover. -/
import Derived.Test.YtmhcmpeffhlaeaaGreatVDimF
import Derived.Test.YtmhcmpeffhlaeaaGreatVDictB
set_option linter.unusedVariables false
set_option linter.unusedSimpArgs false
set_option maxHeartbeats 4000000
set_option maxRecDepth 100000
namespace Go.Proofs.Vale
open Go.Proofs Go.Proofs.YtmhcmpeffhlaeaaGreatT
attribute [local irreducible] acode aopsL aopsT dopsL dopsT pop popG aop ALoop ADraw ACall AWP AFin acondT ALoopT ADrawT ACallT doP doG doGd

/-! ### Lists without anything in them -/
theorem iclone0_ok (c : Bool) (h : List AObj) : ACall Tryz.prog 111 [.fz c []] h (fun r h' => (r = .fz true [] ∧ h' = h) ∨ ∃ g, r = .sl h.length g 1 0 0 ∧ h' = h ++ [.arr g 1 []]) := by
  (refine ACall.of_code Tryz.func111 rfl ?_; simp only [Tryz.f111]; simp only [go_sem, Nat.reduceMul, Nat.reduceLT, Nat.reduceLeDiff, Nat.reduceEqDiff, Nat.reduceBEq, Int.toNat_natCast, Int.reduceToNat, Int.reduceNeg, Int.reduceLT, Int.reduceLE, Int.reduceBEq, Int.reduceBNe, decide_true, decide_false, Bool.false_eq_true, false_imp_iff, Nat.lt_irrefl])
  intro b
  cases b with
  | true =>
    simp only [go_sem, Nat.reduceMul, Nat.reduceLT, Nat.reduceLeDiff, Nat.reduceEqDiff, Nat.reduceBEq, Int.toNat_natCast, Int.reduceToNat, Int.reduceNeg, Int.reduceLT, Int.reduceLE, Int.reduceBEq, Int.reduceBNe, decide_true, decide_false, Bool.false_eq_true, false_imp_iff, Nat.lt_irrefl]
    exact Fin_plain (.inl ⟨rfl, rfl⟩)
  | false =>
    simp only [go_sem, Nat.reduceMul, Nat.reduceLT, Nat.reduceLeDiff, Nat.reduceEqDiff, Nat.reduceBEq, Int.toNat_natCast, Int.reduceToNat, Int.reduceNeg, Int.reduceLT, Int.reduceLE, Int.reduceBEq, Int.reduceBNe, decide_true, decide_false, Bool.false_eq_true, false_imp_iff, Nat.lt_irrefl]
    exact Fin_plain (.inr ⟨1, rfl, rfl⟩)
def xEmp (args : List AV) (m : Mem) : OV :=
  match args with
  | [x] => (match x with
    | .fz c l => (match l with
      | [] => bif m.ok then .val (.fz false []) (m.push .dead) else .none
      | _ :: _ => .none)
    | _ => .none)
  | _ => .none
theorem xEmp_ok {f : FuncId} (k : ∀ c h, ACall Tryz.prog f [.fz c []] h (fun r h' => (r = .fz true [] ∧ h' = h) ∨ ∃ g, r = .sl h.length g 1 0 0 ∧ h' = h ++ [.arr g 1 []])) (args : List AV) (m m' : Mem) (x : AV) (h : xEmp args m = .val x m') : ACall Tryz.prog f args m.L fun y g => y = x ∧ g = m'.L := by
  unfold xEmp at h
  split at h
  · split at h
    · split at h
      · rename_i c _
        obtain ⟨hb, h⟩ := bifv h
        simp only [OV.val.injEq] at h
        obtain ⟨rfl, rfl⟩ := h
        refine ACall.weak (ACall.junk (K2 := fun r h' => (∃ c, r = .fz c []) ∧ h' = m.L ++ [.dead]) 1 4 (k c m.L) ?_) ?_
        · rintro r h' (⟨rfl, rfl⟩ | ⟨g, rfl, rfl⟩)
          · exact ⟨[], by simp, by simp, ⟨true, rfl⟩, rfl⟩
          · refine ⟨_, rfl, by simp, ⟨false, ?_⟩, rfl⟩
            simp [frzT]
        · rintro r h' ⟨⟨c, rfl⟩, rfl⟩
          exact ⟨.fz false [], fun _ _ _ _ => rep_cut, rfl, by rw [Mem.push_L _ hb]⟩
      · cases h
    · cases h
  · cases h
theorem newL_nil : newL [] = [] := by simp only [newL, List.mergeSort_nil]; rfl
def xDic (args : List AV) (m : Mem) : OV :=
  match args with
  | [x] => (match x with
    | .fz c l => (match l with
      | [] => .val (.tup [dictA (some false) [], .int .i64 0]) m
      | _ :: _ => .none)
    | _ => .none)
  | _ => .none
theorem rep_dict {β : Beta} {fr : Nat → Prop} {H : Array Obj} {c : Bool} {l : List Str} {v : Value} (r : Rep β fr H (dictA (some c) l) v) : Rep β fr H (dictA (some false) l) v := by
  simp only [dictA, Rep] at r ⊢
  obtain ⟨a, h1, h2, h3, h4⟩ := r
  refine ⟨a, h1, h2, h3, fun j hj => ?_⟩
  have hj0 : j = 0 := by simp [AV.cells] at hj; omega
  subst hj0
  obtain ⟨u, hu, hr⟩ := h4 0 (by simp [AV.cells])
  exact ⟨u, hu, rep_cut hr⟩
theorem xDic_ok (args : List AV) (m m' : Mem) (x : AV) (h : xDic args m = .val x m') : ACall Tryz.prog 28 args m.L fun y g => y = x ∧ g = m'.L := by
  unfold xDic at h
  split at h
  · split at h
    · split at h
      · rename_i c _
        simp only [OV.val.injEq] at h
        obtain ⟨rfl, rfl⟩ := h
        refine ACall.frame (ACall.weak (new_ok [] c (deadH m.L) (by simp)) ?_)
        rintro r h' ⟨c', rfl⟩
        have hn : newOk [] = true := by simp [newOk, newL_nil]
        rw [hn, newL_nil]
        exact ⟨_, fun _ _ _ _ => rep_tup2 fun _ => rep_dict, rfl, rfl, rfl⟩
      · cases h
    · cases h
  · cases h
def dimY (g : FuncId) : XS :=
  match g with
  | 117 => .some xHas
  | 101 => .some xCnt
  | 77 => .some xBat
  | 78 => .some xStr
  | 30 => .some xEmp
  | 111 => .some xEmp
  | 28 => .some xDic
  | _ => .none
theorem dimY_ok : XOk Tryz.prog dimY := by
  intro g q hq args m x m' h
  unfold dimY at hq
  split at hq
  · injection hq with hq; subst hq; exact xHas_ok _ _ _ _ h
  · injection hq with hq; subst hq; exact xCnt_ok _ _ _ _ h
  · injection hq with hq; subst hq; exact xBat_ok _ _ _ _ h
  · injection hq with hq; subst hq; exact xStr_ok _ _ _ _ h
  · injection hq with hq; subst hq
    refine xEmp_ok (fun c h => (clone_ok [] c h (by simp)).mono fun r h' q => ?_) _ _ _ _ h
    rcases q with ⟨-, rfl, rfl⟩ | ⟨g, rfl, rfl⟩
    · exact .inl ⟨rfl, rfl⟩
    · exact .inr ⟨g, rfl, rfl⟩
  · injection hq with hq; subst hq; exact xEmp_ok iclone0_ok _ _ _ _ h
  · injection hq with hq; subst hq; exact xDic_ok _ _ _ _ h
  · cases hq
def bmN : AV := .ptr (.agg (List.replicate 256 .nilp))
theorem bmN_cells : bmN.cells = [bmN] := rfl
/-- The column without rows. -/
def colN : AV := .ptr (.agg [dictA (some false) [], .fz true [], .fz false [bmN]])
theorem newNil_ok (h : List AObj) : ACall Tryz.prog 9 [.fz true []] h (fun r _ => r = .tup [colN, .int .i64 0]) :=
  closedF_any mixedOrdersD dimY_ok 100000 100 _ _ rfl 8 _ (by kernel_rfl) (by kernel_rfl) h
theorem bytesNil_ok (h : List AObj) : ACall Tryz.prog 21 [.nilp] h (fun r _ => r = .fz false (bytesA [0, 2, 0, 0, 2, 0])) :=
  closedF_any mixedOrdersD dimY_ok 100000 100 _ _ rfl 8 _ (by kernel_rfl) (by kernel_rfl) h
theorem bytesN_ok (h : List AObj) : ACall Tryz.prog 21 [colN] h (fun r _ => r = .fz false (bytesA [0, 2, 0, 0, 2, 0])) :=
  closedF_any mixedOrdersD dimY_ok 100000 100 _ _ (by kernel_rfl) 8 _ (by kernel_rfl) (by kernel_rfl) h
theorem runsN_ok (h : List AObj) : ACall Tryz.prog 36 [bmN] h (fun r _ => r = .fz true []) :=
  closedF_any mixedOrdersD dimY_ok 100000 100 _ _ (by kernel_rfl) 8 _ (by kernel_rfl) (by kernel_rfl) h
end Go.Proofs.Vale
