/- YtinajnnflgpjbaaVDictB: a text of the proof of this claim, by its prover. -/
import Derived.Test.YtinajnnflgpjbaaVDictA
import Derived.Test.YtinajnnflgpjbaaVDictS
import Derived.Lib.RowBridge
set_option linter.unusedVariables false
set_option linter.unusedSimpArgs false
set_option maxHeartbeats 4000000
set_option maxRecDepth 100000
namespace Go.Proofs.Vale
open Go.Proofs Go.Proofs.YtinajnnflgpjbaaT
attribute [local irreducible] acode aopsL aopsT dopsL dopsT pop popG aop ALoop ADraw ACall AWP AFin acondT ALoopT ADrawT ACallT doP doG doGd

theorem clone_ok (l : List Str) (c : Bool) (h : List AObj) (hl : l.length ≤ 8796093022000) : ACall Try.prog 42 [.fz c (strs l)] h (fun r h' => (l = [] ∧ r = .fz true [] ∧ h' = h) ∨ ∃ g, r = .sl h.length g 1 0 l.length ∧ h' = h ++ [.arr g 1 (strs l)]) := by
  (refine ACall.of_code Try.func42 rfl ?_; simp only [Try.f42]; simp only [go_sem, Nat.reduceMul, Nat.reduceLT, Nat.reduceLeDiff, Nat.reduceEqDiff, Nat.reduceBEq, Int.toNat_natCast, Int.reduceToNat, Int.reduceNeg, Int.reduceLT, Int.reduceLE, Int.reduceBEq, Int.reduceBNe, decide_true, decide_false, Bool.false_eq_true, false_imp_iff, Nat.lt_irrefl])
  intro b hb
  cases b with
  | true =>
    simp only [go_sem, Nat.reduceMul, Nat.reduceLT, Nat.reduceLeDiff, Nat.reduceEqDiff, Nat.reduceBEq, Int.toNat_natCast, Int.reduceToNat, Int.reduceNeg, Int.reduceLT, Int.reduceLE, Int.reduceBEq, Int.reduceBNe, decide_true, decide_false, Bool.false_eq_true, false_imp_iff, Nat.lt_irrefl]
    have : l = [] := by have := hb rfl; cases l with
      | nil => rfl
      | cons a l => simp [strs] at this
    refine Fin_plain (.inl ⟨this, rfl, rfl⟩)
  | false =>
    simp only [go_sem, Nat.reduceMul, Nat.reduceLT, Nat.reduceLeDiff, Nat.reduceEqDiff, Nat.reduceBEq, Int.toNat_natCast, Int.reduceToNat, Int.reduceNeg, Int.reduceLT, Int.reduceLE, Int.reduceBEq, Int.reduceBNe, decide_true, decide_false, Bool.false_eq_true, false_imp_iff, Nat.lt_irrefl]
    have hall : (strs l).all (okEl 1) = true := by simp [strs, okEl, AV.cells, AV.one]
    refine ⟨⟨by omega, by omega, hall⟩, ?_⟩
    refine Fin_plain (.inr ⟨1, rfl, rfl⟩)
theorem sort_ok (ss : List Str) (t g : Nat) (h : List AObj) (hl : ss.length < 4611686018427387904) (ht : h[t]? = some (.arr g 1 (strs ss))) : ACall Try.prog 43 [.sl t g 1 0 ss.length] h (fun r h' => r = .tup [] ∧ h' = h.set t (.arr g 1 (strs (ss.mergeSort fun x y => decide (x ≤ y))))) := by
  refine inplace_ok (R := .tup []) (rv := fun _ _ => .tuple #[]) (by simp) ht ?_ ?_ ?_
  · intro blk cap w hH hb hc
    exact Try.slices_Sort_string blk 0 cap ss w hH hb hl
  · intro w hss; subst hss
    exact Try.slices_Sort_string_none none 0 w
  · intro β fr H a cap _
    simp [Rep]
theorem compact_ok (ss : List Str) (t g : Nat) (h : List AObj) (hl : ss.length < 4611686018427387904) (ht : h[t]? = some (.arr g 1 (strs ss))) : ACall Try.prog 44 [.sl t g 1 0 ss.length] h (fun r h' => r = .sl t g 1 0 (Lib.compact ss).length ∧ h' = h.set t (.arr g 1 (strs (Lib.compact ss ++ List.replicate (ss.length - (Lib.compact ss).length) [])))) := by
  have hle : (Lib.compact ss).length ≤ ss.length := Lib.compact_length_le ss
  refine inplace_ok (R := .sl t g 1 0 (Lib.compact ss).length) (rv := fun a c => .slice a (Lib.compact ss).length c) (by simp; omega) ht ?_ ?_ ?_
  · intro blk cap w hH hb hc
    refine (Try.slices_Compact_string blk 0 cap ss w hH (by omega) hc).mono ?_
    rintro e w' ⟨rfl, q, rfl⟩
    exact ⟨rfl, q, #[], by simp [Go.Sort.grow_empty]⟩
  · intro w hss; subst hss
    exact (Try.slices_Compact_string_empty none 0 w)
  · intro β fr H a cap hr
    simp only [Rep] at hr ⊢
    rcases hr with ⟨hb, _, h0, hv⟩ | ⟨b, c, e, f, cap', hb, hH, hv, hcap, hl⟩
    · injection hv with h1 h2 h3; subst h1 h3
      have : (Lib.compact ss).length = 0 := by omega
      exact .inl ⟨hb, trivial, this, by rw [this]⟩
    · injection hv with h1 h2 h3; subst h1 h3
      exact .inr ⟨b, c, e, f, cap, hb, hH, rfl, hcap, by omega⟩
theorem sort_nil (c : Bool) (h : List AObj) : ACall Try.prog 43 [.fz c []] h (fun r h' => r = .tup [] ∧ h' = h) :=
  nil_call (R := .tup []) (rv := fun _ _ => .tuple #[]) (fun a cap w => Try.slices_Sort_string_none a cap w) (fun β fr H a cap _ => by simp [Rep])
theorem compact_nil (c : Bool) (h : List AObj) : ACall Try.prog 44 [.fz c []] h (fun r h' => r = .fz c [] ∧ h' = h) :=
  nil_call (R := .fz c []) (rv := fun a cap => .slice a 0 cap) (fun a cap w => Try.slices_Compact_string_empty a cap w) (fun β fr H a cap q => q)
theorem indexF_ok (l : List Str) (c : Bool) (h : List AObj) (hl : l.length ≤ 4611686018427387904) : ACall Try.prog 67 [.fz c (strs l), .func (.func 46) [] []] h (fun r _ => ∃ i : Int, r = .int .i64 i ∧ decide (0 ≤ i) = l.any fun s => !dfits s) := by
  (refine ACall.of_code Try.func67 rfl ?_; simp only [Try.f67]; simp only [go_sem, Nat.reduceMul, Nat.reduceLT, Nat.reduceLeDiff, Nat.reduceEqDiff, Nat.reduceBEq, Int.toNat_natCast, Int.reduceToNat, Int.reduceNeg, Int.reduceLT, Int.reduceLE, Int.reduceBEq, Int.reduceBNe, decide_true, decide_false, Bool.false_eq_true, false_imp_iff, Nat.lt_irrefl])
  refine ALoop.over [4, 5, 8, 9, 10, 11, 12, 13, 14, 15, 16, 17, 18] (fun e h' => ∃ k : Nat, k ≤ l.length ∧ e.getD 8 .any = .int .i64 k ∧ (l.take k).any (fun s => !dfits s) = false) (fun e _ => l.length - natA (e.getD 8 .any)) ⟨0, by simp, rfl, by simp⟩ ?_
  simp only [List.length_cons, List.length_nil, Nat.reduceAdd, allL_succ, allL_zero]
  intro y4 y5 y8 y9 y10 y11 y12 y13 y14 y15 y16 y17 y18 h' hI
  simp only [go_sem] at hI
  obtain ⟨k, hk, rfl, hall⟩ := hI
  simp only [go_sem, Nat.reduceMul, Nat.reduceLT, Nat.reduceLeDiff, Nat.reduceEqDiff, Nat.reduceBEq, Int.toNat_natCast, Int.reduceToNat, Int.reduceNeg, Int.reduceLT, Int.reduceLE, Int.reduceBEq, Int.reduceBNe, decide_true, decide_false, Bool.false_eq_true, false_imp_iff, Nat.lt_irrefl]
  refine acond_intro (fun hc => ?_) (fun hc => ?_)
  · have hlt : k < l.length := by simpa using hc
    simp only [go_sem, strs_get l _ hlt, Nat.reduceMul, Nat.reduceLT, Nat.reduceLeDiff, Nat.reduceEqDiff, Nat.reduceBEq, Int.toNat_natCast, Int.reduceToNat, Int.reduceNeg, Int.reduceLT, Int.reduceLE, Int.reduceBEq, Int.reduceBNe, decide_true, decide_false, Bool.false_eq_true, false_imp_iff, Nat.lt_irrefl]
    refine ⟨⟨by omega, by omega⟩, ?_⟩
    (refine ACallT.pure (by simp only [go_sem, Nat.reduceMul, Nat.reduceLT, Nat.reduceLeDiff, Nat.reduceEqDiff, Nat.reduceBEq, Int.toNat_natCast, Int.reduceToNat, Int.reduceNeg, Int.reduceLT, Int.reduceLE, Int.reduceBEq, Int.reduceBNe, decide_true, decide_false, Bool.false_eq_true, false_imp_iff, Nat.lt_irrefl]; rfl) (by first | trivial | assumption | (simp only [go_sem, Nat.reduceMul, Nat.reduceLT, Nat.reduceLeDiff, Nat.reduceEqDiff, Nat.reduceBEq, Int.toNat_natCast, Int.reduceToNat, Int.reduceNeg, Int.reduceLT, Int.reduceLE, Int.reduceBEq, Int.reduceBNe, decide_true, decide_false, Bool.false_eq_true, false_imp_iff, Nat.lt_irrefl]; done) | (simp only [go_sem, Nat.reduceMul, Nat.reduceLT, Nat.reduceLeDiff, Nat.reduceEqDiff, Nat.reduceBEq, Int.toNat_natCast, Int.reduceToNat, Int.reduceNeg, Int.reduceLT, Int.reduceLE, Int.reduceBEq, Int.reduceBNe, decide_true, decide_false, Bool.false_eq_true, false_imp_iff, Nat.lt_irrefl]; first | trivial | assumption | omega | decide | (refine ⟨?_, ?_⟩ <;> first | trivial | assumption | omega | decide))) (new1_ok l[k] _) ?_; refine fun _ _ e => ?_; subst e; refine ⟨rfl, ?_⟩)
    generalize hb : dfits l[k] = b
    cases b with
    | false =>
      simp only [go_sem, Nat.reduceMul, Nat.reduceLT, Nat.reduceLeDiff, Nat.reduceEqDiff, Nat.reduceBEq, Int.toNat_natCast, Int.reduceToNat, Int.reduceNeg, Int.reduceLT, Int.reduceLE, Int.reduceBEq, Int.reduceBNe, decide_true, decide_false, Bool.false_eq_true, false_imp_iff, Nat.lt_irrefl]
      refine Fin_plain ⟨k, rfl, ?_⟩
      have : l.any (fun s => !dfits s) = true := by rw [List.any_eq_true]; exact ⟨l[k], List.getElem_mem _, by simp [hb]⟩
      rw [this]; simp
    | true =>
      simp only [go_sem, Nat.reduceMul, Nat.reduceLT, Nat.reduceLeDiff, Nat.reduceEqDiff, Nat.reduceBEq, Int.toNat_natCast, Int.reduceToNat, Int.reduceNeg, Int.reduceLT, Int.reduceLE, Int.reduceBEq, Int.reduceBNe, decide_true, decide_false, Bool.false_eq_true, false_imp_iff, Nat.lt_irrefl]
      rw [wrap_id (by omega) (by omega)]
      refine ⟨⟨k + 1, by omega, rfl, ?_⟩, by omega⟩
      rw [List.take_succ_eq_append_getElem hlt, List.any_append, hall]; simp [hb]
  · have hge : k = l.length := by have : ¬ k < l.length := by simpa using hc
                                  omega
    simp only [go_sem, Nat.reduceMul, Nat.reduceLT, Nat.reduceLeDiff, Nat.reduceEqDiff, Nat.reduceBEq, Int.toNat_natCast, Int.reduceToNat, Int.reduceNeg, Int.reduceLT, Int.reduceLE, Int.reduceBEq, Int.reduceBNe, decide_true, decide_false, Bool.false_eq_true, false_imp_iff, Nat.lt_irrefl]
    refine Fin_plain ⟨-1, rfl, ?_⟩
    subst hge
    rw [List.take_length] at hall; rw [hall]; rfl
theorem containsF_ok (l : List Str) (c : Bool) (h : List AObj) (hl : l.length ≤ 4611686018427387904) : ACall Try.prog 45 [.fz c (strs l), .func (.func 46) [] []] h (fun r _ => r = .bool (l.any fun s => !dfits s)) := by
  (refine ACall.of_code Try.func45 rfl ?_; simp only [Try.f45]; simp only [go_sem, Nat.reduceMul, Nat.reduceLT, Nat.reduceLeDiff, Nat.reduceEqDiff, Nat.reduceBEq, Int.toNat_natCast, Int.reduceToNat, Int.reduceNeg, Int.reduceLT, Int.reduceLE, Int.reduceBEq, Int.reduceBNe, decide_true, decide_false, Bool.false_eq_true, false_imp_iff, Nat.lt_irrefl])
  refine ACallT.pure (by simp only [go_sem, Nat.reduceMul, Nat.reduceLT, Nat.reduceLeDiff, Nat.reduceEqDiff, Nat.reduceBEq, Int.toNat_natCast, Int.reduceToNat, Int.reduceNeg, Int.reduceLT, Int.reduceLE, Int.reduceBEq, Int.reduceBNe, decide_true, decide_false, Bool.false_eq_true, false_imp_iff, Nat.lt_irrefl]; rfl) (by first | trivial | assumption | (simp only [go_sem, Nat.reduceMul, Nat.reduceLT, Nat.reduceLeDiff, Nat.reduceEqDiff, Nat.reduceBEq, Int.toNat_natCast, Int.reduceToNat, Int.reduceNeg, Int.reduceLT, Int.reduceLE, Int.reduceBEq, Int.reduceBNe, decide_true, decide_false, Bool.false_eq_true, false_imp_iff, Nat.lt_irrefl]; done) | (simp only [go_sem, Nat.reduceMul, Nat.reduceLT, Nat.reduceLeDiff, Nat.reduceEqDiff, Nat.reduceBEq, Int.toNat_natCast, Int.reduceToNat, Int.reduceNeg, Int.reduceLT, Int.reduceLE, Int.reduceBEq, Int.reduceBNe, decide_true, decide_false, Bool.false_eq_true, false_imp_iff, Nat.lt_irrefl]; first | trivial | assumption | omega | decide | (refine ⟨?_, ?_⟩ <;> first | trivial | assumption | omega | decide))) (indexF_ok l c _ hl) ?_
  rintro _ _ ⟨i, rfl, hi⟩
  refine ⟨rfl, ?_⟩
  simp only [go_sem, Nat.reduceMul, Nat.reduceLT, Nat.reduceLeDiff, Nat.reduceEqDiff, Nat.reduceBEq, Int.toNat_natCast, Int.reduceToNat, Int.reduceNeg, Int.reduceLT, Int.reduceLE, Int.reduceBEq, Int.reduceBNe, decide_true, decide_false, Bool.false_eq_true, false_imp_iff, Nat.lt_irrefl]
  refine Fin_plain ?_
  rw [hi]
/-- The texts of the dictionary of a list, rising. -/
def newL (l : List Str) : List Str := Lib.compact (l.mergeSort fun x y => decide (x ≤ y))
def newOk (l : List Str) : Bool := decide ((newL l).length ≤ 65536) && (newL l).all dfits
theorem new_ok (l : List Str) (c : Bool) (h : List AObj) (hl : l.length ≤ 8796093022000) : ACall Try.prog 25 [.fz c (strs l)] h (fun r _ => ∃ c', r = if newOk l then .tup [dictA (some c') (newL l), .int .i64 0] else .tup [.nilp, .int .i64 61]) := by
  (refine ACall.of_code Try.func25 rfl ?_; simp only [Try.f25]; simp only [go_sem, Nat.reduceMul, Nat.reduceLT, Nat.reduceLeDiff, Nat.reduceEqDiff, Nat.reduceBEq, Int.toNat_natCast, Int.reduceToNat, Int.reduceNeg, Int.reduceLT, Int.reduceLE, Int.reduceBEq, Int.reduceBNe, decide_true, decide_false, Bool.false_eq_true, false_imp_iff, Nat.lt_irrefl])
  refine ACallT.by (clone_ok l c _ hl) ?_
  rintro _ _ (⟨rfl, rfl, rfl⟩ | ⟨g, rfl, rfl⟩)
  · simp only [go_sem, Nat.reduceMul, Nat.reduceLT, Nat.reduceLeDiff, Nat.reduceEqDiff, Nat.reduceBEq, Int.toNat_natCast, Int.reduceToNat, Int.reduceNeg, Int.reduceLT, Int.reduceLE, Int.reduceBEq, Int.reduceBNe, decide_true, decide_false, Bool.false_eq_true, false_imp_iff, Nat.lt_irrefl]
    refine ACallT.by (sort_nil true _) ?_
    rintro _ _ ⟨rfl, rfl⟩
    simp only [go_sem, Nat.reduceMul, Nat.reduceLT, Nat.reduceLeDiff, Nat.reduceEqDiff, Nat.reduceBEq, Int.toNat_natCast, Int.reduceToNat, Int.reduceNeg, Int.reduceLT, Int.reduceLE, Int.reduceBEq, Int.reduceBNe, decide_true, decide_false, Bool.false_eq_true, false_imp_iff, Nat.lt_irrefl]
    refine ACallT.by (compact_nil true _) ?_
    rintro _ _ ⟨rfl, rfl⟩
    simp only [go_sem, Nat.reduceMul, Nat.reduceLT, Nat.reduceLeDiff, Nat.reduceEqDiff, Nat.reduceBEq, Int.toNat_natCast, Int.reduceToNat, Int.reduceNeg, Int.reduceLT, Int.reduceLE, Int.reduceBEq, Int.reduceBNe, decide_true, decide_false, Bool.false_eq_true, false_imp_iff, Nat.lt_irrefl]
    generalize hb : decide ((65536 : Int) < ((0 : Nat) : Int)) = b
    obtain rfl : b = false := by rw [← hb]; decide
    simp only [go_sem, Nat.reduceMul, Nat.reduceLT, Nat.reduceLeDiff, Nat.reduceEqDiff, Nat.reduceBEq, Int.toNat_natCast, Int.reduceToNat, Int.reduceNeg, Int.reduceLT, Int.reduceLE, Int.reduceBEq, Int.reduceBNe, decide_true, decide_false, Bool.false_eq_true, false_imp_iff, Nat.lt_irrefl]
    (refine ACallT.pure (by simp only [go_sem, Nat.reduceMul, Nat.reduceLT, Nat.reduceLeDiff, Nat.reduceEqDiff, Nat.reduceBEq, Int.toNat_natCast, Int.reduceToNat, Int.reduceNeg, Int.reduceLT, Int.reduceLE, Int.reduceBEq, Int.reduceBNe, decide_true, decide_false, Bool.false_eq_true, false_imp_iff, Nat.lt_irrefl]; rfl) (by first | trivial | assumption | (simp only [go_sem, Nat.reduceMul, Nat.reduceLT, Nat.reduceLeDiff, Nat.reduceEqDiff, Nat.reduceBEq, Int.toNat_natCast, Int.reduceToNat, Int.reduceNeg, Int.reduceLT, Int.reduceLE, Int.reduceBEq, Int.reduceBNe, decide_true, decide_false, Bool.false_eq_true, false_imp_iff, Nat.lt_irrefl]; done) | (simp only [go_sem, Nat.reduceMul, Nat.reduceLT, Nat.reduceLeDiff, Nat.reduceEqDiff, Nat.reduceBEq, Int.toNat_natCast, Int.reduceToNat, Int.reduceNeg, Int.reduceLT, Int.reduceLE, Int.reduceBEq, Int.reduceBNe, decide_true, decide_false, Bool.false_eq_true, false_imp_iff, Nat.lt_irrefl]; first | trivial | assumption | omega | decide | (refine ⟨?_, ?_⟩ <;> first | trivial | assumption | omega | decide))) (containsF_ok [] true _ (by simp)) ?_; refine fun _ _ e => ?_; subst e; refine ⟨rfl, ?_⟩; simp only [go_sem, Nat.reduceMul, Nat.reduceLT, Nat.reduceLeDiff, Nat.reduceEqDiff, Nat.reduceBEq, Int.toNat_natCast, Int.reduceToNat, Int.reduceNeg, Int.reduceLT, Int.reduceLE, Int.reduceBEq, Int.reduceBNe, decide_true, decide_false, Bool.false_eq_true, false_imp_iff, Nat.lt_irrefl])
    generalize hb : ([] : List Str).any (fun s => !dfits s) = b
    obtain rfl : b = false := by rw [← hb]; rfl
    simp only [go_sem, Nat.reduceMul, Nat.reduceLT, Nat.reduceLeDiff, Nat.reduceEqDiff, Nat.reduceBEq, Int.toNat_natCast, Int.reduceToNat, Int.reduceNeg, Int.reduceLT, Int.reduceLE, Int.reduceBEq, Int.reduceBNe, decide_true, decide_false, Bool.false_eq_true, false_imp_iff, Nat.lt_irrefl]
    refine Fin_freeze 5 ?_; refine ⟨true, ?_⟩
    simp only [go_sem, Nat.reduceMul, Nat.reduceLT, Nat.reduceLeDiff, Nat.reduceEqDiff, Nat.reduceBEq, Int.toNat_natCast, Int.reduceToNat, Int.reduceNeg, Int.reduceLT, Int.reduceLE, Int.reduceBEq, Int.reduceBNe, decide_true, decide_false, Bool.false_eq_true, false_imp_iff, Nat.lt_irrefl]
    have h0 : newL [] = [] := by
      have := Lib.compact_length_le (([] : List Str).mergeSort fun x y => decide (x ≤ y))
      simp only [List.mergeSort_nil, List.length_nil] at this
      exact List.length_eq_zero_iff.1 (by simp only [newL, List.mergeSort_nil]; omega)
    have h1 : newOk [] = true := by simp [newOk, h0]
    rw [h1, h0]; rfl
  · simp only [go_sem, Nat.reduceMul, Nat.reduceLT, Nat.reduceLeDiff, Nat.reduceEqDiff, Nat.reduceBEq, Int.toNat_natCast, Int.reduceToNat, Int.reduceNeg, Int.reduceLT, Int.reduceLE, Int.reduceBEq, Int.reduceBNe, decide_true, decide_false, Bool.false_eq_true, false_imp_iff, Nat.lt_irrefl]
    refine ACallT.by (sort_ok l _ g _ (by omega) (by simp)) ?_
    rintro _ _ ⟨rfl, rfl⟩
    simp only [go_sem, Nat.reduceMul, Nat.reduceLT, Nat.reduceLeDiff, Nat.reduceEqDiff, Nat.reduceBEq, Int.toNat_natCast, Int.reduceToNat, Int.reduceNeg, Int.reduceLT, Int.reduceLE, Int.reduceBEq, Int.reduceBNe, decide_true, decide_false, Bool.false_eq_true, false_imp_iff, Nat.lt_irrefl]
    have hlen : (l.mergeSort fun x y => decide (x ≤ y)).length = l.length := by simp
    have hcp := compact_ok (l.mergeSort fun x y => decide (x ≤ y)) h.length g (h ++ [AObj.arr g 1 (strs (l.mergeSort fun x y => decide (x ≤ y)))]) (by omega) (by simp)
    rw [hlen] at hcp
    refine ACallT.by hcp ?_
    rintro _ _ ⟨rfl, rfl⟩
    simp only [go_sem, Nat.reduceMul, Nat.reduceLT, Nat.reduceLeDiff, Nat.reduceEqDiff, Nat.reduceBEq, Int.toNat_natCast, Int.reduceToNat, Int.reduceNeg, Int.reduceLT, Int.reduceLE, Int.reduceBEq, Int.reduceBNe, decide_true, decide_false, Bool.false_eq_true, false_imp_iff, Nat.lt_irrefl]
    have hle : (newL l).length ≤ l.length := by rw [← hlen]; exact Lib.compact_length_le _
    have hok : newOk l = (decide ((newL l).length ≤ 65536) && (newL l).all dfits) := rfl
    generalize hC : newL l = C at hle hok ⊢
    have hC2 : Lib.compact (l.mergeSort fun x y => decide (x ≤ y)) = C := hC
    generalize Lib.compact (l.mergeSort fun x y => decide (x ≤ y)) = C' at hC2 ⊢
    subst hC2
    generalize hR : List.replicate (l.length - C'.length) ([] : Str) = R
    generalize hb : decide ((65536 : Int) < (C'.length : Int)) = b
    cases b with
    | true =>
      have := of_decide_eq_true hb
      simp only [go_sem, Nat.reduceMul, Nat.reduceLT, Nat.reduceLeDiff, Nat.reduceEqDiff, Nat.reduceBEq, Int.toNat_natCast, Int.reduceToNat, Int.reduceNeg, Int.reduceLT, Int.reduceLE, Int.reduceBEq, Int.reduceBNe, decide_true, decide_false, Bool.false_eq_true, false_imp_iff, Nat.lt_irrefl]
      refine Fin_plain ?_; refine ⟨true, ?_⟩
      have : newOk l = false := by rw [hok]; simp; omega
      rw [this]; rfl
    | false =>
      have hb := of_decide_eq_false hb
      simp only [go_sem, Nat.reduceMul, Nat.reduceLT, Nat.reduceLeDiff, Nat.reduceEqDiff, Nat.reduceBEq, Int.toNat_natCast, Int.reduceToNat, Int.reduceNeg, Int.reduceLT, Int.reduceLE, Int.reduceBEq, Int.reduceBNe, decide_true, decide_false, Bool.false_eq_true, false_imp_iff, Nat.lt_irrefl]
      have hx : List.take C'.length (strs (C' ++ R)) = strs C' := by simp [strs]
      have hx2 : List.take C'.length (strs (C' ++ R)) = strs C' := hx
      refine ACallT.pure (as' := [.fz false (strs C'), .func (.func 46) [] []]) (p := True) (by simp only [go_sem, Nat.reduceMul, Nat.reduceLT, Nat.reduceLeDiff, Nat.reduceEqDiff, Nat.reduceBEq, Int.toNat_natCast, Int.reduceToNat, Int.reduceNeg, Int.reduceLT, Int.reduceLE, Int.reduceBEq, Int.reduceBNe, decide_true, decide_false, Bool.false_eq_true, false_imp_iff, Nat.lt_irrefl]; rw [hx]; simp [strs_len]) trivial (containsF_ok C' false _ (by omega)) ?_
      refine fun _ _ e => ?_; subst e; refine ⟨rfl, ?_⟩
      simp only [go_sem, Nat.reduceMul, Nat.reduceLT, Nat.reduceLeDiff, Nat.reduceEqDiff, Nat.reduceBEq, Int.toNat_natCast, Int.reduceToNat, Int.reduceNeg, Int.reduceLT, Int.reduceLE, Int.reduceBEq, Int.reduceBNe, decide_true, decide_false, Bool.false_eq_true, false_imp_iff, Nat.lt_irrefl]
      generalize hb2 : (C'.any fun s => !dfits s) = b
      cases b with
      | true =>
        simp only [go_sem, Nat.reduceMul, Nat.reduceLT, Nat.reduceLeDiff, Nat.reduceEqDiff, Nat.reduceBEq, Int.toNat_natCast, Int.reduceToNat, Int.reduceNeg, Int.reduceLT, Int.reduceLE, Int.reduceBEq, Int.reduceBNe, decide_true, decide_false, Bool.false_eq_true, false_imp_iff, Nat.lt_irrefl]
        refine Fin_plain ?_; refine ⟨true, ?_⟩
        have : newOk l = false := by
          have : C'.all dfits = false := by rw [List.all_eq_not_any_not, hb2]; rfl
          simp [hok, this]
        rw [this]; rfl
      | false =>
        simp only [go_sem, Nat.reduceMul, Nat.reduceLT, Nat.reduceLeDiff, Nat.reduceEqDiff, Nat.reduceBEq, Int.toNat_natCast, Int.reduceToNat, Int.reduceNeg, Int.reduceLT, Int.reduceLE, Int.reduceBEq, Int.reduceBNe, decide_true, decide_false, Bool.false_eq_true, false_imp_iff, Nat.lt_irrefl]
        refine Fin_freeze 5 ?_
        have hokt : newOk l = true := by
          have h1 : C'.all dfits = true := by rw [List.all_eq_not_any_not, hb2]; rfl
          rw [hok, h1]; simp; omega
        refine ⟨false, ?_⟩
        rw [hokt]
        simp only [go_sem, Nat.reduceMul, Nat.reduceLT, Nat.reduceLeDiff, Nat.reduceEqDiff, Nat.reduceBEq, Int.toNat_natCast, Int.reduceToNat, Int.reduceNeg, Int.reduceLT, Int.reduceLE, Int.reduceBEq, Int.reduceBNe, decide_true, decide_false, Bool.false_eq_true, false_imp_iff, Nat.lt_irrefl]
        rw [frzO_flat (by simp [strs_len]) (flatS _)]
        simp only [List.drop_zero, hx, dictA]
end Go.Proofs.Vale
