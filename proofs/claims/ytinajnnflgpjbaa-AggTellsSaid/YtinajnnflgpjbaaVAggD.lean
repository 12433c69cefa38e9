/- YtinajnnflgpjbaaVAggD: a text of the proof of this claim, by its prover. -/
import Derived.Test.YtinajnnflgpjbaaVAggC
import Derived.Test.YtinajnnflgpjbaaVU
set_option linter.unusedVariables false
set_option linter.unusedSimpArgs false
set_option maxHeartbeats 4000000
set_option maxRecDepth 100000
namespace Go.Proofs.Vale
open Go.Proofs Go.Proofs.YtinajnnflgpjbaaT
attribute [local irreducible] acode aopsL aopsT dopsL dopsT pop popG aop ALoop ADraw ACall AWP AFin acondT ALoopT ADrawT ACallT doP doG doGd

theorem mixedOrders : Try.prog.follows .mixedOrders = true := by kernel_rfl
theorem sum_lo {m : Int} : ∀ (l : List Int), (∀ x ∈ l, m ≤ x) → (l.length : Int) * m ≤ l.sum
  | [], _ => by simp
  | x :: l, h => by
    have h1 := sum_lo l fun y hy => h y (by simp [hy])
    have h2 := h x (by simp)
    simp only [List.length_cons, List.sum_cons, Int.natCast_add, Int.add_mul]
    omega
theorem sum_hi {m : Int} : ∀ (l : List Int), (∀ x ∈ l, x ≤ m) → l.sum ≤ (l.length : Int) * m
  | [], _ => by simp
  | x :: l, h => by
    have h1 := sum_hi l fun y hy => h y (by simp [hy])
    have h2 := h x (by simp)
    simp only [List.length_cons, List.sum_cons, Int.natCast_add, Int.add_mul]
    omega
theorem ssz_le {m : Int} (hm : 0 ≤ m) : ∀ (l : List Int), (∀ x ∈ l, -m ≤ x ∧ x ≤ m) → (∀ x ∈ l, fitsI x = true) → ssz l ≤ (l.length : Int) * m
  | [], _, _ => by simp [ssz]
  | x :: l, h, hf => by
    have h1 := ssz_le hm l (fun y hy => h y (by simp [hy])) (fun y hy => hf y (by simp [hy]))
    have h2 := h x (by simp)
    have h3 : sizeF x ≤ m := by simp only [sizeF, hf x (by simp), if_true]; split <;> omega
    simp only [ssz, List.length_cons, List.map_cons, List.sum_cons, Int.natCast_add, Int.add_mul] at h1 ⊢
    omega
theorem mem_step (l : List Int) (k : Nat) (hlt : k < l.length) (x : Int) : (bif decide (x ∈ l.take k) then true else l[k] == x) = decide (x ∈ l.take (k + 1)) := by
  have h : x ∈ l.take (k + 1) ↔ x ∈ l.take k ∨ x = l[k] := by rw [List.take_succ_eq_append_getElem hlt, List.mem_append, List.mem_singleton]
  by_cases q : x ∈ l.take k
  · rw [decide_eq_true q, decide_eq_true (h.2 (.inl q))]; rfl
  · rw [decide_eq_false q]
    by_cases e : x = l[k]
    · rw [decide_eq_true (h.2 (.inr e))]; simp [e]
    · rw [decide_eq_false (fun z => (h.1 z).elim q e)]
      show (l[k] == x) = false
      rw [beq_eq_false_iff_ne]; exact fun z => e z.symm
theorem f5_ok (l : List Int) (c : Bool) (h : List AObj) (hl : l.length ≤ 9223372036854775807) : ACall Try.prog 5 [.fz c (ints l)] h (fun r _ => r = .bool true) := by
  (refine ACall.of_code Try.func5 rfl ?_; simp only [Try.f5]; simp only [go_sem, Nat.reduceMul, Nat.reduceLT, Nat.reduceLeDiff, Nat.reduceEqDiff, Nat.reduceBEq, Int.toNat_natCast, Int.reduceToNat, Int.reduceNeg, Int.reduceLT, Int.reduceLE, Int.reduceBEq, Int.reduceBNe, decide_true, decide_false, Bool.false_eq_true, false_imp_iff, Nat.lt_irrefl])
  have hlen := ints_len l
  refine acond_intro (fun hc => ?_) (fun hc => ?_)
  · simp only [go_sem, Nat.reduceMul, Nat.reduceLT, Nat.reduceLeDiff, Nat.reduceEqDiff, Nat.reduceBEq, Int.toNat_natCast, Int.reduceToNat, Int.reduceNeg, Int.reduceLT, Int.reduceLE, Int.reduceBEq, Int.reduceBNe, decide_true, decide_false, Bool.false_eq_true, false_imp_iff, Nat.lt_irrefl]
    (refine ACallT.pure (by simp only [go_sem, Nat.reduceMul, Nat.reduceLT, Nat.reduceLeDiff, Nat.reduceEqDiff, Nat.reduceBEq, Int.toNat_natCast, Int.reduceToNat, Int.reduceNeg, Int.reduceLT, Int.reduceLE, Int.reduceBEq, Int.reduceBNe, decide_true, decide_false, Bool.false_eq_true, false_imp_iff, Nat.lt_irrefl]; rfl) (by first | trivial | assumption | (simp only [go_sem, Nat.reduceMul, Nat.reduceLT, Nat.reduceLeDiff, Nat.reduceEqDiff, Nat.reduceBEq, Int.toNat_natCast, Int.reduceToNat, Int.reduceNeg, Int.reduceLT, Int.reduceLE, Int.reduceBEq, Int.reduceBNe, decide_true, decide_false, Bool.false_eq_true, false_imp_iff, Nat.lt_irrefl]; done) | (simp only [go_sem, Nat.reduceMul, Nat.reduceLT, Nat.reduceLeDiff, Nat.reduceEqDiff, Nat.reduceBEq, Int.toNat_natCast, Int.reduceToNat, Int.reduceNeg, Int.reduceLT, Int.reduceLE, Int.reduceBEq, Int.reduceBNe, decide_true, decide_false, Bool.false_eq_true, false_imp_iff, Nat.lt_irrefl]; first | trivial | assumption | omega | decide | (refine ⟨?_, ?_⟩ <;> first | trivial | assumption | omega | decide))) (f12_ok _) ?_; refine fun _ _ e => ?_; subst e; refine ⟨rfl, ?_⟩; simp only [go_sem, Nat.reduceMul, Nat.reduceLT, Nat.reduceLeDiff, Nat.reduceEqDiff, Nat.reduceBEq, Int.toNat_natCast, Int.reduceToNat, Int.reduceNeg, Int.reduceLT, Int.reduceLE, Int.reduceBEq, Int.reduceBNe, decide_true, decide_false, Bool.false_eq_true, false_imp_iff, Nat.lt_irrefl])
    exact Fin_plain rfl
  have hb : 0 < l.length ∧ l.length ≤ 200 := by
    rw [hlen] at hc
    by_cases q : 200 < (l.length : Int)
    · simp [q] at hc
    · simp [q] at hc
      have : l.length ≠ 0 := by simpa using hc
      omega
  clear hc
  simp only [go_sem, Nat.reduceMul, Nat.reduceLT, Nat.reduceLeDiff, Nat.reduceEqDiff, Nat.reduceBEq, Int.toNat_natCast, Int.reduceToNat, Int.reduceNeg, Int.reduceLT, Int.reduceLE, Int.reduceBEq, Int.reduceBNe, decide_true, decide_false, Bool.false_eq_true, false_imp_iff, Nat.lt_irrefl]
  refine ALoop.over [2, 3, 19, 20, 21, 22, 23, 24, 25, 26, 27, 28, 29, 30, 31, 32, 33, 34, 35, 36, 37] (fun e h' => ∃ k : Nat, k ≤ l.length ∧ e.getD 3 .any = .int .i64 k ∧ (∀ x ∈ l.take k, -1125899906842624 ≤ x ∧ x ≤ 1125899906842624) ∧ h' = h) (fun e _ => l.length - natA (e.getD 3 .any)) ⟨0, by simp, rfl, by simp, rfl⟩ ?_
  simp only [List.length_cons, List.length_nil, Nat.reduceAdd, allL_succ, allL_zero]
  intro y2 y3 y19 y20 y21 y22 y23 y24 y25 y26 y27 y28 y29 y30 y31 y32 y33 y34 y35 y36 y37 h' hI
  simp only [go_sem] at hI
  obtain ⟨k, hk, rfl, hall, rfl⟩ := hI
  simp only [go_sem, Nat.reduceMul, Nat.reduceLT, Nat.reduceLeDiff, Nat.reduceEqDiff, Nat.reduceBEq, Int.toNat_natCast, Int.reduceToNat, Int.reduceNeg, Int.reduceLT, Int.reduceLE, Int.reduceBEq, Int.reduceBNe, decide_true, decide_false, Bool.false_eq_true, false_imp_iff, Nat.lt_irrefl]
  refine acond_intro (fun hc2 => ?_) (fun hc2 => ?_)
  · have hlt : k < l.length := by simpa [ints_len] using hc2
    have hg := ints_get l k hlt
    simp only [go_sem, hg, Nat.reduceMul, Nat.reduceLT, Nat.reduceLeDiff, Nat.reduceEqDiff, Nat.reduceBEq, Int.toNat_natCast, Int.reduceToNat, Int.reduceNeg, Int.reduceLT, Int.reduceLE, Int.reduceBEq, Int.reduceBNe, decide_true, decide_false, Bool.false_eq_true, false_imp_iff, Nat.lt_irrefl]
    refine ⟨by omega, ⟨fun q => ⟨q, by omega, by omega⟩, ?_⟩⟩
    refine acond_intro (fun hc3 => ?_) (fun hc3 => ?_)
    · simp only [go_sem, Nat.reduceMul, Nat.reduceLT, Nat.reduceLeDiff, Nat.reduceEqDiff, Nat.reduceBEq, Int.toNat_natCast, Int.reduceToNat, Int.reduceNeg, Int.reduceLT, Int.reduceLE, Int.reduceBEq, Int.reduceBNe, decide_true, decide_false, Bool.false_eq_true, false_imp_iff, Nat.lt_irrefl]
      (refine ACallT.pure (by simp only [go_sem, Nat.reduceMul, Nat.reduceLT, Nat.reduceLeDiff, Nat.reduceEqDiff, Nat.reduceBEq, Int.toNat_natCast, Int.reduceToNat, Int.reduceNeg, Int.reduceLT, Int.reduceLE, Int.reduceBEq, Int.reduceBNe, decide_true, decide_false, Bool.false_eq_true, false_imp_iff, Nat.lt_irrefl]; rfl) (by first | trivial | assumption | (simp only [go_sem, Nat.reduceMul, Nat.reduceLT, Nat.reduceLeDiff, Nat.reduceEqDiff, Nat.reduceBEq, Int.toNat_natCast, Int.reduceToNat, Int.reduceNeg, Int.reduceLT, Int.reduceLE, Int.reduceBEq, Int.reduceBNe, decide_true, decide_false, Bool.false_eq_true, false_imp_iff, Nat.lt_irrefl]; done) | (simp only [go_sem, Nat.reduceMul, Nat.reduceLT, Nat.reduceLeDiff, Nat.reduceEqDiff, Nat.reduceBEq, Int.toNat_natCast, Int.reduceToNat, Int.reduceNeg, Int.reduceLT, Int.reduceLE, Int.reduceBEq, Int.reduceBNe, decide_true, decide_false, Bool.false_eq_true, false_imp_iff, Nat.lt_irrefl]; first | trivial | assumption | omega | decide | (refine ⟨?_, ?_⟩ <;> first | trivial | assumption | omega | decide))) (f12_ok _) ?_; refine fun _ _ e => ?_; subst e; refine ⟨rfl, ?_⟩; simp only [go_sem, Nat.reduceMul, Nat.reduceLT, Nat.reduceLeDiff, Nat.reduceEqDiff, Nat.reduceBEq, Int.toNat_natCast, Int.reduceToNat, Int.reduceNeg, Int.reduceLT, Int.reduceLE, Int.reduceBEq, Int.reduceBNe, decide_true, decide_false, Bool.false_eq_true, false_imp_iff, Nat.lt_irrefl])
      exact Fin_plain rfl
    · have hx : -1125899906842624 ≤ l[k] ∧ l[k] ≤ 1125899906842624 := by
        by_cases q1 : l[k] < -1125899906842624
        · simp [q1] at hc3
        · simp [q1] at hc3; omega
      simp only [go_sem, Nat.reduceMul, Nat.reduceLT, Nat.reduceLeDiff, Nat.reduceEqDiff, Nat.reduceBEq, Int.toNat_natCast, Int.reduceToNat, Int.reduceNeg, Int.reduceLT, Int.reduceLE, Int.reduceBEq, Int.reduceBNe, decide_true, decide_false, Bool.false_eq_true, false_imp_iff, Nat.lt_irrefl]
      rw [wrapI (by omega)]
      refine ⟨⟨k + 1, by omega, rfl, ?_⟩, by omega⟩
      intro x hx2
      rw [List.take_succ_eq_append_getElem hlt] at hx2
      rcases List.mem_append.1 hx2 with q | q
      · exact hall x q
      · simp at q; rw [q]; exact hx
  · have hge : k = l.length := by have : ¬ k < l.length := by simpa [ints_len] using hc2
                                  omega
    subst hge
    rw [List.take_length] at hall
    have hne : l ≠ [] := by rintro rfl; simp at hb
    have hf : ∀ x ∈ l, fitsI x = true := fun x hx => by rw [fitsI_iff]; have := hall x hx; omega
    have hsz := ssz_le (m := 1125899906842624) (by omega) l hall hf
    have A := all_is hne hf (by omega)
    have hright := A.2.right hf (by omega)
    have hlo := sum_lo l A.2.lo
    have hhi := sum_hi l A.2.hi
    have hmn := hall _ A.2.mn
    have hmx := hall _ A.2.mx
    rw [← A.2.s] at hlo hhi
    simp only [go_sem, Nat.reduceMul, Nat.reduceLT, Nat.reduceLeDiff, Nat.reduceEqDiff, Nat.reduceBEq, Int.toNat_natCast, Int.reduceToNat, Int.reduceNeg, Int.reduceLT, Int.reduceLE, Int.reduceBEq, Int.reduceBNe, decide_true, decide_false, Bool.false_eq_true, false_imp_iff, Nat.lt_irrefl]
    (refine ACallT.pure (by simp only [go_sem, Nat.reduceMul, Nat.reduceLT, Nat.reduceLeDiff, Nat.reduceEqDiff, Nat.reduceBEq, Int.toNat_natCast, Int.reduceToNat, Int.reduceNeg, Int.reduceLT, Int.reduceLE, Int.reduceBEq, Int.reduceBNe, decide_true, decide_false, Bool.false_eq_true, false_imp_iff, Nat.lt_irrefl]; rfl) (by first | trivial | assumption | (simp only [go_sem, Nat.reduceMul, Nat.reduceLT, Nat.reduceLeDiff, Nat.reduceEqDiff, Nat.reduceBEq, Int.toNat_natCast, Int.reduceToNat, Int.reduceNeg, Int.reduceLT, Int.reduceLE, Int.reduceBEq, Int.reduceBNe, decide_true, decide_false, Bool.false_eq_true, false_imp_iff, Nat.lt_irrefl]; done) | (simp only [go_sem, Nat.reduceMul, Nat.reduceLT, Nat.reduceLeDiff, Nat.reduceEqDiff, Nat.reduceBEq, Int.toNat_natCast, Int.reduceToNat, Int.reduceNeg, Int.reduceLT, Int.reduceLE, Int.reduceBEq, Int.reduceBNe, decide_true, decide_false, Bool.false_eq_true, false_imp_iff, Nat.lt_irrefl]; first | trivial | assumption | omega | decide | (refine ⟨?_, ?_⟩ <;> first | trivial | assumption | omega | decide))) (f15_ok l _ _ hl) ?_; refine fun _ _ e => ?_; subst e; refine ⟨rfl, ?_⟩)
    generalize hqa : (allF l).1 = a at *
    simp only [go_sem, A.1, Nat.reduceMul, Nat.reduceLT, Nat.reduceLeDiff, Nat.reduceEqDiff, Nat.reduceBEq, Int.toNat_natCast, Int.reduceToNat, Int.reduceNeg, Int.reduceLT, Int.reduceLE, Int.reduceBEq, Int.reduceBNe, decide_true, decide_false, Bool.false_eq_true, false_imp_iff, Nat.lt_irrefl]
    refine ALoop.over [2, 6, 7, 8, 43, 44, 45, 46, 47, 48, 49, 50, 51, 52, 53, 54, 55, 56, 57, 58, 59, 60, 61, 62, 63, 64, 65, 66, 67, 68, 69, 70, 71, 72, 73, 74, 75, 76, 77, 78, 79, 80, 81, 82, 83, 84] (fun e h2 => ∃ k : Nat, k ≤ l.length ∧ e.getD 8 .any = .int .i64 k ∧ e.getD 6 .any = .bool (decide (a.mn ∈ l.take k)) ∧ e.getD 7 .any = .bool (decide (a.mx ∈ l.take k)) ∧ h2 = h' ++ [.arr 0 3 [encA a]]) (fun e _ => l.length - natA (e.getD 8 .any)) ⟨0, by simp, rfl, by simp [List.getD], by simp [List.getD], rfl⟩ ?_
    simp only [List.length_cons, List.length_nil, Nat.reduceAdd, allL_succ, allL_zero]
    intro y2 y6 y7 y8 y43 y44 y45 y46 y47 y48 y49 y50 y51 y52 y53 y54 y55 y56 y57 y58 y59 y60 y61 y62 y63 y64 y65 y66 y67 y68 y69 y70 y71 y72 y73 y74 y75 y76 y77 y78 y79 y80 y81 y82 y83 y84 h2 hI
    simp only [go_sem] at hI
    obtain ⟨k, hk, rfl, rfl, rfl, rfl⟩ := hI
    simp only [go_sem, Nat.reduceMul, Nat.reduceLT, Nat.reduceLeDiff, Nat.reduceEqDiff, Nat.reduceBEq, Int.toNat_natCast, Int.reduceToNat, Int.reduceNeg, Int.reduceLT, Int.reduceLE, Int.reduceBEq, Int.reduceBNe, decide_true, decide_false, Bool.false_eq_true, false_imp_iff, Nat.lt_irrefl]
    refine acond_intro (fun hc3 => ?_) (fun hc3 => ?_)
    · have hlt : k < l.length := by simpa [ints_len] using hc3
      have hg := ints_get l k hlt
      simp only [go_sem, Nat.reduceMul, Nat.reduceLT, Nat.reduceLeDiff, Nat.reduceEqDiff, Nat.reduceBEq, Int.toNat_natCast, Int.reduceToNat, Int.reduceNeg, Int.reduceLT, Int.reduceLE, Int.reduceBEq, Int.reduceBNe, decide_true, decide_false, Bool.false_eq_true, false_imp_iff, Nat.lt_irrefl]
      refine ADrawT.quiet mixedOrders (by kernel_rfl) ?_
      simp only [go_sem, hg, Nat.reduceMul, Nat.reduceLT, Nat.reduceLeDiff, Nat.reduceEqDiff, Nat.reduceBEq, Int.toNat_natCast, Int.reduceToNat, Int.reduceNeg, Int.reduceLT, Int.reduceLE, Int.reduceBEq, Int.reduceBNe, decide_true, decide_false, Bool.false_eq_true, false_imp_iff, Nat.lt_irrefl]
      refine ⟨fun q => ⟨q, by omega, by omega⟩, ?_⟩
      refine ADrawT.quiet mixedOrders (by kernel_rfl) ?_
      simp only [go_sem, hg, Nat.reduceMul, Nat.reduceLT, Nat.reduceLeDiff, Nat.reduceEqDiff, Nat.reduceBEq, Int.toNat_natCast, Int.reduceToNat, Int.reduceNeg, Int.reduceLT, Int.reduceLE, Int.reduceBEq, Int.reduceBNe, decide_true, decide_false, Bool.false_eq_true, false_imp_iff, Nat.lt_irrefl]
      refine ⟨fun q => ⟨q, by omega, by omega⟩, ?_⟩
      refine ADrawT.quiet mixedOrders (by kernel_rfl) ?_
      simp only [go_sem, hg, Nat.reduceMul, Nat.reduceLT, Nat.reduceLeDiff, Nat.reduceEqDiff, Nat.reduceBEq, Int.toNat_natCast, Int.reduceToNat, Int.reduceNeg, Int.reduceLT, Int.reduceLE, Int.reduceBEq, Int.reduceBNe, decide_true, decide_false, Bool.false_eq_true, false_imp_iff, Nat.lt_irrefl]
      refine ⟨by omega, ⟨fun q => ⟨q, by omega, by omega⟩, ?_⟩⟩
      have hin := List.getElem_mem hlt
      have h1 := A.2.lo _ hin
      have h2 := A.2.hi _ hin
      have e1 := mem_step l k hlt a.mn
      have e2 := mem_step l k hlt a.mx
      rw [show decide (l[k] < a.mn) = false by simp; omega, show decide (a.mx < l[k]) = false by simp; omega]
      simp only [go_sem, Nat.reduceMul, Nat.reduceLT, Nat.reduceLeDiff, Nat.reduceEqDiff, Nat.reduceBEq, Int.toNat_natCast, Int.reduceToNat, Int.reduceNeg, Int.reduceLT, Int.reduceLE, Int.reduceBEq, Int.reduceBNe, decide_true, decide_false, Bool.false_eq_true, false_imp_iff, Nat.lt_irrefl]
      rw [wrapI (by omega)]
      exact ⟨⟨k + 1, by omega, rfl, by rw [e1], by rw [e2]⟩, by omega⟩
    · have hge : k = l.length := by have : ¬ k < l.length := by simpa [ints_len] using hc3
                                    omega
      subst hge
      have m1 : decide (a.mn ∈ l) = true := decide_eq_true A.2.mn
      have m2 : decide (a.mx ∈ l) = true := decide_eq_true A.2.mx
      have hs := right_fits hright
      have g1 : (l.length : Int) * (-1125899906842624) ≤ (l.length : Int) * a.mn := Int.mul_le_mul_of_nonneg_left hmn.1 (by omega)
      have g2 : (l.length : Int) * a.mx ≤ (l.length : Int) * 1125899906842624 := Int.mul_le_mul_of_nonneg_left hmx.2 (by omega)
      have w1 : IntKind.i64.wrap ((ints l).length * a.mn) = l.length * a.mn := by rw [hlen]; exact wrapI (by omega)
      have w2 : IntKind.i64.wrap ((ints l).length * a.mx) = l.length * a.mx := by rw [hlen]; exact wrapI (by omega)
      have d1 : decide ((l.length : Int) * a.mn ≤ a.s) = true := decide_eq_true hlo
      have d2 : decide (a.s ≤ (l.length : Int) * a.mx) = true := decide_eq_true hhi
      simp only [go_sem, Nat.reduceMul, Nat.reduceLT, Nat.reduceLeDiff, Nat.reduceEqDiff, Nat.reduceBEq, Int.toNat_natCast, Int.reduceToNat, Int.reduceNeg, Int.reduceLT, Int.reduceLE, Int.reduceBEq, Int.reduceBNe, decide_true, decide_false, Bool.false_eq_true, false_imp_iff, Nat.lt_irrefl]
      (refine ACallT.pure (by simp only [go_sem, Nat.reduceMul, Nat.reduceLT, Nat.reduceLeDiff, Nat.reduceEqDiff, Nat.reduceBEq, Int.toNat_natCast, Int.reduceToNat, Int.reduceNeg, Int.reduceLT, Int.reduceLE, Int.reduceBEq, Int.reduceBNe, decide_true, decide_false, Bool.false_eq_true, false_imp_iff, Nat.lt_irrefl]; rfl) (by first | trivial | assumption | (simp only [go_sem, Nat.reduceMul, Nat.reduceLT, Nat.reduceLeDiff, Nat.reduceEqDiff, Nat.reduceBEq, Int.toNat_natCast, Int.reduceToNat, Int.reduceNeg, Int.reduceLT, Int.reduceLE, Int.reduceBEq, Int.reduceBNe, decide_true, decide_false, Bool.false_eq_true, false_imp_iff, Nat.lt_irrefl]; done) | (simp only [go_sem, Nat.reduceMul, Nat.reduceLT, Nat.reduceLeDiff, Nat.reduceEqDiff, Nat.reduceBEq, Int.toNat_natCast, Int.reduceToNat, Int.reduceNeg, Int.reduceLT, Int.reduceLE, Int.reduceBEq, Int.reduceBNe, decide_true, decide_false, Bool.false_eq_true, false_imp_iff, Nat.lt_irrefl]; first | trivial | assumption | omega | decide | (refine ⟨?_, ?_⟩ <;> first | trivial | assumption | omega | decide))) (f12_ok _) ?_; refine fun _ _ e => ?_; subst e; refine ⟨rfl, ?_⟩)
      simp only [go_sem, m1, m2, w1, w2, d1, d2, Nat.reduceMul, Nat.reduceLT, Nat.reduceLeDiff, Nat.reduceEqDiff, Nat.reduceBEq, Int.toNat_natCast, Int.reduceToNat, Int.reduceNeg, Int.reduceLT, Int.reduceLE, Int.reduceBEq, Int.reduceBNe, decide_true, decide_false, Bool.false_eq_true, false_imp_iff, Nat.lt_irrefl]
      (refine ACallT.pure (by simp only [go_sem, Nat.reduceMul, Nat.reduceLT, Nat.reduceLeDiff, Nat.reduceEqDiff, Nat.reduceBEq, Int.toNat_natCast, Int.reduceToNat, Int.reduceNeg, Int.reduceLT, Int.reduceLE, Int.reduceBEq, Int.reduceBNe, decide_true, decide_false, Bool.false_eq_true, false_imp_iff, Nat.lt_irrefl]; rfl) (by first | trivial | assumption | (simp only [go_sem, Nat.reduceMul, Nat.reduceLT, Nat.reduceLeDiff, Nat.reduceEqDiff, Nat.reduceBEq, Int.toNat_natCast, Int.reduceToNat, Int.reduceNeg, Int.reduceLT, Int.reduceLE, Int.reduceBEq, Int.reduceBNe, decide_true, decide_false, Bool.false_eq_true, false_imp_iff, Nat.lt_irrefl]; done) | (simp only [go_sem, Nat.reduceMul, Nat.reduceLT, Nat.reduceLeDiff, Nat.reduceEqDiff, Nat.reduceBEq, Int.toNat_natCast, Int.reduceToNat, Int.reduceNeg, Int.reduceLT, Int.reduceLE, Int.reduceBEq, Int.reduceBNe, decide_true, decide_false, Bool.false_eq_true, false_imp_iff, Nat.lt_irrefl]; first | trivial | assumption | omega | decide | (refine ⟨?_, ?_⟩ <;> first | trivial | assumption | omega | decide))) (f17_ok a _) ?_; refine fun _ _ e => ?_; subst e; refine ⟨rfl, ?_⟩)
      rw [hright]
      simp only [go_sem, m1, m2, w1, w2, d1, d2, Nat.reduceMul, Nat.reduceLT, Nat.reduceLeDiff, Nat.reduceEqDiff, Nat.reduceBEq, Int.toNat_natCast, Int.reduceToNat, Int.reduceNeg, Int.reduceLT, Int.reduceLE, Int.reduceBEq, Int.reduceBNe, decide_true, decide_false, Bool.false_eq_true, false_imp_iff, Nat.lt_irrefl]
      exact Fin_plain rfl
end Go.Proofs.Vale
