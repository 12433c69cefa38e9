/- YtohppebjmfnmdaaGreatDoorVPolE: a text of the proof of this claim, by its prover. -/
import Derived.Test.YtohppebjmfnmdaaGreatDoorVPolC
set_option linter.unusedVariables false
set_option linter.unusedSimpArgs false
set_option maxHeartbeats 4000000
set_option maxRecDepth 100000
namespace Go.Proofs.Vale
open Go.Proofs Go.Proofs.YtohppebjmfnmdaaGreatDoorT
attribute [local irreducible] acode aopsL aopsT dopsL dopsT dmL dmT pop popG aop ALoop ADraw ACall AWP AFin acondT ALoopT ADrawT ACallT doP doG doGd

/-! ### Which policies are right -/
theorem equal_ok (a b : List Str) (c1 c2 : Bool) (h : List AObj) (ha : a.length ≤ 9223372036854775807) (hb : b.length ≤ 9223372036854775807) : ACall Tryz.prog 23 [.fz c1 (strs a), .fz c2 (strs b)] h (fun r _ => r = .bool (decide (a = b))) := by
  (refine ACall.of_code Tryz.func23 rfl ?_; simp only [Tryz.f23]; simp only [go_sem, Nat.reduceMul, Nat.reduceLT, Nat.reduceLeDiff, Nat.reduceEqDiff, Nat.reduceBEq, Int.toNat_natCast, Int.reduceToNat, Int.reduceNeg, Int.reduceLT, Int.reduceLE, Int.reduceBEq, Int.reduceBNe, decide_true, decide_false, Bool.false_eq_true, false_imp_iff, Nat.lt_irrefl])
  refine acond_intro (fun hc => ?_) (fun hc => ?_)
  · simp only [go_sem, Nat.reduceMul, Nat.reduceLT, Nat.reduceLeDiff, Nat.reduceEqDiff, Nat.reduceBEq, Int.toNat_natCast, Int.reduceToNat, Int.reduceNeg, Int.reduceLT, Int.reduceLE, Int.reduceBEq, Int.reduceBNe, decide_true, decide_false, Bool.false_eq_true, false_imp_iff, Nat.lt_irrefl]
    refine Fin_plain ?_
    have : a ≠ b := by rintro rfl; simp at hc
    simp [this]
  have hl : a.length = b.length := by have q : (a.length : Int) = b.length := by simpa using hc
                                      omega
  simp only [go_sem, Nat.reduceMul, Nat.reduceLT, Nat.reduceLeDiff, Nat.reduceEqDiff, Nat.reduceBEq, Int.toNat_natCast, Int.reduceToNat, Int.reduceNeg, Int.reduceLT, Int.reduceLE, Int.reduceBEq, Int.reduceBNe, decide_true, decide_false, Bool.false_eq_true, false_imp_iff, Nat.lt_irrefl]
  refine ALoop.over [4, 5, 13, 14, 15, 16, 17, 18, 19, 20, 21, 22, 23, 24, 25] (fun e h' => ∃ k : Nat, k ≤ a.length ∧ e.getD 13 .any = .int .i64 (k : Int) ∧ a.take k = b.take k) (fun e _ => a.length - natA (e.getD 13 .any)) ⟨0, by omega, rfl, rfl⟩ ?_
  simp only [List.length_cons, List.length_nil, Nat.reduceAdd, allL_succ, allL_zero]
  intro y4 y5 y13 y14 y15 y16 y17 y18 y19 y20 y21 y22 y23 y24 y25 h' hI
  simp only [go_sem] at hI
  obtain ⟨k, hk, rfl, hT⟩ := hI
  simp only [go_sem, Nat.reduceMul, Nat.reduceLT, Nat.reduceLeDiff, Nat.reduceEqDiff, Nat.reduceBEq, Int.toNat_natCast, Int.reduceToNat, Int.reduceNeg, Int.reduceLT, Int.reduceLE, Int.reduceBEq, Int.reduceBNe, decide_true, decide_false, Bool.false_eq_true, false_imp_iff, Nat.lt_irrefl]
  refine acond_intro (fun hc => ?_) (fun hc => ?_)
  · have hlt : k < a.length := by have := of_decide_eq_true hc; omega
    have hlt2 : k < b.length := by omega
    simp only [go_sem, Nat.reduceMul, Nat.reduceLT, Nat.reduceLeDiff, Nat.reduceEqDiff, Nat.reduceBEq, Int.toNat_natCast, Int.reduceToNat, Int.reduceNeg, Int.reduceLT, Int.reduceLE, Int.reduceBEq, Int.reduceBNe, decide_true, decide_false, Bool.false_eq_true, false_imp_iff, Nat.lt_irrefl]
    refine ADrawT.quiet mixedOrdersD (by kernel_rfl) ?_
    simp only [go_sem, strs_get a k hlt, strs_get b k hlt2, Nat.reduceMul, Nat.reduceLT, Nat.reduceLeDiff, Nat.reduceEqDiff, Nat.reduceBEq, Int.toNat_natCast, Int.reduceToNat, Int.reduceNeg, Int.reduceLT, Int.reduceLE, Int.reduceBEq, Int.reduceBNe, decide_true, decide_false, Bool.false_eq_true, false_imp_iff, Nat.lt_irrefl]
    refine ⟨⟨by omega, by omega⟩, ⟨by omega, by omega⟩, ?_⟩
    refine acond_intro (fun hd => ?_) (fun hd => ?_)
    · simp only [go_sem, Nat.reduceMul, Nat.reduceLT, Nat.reduceLeDiff, Nat.reduceEqDiff, Nat.reduceBEq, Int.toNat_natCast, Int.reduceToNat, Int.reduceNeg, Int.reduceLT, Int.reduceLE, Int.reduceBEq, Int.reduceBNe, decide_true, decide_false, Bool.false_eq_true, false_imp_iff, Nat.lt_irrefl]
      refine Fin_plain ?_
      have hd' : a[k] ≠ b[k] := by simpa using hd
      have : a ≠ b := by rintro rfl; exact hd' rfl
      simp [this]
    · have hd' : a[k] = b[k] := by simpa using hd
      simp only [go_sem, Nat.reduceMul, Nat.reduceLT, Nat.reduceLeDiff, Nat.reduceEqDiff, Nat.reduceBEq, Int.toNat_natCast, Int.reduceToNat, Int.reduceNeg, Int.reduceLT, Int.reduceLE, Int.reduceBEq, Int.reduceBNe, decide_true, decide_false, Bool.false_eq_true, false_imp_iff, Nat.lt_irrefl]
      rw [wrap_id (by omega) (by omega)]
      exact ⟨⟨k + 1, by omega, rfl, by rw [List.take_succ_eq_append_getElem hlt, List.take_succ_eq_append_getElem hlt2, hT, hd']⟩, by omega⟩
  · have hk2 : k = a.length := by have := of_decide_eq_false hc; omega
    subst hk2
    simp only [go_sem, Nat.reduceMul, Nat.reduceLT, Nat.reduceLeDiff, Nat.reduceEqDiff, Nat.reduceBEq, Int.toNat_natCast, Int.reduceToNat, Int.reduceNeg, Int.reduceLT, Int.reduceLE, Int.reduceBEq, Int.reduceBNe, decide_true, decide_false, Bool.false_eq_true, false_imp_iff, Nat.lt_irrefl]
    refine Fin_plain ?_
    rw [List.take_length, hl, List.take_length] at hT
    simp [hT]
/-- Tiers that follow one another. -/
structure TP (l : List Tier) : Prop where
  ne : 0 < l.length
  le : l.length ≤ 4
  each : ∀ i (h : i < l.length), ag (l[i]).1 = true ∧ gr (l[i]).2.1 = true
  next : ∀ i (h : i + 1 < l.length), (l[i]).1 < (l[i + 1]).1 ∧ coS (l[i + 1]).2.1 (l[i]).2.1 = true
def stepS (l : List Tier) (k : Nat) : Bool :=
  match l[k]? with
  | none => true
  | some t => gr t.2.1 && ag t.1 && (match k with
    | 0 => true
    | j + 1 => match l[j]? with
      | none => true
      | some u => !decide (t.1 ≤ u.1) && coS t.2.1 u.2.1 && subS t.2.2 u.2.2)
def firstS (d : List Str) (l : List Tier) : Bool :=
  match l with
  | [] => false
  | t :: _ => !decide (4 < l.length) && t.1 == 0 && decide (t.2.2 = d)
/-- Tiers as they may follow one another. -/
def tieredS (d : List Str) (l : List Tier) : Bool := firstS d l && (List.range l.length).all (stepS l)
theorem step_bad (d : List Str) (l : List Tier) (k : Nat) (hk : k < l.length) (h : stepS l k = false) : tieredS d l = false := by
  unfold tieredS
  have : (List.range l.length).all (stepS l) = false := by
    rw [List.all_eq_false]
    exact ⟨k, List.mem_range.2 hk, by simp [h]⟩
  rw [this, Bool.and_false]
theorem stepS_zero (l : List Tier) (h : 0 < l.length) : stepS l 0 = (gr (l[0]).2.1 && ag (l[0]).1) := by
  simp [stepS, List.getElem?_eq_getElem h]
theorem stepS_succ (l : List Tier) (j : Nat) (h : j + 1 < l.length) : stepS l (j + 1) = (gr (l[j + 1]).2.1 && ag (l[j + 1]).1 && (!decide ((l[j + 1]).1 ≤ (l[j]).1) && coS (l[j + 1]).2.1 (l[j]).2.1 && subS (l[j + 1]).2.2 (l[j]).2.2)) := by
  simp only [stepS, List.getElem?_eq_getElem h, List.getElem?_eq_getElem (show j < l.length by omega)]
theorem stepS_and (l : List Tier) (k : Nat) (h : k < l.length) : ∃ b, stepS l k = (gr (l[k]).2.1 && ag (l[k]).1 && b) := by
  cases k with
  | zero => exact ⟨true, by rw [stepS_zero l h, Bool.and_true]⟩
  | succ j => exact ⟨_, stepS_succ l j h⟩
theorem tiered_TP (d : List Str) (l : List Tier) (h : tieredS d l = true) : TP l := by
  unfold tieredS at h
  rw [Bool.and_eq_true] at h
  obtain ⟨h1, h2⟩ := h
  have hst : ∀ k, k < l.length → stepS l k = true := fun k hk => List.all_eq_true.1 h2 k (List.mem_range.2 hk)
  cases l with
  | nil => cases h1
  | cons t r =>
    simp only [firstS, Bool.and_eq_true, Bool.not_eq_true', decide_eq_false_iff_not] at h1
    refine ⟨by simp, by have := h1.1.1; omega, fun i hi => ?_, fun i hi => ?_⟩
    · obtain ⟨b, hb⟩ := stepS_and (t :: r) i hi
      have := hst i hi
      rw [hb] at this
      simp only [Bool.and_eq_true] at this
      exact ⟨this.1.2, this.1.1⟩
    · have := hst (i + 1) hi
      rw [stepS_succ _ i hi] at this
      simp only [Bool.and_eq_true, Bool.not_eq_true', decide_eq_false_iff_not] at this
      exact ⟨by omega, this.2.1.2⟩
theorem tiered_ok (d m : List Str) (l : List Tier) (c1 c2 : Bool) (h : List AObj) (hd : d.length ≤ 9223372036854775807) (hL : ∀ t ∈ l, t.2.2.length ≤ 9223372036854775807) (hl : l.length ≤ 9223372036854775000) : ACall Tryz.prog 12 [schA c1 c2 d m, .fz false (tiersA l)] h (fun r _ => r = .bool (tieredS d l)) := by
  simp only [schA]
  (refine ACall.of_code Tryz.func12 rfl ?_; simp only [Tryz.f12]; simp only [go_sem, Nat.reduceMul, Nat.reduceLT, Nat.reduceLeDiff, Nat.reduceEqDiff, Nat.reduceBEq, Int.toNat_natCast, Int.reduceToNat, Int.reduceNeg, Int.reduceLT, Int.reduceLE, Int.reduceBEq, Int.reduceBNe, decide_true, decide_false, Bool.false_eq_true, false_imp_iff, Nat.lt_irrefl])
  refine ADrawT.quiet mixedOrdersD (by kernel_rfl) ?_
  by_cases hl0 : l = []
  · subst hl0
    have e0 : (tiersA ([] : List Tier)).getD 0 .any = .any := rfl
    have e1 : ((((0 : Nat) : Int) == 0) : Bool) = true := rfl
    simp only [go_sem, e0, e1, cond_true, Bool.not_true, List.length_nil, Nat.reduceMul, Nat.reduceLT, Nat.reduceLeDiff, Nat.reduceEqDiff, Nat.reduceBEq, Int.toNat_natCast, Int.reduceToNat, Int.reduceNeg, Int.reduceLT, Int.reduceLE, Int.reduceBEq, Int.reduceBNe, decide_true, decide_false, Bool.false_eq_true, false_imp_iff, Nat.lt_irrefl]
    exact Fin_plain rfl
  have hpos : 0 < l.length := List.length_pos_iff.2 hl0
  have hg := tiers_get l 0 hpos
  have hz : (((l.length : Nat) : Int) == 0) = false := by simp; omega
  simp only [go_sem, hg, hz, cond_false, Nat.reduceMul, Nat.reduceLT, Nat.reduceLeDiff, Nat.reduceEqDiff, Nat.reduceBEq, Int.toNat_natCast, Int.reduceToNat, Int.reduceNeg, Int.reduceLT, Int.reduceLE, Int.reduceBEq, Int.reduceBNe, decide_true, decide_false, Bool.false_eq_true, false_imp_iff, Nat.lt_irrefl]
  refine ⟨fun q => ⟨q, by omega⟩, fun q => ⟨q, by omega⟩, ?_⟩
  have h00 := hL l[0] (List.getElem_mem _)
  have hfi : firstS d l = (!decide (4 < l.length) && (l[0]).1 == 0 && decide ((l[0]).2.2 = d)) := by
    cases l with
    | nil => exact absurd rfl hl0
    | cons t r => rfl
  generalize hzz : (bif decide ((4 : Int) < ((l.length : Nat) : Int)) then true else l[0].1 != 0) = z
  cases z with
  | true =>
    simp only [go_sem, Nat.reduceMul, Nat.reduceLT, Nat.reduceLeDiff, Nat.reduceEqDiff, Nat.reduceBEq, Int.toNat_natCast, Int.reduceToNat, Int.reduceNeg, Int.reduceLT, Int.reduceLE, Int.reduceBEq, Int.reduceBNe, decide_true, decide_false, Bool.false_eq_true, false_imp_iff, Nat.lt_irrefl]
    refine Fin_plain ?_
    have : firstS d l = false := by
      rw [hfi]
      by_cases q : (4 : Int) < ((l.length : Nat) : Int)
      · have : decide (4 < l.length) = true := by simp; omega
        simp [this]
      · have q2 : ((l[0]).1 == 0) = false := by simp [q] at hzz; simpa using hzz
        simp [q2]
    rw [tieredS, this]; rfl
  | false =>
    have hle : l.length ≤ 4 := by
      by_cases q : (4 : Int) < ((l.length : Nat) : Int)
      · simp [q] at hzz
      · omega
    simp only [go_sem, Nat.reduceMul, Nat.reduceLT, Nat.reduceLeDiff, Nat.reduceEqDiff, Nat.reduceBEq, Int.toNat_natCast, Int.reduceToNat, Int.reduceNeg, Int.reduceLT, Int.reduceLE, Int.reduceBEq, Int.reduceBNe, decide_true, decide_false, Bool.false_eq_true, false_imp_iff, Nat.lt_irrefl]
    refine doX_intro (.bool (decide (l[0].2.2 = d))) ?_ ?_
    · simp only [go_sem, Nat.reduceMul, Nat.reduceLT, Nat.reduceLeDiff, Nat.reduceEqDiff, Nat.reduceBEq, Int.toNat_natCast, Int.reduceToNat, Int.reduceNeg, Int.reduceLT, Int.reduceLE, Int.reduceBEq, Int.reduceBNe, decide_true, decide_false, Bool.false_eq_true, false_imp_iff, Nat.lt_irrefl]
      refine ACallT.frame (equal_ok l[0].2.2 d false c1 _ h00 hd) ?_
      rintro r h2 rfl
      exact ⟨rfl, rfl, rfl⟩
    simp only [go_sem, Nat.reduceMul, Nat.reduceLT, Nat.reduceLeDiff, Nat.reduceEqDiff, Nat.reduceBEq, Int.toNat_natCast, Int.reduceToNat, Int.reduceNeg, Int.reduceLT, Int.reduceLE, Int.reduceBEq, Int.reduceBNe, decide_true, decide_false, Bool.false_eq_true, false_imp_iff, Nat.lt_irrefl]
    refine acond_intro (fun hc => ?_) (fun hc => ?_)
    · simp only [go_sem, Nat.reduceMul, Nat.reduceLT, Nat.reduceLeDiff, Nat.reduceEqDiff, Nat.reduceBEq, Int.toNat_natCast, Int.reduceToNat, Int.reduceNeg, Int.reduceLT, Int.reduceLE, Int.reduceBEq, Int.reduceBNe, decide_true, decide_false, Bool.false_eq_true, false_imp_iff, Nat.lt_irrefl]
      refine Fin_plain ?_
      have : decide (l[0].2.2 = d) = false := by simpa using hc
      rw [tieredS, hfi, this]; simp
    have hf1 : firstS d l = true := by
      have a1 : decide (4 < l.length) = false := by simp; omega
      have a2 : ((l[0]).1 == 0) = true := by
        by_cases q : (4 : Int) < ((l.length : Nat) : Int)
        · omega
        · simp [q] at hzz; simpa using hzz
      have a3 : decide (l[0].2.2 = d) = true := by simpa using hc
      rw [hfi, a1, a2, a3]; rfl
    simp only [go_sem, Nat.reduceMul, Nat.reduceLT, Nat.reduceLeDiff, Nat.reduceEqDiff, Nat.reduceBEq, Int.toNat_natCast, Int.reduceToNat, Int.reduceNeg, Int.reduceLT, Int.reduceLE, Int.reduceBEq, Int.reduceBNe, decide_true, decide_false, Bool.false_eq_true, false_imp_iff, Nat.lt_irrefl]
    refine ALoop.over [4, 5, 6, 7, 35, 36, 37, 38, 39, 40, 41, 42, 43, 44, 45, 46, 47, 48, 49, 50, 51, 52, 53, 54, 55, 56, 57, 58, 59, 60, 61, 62, 63, 64, 65, 66, 67, 68, 69, 70, 71, 72, 73, 74, 75, 76, 77, 78] (fun e h' => ∃ k : Nat, k ≤ l.length ∧ e.getD 35 .any = .int .i64 (k : Int) ∧ ∀ i, i < k → stepS l i = true) (fun e _ => l.length - natA (e.getD 35 .any)) ⟨0, by omega, rfl, fun _ q => absurd q (by omega)⟩ ?_
    simp only [List.length_cons, List.length_nil, Nat.reduceAdd, allL_succ, allL_zero]
    intro y4 y5 y6 y7 y35 y36 y37 y38 y39 y40 y41 y42 y43 y44 y45 y46 y47 y48 y49 y50 y51 y52 y53 y54 y55 y56 y57 y58 y59 y60 y61 y62 y63 y64 y65 y66 y67 y68 y69 y70 y71 y72 y73 y74 y75 y76 y77 y78 h' hI
    simp only [go_sem] at hI
    obtain ⟨k, hk, rfl, hA⟩ := hI
    simp only [go_sem, Nat.reduceMul, Nat.reduceLT, Nat.reduceLeDiff, Nat.reduceEqDiff, Nat.reduceBEq, Int.toNat_natCast, Int.reduceToNat, Int.reduceNeg, Int.reduceLT, Int.reduceLE, Int.reduceBEq, Int.reduceBNe, decide_true, decide_false, Bool.false_eq_true, false_imp_iff, Nat.lt_irrefl]
    refine acond_intro (fun hc => ?_) (fun hc => ?_)
    · have hlt : k < l.length := by have := of_decide_eq_true hc; omega
      have hgk := tiers_get l k hlt
      have hkk := hL l[k] (List.getElem_mem _)
      simp only [go_sem, hgk, Nat.reduceMul, Nat.reduceLT, Nat.reduceLeDiff, Nat.reduceEqDiff, Nat.reduceBEq, Int.toNat_natCast, Int.reduceToNat, Int.reduceNeg, Int.reduceLT, Int.reduceLE, Int.reduceBEq, Int.reduceBNe, decide_true, decide_false, Bool.false_eq_true, false_imp_iff, Nat.lt_irrefl]
      refine ⟨⟨by omega, by omega⟩, ?_⟩
      obtain ⟨sb, hsb0⟩ := stepS_and l k hlt
      refine ACallT.by (gr_ok _ _) ?_
      rintro r h2 ⟨rfl, rfl⟩
      cases hgr : gr (l[k]).2.1 with
      | false =>
        simp only [go_sem, Nat.reduceMul, Nat.reduceLT, Nat.reduceLeDiff, Nat.reduceEqDiff, Nat.reduceBEq, Int.toNat_natCast, Int.reduceToNat, Int.reduceNeg, Int.reduceLT, Int.reduceLE, Int.reduceBEq, Int.reduceBNe, decide_true, decide_false, Bool.false_eq_true, false_imp_iff, Nat.lt_irrefl]
        exact Fin_plain (by rw [step_bad d l k hlt (by rw [hsb0, hgr]; rfl)])
      | true =>
        simp only [go_sem, Nat.reduceMul, Nat.reduceLT, Nat.reduceLeDiff, Nat.reduceEqDiff, Nat.reduceBEq, Int.toNat_natCast, Int.reduceToNat, Int.reduceNeg, Int.reduceLT, Int.reduceLE, Int.reduceBEq, Int.reduceBNe, decide_true, decide_false, Bool.false_eq_true, false_imp_iff, Nat.lt_irrefl]
        refine ACallT.by (ag_ok _ _) ?_
        rintro r h2 ⟨rfl, rfl⟩
        cases hag : ag (l[k]).1 with
        | false =>
          simp only [go_sem, Nat.reduceMul, Nat.reduceLT, Nat.reduceLeDiff, Nat.reduceEqDiff, Nat.reduceBEq, Int.toNat_natCast, Int.reduceToNat, Int.reduceNeg, Int.reduceLT, Int.reduceLE, Int.reduceBEq, Int.reduceBNe, decide_true, decide_false, Bool.false_eq_true, false_imp_iff, Nat.lt_irrefl]
          exact Fin_plain (by rw [step_bad d l k hlt (by rw [hsb0, hgr, hag]; rfl)])
        | true =>
          have hA' : stepS l k = true → ∀ i, i < k + 1 → stepS l i = true := by
            intro q0 i q
            by_cases e : i = k
            · subst e; exact q0
            · exact hA i (by omega)
          simp only [go_sem, Nat.reduceMul, Nat.reduceLT, Nat.reduceLeDiff, Nat.reduceEqDiff, Nat.reduceBEq, Int.toNat_natCast, Int.reduceToNat, Int.reduceNeg, Int.reduceLT, Int.reduceLE, Int.reduceBEq, Int.reduceBNe, decide_true, decide_false, Bool.false_eq_true, false_imp_iff, Nat.lt_irrefl]
          refine acond_intro (fun hk0 => ?_) (fun hk0 => ?_)
          · have hk0' : k = 0 := by have : (k : Int) = 0 := by simpa using hk0
                                    omega
            simp only [go_sem, Nat.reduceMul, Nat.reduceLT, Nat.reduceLeDiff, Nat.reduceEqDiff, Nat.reduceBEq, Int.toNat_natCast, Int.reduceToNat, Int.reduceNeg, Int.reduceLT, Int.reduceLE, Int.reduceBEq, Int.reduceBNe, decide_true, decide_false, Bool.false_eq_true, false_imp_iff, Nat.lt_irrefl]
            rw [wrap_id (by omega) (by omega)]
            refine ⟨⟨k + 1, by omega, rfl, hA' ?_⟩, by omega⟩
            subst hk0'
            rw [stepS_zero l hlt, hgr, hag]; rfl
          · have hk0' : 0 < k := by
              have : ¬ (k : Int) = 0 := by simpa using hk0
              omega
            have hgp := tiers_get l (k - 1) (by omega)
            have hwr : IntKind.i64.wrap ((k : Int) - 1) = ((k - 1 : Nat) : Int) := by rw [wrap_id (by omega) (by omega)]; omega
            simp only [go_sem, hwr, hgp, Nat.reduceMul, Nat.reduceLT, Nat.reduceLeDiff, Nat.reduceEqDiff, Nat.reduceBEq, Int.toNat_natCast, Int.reduceToNat, Int.reduceNeg, Int.reduceLT, Int.reduceLE, Int.reduceBEq, Int.reduceBNe, decide_true, decide_false, Bool.false_eq_true, false_imp_iff, Nat.lt_irrefl]
            refine ⟨⟨by omega, by omega⟩, ?_⟩
            have hpp := hL (l[k - 1]'(by omega)) (List.getElem_mem _)
            have hsk : stepS l k = (gr (l[k]).2.1 && ag (l[k]).1 && (!decide ((l[k]).1 ≤ (l[k - 1]'(by omega)).1) && coS (l[k]).2.1 (l[k - 1]'(by omega)).2.1 && subS (l[k]).2.2 (l[k - 1]'(by omega)).2.2)) := by
              obtain ⟨j, rfl⟩ : ∃ j, k = j + 1 := ⟨k - 1, by omega⟩
              exact stepS_succ l j hlt
            rw [hgr, hag] at hsk
            generalize hz1 : decide ((l[k]).1 ≤ (l[k - 1]'(by omega)).1) = z1 at hsk ⊢
            cases z1 with
            | true =>
              simp only [go_sem, Nat.reduceMul, Nat.reduceLT, Nat.reduceLeDiff, Nat.reduceEqDiff, Nat.reduceBEq, Int.toNat_natCast, Int.reduceToNat, Int.reduceNeg, Int.reduceLT, Int.reduceLE, Int.reduceBEq, Int.reduceBNe, decide_true, decide_false, Bool.false_eq_true, false_imp_iff, Nat.lt_irrefl]
              exact Fin_plain (by rw [step_bad d l k hlt (by rw [hsk]; rfl)])
            | false =>
              simp only [go_sem, Nat.reduceMul, Nat.reduceLT, Nat.reduceLeDiff, Nat.reduceEqDiff, Nat.reduceBEq, Int.toNat_natCast, Int.reduceToNat, Int.reduceNeg, Int.reduceLT, Int.reduceLE, Int.reduceBEq, Int.reduceBNe, decide_true, decide_false, Bool.false_eq_true, false_imp_iff, Nat.lt_irrefl]
              refine ACallT.by (coarser_ok _ _ _) ?_
              rintro r h2 ⟨rfl, rfl⟩
              generalize hco : coS (l[k]).2.1 (l[k - 1]'(by omega)).2.1 = co at hsk ⊢
              cases co with
              | false =>
                simp only [go_sem, Nat.reduceMul, Nat.reduceLT, Nat.reduceLeDiff, Nat.reduceEqDiff, Nat.reduceBEq, Int.toNat_natCast, Int.reduceToNat, Int.reduceNeg, Int.reduceLT, Int.reduceLE, Int.reduceBEq, Int.reduceBNe, decide_true, decide_false, Bool.false_eq_true, false_imp_iff, Nat.lt_irrefl]
                exact Fin_plain (by rw [step_bad d l k hlt (by rw [hsk]; rfl)])
              | true =>
                simp only [go_sem, Nat.reduceMul, Nat.reduceLT, Nat.reduceLeDiff, Nat.reduceEqDiff, Nat.reduceBEq, Int.toNat_natCast, Int.reduceToNat, Int.reduceNeg, Int.reduceLT, Int.reduceLE, Int.reduceBEq, Int.reduceBNe, decide_true, decide_false, Bool.false_eq_true, false_imp_iff, Nat.lt_irrefl]
                refine ACallT.by (subset_ok (l[k]).2.2 (l[k - 1]'(by omega)).2.2 false false _ hkk hpp) ?_
                rintro r h2 ⟨rfl, rfl⟩
                generalize hsu : subS (l[k]).2.2 (l[k - 1]'(by omega)).2.2 = su at hsk ⊢
                cases su with
                | false =>
                  simp only [go_sem, Nat.reduceMul, Nat.reduceLT, Nat.reduceLeDiff, Nat.reduceEqDiff, Nat.reduceBEq, Int.toNat_natCast, Int.reduceToNat, Int.reduceNeg, Int.reduceLT, Int.reduceLE, Int.reduceBEq, Int.reduceBNe, decide_true, decide_false, Bool.false_eq_true, false_imp_iff, Nat.lt_irrefl]
                  exact Fin_plain (by rw [step_bad d l k hlt (by rw [hsk]; rfl)])
                | true =>
                  simp only [go_sem, Nat.reduceMul, Nat.reduceLT, Nat.reduceLeDiff, Nat.reduceEqDiff, Nat.reduceBEq, Int.toNat_natCast, Int.reduceToNat, Int.reduceNeg, Int.reduceLT, Int.reduceLE, Int.reduceBEq, Int.reduceBNe, decide_true, decide_false, Bool.false_eq_true, false_imp_iff, Nat.lt_irrefl]
                  rw [wrap_id (by omega) (by omega)]
                  exact ⟨⟨k + 1, by omega, rfl, hA' (by rw [hsk]; rfl)⟩, by omega⟩
    · have hk2 : k = l.length := by have := of_decide_eq_false hc; omega
      subst hk2
      simp only [go_sem, Nat.reduceMul, Nat.reduceLT, Nat.reduceLeDiff, Nat.reduceEqDiff, Nat.reduceBEq, Int.toNat_natCast, Int.reduceToNat, Int.reduceNeg, Int.reduceLT, Int.reduceLE, Int.reduceBEq, Int.reduceBNe, decide_true, decide_false, Bool.false_eq_true, false_imp_iff, Nat.lt_irrefl]
      refine Fin_plain ?_
      have : (List.range l.length).all (stepS l) = true := List.all_eq_true.2 fun i hi => hA i (List.mem_range.1 hi)
      rw [tieredS, hf1, this]; rfl
end Go.Proofs.Vale

set_option linter.unusedVariables false
set_option linter.unusedSimpArgs false
set_option maxHeartbeats 4000000
set_option maxRecDepth 100000
namespace Go.Proofs.Vale
open Go.Proofs Go.Proofs.YtohppebjmfnmdaaGreatDoorT
attribute [local irreducible] acode aopsL aopsT dopsL dopsT dmL dmT pop popG aop ALoop ADraw ACall AWP AFin acondT ALoopT ADrawT ACallT doP doG doGd

/-! ### Check -/
def projS (T : List Tier) (j : Tier) : Bool := !decide (j.1 < 0) && decide (j.1 < (T.length : Int)) && (match T[j.1.toNat]? with
  | some t => coS j.2.1 t.2.1 && subS j.2.2 t.2.2
  | none => false)
def headS (d : List Str) (p : Pol) : Bool := tieredS d p.T && !decide (4 < p.J.length) && ag p.H && !decide (p.H ≤ (p.T.getLastD (0, 0, [])).1)
def checkP (d : List Str) (p : Pol) : Int := if headS d p = true ∧ p.J.all (projS p.T) = true then 0 else 172
theorem last_eq (l : List Tier) (h : 0 < l.length) : l.getLastD (0, 0, []) = l[l.length - 1] := by
  cases l with
  | nil => simp at h
  | cons a r => rw [List.getLastD_eq_getLast?, List.getLast?_eq_getElem?]; simp
theorem check_OkP (d : List Str) (p : Pol) (h : checkP d p = 0) : OkP p := by
  unfold checkP at h
  split at h
  · rename_i q
    have q := q.1
    unfold headS at q
    simp only [Bool.and_eq_true, Bool.not_eq_true', decide_eq_false_iff_not] at q
    have t := tiered_TP d p.T q.1.1.1
    refine ⟨t.ne, t.le, t.each, t.next, q.1.2, ?_⟩
    have := q.2
    rw [last_eq p.T t.ne] at this
    omega
  · cases h
theorem check_ok (d m : List Str) (p : Pol) (c1 c2 : Bool) (h : List AObj) (hd : d.length ≤ 9223372036854775807) (hT : ∀ t ∈ p.T, t.2.2.length ≤ 9223372036854775807) (hJ : ∀ t ∈ p.J, t.2.2.length ≤ 9223372036854775807) (hl : p.T.length ≤ 9223372036854775000) (hl2 : p.J.length ≤ 9223372036854775000) : ACall Tryz.prog 7 [schA c1 c2 d m, polA p] h (fun r _ => r = .int .i64 (checkP d p)) := by
  simp only [schA, polA]
  (refine ACall.of_code Tryz.func7 rfl ?_; simp only [Tryz.f7]; simp only [go_sem, Nat.reduceMul, Nat.reduceLT, Nat.reduceLeDiff, Nat.reduceEqDiff, Nat.reduceBEq, Int.toNat_natCast, Int.reduceToNat, Int.reduceNeg, Int.reduceLT, Int.reduceLE, Int.reduceBEq, Int.reduceBNe, decide_true, decide_false, Bool.false_eq_true, false_imp_iff, Nat.lt_irrefl])
  refine ADrawT.quiet mixedOrdersD (by kernel_rfl) ?_
  simp only [go_sem, Nat.reduceMul, Nat.reduceLT, Nat.reduceLeDiff, Nat.reduceEqDiff, Nat.reduceBEq, Int.toNat_natCast, Int.reduceToNat, Int.reduceNeg, Int.reduceLT, Int.reduceLE, Int.reduceBEq, Int.reduceBNe, decide_true, decide_false, Bool.false_eq_true, false_imp_iff, Nat.lt_irrefl]
  refine doX_intro (.bool (tieredS d p.T)) ?_ ?_
  · simp only [go_sem, Nat.reduceMul, Nat.reduceLT, Nat.reduceLeDiff, Nat.reduceEqDiff, Nat.reduceBEq, Int.toNat_natCast, Int.reduceToNat, Int.reduceNeg, Int.reduceLT, Int.reduceLE, Int.reduceBEq, Int.reduceBNe, decide_true, decide_false, Bool.false_eq_true, false_imp_iff, Nat.lt_irrefl]
    refine ACallT.frame (tiered_ok d m p.T c1 c2 _ hd hT hl) ?_
    rintro r h2 rfl
    exact ⟨rfl, rfl, rfl⟩
  by_cases hTe : p.T = []
  · have hti : tieredS d p.T = false := by rw [hTe]; rfl
    have hg0 : ∀ n, (tiersA ([] : List Tier)).getD n .any = .any := fun n => by simp [tiersA]
    have hc0 : checkP d p = 172 := by unfold checkP headS; rw [hti]; simp
    rw [hti, hc0]
    simp only [go_sem, hTe, hg0, Nat.reduceMul, Nat.reduceLT, Nat.reduceLeDiff, Nat.reduceEqDiff, Nat.reduceBEq, Int.toNat_natCast, Int.reduceToNat, Int.reduceNeg, Int.reduceLT, Int.reduceLE, Int.reduceBEq, Int.reduceBNe, decide_true, decide_false, Bool.false_eq_true, false_imp_iff, Nat.lt_irrefl]
    exact Fin_plain rfl
  have hne : 0 < p.T.length := List.length_pos_iff.2 hTe
  have hgl := tiers_get p.T (p.T.length - 1) (by omega)
  have hwr : IntKind.i64.wrap ((p.T.length : Int) - 1) = ((p.T.length - 1 : Nat) : Int) := by rw [wrap_id (by omega) (by omega)]; omega
  have hla := last_eq p.T hne
  have hhd : headS d p = (tieredS d p.T && !decide (4 < p.J.length) && ag p.H && !decide (p.H ≤ (p.T[p.T.length - 1]).1)) := by rw [headS, hla]
  have hbad : headS d p = false → checkP d p = 172 := fun q => by unfold checkP; rw [q]; simp
  cases hti : tieredS d p.T with
  | false =>
    simp only [go_sem, hwr, hgl, Nat.reduceMul, Nat.reduceLT, Nat.reduceLeDiff, Nat.reduceEqDiff, Nat.reduceBEq, Int.toNat_natCast, Int.reduceToNat, Int.reduceNeg, Int.reduceLT, Int.reduceLE, Int.reduceBEq, Int.reduceBNe, decide_true, decide_false, Bool.false_eq_true, false_imp_iff, Nat.lt_irrefl]
    refine Fin_plain ?_
    rw [hbad (by rw [hhd, hti]; rfl)]
  | true =>
    simp only [go_sem, hwr, hgl, Nat.reduceMul, Nat.reduceLT, Nat.reduceLeDiff, Nat.reduceEqDiff, Nat.reduceBEq, Int.toNat_natCast, Int.reduceToNat, Int.reduceNeg, Int.reduceLT, Int.reduceLE, Int.reduceBEq, Int.reduceBNe, decide_true, decide_false, Bool.false_eq_true, false_imp_iff, Nat.lt_irrefl]
    generalize hz4 : decide ((4 : Int) < ((p.J.length : Nat) : Int)) = z4
    have hz4' : decide (4 < p.J.length) = z4 := by
      rw [← hz4]
      by_cases q : 4 < p.J.length
      · have q2 : (4 : Int) < ((p.J.length : Nat) : Int) := by omega
        simp [q, q2]
      · have q2 : ¬ (4 : Int) < ((p.J.length : Nat) : Int) := by omega
        simp [q, q2]
    rw [hti, hz4'] at hhd
    cases z4 with
    | true =>
      simp only [go_sem, hwr, hgl, Nat.reduceMul, Nat.reduceLT, Nat.reduceLeDiff, Nat.reduceEqDiff, Nat.reduceBEq, Int.toNat_natCast, Int.reduceToNat, Int.reduceNeg, Int.reduceLT, Int.reduceLE, Int.reduceBEq, Int.reduceBNe, decide_true, decide_false, Bool.false_eq_true, false_imp_iff, Nat.lt_irrefl]
      refine Fin_plain ?_
      rw [hbad (by rw [hhd]; rfl)]
    | false =>
      simp only [go_sem, hwr, hgl, Nat.reduceMul, Nat.reduceLT, Nat.reduceLeDiff, Nat.reduceEqDiff, Nat.reduceBEq, Int.toNat_natCast, Int.reduceToNat, Int.reduceNeg, Int.reduceLT, Int.reduceLE, Int.reduceBEq, Int.reduceBNe, decide_true, decide_false, Bool.false_eq_true, false_imp_iff, Nat.lt_irrefl]
      refine doX_intro (.bool (ag p.H)) ?_ ?_
      · simp only [go_sem, Nat.reduceMul, Nat.reduceLT, Nat.reduceLeDiff, Nat.reduceEqDiff, Nat.reduceBEq, Int.toNat_natCast, Int.reduceToNat, Int.reduceNeg, Int.reduceLT, Int.reduceLE, Int.reduceBEq, Int.reduceBNe, decide_true, decide_false, Bool.false_eq_true, false_imp_iff, Nat.lt_irrefl]
        refine ACallT.by (ag_ok _ _) ?_
        rintro r h2 ⟨rfl, rfl⟩
        exact ⟨rfl, rfl⟩
      simp only [go_sem, hwr, hgl, Nat.reduceMul, Nat.reduceLT, Nat.reduceLeDiff, Nat.reduceEqDiff, Nat.reduceBEq, Int.toNat_natCast, Int.reduceToNat, Int.reduceNeg, Int.reduceLT, Int.reduceLE, Int.reduceBEq, Int.reduceBNe, decide_true, decide_false, Bool.false_eq_true, false_imp_iff, Nat.lt_irrefl]
      refine ⟨fun q => ⟨q, by omega, by omega⟩, ?_⟩
      refine acond_intro (fun hc => ?_) (fun hc => ?_)
      · have hf : headS d p = false := by
          rw [hhd]
          cases q : ag p.H with
          | false => rfl
          | true =>
            rw [q] at hc
            simp only [Bool.not_true, cond_false] at hc
            rw [hc]; rfl
        simp only [go_sem, Nat.reduceMul, Nat.reduceLT, Nat.reduceLeDiff, Nat.reduceEqDiff, Nat.reduceBEq, Int.toNat_natCast, Int.reduceToNat, Int.reduceNeg, Int.reduceLT, Int.reduceLE, Int.reduceBEq, Int.reduceBNe, decide_true, decide_false, Bool.false_eq_true, false_imp_iff, Nat.lt_irrefl]
        refine Fin_plain ?_
        rw [hbad hf]
      have hh : headS d p = true := by
        rw [hhd]
        cases q : ag p.H with
        | false => rw [q] at hc; simp at hc
        | true =>
          rw [q] at hc
          simp only [Bool.not_true, cond_false] at hc
          rw [hc]; rfl
      have hbadJ : ∀ k, (hk : k < p.J.length) → projS p.T p.J[k] = false → checkP d p = 172 := fun k hk q => by
        unfold checkP
        have : p.J.all (projS p.T) = false := List.all_eq_false.2 ⟨_, List.getElem_mem hk, by simp [q]⟩
        rw [this]; simp
      simp only [go_sem, Nat.reduceMul, Nat.reduceLT, Nat.reduceLeDiff, Nat.reduceEqDiff, Nat.reduceBEq, Int.toNat_natCast, Int.reduceToNat, Int.reduceNeg, Int.reduceLT, Int.reduceLE, Int.reduceBEq, Int.reduceBNe, decide_true, decide_false, Bool.false_eq_true, false_imp_iff, Nat.lt_irrefl]
      refine ALoop.over [4, 6, 7, 42, 43, 44, 45, 46, 47, 48, 49, 50, 51, 52, 53, 54, 55, 56, 57, 58, 59, 60, 61, 62, 63, 64, 65, 66, 67, 68, 69, 70, 71, 72, 73, 74, 75, 76, 77] (fun e h' => ∃ k : Nat, k ≤ p.J.length ∧ e.getD 42 .any = .int .i64 (k : Int) ∧ h'[h.length + 1]? = some (.arr 0 3 [polA p]) ∧ ∀ i (hi : i < p.J.length), i < k → projS p.T p.J[i] = true) (fun e _ => p.J.length - natA (e.getD 42 .any)) ⟨0, by omega, rfl, by rw [List.getElem?_append_right (by omega), Nat.add_sub_cancel_left]; rfl, fun _ _ q => absurd q (by omega)⟩ ?_
      simp only [List.length_cons, List.length_nil, Nat.reduceAdd, allL_succ, allL_zero]
      intro y4 y6 y7 y42 y43 y44 y45 y46 y47 y48 y49 y50 y51 y52 y53 y54 y55 y56 y57 y58 y59 y60 y61 y62 y63 y64 y65 y66 y67 y68 y69 y70 y71 y72 y73 y74 y75 y76 y77 h' hI
      simp only [go_sem] at hI
      obtain ⟨k, hk, rfl, hP, hA⟩ := hI
      simp only [polA] at hP
      have hPx : ∀ x, (h' ++ x)[h.length + 1]? = some (AObj.arr 0 3 [.agg [.fz false (tiersA p.T), .fz false (tiersA p.J), .int .i64 p.H]]) := fun x => by rw [List.getElem?_append_left (List.getElem?_eq_some_iff.1 hP).1]; exact hP
      have hlt2 := (List.getElem?_eq_some_iff.1 hP).1
      simp only [go_sem, Nat.reduceMul, Nat.reduceLT, Nat.reduceLeDiff, Nat.reduceEqDiff, Nat.reduceBEq, Int.toNat_natCast, Int.reduceToNat, Int.reduceNeg, Int.reduceLT, Int.reduceLE, Int.reduceBEq, Int.reduceBNe, decide_true, decide_false, Bool.false_eq_true, false_imp_iff, Nat.lt_irrefl]
      refine acond_intro (fun hc => ?_) (fun hc => ?_)
      · have hlt : k < p.J.length := by have := of_decide_eq_true hc; omega
        have hgk := tiers_get p.J k hlt
        have hkk := hJ p.J[k] (List.getElem_mem _)
        have hpr : projS p.T p.J[k] = (!decide ((p.J[k]).1 < 0) && decide ((p.J[k]).1 < (p.T.length : Int)) && (match p.T[(p.J[k]).1.toNat]? with
            | some t => coS (p.J[k]).2.1 t.2.1 && subS (p.J[k]).2.2 t.2.2
            | none => false)) := rfl
        simp only [go_sem, hgk, hPx, Nat.reduceMul, Nat.reduceLT, Nat.reduceLeDiff, Nat.reduceEqDiff, Nat.reduceBEq, Int.toNat_natCast, Int.reduceToNat, Int.reduceNeg, Int.reduceLT, Int.reduceLE, Int.reduceBEq, Int.reduceBNe, decide_true, decide_false, Bool.false_eq_true, false_imp_iff, Nat.lt_irrefl]
        refine ⟨⟨by omega, by omega⟩, ?_⟩
        refine acond_intro (fun hc3 => ?_) (fun hc3 => ?_)
        · simp only [go_sem, Nat.reduceMul, Nat.reduceLT, Nat.reduceLeDiff, Nat.reduceEqDiff, Nat.reduceBEq, Int.toNat_natCast, Int.reduceToNat, Int.reduceNeg, Int.reduceLT, Int.reduceLE, Int.reduceBEq, Int.reduceBNe, decide_true, decide_false, Bool.false_eq_true, false_imp_iff, Nat.lt_irrefl]
          refine Fin_plain ?_
          rw [hbadJ k hlt]
          rw [hpr]
          by_cases q1 : (p.J[k]).1 < 0
          · simp [q1]
          · simp only [q1, decide_false, cond_false] at hc3
            have := of_decide_eq_true hc3
            have : ¬ (p.J[k]).1 < (p.T.length : Int) := by omega
            simp [this]
        have hj : 0 ≤ (p.J[k]).1 ∧ (p.J[k]).1 < (p.T.length : Int) := by
          by_cases q1 : (p.J[k]).1 < 0
          · simp [q1] at hc3
          · simp only [q1, decide_false, cond_false] at hc3
            have := of_decide_eq_false hc3
            omega
        obtain ⟨j, hjj⟩ : ∃ j : Nat, (p.J[k]).1 = (j : Int) := ⟨(p.J[k]).1.toNat, by omega⟩
        have hjl : j < p.T.length := by omega
        have hgj := tiers_get p.T j hjl
        have hjt := hT p.T[j] (List.getElem_mem _)
        have hpr2 : projS p.T p.J[k] = (coS (p.J[k]).2.1 (p.T[j]).2.1 && subS (p.J[k]).2.2 (p.T[j]).2.2) := by
          rw [hpr, hjj, Int.toNat_natCast, List.getElem?_eq_getElem hjl]
          have a1 : decide ((j : Int) < 0) = false := by simp
          have a2 : decide ((j : Int) < (p.T.length : Int)) = true := by simp; omega
          rw [a1, a2]; rfl
        simp only [go_sem, hPx, hjj, hgj, Nat.reduceMul, Nat.reduceLT, Nat.reduceLeDiff, Nat.reduceEqDiff, Nat.reduceBEq, Int.toNat_natCast, Int.reduceToNat, Int.reduceNeg, Int.reduceLT, Int.reduceLE, Int.reduceBEq, Int.reduceBNe, decide_true, decide_false, Bool.false_eq_true, false_imp_iff, Nat.lt_irrefl]
        refine ⟨⟨by omega, by omega⟩, ?_⟩
        refine ACallT.by (coarser_ok _ _ _) ?_
        rintro r h2 ⟨rfl, rfl⟩
        generalize hco : coS (p.J[k]).2.1 (p.T[j]).2.1 = co at hpr2 ⊢
        cases co with
        | false =>
          simp only [go_sem, hPx, hjj, hgj, Nat.reduceMul, Nat.reduceLT, Nat.reduceLeDiff, Nat.reduceEqDiff, Nat.reduceBEq, Int.toNat_natCast, Int.reduceToNat, Int.reduceNeg, Int.reduceLT, Int.reduceLE, Int.reduceBEq, Int.reduceBNe, decide_true, decide_false, Bool.false_eq_true, false_imp_iff, Nat.lt_irrefl]
          refine Fin_plain ?_
          rw [hbadJ k hlt (by rw [hpr2]; rfl)]
        | true =>
          simp only [go_sem, hPx, hjj, hgj, Nat.reduceMul, Nat.reduceLT, Nat.reduceLeDiff, Nat.reduceEqDiff, Nat.reduceBEq, Int.toNat_natCast, Int.reduceToNat, Int.reduceNeg, Int.reduceLT, Int.reduceLE, Int.reduceBEq, Int.reduceBNe, decide_true, decide_false, Bool.false_eq_true, false_imp_iff, Nat.lt_irrefl]
          refine ACallT.by (subset_ok (p.J[k]).2.2 (p.T[j]).2.2 false false _ hkk hjt) ?_
          rintro r h2 ⟨rfl, rfl⟩
          generalize hsu : subS (p.J[k]).2.2 (p.T[j]).2.2 = su at hpr2 ⊢
          cases su with
          | false =>
            simp only [go_sem, hPx, hjj, hgj, Nat.reduceMul, Nat.reduceLT, Nat.reduceLeDiff, Nat.reduceEqDiff, Nat.reduceBEq, Int.toNat_natCast, Int.reduceToNat, Int.reduceNeg, Int.reduceLT, Int.reduceLE, Int.reduceBEq, Int.reduceBNe, decide_true, decide_false, Bool.false_eq_true, false_imp_iff, Nat.lt_irrefl]
            refine Fin_plain ?_
            rw [hbadJ k hlt (by rw [hpr2]; rfl)]
          | true =>
            simp only [go_sem, hPx, hjj, hgj, Nat.reduceMul, Nat.reduceLT, Nat.reduceLeDiff, Nat.reduceEqDiff, Nat.reduceBEq, Int.toNat_natCast, Int.reduceToNat, Int.reduceNeg, Int.reduceLT, Int.reduceLE, Int.reduceBEq, Int.reduceBNe, decide_true, decide_false, Bool.false_eq_true, false_imp_iff, Nat.lt_irrefl]
            rw [wrap_id (by omega) (by omega)]
            refine ⟨⟨k + 1, by omega, rfl, rfl, fun i hi q => ?_⟩, by omega⟩
            by_cases e : i = k
            · subst e; rw [hpr2]; rfl
            · exact hA i hi (by omega)
      · have hk2 : k = p.J.length := by have := of_decide_eq_false hc; omega
        subst hk2
        simp only [go_sem, Nat.reduceMul, Nat.reduceLT, Nat.reduceLeDiff, Nat.reduceEqDiff, Nat.reduceBEq, Int.toNat_natCast, Int.reduceToNat, Int.reduceNeg, Int.reduceLT, Int.reduceLE, Int.reduceBEq, Int.reduceBNe, decide_true, decide_false, Bool.false_eq_true, false_imp_iff, Nat.lt_irrefl]
        refine Fin_plain ?_
        have : p.J.all (projS p.T) = true := List.all_eq_true.2 fun x hx => by
          obtain ⟨i, hi, rfl⟩ := List.getElem_of_mem hx
          exact hA i hi hi
        unfold checkP
        rw [if_pos ⟨hh, this⟩]
end Go.Proofs.Vale
