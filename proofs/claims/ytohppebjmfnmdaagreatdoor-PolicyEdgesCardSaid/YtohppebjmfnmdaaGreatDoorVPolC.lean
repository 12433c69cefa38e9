/- YtohppebjmfnmdaaGreatDoorVPolC: a text of the proof of this claim, by its prover. -/
import Derived.Test.YtohppebjmfnmdaaGreatDoorVSchD
set_option linter.unusedVariables false
set_option linter.unusedSimpArgs false
set_option maxHeartbeats 4000000
set_option maxRecDepth 100000
namespace Go.Proofs.Vale
open Go.Proofs Go.Proofs.YtohppebjmfnmdaaGreatDoorT
attribute [local irreducible] acode aopsL aopsT dopsL dopsT dmL dmT pop popG aop ALoop ADraw ACall AWP AFin acondT ALoopT ADrawT ACallT doP doG doGd

/-! ### Buckets, ages, edges -/
def gr (g : Int) : Bool := bif decide ((1 : Int) ≤ g) then decide (g ≤ 1048576) else false
def ag (n : Int) : Bool := bif decide ((0 : Int) ≤ n) then decide (n ≤ 1099511627776) else false
def ft (n : Int) : Bool := bif decide ((-1099511627776 : Int) ≤ n) then decide (n ≤ 1099511627776) else false
theorem gr_ok (g : Int) (h : List AObj) : ACall Tryz.prog 21 [.int .i64 g] h (fun r h' => r = .bool (gr g) ∧ h' = h) := by
  (refine ACall.of_code Tryz.func21 rfl ?_; simp only [Tryz.f21]; simp only [go_sem, Nat.reduceMul, Nat.reduceLT, Nat.reduceLeDiff, Nat.reduceEqDiff, Nat.reduceBEq, Int.toNat_natCast, Int.reduceToNat, Int.reduceNeg, Int.reduceLT, Int.reduceLE, Int.reduceBEq, Int.reduceBNe, decide_true, decide_false, Bool.false_eq_true, false_imp_iff, Nat.lt_irrefl])
  exact Fin_plain ⟨by simp only [gr], rfl⟩
theorem ag_ok (n : Int) (h : List AObj) : ACall Tryz.prog 13 [.int .i64 n] h (fun r h' => r = .bool (ag n) ∧ h' = h) := by
  (refine ACall.of_code Tryz.func13 rfl ?_; simp only [Tryz.f13]; simp only [go_sem, Nat.reduceMul, Nat.reduceLT, Nat.reduceLeDiff, Nat.reduceEqDiff, Nat.reduceBEq, Int.toNat_natCast, Int.reduceToNat, Int.reduceNeg, Int.reduceLT, Int.reduceLE, Int.reduceBEq, Int.reduceBNe, decide_true, decide_false, Bool.false_eq_true, false_imp_iff, Nat.lt_irrefl])
  exact Fin_plain ⟨by simp only [ag], rfl⟩
theorem ft_ok (n : Int) (h : List AObj) : ACall Tryz.prog 45 [.int .i64 n] h (fun r h' => r = .bool (ft n) ∧ h' = h) := by
  (refine ACall.of_code Tryz.func45 rfl ?_; simp only [Tryz.f45]; simp only [go_sem, Nat.reduceMul, Nat.reduceLT, Nat.reduceLeDiff, Nat.reduceEqDiff, Nat.reduceBEq, Int.toNat_natCast, Int.reduceToNat, Int.reduceNeg, Int.reduceLT, Int.reduceLE, Int.reduceBEq, Int.reduceBNe, decide_true, decide_false, Bool.false_eq_true, false_imp_iff, Nat.lt_irrefl])
  exact Fin_plain ⟨by simp only [ft], rfl⟩
theorem gr_iff (g : Int) : gr g = true ↔ 1 ≤ g ∧ g ≤ 1048576 := by
  by_cases a : (1 : Int) ≤ g <;> by_cases b : g ≤ 1048576 <;> simp [gr, a, b]
theorem ag_iff (n : Int) : ag n = true ↔ 0 ≤ n ∧ n ≤ 1099511627776 := by
  by_cases a : (0 : Int) ≤ n <;> by_cases b : n ≤ 1099511627776 <;> simp [ag, a, b]
theorem ft_iff (n : Int) : ft n = true ↔ -1099511627776 ≤ n ∧ n ≤ 1099511627776 := by
  by_cases a : (-1099511627776 : Int) ≤ n <;> by_cases b : n ≤ 1099511627776 <;> simp [ft, a, b]
/-- How far behind its bucket's beginning a time is. -/
def restZ (t g : Int) : Int := ((t.tmod g) + g).tmod g
theorem restZ_eq (t g : Int) (hg : 0 < g) : restZ t g = t % g := by
  unfold restZ
  have h1 : 0 ≤ t.tmod g + g := by
    have := Int.tmod_lt_of_pos (-t) hg
    rw [Int.neg_tmod] at this; omega
  rw [Int.tmod_eq_emod_of_nonneg h1, Int.add_emod_right]
  conv => rhs; rw [← Int.tmod_add_mul_tdiv t g]
  rw [Int.add_mul_emod_self_left]
theorem rest_ok (t g : Int) (h : List AObj) (ht : -1099511627776 ≤ t ∧ t ≤ 1099511627776) (hg : 1 ≤ g ∧ g ≤ 1048576) : ACall Tryz.prog 46 [.int .i64 t, .int .i64 g] h (fun r h' => r = .int .i64 (t % g) ∧ h' = h) := by
  (refine ACall.of_code Tryz.func46 rfl ?_; simp only [Tryz.f46]; simp only [go_sem, Nat.reduceMul, Nat.reduceLT, Nat.reduceLeDiff, Nat.reduceEqDiff, Nat.reduceBEq, Int.toNat_natCast, Int.reduceToNat, Int.reduceNeg, Int.reduceLT, Int.reduceLE, Int.reduceBEq, Int.reduceBNe, decide_true, decide_false, Bool.false_eq_true, false_imp_iff, Nat.lt_irrefl])
  have h1 := Int.tmod_lt_of_pos t (show (0 : Int) < g by omega)
  have h2 : -g < t.tmod g := by
    have := Int.tmod_lt_of_pos (-t) (show (0 : Int) < g by omega)
    rw [Int.neg_tmod] at this; omega
  rw [wrap_id (by omega) (by omega)]
  refine ⟨by omega, by omega, Fin_plain ⟨?_, rfl⟩⟩
  rw [← restZ_eq t g (by omega)]; rfl
def floorR (t g : Int) : AV := if gr g = true ∧ ft t = true then .tup [.int .i64 (t - t % g), .int .i64 0] else .tup [.int .i64 0, .int .i64 111]
theorem floor_ok (t g : Int) (h : List AObj) : ACall Tryz.prog 34 [.int .i64 t, .int .i64 g] h (fun r h' => r = floorR t g ∧ h' = h) := by
  (refine ACall.of_code Tryz.func34 rfl ?_; simp only [Tryz.f34]; simp only [go_sem, Nat.reduceMul, Nat.reduceLT, Nat.reduceLeDiff, Nat.reduceEqDiff, Nat.reduceBEq, Int.toNat_natCast, Int.reduceToNat, Int.reduceNeg, Int.reduceLT, Int.reduceLE, Int.reduceBEq, Int.reduceBNe, decide_true, decide_false, Bool.false_eq_true, false_imp_iff, Nat.lt_irrefl])
  refine ACallT.by (gr_ok g _) ?_
  rintro r h1 ⟨rfl, rfl⟩
  unfold floorR
  cases hg : gr g with
  | false =>
    simp only [go_sem, Nat.reduceMul, Nat.reduceLT, Nat.reduceLeDiff, Nat.reduceEqDiff, Nat.reduceBEq, Int.toNat_natCast, Int.reduceToNat, Int.reduceNeg, Int.reduceLT, Int.reduceLE, Int.reduceBEq, Int.reduceBNe, decide_true, decide_false, Bool.false_eq_true, false_imp_iff, Nat.lt_irrefl]
    exact Fin_plain ⟨by simp, rfl⟩
  | true =>
    simp only [go_sem, Nat.reduceMul, Nat.reduceLT, Nat.reduceLeDiff, Nat.reduceEqDiff, Nat.reduceBEq, Int.toNat_natCast, Int.reduceToNat, Int.reduceNeg, Int.reduceLT, Int.reduceLE, Int.reduceBEq, Int.reduceBNe, decide_true, decide_false, Bool.false_eq_true, false_imp_iff, Nat.lt_irrefl]
    refine ACallT.by (ft_ok t _) ?_
    rintro r h1 ⟨rfl, rfl⟩
    cases hf : ft t with
    | false =>
      simp only [go_sem, Nat.reduceMul, Nat.reduceLT, Nat.reduceLeDiff, Nat.reduceEqDiff, Nat.reduceBEq, Int.toNat_natCast, Int.reduceToNat, Int.reduceNeg, Int.reduceLT, Int.reduceLE, Int.reduceBEq, Int.reduceBNe, decide_true, decide_false, Bool.false_eq_true, false_imp_iff, Nat.lt_irrefl]
      exact Fin_plain ⟨by simp, rfl⟩
    | true =>
      have hg2 := (gr_iff g).1 hg
      have hf2 := (ft_iff t).1 hf
      have h1 := Int.emod_nonneg t (show g ≠ 0 by omega)
      have h2 := Int.emod_lt_of_pos t (show 0 < g by omega)
      simp only [go_sem, Nat.reduceMul, Nat.reduceLT, Nat.reduceLeDiff, Nat.reduceEqDiff, Nat.reduceBEq, Int.toNat_natCast, Int.reduceToNat, Int.reduceNeg, Int.reduceLT, Int.reduceLE, Int.reduceBEq, Int.reduceBNe, decide_true, decide_false, Bool.false_eq_true, false_imp_iff, Nat.lt_irrefl]
      refine ACallT.by (rest_ok t g _ hf2 hg2) ?_
      rintro r h1 ⟨rfl, rfl⟩
      simp only [go_sem, Nat.reduceMul, Nat.reduceLT, Nat.reduceLeDiff, Nat.reduceEqDiff, Nat.reduceBEq, Int.toNat_natCast, Int.reduceToNat, Int.reduceNeg, Int.reduceLT, Int.reduceLE, Int.reduceBEq, Int.reduceBNe, decide_true, decide_false, Bool.false_eq_true, false_imp_iff, Nat.lt_irrefl]
      rw [wrap_id (by omega) (by omega)]
      exact Fin_plain ⟨by simp, rfl⟩
def alS (a g : Int) : Bool := gr g && (a.tmod g == 0)
theorem aligned_ok (a g : Int) (h : List AObj) : ACall Tryz.prog 10 [.int .i64 a, .int .i64 g] h (fun r h' => r = .bool (alS a g) ∧ h' = h) := by
  (refine ACall.of_code Tryz.func10 rfl ?_; simp only [Tryz.f10]; simp only [go_sem, Nat.reduceMul, Nat.reduceLT, Nat.reduceLeDiff, Nat.reduceEqDiff, Nat.reduceBEq, Int.toNat_natCast, Int.reduceToNat, Int.reduceNeg, Int.reduceLT, Int.reduceLE, Int.reduceBEq, Int.reduceBNe, decide_true, decide_false, Bool.false_eq_true, false_imp_iff, Nat.lt_irrefl])
  refine ACallT.by (gr_ok g _) ?_
  rintro r h1 ⟨rfl, rfl⟩
  unfold alS
  cases hg : gr g with
  | false =>
    simp only [go_sem, Nat.reduceMul, Nat.reduceLT, Nat.reduceLeDiff, Nat.reduceEqDiff, Nat.reduceBEq, Int.toNat_natCast, Int.reduceToNat, Int.reduceNeg, Int.reduceLT, Int.reduceLE, Int.reduceBEq, Int.reduceBNe, decide_true, decide_false, Bool.false_eq_true, false_imp_iff, Nat.lt_irrefl]
    exact Fin_plain ⟨rfl, rfl⟩
  | true =>
    have hg2 := (gr_iff g).1 hg
    simp only [go_sem, Nat.reduceMul, Nat.reduceLT, Nat.reduceLeDiff, Nat.reduceEqDiff, Nat.reduceBEq, Int.toNat_natCast, Int.reduceToNat, Int.reduceNeg, Int.reduceLT, Int.reduceLE, Int.reduceBEq, Int.reduceBNe, decide_true, decide_false, Bool.false_eq_true, false_imp_iff, Nat.lt_irrefl]
    refine ⟨by first | omega | (intro _; omega), ?_⟩
    exact Fin_plain ⟨by simp, rfl⟩
def coS (a b : Int) : Bool := gr a && gr b && (a.tmod b == 0)
theorem coarser_ok (a b : Int) (h : List AObj) : ACall Tryz.prog 14 [.int .i64 a, .int .i64 b] h (fun r h' => r = .bool (coS a b) ∧ h' = h) := by
  (refine ACall.of_code Tryz.func14 rfl ?_; simp only [Tryz.f14]; simp only [go_sem, Nat.reduceMul, Nat.reduceLT, Nat.reduceLeDiff, Nat.reduceEqDiff, Nat.reduceBEq, Int.toNat_natCast, Int.reduceToNat, Int.reduceNeg, Int.reduceLT, Int.reduceLE, Int.reduceBEq, Int.reduceBNe, decide_true, decide_false, Bool.false_eq_true, false_imp_iff, Nat.lt_irrefl])
  refine ACallT.by (gr_ok a _) ?_
  rintro r h1 ⟨rfl, rfl⟩
  unfold coS
  cases ha : gr a with
  | false =>
    simp only [go_sem, Nat.reduceMul, Nat.reduceLT, Nat.reduceLeDiff, Nat.reduceEqDiff, Nat.reduceBEq, Int.toNat_natCast, Int.reduceToNat, Int.reduceNeg, Int.reduceLT, Int.reduceLE, Int.reduceBEq, Int.reduceBNe, decide_true, decide_false, Bool.false_eq_true, false_imp_iff, Nat.lt_irrefl]
    exact Fin_plain ⟨by simp, rfl⟩
  | true =>
    simp only [go_sem, Nat.reduceMul, Nat.reduceLT, Nat.reduceLeDiff, Nat.reduceEqDiff, Nat.reduceBEq, Int.toNat_natCast, Int.reduceToNat, Int.reduceNeg, Int.reduceLT, Int.reduceLE, Int.reduceBEq, Int.reduceBNe, decide_true, decide_false, Bool.false_eq_true, false_imp_iff, Nat.lt_irrefl]
    refine ACallT.by (gr_ok b _) ?_
    rintro r h1 ⟨rfl, rfl⟩
    cases hb : gr b with
    | false =>
      simp only [go_sem, Nat.reduceMul, Nat.reduceLT, Nat.reduceLeDiff, Nat.reduceEqDiff, Nat.reduceBEq, Int.toNat_natCast, Int.reduceToNat, Int.reduceNeg, Int.reduceLT, Int.reduceLE, Int.reduceBEq, Int.reduceBNe, decide_true, decide_false, Bool.false_eq_true, false_imp_iff, Nat.lt_irrefl]
      exact Fin_plain ⟨by simp, rfl⟩
    | true =>
      have hg2 := (gr_iff b).1 hb
      simp only [go_sem, Nat.reduceMul, Nat.reduceLT, Nat.reduceLeDiff, Nat.reduceEqDiff, Nat.reduceBEq, Int.toNat_natCast, Int.reduceToNat, Int.reduceNeg, Int.reduceLT, Int.reduceLE, Int.reduceBEq, Int.reduceBNe, decide_true, decide_false, Bool.false_eq_true, false_imp_iff, Nat.lt_irrefl]
      refine ⟨by first | omega | (intro _; omega), ?_⟩
      exact Fin_plain ⟨by simp, rfl⟩
end Go.Proofs.Vale

set_option linter.unusedVariables false
set_option linter.unusedSimpArgs false
set_option maxHeartbeats 4000000
set_option maxRecDepth 100000
namespace Go.Proofs.Vale
open Go.Proofs Go.Proofs.YtohppebjmfnmdaaGreatDoorT
attribute [local irreducible] acode aopsL aopsT dopsL dopsT dmL dmT pop popG aop ALoop ADraw ACall AWP AFin acondT ALoopT ADrawT ACallT doP doG doGd

/-! ### Policies -/
abbrev Tier := Int × Int × List Str
structure Pol where
  T : List Tier
  J : List Tier
  H : Int
def tierA (t : Tier) : AV := .agg [.int .i64 t.1, .int .i64 t.2.1, .fz false (strs t.2.2)]
def tiersA (l : List Tier) : List AV := l.map tierA
def polA (p : Pol) : AV := .agg [.fz false (tiersA p.T), .fz false (tiersA p.J), .int .i64 p.H]
@[go_sem] theorem tiers_len (l : List Tier) : (tiersA l).length = l.length := by simp [tiersA]
theorem tiers_get (l : List Tier) (k : Nat) (h : k < l.length) : (tiersA l).getD k .any = .agg [.int .i64 l[k].1, .int .i64 l[k].2.1, .fz false (strs l[k].2.2)] := by
  simp [tiersA, List.getD_eq_getElem?_getD, h, tierA]
theorem low_tiers (n : Nat) : ∀ l : List Tier, lowL n (tiersA l) = true
  | [] => rfl
  | s :: l => by simp only [tiersA, List.map_cons, lowL, tierA, AV.low, Bool.true_and]; rw [low_strs]; exact low_tiers n l
/-- A policy whose ages and grains may be, and follow one another. -/
structure OkP (p : Pol) : Prop where
  ne : 0 < p.T.length
  le : p.T.length ≤ 4
  each : ∀ i (h : i < p.T.length), ag (p.T[i]).1 = true ∧ gr (p.T[i]).2.1 = true
  next : ∀ i (h : i + 1 < p.T.length), (p.T[i]).1 < (p.T[i + 1]).1 ∧ coS (p.T[i + 1]).2.1 (p.T[i]).2.1 = true
  hor : ag p.H = true
  last : (p.T[p.T.length - 1]'(by omega)).1 < p.H
def backZ (p : Pol) (i : Nat) : Int := if h : i + 1 < p.T.length then (p.T[i + 1]).1 else p.H
def granZ (p : Pol) (i : Nat) : Int := if h : i + 1 < p.T.length then (p.T[i + 1]).2.1 else if h : i < p.T.length then (p.T[i]).2.1 else 1
/-- From which time on a tier has rows. -/
def edgeZ (p : Pol) (now : Int) (i : Nat) : Int := max ((now - backZ p i) - (now - backZ p i) % granZ p i) 0
theorem back_ok (p : Pol) (o : OkP p) (i : Nat) : 0 ≤ backZ p i ∧ backZ p i ≤ 1099511627776 := by
  unfold backZ
  split
  · rename_i h; exact (ag_iff _).1 (o.each _ h).1
  · exact (ag_iff _).1 o.hor
theorem gran_ok (p : Pol) (o : OkP p) (i : Nat) : 1 ≤ granZ p i ∧ granZ p i ≤ 1048576 := by
  unfold granZ
  split
  · rename_i h; exact (gr_iff _).1 (o.each _ h).2
  · split
    · rename_i h; exact (gr_iff _).1 (o.each _ h).2
    · omega
theorem floor_low (t g : Int) (hg : 1 ≤ g) : t - t % g ≤ t ∧ t - g < t - t % g := by
  have h1 := Int.emod_nonneg t (show g ≠ 0 by omega)
  have h2 := Int.emod_lt_of_pos t (show 0 < g by omega)
  omega
theorem max_if (x : Int) : (if 0 > x then 0 else x) = max x 0 := by split <;> omega
theorem edge_ok (p : Pol) (o : OkP p) (i : Nat) (now : Int) (h : List AObj) (hi : i < p.T.length) : ACall Tryz.prog 20 [polA p, .int .i64 (i : Int), .int .i64 now] h (fun r _ => r = if ag now = true then .tup [.int .i64 (edgeZ p now i), .int .i64 0] else .tup [.int .i64 0, .int .i64 1]) := by
  have hle := o.le
  have hg := tiers_get p.T i hi
  have hb := back_ok p o i
  have hgr := gran_ok p o i
  simp only [polA]
  (refine ACall.of_code Tryz.func20 rfl ?_; simp only [Tryz.f20]; simp only [go_sem, Nat.reduceMul, Nat.reduceLT, Nat.reduceLeDiff, Nat.reduceEqDiff, Nat.reduceBEq, Int.toNat_natCast, Int.reduceToNat, Int.reduceNeg, Int.reduceLT, Int.reduceLE, Int.reduceBEq, Int.reduceBNe, decide_true, decide_false, Bool.false_eq_true, false_imp_iff, Nat.lt_irrefl])
  have hi1 : decide ((i : Int) < 0) = false := by simp
  have hi2 : decide ((p.T.length : Int) ≤ (i : Int)) = false := by simp; omega
  simp only [go_sem, hi1, hi2, cond_false, Bool.not_false, Nat.reduceMul, Nat.reduceLT, Nat.reduceLeDiff, Nat.reduceEqDiff, Nat.reduceBEq, Int.toNat_natCast, Int.reduceToNat, Int.reduceNeg, Int.reduceLT, Int.reduceLE, Int.reduceBEq, Int.reduceBNe, decide_true, decide_false, Bool.false_eq_true, false_imp_iff, Nat.lt_irrefl]
  refine ACallT.by (ag_ok now _) ?_
  rintro r h1 ⟨rfl, rfl⟩
  cases hn : ag now with
  | false =>
    simp only [go_sem, hi1, hi2, cond_false, Bool.not_false, Nat.reduceMul, Nat.reduceLT, Nat.reduceLeDiff, Nat.reduceEqDiff, Nat.reduceBEq, Int.toNat_natCast, Int.reduceToNat, Int.reduceNeg, Int.reduceLT, Int.reduceLE, Int.reduceBEq, Int.reduceBNe, decide_true, decide_false, Bool.false_eq_true, false_imp_iff, Nat.lt_irrefl]
    exact Fin_plain (by simp)
  | true =>
    have hn2 := (ag_iff now).1 hn
    simp only [go_sem, hi1, hi2, cond_false, Bool.not_false, Nat.reduceMul, Nat.reduceLT, Nat.reduceLeDiff, Nat.reduceEqDiff, Nat.reduceBEq, Int.toNat_natCast, Int.reduceToNat, Int.reduceNeg, Int.reduceLT, Int.reduceLE, Int.reduceBEq, Int.reduceBNe, decide_true, decide_false, Bool.false_eq_true, false_imp_iff, Nat.lt_irrefl]
    refine ADrawT.quiet mixedOrdersD (by kernel_rfl) ?_
    simp only [go_sem, hg, Nat.reduceMul, Nat.reduceLT, Nat.reduceLeDiff, Nat.reduceEqDiff, Nat.reduceBEq, Int.toNat_natCast, Int.reduceToNat, Int.reduceNeg, Int.reduceLT, Int.reduceLE, Int.reduceBEq, Int.reduceBNe, decide_true, decide_false, Bool.false_eq_true, false_imp_iff, Nat.lt_irrefl]
    refine ⟨⟨by omega, by omega⟩, ?_⟩
    rw [wrap_id (x := (i : Int) + 1) (by omega) (by omega)]
    refine acond_intro (fun hc => ?_) (fun hc => ?_)
    · have hlt : i + 1 < p.T.length := by have := of_decide_eq_true hc; omega
      have hg1 := tiers_get p.T (i + 1) hlt
      have hbz : backZ p i = (p.T[i + 1]).1 := by rw [backZ, dif_pos hlt]
      have hgz : granZ p i = (p.T[i + 1]).2.1 := by rw [granZ, dif_pos hlt]
      simp only [go_sem, Nat.reduceMul, Nat.reduceLT, Nat.reduceLeDiff, Nat.reduceEqDiff, Nat.reduceBEq, Int.toNat_natCast, Int.reduceToNat, Int.reduceNeg, Int.reduceLT, Int.reduceLE, Int.reduceBEq, Int.reduceBNe, decide_true, decide_false, Bool.false_eq_true, false_imp_iff, Nat.lt_irrefl]
      refine ADrawT.quiet mixedOrdersD (by kernel_rfl) ?_
      simp only [go_sem, Nat.reduceMul, Nat.reduceLT, Nat.reduceLeDiff, Nat.reduceEqDiff, Nat.reduceBEq, Int.toNat_natCast, Int.reduceToNat, Int.reduceNeg, Int.reduceLT, Int.reduceLE, Int.reduceBEq, Int.reduceBNe, decide_true, decide_false, Bool.false_eq_true, false_imp_iff, Nat.lt_irrefl]
      rw [wrap_id (x := (i : Int) + 1) (by omega) (by omega), show ((i : Int) + 1).toNat = i + 1 by omega]
      rw [hbz] at hb
      rw [hgz] at hgr
      have hft : ft (now - (p.T[i + 1]).1) = true := (ft_iff _).2 (by omega)
      have hfl := floor_low (now - (p.T[i + 1]).1) (p.T[i + 1]).2.1 (by omega)
      simp only [go_sem, hg1, Nat.reduceMul, Nat.reduceLT, Nat.reduceLeDiff, Nat.reduceEqDiff, Nat.reduceBEq, Int.toNat_natCast, Int.reduceToNat, Int.reduceNeg, Int.reduceLT, Int.reduceLE, Int.reduceBEq, Int.reduceBNe, decide_true, decide_false, Bool.false_eq_true, false_imp_iff, Nat.lt_irrefl]
      rw [wrap_id (by omega) (by omega)]
      refine ⟨⟨by omega, by omega⟩, ⟨by omega, by omega⟩, ?_⟩
      refine ACallT.by (floor_ok _ _ _) ?_
      rintro r h1 ⟨rfl, rfl⟩
      rw [floorR, if_pos ⟨(gr_iff _).2 hgr, hft⟩]
      simp only [go_sem, Nat.reduceMul, Nat.reduceLT, Nat.reduceLeDiff, Nat.reduceEqDiff, Nat.reduceBEq, Int.toNat_natCast, Int.reduceToNat, Int.reduceNeg, Int.reduceLT, Int.reduceLE, Int.reduceBEq, Int.reduceBNe, decide_true, decide_false, Bool.false_eq_true, false_imp_iff, Nat.lt_irrefl]
      refine Fin_plain ?_
      rw [if_pos rfl, edgeZ, hbz, hgz, max_if]
    · have hlt : ¬ i + 1 < p.T.length := by have := of_decide_eq_false hc; omega
      have hbz : backZ p i = p.H := by rw [backZ, dif_neg hlt]
      have hgz : granZ p i = (p.T[i]).2.1 := by rw [granZ, dif_neg hlt, dif_pos hi]
      rw [hbz] at hb
      rw [hgz] at hgr
      have hft : ft (now - p.H) = true := (ft_iff _).2 (by omega)
      have hfl := floor_low (now - p.H) (p.T[i]).2.1 (by omega)
      simp only [go_sem, Nat.reduceMul, Nat.reduceLT, Nat.reduceLeDiff, Nat.reduceEqDiff, Nat.reduceBEq, Int.toNat_natCast, Int.reduceToNat, Int.reduceNeg, Int.reduceLT, Int.reduceLE, Int.reduceBEq, Int.reduceBNe, decide_true, decide_false, Bool.false_eq_true, false_imp_iff, Nat.lt_irrefl]
      rw [wrap_id (by omega) (by omega)]
      refine ACallT.by (floor_ok _ _ _) ?_
      rintro r h1 ⟨rfl, rfl⟩
      rw [floorR, if_pos ⟨(gr_iff _).2 hgr, hft⟩]
      simp only [go_sem, Nat.reduceMul, Nat.reduceLT, Nat.reduceLeDiff, Nat.reduceEqDiff, Nat.reduceBEq, Int.toNat_natCast, Int.reduceToNat, Int.reduceNeg, Int.reduceLT, Int.reduceLE, Int.reduceBEq, Int.reduceBNe, decide_true, decide_false, Bool.false_eq_true, false_imp_iff, Nat.lt_irrefl]
      refine Fin_plain ?_
      rw [if_pos rfl, edgeZ, hbz, hgz, max_if]
theorem floor_most (x b g : Int) (hg : 0 < g) (hx : x % g = 0) (h : x ≤ b) : x ≤ b - b % g := by
  have h1 : x = g * (x / g) := by have := Int.mul_ediv_add_emod x g; omega
  have h2 : b - b % g = g * (b / g) := by have := Int.mul_ediv_add_emod b g; omega
  have h3 : x / g ≤ b / g := Int.ediv_le_ediv hg h
  rw [h1, h2]
  exact Int.mul_le_mul_of_nonneg_left h3 (by omega)
theorem co_iff (a b : Int) (h : coS a b = true) : (1 ≤ a ∧ a ≤ 1048576) ∧ (1 ≤ b ∧ b ≤ 1048576) ∧ a % b = 0 := by
  unfold coS at h
  simp only [Bool.and_eq_true, beq_iff_eq] at h
  have ha := (gr_iff a).1 h.1.1
  refine ⟨ha, (gr_iff b).1 h.1.2, ?_⟩
  rw [← Int.tmod_eq_emod_of_nonneg (by omega)]; exact h.2
theorem floor_mod (t g : Int) : (t - t % g) % g = 0 := by
  rw [Int.sub_emod, Int.emod_emod_of_dvd _ (Int.dvd_refl g), Int.sub_self, Int.zero_emod]
theorem mod_of (x a b : Int) (h : x % a = 0) (hab : a % b = 0) : x % b = 0 :=
  Int.emod_eq_zero_of_dvd (Int.dvd_trans (Int.dvd_of_emod_eq_zero hab) (Int.dvd_of_emod_eq_zero h))
/-- A later grain is a multiple of the one ahead. -/
theorem gran_mod (p : Pol) (o : OkP p) (i : Nat) (hi : i + 1 < p.T.length) : granZ p (i + 1) % granZ p i = 0 := by
  have e1 : granZ p i = (p.T[i + 1]).2.1 := by rw [granZ, dif_pos hi]
  rw [e1]
  by_cases h2 : i + 1 + 1 < p.T.length
  · have e2 : granZ p (i + 1) = (p.T[i + 1 + 1]).2.1 := by rw [granZ, dif_pos h2]
    rw [e2]; exact (co_iff _ _ (o.next (i + 1) h2).2).2.2
  · have e2 : granZ p (i + 1) = (p.T[i + 1]).2.1 := by rw [granZ, dif_neg h2, dif_pos hi]
    rw [e2]; exact Int.emod_self
theorem back_lt (p : Pol) (o : OkP p) (i : Nat) (hi : i + 1 < p.T.length) : backZ p i < backZ p (i + 1) := by
  have e1 : backZ p i = (p.T[i + 1]).1 := by rw [backZ, dif_pos hi]
  rw [e1]
  by_cases h2 : i + 1 + 1 < p.T.length
  · have e2 : backZ p (i + 1) = (p.T[i + 1 + 1]).1 := by rw [backZ, dif_pos h2]
    rw [e2]; exact (o.next (i + 1) h2).1
  · have e2 : backZ p (i + 1) = p.H := by rw [backZ, dif_neg h2]
    have hl : p.T.length - 1 = i + 1 := by omega
    have := o.last
    simp only [hl] at this
    rw [e2]; exact this
theorem edge_mono (p : Pol) (o : OkP p) (now : Int) (i : Nat) (hi : i + 1 < p.T.length) : edgeZ p now (i + 1) ≤ edgeZ p now i := by
  have h1 := back_lt p o i hi
  have h2 := gran_ok p o i
  have h3 := gran_ok p o (i + 1)
  have h4 := floor_low (now - backZ p (i + 1)) (granZ p (i + 1)) (by omega)
  have h5 := floor_most ((now - backZ p (i + 1)) - (now - backZ p (i + 1)) % granZ p (i + 1)) (now - backZ p i) (granZ p i) (by omega) (mod_of _ _ _ (floor_mod _ _) (gran_mod p o i hi)) (by omega)
  unfold edgeZ
  omega
theorem edge_time (p : Pol) (o : OkP p) (a b : Int) (hab : a ≤ b) (i : Nat) : edgeZ p a i ≤ edgeZ p b i := by
  have h2 := gran_ok p o i
  have h4 := floor_low (a - backZ p i) (granZ p i) (by omega)
  have h5 := floor_most ((a - backZ p i) - (a - backZ p i) % granZ p i) (b - backZ p i) (granZ p i) (by omega) (floor_mod _ _) (by omega)
  unfold edgeZ
  omega
theorem edge_now (p : Pol) (o : OkP p) (a : Int) (ha : 0 ≤ a) (i : Nat) : edgeZ p a i ≤ a ∧ 0 ≤ edgeZ p a i := by
  have h2 := gran_ok p o i
  have h3 := back_ok p o i
  have h4 := floor_low (a - backZ p i) (granZ p i) (by omega)
  unfold edgeZ
  omega
theorem edge_zero (p : Pol) (o : OkP p) (i : Nat) : edgeZ p 0 i = 0 := by
  have := edge_now p o 0 (by omega) i
  omega
theorem edge_mod (p : Pol) (now : Int) (i : Nat) : edgeZ p now i % granZ p i = 0 := by
  unfold edgeZ
  rcases Int.max_def ((now - backZ p i) - (now - backZ p i) % granZ p i) 0 with e
  rw [e]
  split
  · exact Int.zero_emod _
  · exact floor_mod _ _
end Go.Proofs.Vale

set_option linter.unusedVariables false
set_option linter.unusedSimpArgs false
set_option maxHeartbeats 4000000
set_option maxRecDepth 100000
namespace Go.Proofs.Vale
open Go.Proofs Go.Proofs.YtohppebjmfnmdaaGreatDoorT
attribute [local irreducible] acode aopsL aopsT dopsL dopsT dmL dmT pop popG aop ALoop ADraw ACall AWP AFin acondT ALoopT ADrawT ACallT doP doG doGd

/-! ### Edges -/
def intsA (l : List Int) : List AV := l.map fun z => .int .i64 z
@[go_sem] theorem ints_len (l : List Int) : (intsA l).length = l.length := by simp [intsA]
theorem ints_get (l : List Int) (k : Nat) (h : k < l.length) : (intsA l).getD k .any = .int .i64 l[k] := by simp [intsA, List.getD_eq_getElem?_getD, h]
theorem flatX_ints (l : List Int) : ∀ y ∈ intsA l, flatX y = true := by
  intro y hy
  simp only [intsA, List.mem_map] at hy
  obtain ⟨z, _, rfl⟩ := hy
  rfl
theorem low_ints (n : Nat) : ∀ l : List Int, lowL n (intsA l) = true
  | [] => rfl
  | s :: l => by simp only [intsA, List.map_cons, lowL, AV.low, Bool.true_and]; exact low_ints n l
def edgesL (p : Pol) (now : Int) (k : Nat) : List Int := (List.range k).map (edgeZ p now)
theorem edges_len (p : Pol) (now : Int) (k : Nat) : (edgesL p now k).length = k := by simp [edgesL]
theorem edges_step (p : Pol) (now : Int) (k : Nat) : edgesL p now (k + 1) = edgesL p now k ++ [edgeZ p now k] := by simp [edgesL, List.range_succ]
theorem edges_get (p : Pol) (now : Int) (k i : Nat) (h : i < k) : (intsA (edgesL p now k)).getD i .any = .int .i64 (edgeZ p now i) := by
  rw [ints_get _ _ (by rw [edges_len]; exact h)]
  simp [edgesL]
theorem edges_ok (p : Pol) (o : OkP p) (now : Int) (h : List AObj) : ACall Tryz.prog 9 [polA p, .int .i64 now] h (fun r _ => if ag now = true then ∃ c, r = .tup [.fz c (intsA (edgesL p now p.T.length)), .int .i64 0] else r = .tup [.fz true [], .int .i64 1]) := by
  have hle := o.le
  have hne := o.ne
  have hpa : polA p = .agg [.fz false (tiersA p.T), .fz false (tiersA p.J), .int .i64 p.H] := rfl
  rw [hpa]
  (refine ACall.of_code Tryz.func9 rfl ?_; simp only [Tryz.f9]; simp only [go_sem, Nat.reduceMul, Nat.reduceLT, Nat.reduceLeDiff, Nat.reduceEqDiff, Nat.reduceBEq, Int.toNat_natCast, Int.reduceToNat, Int.reduceNeg, Int.reduceLT, Int.reduceLE, Int.reduceBEq, Int.reduceBNe, decide_true, decide_false, Bool.false_eq_true, false_imp_iff, Nat.lt_irrefl])
  refine ALoop.over [4, 5, 6, 7, 8, 9, 13, 14, 15, 16, 17, 18, 19, 20, 21, 22, 23, 24, 25, 26, 27, 28, 29, 30, 31, 32, 33, 34, 35, 36, 37, 38, 39] (fun e h' => ∃ k : Nat, k ≤ p.T.length ∧ e.getD 13 .any = .int .i64 (k : Int) ∧ (ag now = false → k = 0) ∧ h'[h.length]? = some (.arr 0 3 [polA p]) ∧ ((e.getD 6 .any = .fz true [] ∧ k = 0) ∨ ∃ tg g, 0 < k ∧ tg < h'.length ∧ e.getD 6 .any = .sl tg g 1 0 k ∧ h'[tg]? = some (.arr g 1 (intsA (edgesL p now k))) ∧ tg ≠ h.length)) (fun e _ => p.T.length - natA (e.getD 13 .any)) ⟨0, by omega, rfl, fun _ => rfl, by rw [getElem?_app0]; rfl, .inl ⟨rfl, rfl⟩⟩ ?_
  simp only [List.length_cons, List.length_nil, Nat.reduceAdd, allL_succ, allL_zero]
  intro y4 y5 y6 y7 y8 y9 y13 y14 y15 y16 y17 y18 y19 y20 y21 y22 y23 y24 y25 y26 y27 y28 y29 y30 y31 y32 y33 y34 y35 y36 y37 y38 y39 h' hI
  simp only [go_sem] at hI
  obtain ⟨k, hk, rfl, hag, hP, hX⟩ := hI
  rw [hpa] at hP
  have hPx : ∀ x, (h' ++ x)[h.length]? = some (AObj.arr 0 3 [.agg [.fz false (tiersA p.T), .fz false (tiersA p.J), .int .i64 p.H]]) := fun x => by rw [List.getElem?_append_left (List.getElem?_eq_some_iff.1 hP).1]; exact hP
  simp only [go_sem, Nat.reduceMul, Nat.reduceLT, Nat.reduceLeDiff, Nat.reduceEqDiff, Nat.reduceBEq, Int.toNat_natCast, Int.reduceToNat, Int.reduceNeg, Int.reduceLT, Int.reduceLE, Int.reduceBEq, Int.reduceBNe, decide_true, decide_false, Bool.false_eq_true, false_imp_iff, Nat.lt_irrefl]
  refine acond_intro (fun hc => ?_) (fun hc => ?_)
  · have hlt : k < p.T.length := by have := of_decide_eq_true hc; omega
    simp only [go_sem, hP, Nat.reduceMul, Nat.reduceLT, Nat.reduceLeDiff, Nat.reduceEqDiff, Nat.reduceBEq, Int.toNat_natCast, Int.reduceToNat, Int.reduceNeg, Int.reduceLT, Int.reduceLE, Int.reduceBEq, Int.reduceBNe, decide_true, decide_false, Bool.false_eq_true, false_imp_iff, Nat.lt_irrefl]
    have he := edge_ok p o k now (deadH h') hlt
    rw [hpa] at he
    refine ACallT.frame he ?_
    intro r h2 hr
    cases hn : ag now with
    | false =>
      rw [hn] at hr
      rw [if_neg (by simp)] at hr
      subst hr
      refine ⟨rfl, ?_⟩
      simp only [go_sem, Nat.reduceMul, Nat.reduceLT, Nat.reduceLeDiff, Nat.reduceEqDiff, Nat.reduceBEq, Int.toNat_natCast, Int.reduceToNat, Int.reduceNeg, Int.reduceLT, Int.reduceLE, Int.reduceBEq, Int.reduceBNe, decide_true, decide_false, Bool.false_eq_true, false_imp_iff, Nat.lt_irrefl]
      exact Fin_plain rfl
    | true =>
      rw [hn, if_pos rfl] at hr
      subst hr
      refine ⟨rfl, ?_⟩
      simp only [go_sem, Nat.reduceMul, Nat.reduceLT, Nat.reduceLeDiff, Nat.reduceEqDiff, Nat.reduceBEq, Int.toNat_natCast, Int.reduceToNat, Int.reduceNeg, Int.reduceLT, Int.reduceLE, Int.reduceBEq, Int.reduceBNe, decide_true, decide_false, Bool.false_eq_true, false_imp_iff, Nat.lt_irrefl]
      refine acond_intro (fun hd => ?_) (fun hd => ?_)
      · have hk0 : 0 < k := by have := of_decide_eq_true hd; omega
        rcases hX with ⟨rfl, h0⟩ | ⟨tg, g, hkp, htl, rfl, hg3, hne2⟩
        · omega
        have hgx : ∀ x, (h' ++ x)[tg]? = some (AObj.arr g 1 (intsA (edgesL p now k))) := fun x => by rw [List.getElem?_append_left htl]; exact hg3
        have hlk : (edgesL p now k).length = k := edges_len p now k
        have hwr : IntKind.i64.wrap ((k : Int) - 1) = ((k - 1 : Nat) : Int) := by rw [wrap_id (by omega) (by omega)]; omega
        have hprev := edges_get p now k (k - 1) (by omega)
        have hmono := edge_mono p o now (k - 1) (by omega)
        rw [show k - 1 + 1 = k by omega] at hmono
        simp only [go_sem, hwr, hg3, hgx, hlk, hprev, Nat.reduceMul, Nat.reduceLT, Nat.reduceLeDiff, Nat.reduceEqDiff, Nat.reduceBEq, Int.toNat_natCast, Int.reduceToNat, Int.reduceNeg, Int.reduceLT, Int.reduceLE, Int.reduceBEq, Int.reduceBNe, decide_true, decide_false, Bool.false_eq_true, false_imp_iff, Nat.lt_irrefl]
        rw [wrap_id (x := (k : Int) + 1) (by omega) (by omega)]
        have hmin : (if edgeZ p now (k - 1) < edgeZ p now k then edgeZ p now (k - 1) else edgeZ p now k) = edgeZ p now k := by split <;> omega
        rw [hmin]
        refine ⟨⟨by omega, by omega⟩, by omega, ⟨by omega, by omega⟩, ⟨k + 1, by omega, rfl, ?_, .inr ⟨tg, g + 1, by omega, by omega, rfl, ?_, hne2⟩⟩, by omega⟩
        · rw [List.getElem?_set_ne hne2]; exact hPx _
        · rw [List.getElem?_set_self (by simp; omega), edges_step]; simp [intsA]
      · have hk0 : k = 0 := by have := of_decide_eq_false hd; omega
        subst hk0
        rcases hX with ⟨rfl, h0⟩ | ⟨tg, g, hkp, htl, rfl, hg3, hne2⟩
        · simp only [go_sem, Nat.reduceMul, Nat.reduceLT, Nat.reduceLeDiff, Nat.reduceEqDiff, Nat.reduceBEq, Int.toNat_natCast, Int.reduceToNat, Int.reduceNeg, Int.reduceLT, Int.reduceLE, Int.reduceBEq, Int.reduceBNe, decide_true, decide_false, Bool.false_eq_true, false_imp_iff, Nat.lt_irrefl]
          rw [wrap_id (x := ((0 : Nat) : Int) + 1) (by omega) (by omega)]
          refine ⟨fun q => absurd q (by simp), fun _ => ⟨⟨1, by omega, rfl, ?_, .inr ⟨_, _, by omega, ?_, rfl, ?_, ?_⟩⟩, by omega⟩⟩
          · exact hPx _
          · simp
          · rw [getElem?_app]; rfl
          · have := (List.getElem?_eq_some_iff.1 hP).1; omega
        · omega
  · have hk2 : k = p.T.length := by have := of_decide_eq_false hc; omega
    subst hk2
    have hn : ag now = true := by
      cases q : ag now with
      | true => rfl
      | false => have := hag q; omega
    simp only [go_sem, Nat.reduceMul, Nat.reduceLT, Nat.reduceLeDiff, Nat.reduceEqDiff, Nat.reduceBEq, Int.toNat_natCast, Int.reduceToNat, Int.reduceNeg, Int.reduceLT, Int.reduceLE, Int.reduceBEq, Int.reduceBNe, decide_true, decide_false, Bool.false_eq_true, false_imp_iff, Nat.lt_irrefl]
    rcases hX with ⟨rfl, h0⟩ | ⟨tg, g, hkp, htl, rfl, hg3, hne2⟩
    · omega
    refine Fin_freeze 4 ?_
    rw [if_pos hn]
    simp only [frz_tup, List.map_cons, List.map_nil, frz_sl, frz_int, hg3]
    rw [frzO_all (l := intsA (edgesL p now p.T.length)) (by rw [ints_len, edges_len]) (flatX_ints _)]
    exact ⟨false, rfl⟩
end Go.Proofs.Vale
