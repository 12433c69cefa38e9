/- YtmhcmpeffhlaeaaGreatVDimB: a text of the proof of this claim, by its prover. -/
import Derived.Test.YtmhcmpeffhlaeaaGreatVDrw
import Derived.Test.YtmhcmpeffhlaeaaGreatVTy
set_option linter.unusedVariables false
set_option linter.unusedSimpArgs false
set_option maxHeartbeats 4000000
set_option maxRecDepth 100000
namespace Go.Proofs.Vale
open Go.Proofs Go.Proofs.YtmhcmpeffhlaeaaGreatT
attribute [local irreducible] acode aopsL aopsT dopsL dopsT pop popG aop ALoop ADraw ACall AWP AFin acondT ALoopT ADrawT ACallT doP doG doGd

/-! ### Chunks -/
def chA (ws : List Nat) : List AV := ws.map fun (w : Nat) => .int .u64 (w : Int)
def bitL (ws : List Nat) (x : Nat) : Bool := Nat.beq (ws.getD (x / 64) 0 / 2 ^ (x % 64) % 2) 1
/-- The pointer p is of a chunk of these words. -/
def ChunkAt (h : List AObj) (p : AV) (ws : List Nat) : Prop := ws.length = 4 ∧ (∀ w ∈ ws, w < 18446744073709551616) ∧ (p = .ptr (.agg (chA ws)) ∨ ∃ t g, p = .ref t g 4 0 0 ∧ h[t]? = some (.arr g 4 [.agg (chA ws)]))
theorem chA_len (ws : List Nat) : (chA ws).length = ws.length := by simp [chA]
theorem chA_get (ws : List Nat) (k : Nat) (h : k < ws.length) : (chA ws).getD k .any = .int .u64 ((ws.getD k 0 : Nat) : Int) := by
  simp [chA, List.getD_eq_getElem?_getD, h]
theorem getD_lt (ws : List Nat) (hw : ∀ w ∈ ws, w < 18446744073709551616) (k : Nat) : ws.getD k 0 < 18446744073709551616 := by
  by_cases q : k < ws.length
  · rw [List.getD_eq_getElem?_getD, List.getElem?_eq_getElem q]; exact hw _ (List.getElem_mem q)
  · rw [List.getD_eq_getElem?_getD, List.getElem?_eq_none (by omega)]; decide
theorem and1_u64 (n : Nat) (h : n < 18446744073709551616) : intBitsA .and .u64 (n : Int) 1 = ((n % 2 : Nat) : Int) := by
  simp only [intBitsA]
  have : (BitVec.ofInt 64 (n : Int) &&& BitVec.ofInt 64 1) = BitVec.ofNat 64 (n % 2) := by
    rw [BitVec.ofInt_natCast]
    apply BitVec.eq_of_toNat_eq
    simp [Nat.and_one_is_mod, Nat.mod_eq_of_lt h]
    omega
  show IntKind.u64.wrap ((BitVec.ofInt 64 (n : Int) &&& BitVec.ofInt 64 1).toNat : Int) = _
  rw [this, BitVec.toNat_ofNat, Nat.mod_eq_of_lt (by omega), wrap_u64 (by omega) (by omega)]
theorem has_end (ws : List Nat) (x : Nat) (hx : x < 256) (hw : ∀ w ∈ ws, w < 18446744073709551616) : (intBitsA BinOp.and IntKind.u64 (((ws.getD (x / 64) 0 : Nat) : Int).fdiv (2 ^ min (x % 64) 64)) 1 == 1) = bitL ws x := by
  have e1 : min (x % 64) 64 = x % 64 := by omega
  have e2 : (2 : Int) ^ (x % 64) = ((2 ^ (x % 64) : Nat) : Int) := by simp
  have := getD_lt ws hw (x / 64)
  rw [e1, e2, Int.fdiv_eq_ediv_of_nonneg _ (Int.natCast_nonneg _), ← Int.natCast_ediv, and1_u64 _ (Nat.lt_of_le_of_lt (Nat.div_le_self _ _) this)]
  simp only [bitL]
  rcases Nat.mod_two_eq_zero_or_one (ws.getD (x / 64) 0 / 2 ^ (x % 64)) with q | q <;> rw [q] <;> decide
theorem has_ok (p : AV) (ws : List Nat) (x : Nat) (h : List AObj) (hp : ChunkAt h p ws) (hx : x < 256) : ACall Tryz.prog 117 [p, .int .i64 x] h (fun r _ => r = .bool (bitL ws x)) := by
  obtain ⟨hl, hw, rfl | ⟨t, g, rfl, ht⟩⟩ := hp
  · (refine ACall.of_code Tryz.func117 rfl ?_; simp only [Tryz.f117]; simp only [go_sem, Nat.reduceMul, Nat.reduceLT, Nat.reduceLeDiff, Nat.reduceEqDiff, Nat.reduceBEq, Int.toNat_natCast, Int.reduceToNat, Int.reduceNeg, Int.reduceLT, Int.reduceLE, Int.reduceBEq, Int.reduceBNe, decide_true, decide_false, Bool.false_eq_true, false_imp_iff, Nat.lt_irrefl])
    refine ⟨by decide, ?_⟩
    generalize hq : IntKind.i64.wrap (((x : Nat) : Int).tdiv 64) = q
    obtain rfl : q = ((x / 64 : Nat) : Int) := by rw [← hq, Int.tdiv_eq_ediv_of_nonneg (by omega), wrap_id (by omega) (by omega)]; omega
    simp only [go_sem, Nat.reduceMul, Nat.reduceLT, Nat.reduceLeDiff, Nat.reduceEqDiff, Nat.reduceBEq, Int.toNat_natCast, Int.reduceToNat, Int.reduceNeg, Int.reduceLT, Int.reduceLE, Int.reduceBEq, Int.reduceBNe, decide_true, decide_false, Bool.false_eq_true, false_imp_iff, Nat.lt_irrefl]
    refine ⟨⟨by omega, by omega, by rw [chA_len]; omega, ?_⟩, ?_⟩
    · rw [chA_get _ _ (by omega)]; rfl
    rw [chA_get _ _ (by omega)]
    simp only [go_sem, Nat.reduceMul, Nat.reduceLT, Nat.reduceLeDiff, Nat.reduceEqDiff, Nat.reduceBEq, Int.toNat_natCast, Int.reduceToNat, Int.reduceNeg, Int.reduceLT, Int.reduceLE, Int.reduceBEq, Int.reduceBNe, decide_true, decide_false, Bool.false_eq_true, false_imp_iff, Nat.lt_irrefl]
    refine ⟨by decide, ?_⟩
    generalize hq2 : ((x : Nat) : Int).tmod 64 = q2
    obtain rfl : q2 = ((x % 64 : Nat) : Int) := by rw [← hq2, Int.tmod_eq_emod_of_nonneg (by omega)]; omega
    refine ⟨by omega, ?_⟩
    simp only [go_sem, Nat.reduceMul, Nat.reduceLT, Nat.reduceLeDiff, Nat.reduceEqDiff, Nat.reduceBEq, Int.toNat_natCast, Int.reduceToNat, Int.reduceNeg, Int.reduceLT, Int.reduceLE, Int.reduceBEq, Int.reduceBNe, decide_true, decide_false, Bool.false_eq_true, false_imp_iff, Nat.lt_irrefl]
    refine Fin_plain ?_
    rw [has_end ws x hx hw]
  · (refine ACall.of_code Tryz.func117 rfl ?_; simp only [Tryz.f117]; simp only [go_sem, Nat.reduceMul, Nat.reduceLT, Nat.reduceLeDiff, Nat.reduceEqDiff, Nat.reduceBEq, Int.toNat_natCast, Int.reduceToNat, Int.reduceNeg, Int.reduceLT, Int.reduceLE, Int.reduceBEq, Int.reduceBNe, decide_true, decide_false, Bool.false_eq_true, false_imp_iff, Nat.lt_irrefl])
    refine ⟨by decide, ?_⟩
    generalize hq : IntKind.i64.wrap (((x : Nat) : Int).tdiv 64) = q
    obtain rfl : q = ((x / 64 : Nat) : Int) := by rw [← hq, Int.tdiv_eq_ediv_of_nonneg (by omega), wrap_id (by omega) (by omega)]; omega
    simp only [go_sem, Nat.reduceMul, Nat.reduceLT, Nat.reduceLeDiff, Nat.reduceEqDiff, Nat.reduceBEq, Int.toNat_natCast, Int.reduceToNat, Int.reduceNeg, Int.reduceLT, Int.reduceLE, Int.reduceBEq, Int.reduceBNe, decide_true, decide_false, Bool.false_eq_true, false_imp_iff, Nat.lt_irrefl]
    refine ⟨⟨by omega, by omega⟩, ?_⟩
    have e : (chA ws).getD (x / 64 * 1) .any = .int .u64 ((ws.getD (x / 64) 0 : Nat) : Int) := by rw [Nat.mul_one, chA_get _ _ (by omega)]
    simp only [go_sem, ht, e, Nat.reduceMul, Nat.reduceLT, Nat.reduceLeDiff, Nat.reduceEqDiff, Nat.reduceBEq, Int.toNat_natCast, Int.reduceToNat, Int.reduceNeg, Int.reduceLT, Int.reduceLE, Int.reduceBEq, Int.reduceBNe, decide_true, decide_false, Bool.false_eq_true, false_imp_iff, Nat.lt_irrefl]
    trace_state
    refine ⟨by rw [chA_len]; omega, ?_⟩
    refine ⟨by decide, ?_⟩
    generalize hq2 : ((x : Nat) : Int).tmod 64 = q2
    obtain rfl : q2 = ((x % 64 : Nat) : Int) := by rw [← hq2, Int.tmod_eq_emod_of_nonneg (by omega)]; omega
    refine ⟨by omega, ?_⟩
    simp only [go_sem, Nat.reduceMul, Nat.reduceLT, Nat.reduceLeDiff, Nat.reduceEqDiff, Nat.reduceBEq, Int.toNat_natCast, Int.reduceToNat, Int.reduceNeg, Int.reduceLT, Int.reduceLE, Int.reduceBEq, Int.reduceBNe, decide_true, decide_false, Bool.false_eq_true, false_imp_iff, Nat.lt_irrefl]
    refine Fin_plain ?_
    rw [has_end ws x hx hw]
end Go.Proofs.Vale

set_option linter.unusedVariables false
set_option linter.unusedSimpArgs false
set_option maxHeartbeats 4000000
set_option maxRecDepth 100000
namespace Go.Proofs.Vale
open Go.Proofs Go.Proofs.YtmhcmpeffhlaeaaGreatT
attribute [local irreducible] acode aopsL aopsT dopsL dopsT pop popG aop ALoop ADraw ACall AWP AFin acondT ALoopT ADrawT ACallT doP doG doGd

theorem has_same (p : AV) (ws : List Nat) (x : Nat) (h : List AObj) (hp : ChunkAt h p ws) (hx : x < 256) : ACall Tryz.prog 117 [p, .int .i64 x] h (fun r h' => r = .bool (bitL ws x) ∧ h' = h) := by
  obtain ⟨hl, hw, rfl | ⟨t, g, rfl, ht⟩⟩ := hp
  · exact ACall.frame ((has_ok _ ws x _ ⟨hl, hw, .inl rfl⟩ hx).mono fun r h' e => by subst e; exact ⟨rfl, rfl, rfl⟩)
  · refine ACall.pure (as' := [.ptr (.agg (chA ws)), .int .i64 x]) (p := 0 < 1) ?_ (by decide) ((has_ok _ ws x _ ⟨hl, hw, .inl rfl⟩ hx).mono fun r h' e => by subst e; exact ⟨rfl, rfl, rfl⟩)
    simp only [go_sem, ht]
/-- The first number from x on that is not in. -/
def runEnd (ws : List Nat) : Nat → Nat → Nat
  | 0, x => x
  | n + 1, x => bif Nat.blt x 256 && bitL ws x then runEnd ws n (x + 1) else x
/-- The runs from x on. -/
def strL (ws : List Nat) : Nat → Nat → List (Nat × Nat)
  | 0, _ => []
  | n + 1, x => bif Nat.blt x 256 then (bif bitL ws x then (x, runEnd ws 256 x) :: strL ws n (runEnd ws 256 x + 1) else strL ws n (x + 1)) else []
def runV (p : Nat × Nat) : AV := .agg [.int .i64 p.1, .int .i64 p.2]
theorem runEnd_le (ws : List Nat) : ∀ (n x : Nat), x ≤ runEnd ws n x ∧ (x ≤ 256 → runEnd ws n x ≤ 256) := by
  intro n
  induction n with
  | zero => intro x; simp [runEnd]
  | succ n ih =>
    intro x
    simp only [runEnd]
    cases hb : (Nat.blt x 256 && bitL ws x) with
    | false => simp
    | true =>
      simp only [Bool.and_eq_true, Nat.blt_eq] at hb
      have := ih (x + 1)
      simp only [cond_true]
      omega
theorem strL_len (ws : List Nat) : ∀ (n x : Nat), (strL ws n x).length ≤ n := by
  intro n
  induction n with
  | zero => intro x; simp [strL]
  | succ n ih =>
    intro x
    simp only [strL]
    cases Nat.blt x 256 <;> simp only [cond_false, cond_true, List.length_nil] <;> (try omega)
    have := ih (x + 1)
    have := ih (runEnd ws 256 x + 1)
    cases bitL ws x <;> simp <;> omega
theorem stretches_ok (p : AV) (ws : List Nat) (h : List AObj) (hp : ∀ z, ChunkAt (h ++ z) p ws) : ACall Tryz.prog 78 [p] h (fun r h' => ∃ z, h' = h ++ z ∧ z.length ≤ 1 + 2 * (strL ws 257 0).length ∧ (((strL ws 257 0) = [] ∧ r = .fz true []) ∨ ∃ t g, (h.length ≤ t ∧ strL ws 257 0 ≠ []) ∧ r = .sl t g 2 0 (strL ws 257 0).length ∧ h'[t]? = some (.arr g 2 ((strL ws 257 0).map runV)))) := by
  have hps : p.okS := by
    obtain ⟨-, -, rfl | ⟨t, g, rfl, -⟩⟩ := hp []
    · simp [AV.okS]
    · simp [AV.okS]
  have hpst : p.strip = p := by
    obtain ⟨-, -, rfl | ⟨t, g, rfl, -⟩⟩ := hp []
    · simp [AV.strip]
    · simp [AV.strip]
  generalize hS : strL ws 257 0 = S
  (refine ACall.of_code Tryz.func78 rfl ?_; simp only [Tryz.f78]; simp only [go_sem, Nat.reduceMul, Nat.reduceLT, Nat.reduceLeDiff, Nat.reduceEqDiff, Nat.reduceBEq, Int.toNat_natCast, Int.reduceToNat, Int.reduceNeg, Int.reduceLT, Int.reduceLE, Int.reduceBEq, Int.reduceBNe, decide_true, decide_false, Bool.false_eq_true, false_imp_iff, Nat.lt_irrefl])
  refine ALoop.over [3, 4, 5, 6, 7, 8, 9, 10, 11, 12, 13, 14, 15, 16, 17, 18, 19, 20, 21, 22, 23, 24, 25, 26, 27, 28, 29] (fun e h' => ∃ z L k x, h' = h ++ z ∧ z.length ≤ 1 + 2 * L.length ∧ L ++ strL ws k x = S ∧ 257 ≤ x + k ∧ x ≤ 257 ∧ e.getD 4 .any = .int .i64 (x : Nat) ∧ ((L = [] ∧ e.getD 3 .any = .fz true []) ∨ ∃ t g, (h.length ≤ t ∧ L ≠ []) ∧ e.getD 3 .any = .sl t g 2 0 L.length ∧ h'[t]? = some (.arr g 2 (L.map runV)))) (fun e _ => 300 - natA (e.getD 4 .any)) ⟨[], [], 257, 0, by simp, by simp, by simp [hS], by omega, by omega, rfl, .inl ⟨rfl, rfl⟩⟩ ?_
  simp only [List.length_cons, List.length_nil, Nat.reduceAdd, allL_succ, allL_zero]
  intro y3 y4 y5 y6 y7 y8 y9 y10 y11 y12 y13 y14 y15 y16 y17 y18 y19 y20 y21 y22 y23 y24 y25 y26 y27 y28 y29 h' hI
  simp only [go_sem] at hI
  obtain ⟨z, L, k, x, rfl, hz, hL, hk, hx, rfl, hX⟩ := hI
  simp only [go_sem, Nat.reduceMul, Nat.reduceLT, Nat.reduceLeDiff, Nat.reduceEqDiff, Nat.reduceBEq, Int.toNat_natCast, Int.reduceToNat, Int.reduceNeg, Int.reduceLT, Int.reduceLE, Int.reduceBEq, Int.reduceBNe, decide_true, decide_false, Bool.false_eq_true, false_imp_iff, Nat.lt_irrefl]
  refine acond_intro (fun hc => ?_) (fun hc => ?_)
  · have hlt : x < 256 := by have := of_decide_eq_true hc; omega
    simp only [go_sem, Nat.reduceMul, Nat.reduceLT, Nat.reduceLeDiff, Nat.reduceEqDiff, Nat.reduceBEq, Int.toNat_natCast, Int.reduceToNat, Int.reduceNeg, Int.reduceLT, Int.reduceLE, Int.reduceBEq, Int.reduceBNe, decide_true, decide_false, Bool.false_eq_true, false_imp_iff, Nat.lt_irrefl]
    refine ACallT.by (has_same p ws x _ (hp z) hlt) ?_
    rintro _ _ ⟨rfl, rfl⟩
    obtain ⟨k, rfl⟩ : ∃ k', k = k' + 1 := ⟨k - 1, by omega⟩
    have hlt' : Nat.blt x 256 = true := by simpa using hlt
    have hw : IntKind.i64.wrap ((x : Int) + 1) = ((x + 1 : Nat) : Int) := by rw [wrap_id (by omega) (by omega)]; omega
    simp only [strL, hlt', cond_true] at hL
    generalize hb : bitL ws x = b at hL ⊢
    cases b with
    | false =>
      simp only [go_sem, Nat.reduceMul, Nat.reduceLT, Nat.reduceLeDiff, Nat.reduceEqDiff, Nat.reduceBEq, Int.toNat_natCast, Int.reduceToNat, Int.reduceNeg, Int.reduceLT, Int.reduceLE, Int.reduceBEq, Int.reduceBNe, decide_true, decide_false, Bool.false_eq_true, false_imp_iff, Nat.lt_irrefl]
      refine ⟨⟨z, L, k, x + 1, rfl, hz, hL, by omega, by omega, by rw [hw], hX⟩, ?_⟩
      rw [hw]; omega
    | true =>
      simp only [cond_true] at hL
      have hend := runEnd_le ws 256 x
      simp only [go_sem, Nat.reduceMul, Nat.reduceLT, Nat.reduceLeDiff, Nat.reduceEqDiff, Nat.reduceBEq, Int.toNat_natCast, Int.reduceToNat, Int.reduceNeg, Int.reduceLT, Int.reduceLE, Int.reduceBEq, Int.reduceBNe, decide_true, decide_false, Bool.false_eq_true, false_imp_iff, Nat.lt_irrefl]
      refine ALoop.over [4, 15, 16, 17, 18, 19, 20, 21, 22, 23] (fun e h' => ∃ n y, h' = h ++ z ∧ e.getD 4 .any = .int .i64 (y : Nat) ∧ x ≤ y ∧ y ≤ 256 ∧ 256 ≤ y + n ∧ runEnd ws n y = runEnd ws 256 x) (fun e _ => 300 - natA (e.getD 4 .any)) ⟨256, x, rfl, rfl, by omega, by omega, by omega, rfl⟩ ?_
      simp only [List.length_cons, List.length_nil, Nat.reduceAdd, allL_succ, allL_zero]
      intro y4 y15 y16 y17 y18 y19 y20 y21 y22 y23 h' hI
      simp only [go_sem] at hI
      obtain ⟨n, y, rfl, rfl, hy1, hy2, hn, hre⟩ := hI
      simp only [go_sem, Nat.reduceMul, Nat.reduceLT, Nat.reduceLeDiff, Nat.reduceEqDiff, Nat.reduceBEq, Int.toNat_natCast, Int.reduceToNat, Int.reduceNeg, Int.reduceLT, Int.reduceLE, Int.reduceBEq, Int.reduceBNe, decide_true, decide_false, Bool.false_eq_true, false_imp_iff, Nat.lt_irrefl]
      refine ⟨fun _ => hps, ?_⟩
      generalize hd : decide ((y : Int) < 256) = d
      cases d with
      | false =>
        have hy : y = 256 := by have := of_decide_eq_false hd; omega
        subst hy
        have hE : runEnd ws 256 x = 256 := by rw [← hre]; cases n with
          | zero => rfl
          | succ n => simp only [runEnd, show Nat.blt 256 256 = false from rfl, Bool.false_and, cond_false]
        have hw2 : IntKind.i64.wrap (((256 : Nat) : Int) + 1) = (((256 : Nat) + 1 : Nat) : Int) := by rw [wrap_id (by omega) (by omega)]; omega
        rw [hE] at hL
        rcases hX with ⟨rfl, rfl⟩ | ⟨t, g, ⟨hth, hLn⟩, rfl, hg⟩
        · simp only [go_sem, Nat.reduceMul, Nat.reduceLT, Nat.reduceLeDiff, Nat.reduceEqDiff, Nat.reduceBEq, Int.toNat_natCast, Int.reduceToNat, Int.reduceNeg, Int.reduceLT, Int.reduceLE, Int.reduceBEq, Int.reduceBNe, decide_true, decide_false, Bool.false_eq_true, false_imp_iff, Nat.lt_irrefl]
          refine ⟨(fun q => by cases q), fun _ => ⟨⟨_, [(x, (256 : Nat))], k, (256 : Nat) + 1, rfl, ?_, hL, by omega, by omega, by rw [hw2], .inr ⟨_, 0, ?_, rfl, ?_⟩⟩, by rw [hw2]; omega⟩⟩
          · simp at hz ⊢; omega
          · exact ⟨by omega, by simp⟩
          · rw [List.getElem?_append_right (by omega), List.getElem?_append_right (by omega)]
            simp [show h.length + (z.length + 1) - h.length - z.length = 1 by omega, runV]
        · have hg2 : ∀ q, (h ++ (z ++ q))[t]? = some (AObj.arr g 2 (L.map runV)) := fun q => by
            rw [← List.append_assoc, List.getElem?_append_left (List.getElem?_eq_some_iff.1 hg).1]; exact hg
          have hLS : L.length ≤ 257 := by
            have := strL_len ws 257 0
            rw [hS, ← hL] at this
            simp at this; omega
          simp only [go_sem, hg2, Nat.reduceMul, Nat.reduceLT, Nat.reduceLeDiff, Nat.reduceEqDiff, Nat.reduceBEq, Int.toNat_natCast, Int.reduceToNat, Int.reduceNeg, Int.reduceLT, Int.reduceLE, Int.reduceBEq, Int.reduceBNe, decide_true, decide_false, Bool.false_eq_true, false_imp_iff, Nat.lt_irrefl]
          refine ⟨⟨by simp, by simp; omega, by simp; omega⟩, ⟨(z ++ [AObj.arr 0 2 [AV.agg [AV.int .i64 x, AV.int .i64 (256 : Nat)]]]).set (t - h.length) (AObj.arr (g + 1) 2 (L.map runV ++ [AV.agg [AV.int .i64 x, AV.int .i64 (256 : Nat)]])), L ++ [(x, (256 : Nat))], k, (256 : Nat) + 1, ?_, ?_, by rw [List.append_assoc]; exact hL, by omega, by omega, by rw [hw2], .inr ⟨t, g + 1, ⟨hth, by simp⟩, by simp, ?_⟩⟩, by rw [hw2]; omega⟩
          · rw [List.set_append, if_neg (by omega)]
          · simp; omega
          · rw [List.getElem?_set_self (by have := (List.getElem?_eq_some_iff.1 hg).1; simp at this ⊢; omega)]
            simp [runV]
      | true =>
        have hy : y < 256 := by have := of_decide_eq_true hd; omega
        simp only [go_sem, Nat.reduceMul, Nat.reduceLT, Nat.reduceLeDiff, Nat.reduceEqDiff, Nat.reduceBEq, Int.toNat_natCast, Int.reduceToNat, Int.reduceNeg, Int.reduceLT, Int.reduceLE, Int.reduceBEq, Int.reduceBNe, decide_true, decide_false, Bool.false_eq_true, false_imp_iff, Nat.lt_irrefl]
        rw [hpst]
        refine ACallT.by (has_same p ws y _ (hp z) hy) ?_
        rintro _ _ ⟨rfl, rfl⟩
        have hy' : Nat.blt y 256 = true := by simpa using hy
        obtain ⟨n, rfl⟩ : ∃ n', n = n' + 1 := ⟨n - 1, by omega⟩
        simp only [runEnd, hy', Bool.true_and] at hre
        generalize hb2 : bitL ws y = b2 at hre ⊢
        have hw2 : IntKind.i64.wrap ((y : Int) + 1) = ((y + 1 : Nat) : Int) := by rw [wrap_id (by omega) (by omega)]; omega
        cases b2 with
        | true =>
          simp only [go_sem, Nat.reduceMul, Nat.reduceLT, Nat.reduceLeDiff, Nat.reduceEqDiff, Nat.reduceBEq, Int.toNat_natCast, Int.reduceToNat, Int.reduceNeg, Int.reduceLT, Int.reduceLE, Int.reduceBEq, Int.reduceBNe, decide_true, decide_false, Bool.false_eq_true, false_imp_iff, Nat.lt_irrefl]
          refine ⟨⟨n, y + 1, by rw [hw2], by omega, by omega, by omega, hre⟩, ?_⟩
          rw [hw2]; omega
        | false =>
          simp only [cond_false] at hre
          have hE : runEnd ws 256 x = y := hre.symm
          have hw2 : IntKind.i64.wrap ((y : Int) + 1) = ((y + 1 : Nat) : Int) := by rw [wrap_id (by omega) (by omega)]; omega
          rw [hE] at hL
          rcases hX with ⟨rfl, rfl⟩ | ⟨t, g, ⟨hth, hLn⟩, rfl, hg⟩
          · simp only [go_sem, Nat.reduceMul, Nat.reduceLT, Nat.reduceLeDiff, Nat.reduceEqDiff, Nat.reduceBEq, Int.toNat_natCast, Int.reduceToNat, Int.reduceNeg, Int.reduceLT, Int.reduceLE, Int.reduceBEq, Int.reduceBNe, decide_true, decide_false, Bool.false_eq_true, false_imp_iff, Nat.lt_irrefl]
            refine ⟨(fun q => by cases q), fun _ => ⟨⟨_, [(x, y)], k, y + 1, rfl, ?_, hL, by omega, by omega, by rw [hw2], .inr ⟨_, 0, ?_, rfl, ?_⟩⟩, by rw [hw2]; omega⟩⟩
            · simp at hz ⊢; omega
            · exact ⟨by omega, by simp⟩
            · rw [List.getElem?_append_right (by omega), List.getElem?_append_right (by omega)]
              simp [show h.length + (z.length + 1) - h.length - z.length = 1 by omega, runV]
          · have hg2 : ∀ q, (h ++ (z ++ q))[t]? = some (AObj.arr g 2 (L.map runV)) := fun q => by
              rw [← List.append_assoc, List.getElem?_append_left (List.getElem?_eq_some_iff.1 hg).1]; exact hg
            have hLS : L.length ≤ 257 := by
              have := strL_len ws 257 0
              rw [hS, ← hL] at this
              simp at this; omega
            simp only [go_sem, hg2, Nat.reduceMul, Nat.reduceLT, Nat.reduceLeDiff, Nat.reduceEqDiff, Nat.reduceBEq, Int.toNat_natCast, Int.reduceToNat, Int.reduceNeg, Int.reduceLT, Int.reduceLE, Int.reduceBEq, Int.reduceBNe, decide_true, decide_false, Bool.false_eq_true, false_imp_iff, Nat.lt_irrefl]
            refine ⟨⟨by simp, by simp; omega, by simp; omega⟩, ⟨(z ++ [AObj.arr 0 2 [AV.agg [AV.int .i64 x, AV.int .i64 y]]]).set (t - h.length) (AObj.arr (g + 1) 2 (L.map runV ++ [AV.agg [AV.int .i64 x, AV.int .i64 y]])), L ++ [(x, y)], k, y + 1, ?_, ?_, by rw [List.append_assoc]; exact hL, by omega, by omega, by rw [hw2], .inr ⟨t, g + 1, ⟨hth, by simp⟩, by simp, ?_⟩⟩, by rw [hw2]; omega⟩
            · rw [List.set_append, if_neg (by omega)]
            · simp; omega
            · rw [List.getElem?_set_self (by have := (List.getElem?_eq_some_iff.1 hg).1; simp at this ⊢; omega)]
              simp [runV]

  · have hlt : ¬ x < 256 := by have := of_decide_eq_false hc; omega
    simp only [go_sem, Nat.reduceMul, Nat.reduceLT, Nat.reduceLeDiff, Nat.reduceEqDiff, Nat.reduceBEq, Int.toNat_natCast, Int.reduceToNat, Int.reduceNeg, Int.reduceLT, Int.reduceLE, Int.reduceBEq, Int.reduceBNe, decide_true, decide_false, Bool.false_eq_true, false_imp_iff, Nat.lt_irrefl]
    have hst : strL ws k x = [] := by
      have : Nat.blt x 256 = false := by cases q : Nat.blt x 256 with
        | false => rfl
        | true => exact absurd (by simpa using q) hlt
      cases k <;> simp [strL, this]
    rw [hst, List.append_nil] at hL
    subst hL
    exact Fin_plain ⟨z, rfl, hz, hX⟩
end Go.Proofs.Vale
