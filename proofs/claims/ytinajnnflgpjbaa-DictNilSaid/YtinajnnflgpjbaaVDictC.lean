/- YtinajnnflgpjbaaVDictC: a text of the proof of this claim, by its prover. -/
import Derived.Test.YtinajnnflgpjbaaVDictB
set_option linter.unusedVariables false
set_option linter.unusedSimpArgs false
set_option maxHeartbeats 4000000
set_option maxRecDepth 100000
namespace Go.Proofs.Vale
open Go.Proofs Go.Proofs.YtinajnnflgpjbaaT
attribute [local irreducible] acode aopsL aopsT dopsL dopsT pop popG aop ALoop ADraw ACall AWP AFin acondT ALoopT ADrawT ACallT doP doG doGd

/-! ### Numbers as bytes -/
/-- The bytes ahead of the last one: those of m, each with its mark. -/
def vhi (m : Nat) : Str := if h : m = 0 then [] else vhi (m / 128) ++ [UInt8.ofNat (128 + m % 128)]
termination_by m
decreasing_by omega
def vb (u : Nat) : Str := vhi (u / 128) ++ [UInt8.ofNat (u % 128)]
theorem vhi_zero : vhi 0 = [] := by rw [vhi]; simp
theorem vhi_pos {m : Nat} (h : m ≠ 0) : vhi m = vhi (m / 128) ++ [UInt8.ofNat (128 + m % 128)] := by rw [vhi]; simp [h]
theorem okEl_bytes (l : List UInt8) : (bytesA l).all (okEl 1) = true := by simp [bytesA, okEl, AV.cells, AV.one]
theorem cells_bytes (l : List UInt8) : ((bytesA l).all fun y => y.cells.length == 1) = true := by simp [bytesA, AV.cells]

theorem u64_wrap (n : Nat) (h : n < 18446744073709551616) : IntKind.u64.wrap ((n : Nat) : Int) = n := wrap_u64 (by omega) (by omega)
theorem xor0 (n : Nat) (h : n < 18446744073709551616) : intBitsA .xor .u64 (n : Int) 0 = n := by
  simp only [intBitsA]
  have : (BitVec.ofInt 64 (n : Int) ^^^ BitVec.ofInt 64 0) = BitVec.ofNat 64 n := by
    rw [BitVec.ofInt_natCast]; simp
  show IntKind.u64.wrap ((BitVec.ofInt 64 (n : Int) ^^^ BitVec.ofInt 64 0).toNat : Int) = n
  rw [this, BitVec.toNat_ofNat, Nat.mod_eq_of_lt h, u64_wrap n h]
theorem fold_ok (n : Nat) (h : List AObj) (hn : n ≤ 4611686018427387904) : ACall Try.prog 70 [.int .i64 n] h (fun r _ => r = .int .u64 ((2 * n : Nat) : Int)) := by
  (refine ACall.of_code Try.func70 rfl ?_; simp only [Try.f70]; simp only [go_sem, Nat.reduceMul, Nat.reduceLT, Nat.reduceLeDiff, Nat.reduceEqDiff, Nat.reduceBEq, Int.toNat_natCast, Int.reduceToNat, Int.reduceNeg, Int.reduceLT, Int.reduceLE, Int.reduceBEq, Int.reduceBNe, decide_true, decide_false, Bool.false_eq_true, false_imp_iff, Nat.lt_irrefl])
  refine Fin_plain ?_
  have e1 : (2 : Int) ^ min 1 64 = 2 := by decide
  have e2 : (2 : Int) ^ min 63 64 = 9223372036854775808 := by decide
  have e3 : ((n : Int)).fdiv 9223372036854775808 = 0 := by rw [Int.fdiv_eq_ediv_of_nonneg _ (by decide)]; omega
  rw [e1, e2, e3, u64_wrap n (by omega), show (n : Int) * 2 = ((2 * n : Nat) : Int) by omega, u64_wrap (2 * n) (by omega), show IntKind.u64.wrap 0 = 0 by decide, xor0 _ (by omega)]
theorem rfold_ok (n : Nat) (h : List AObj) (hn : n ≤ 4611686018427387904) : ACall Try.prog 71 [.int .i64 n] h (fun r _ => r = .int .u64 ((2 * n : Nat) : Int)) := by
  (refine ACall.of_code Try.func71 rfl ?_; simp only [Try.f71]; simp only [go_sem, Nat.reduceMul, Nat.reduceLT, Nat.reduceLeDiff, Nat.reduceEqDiff, Nat.reduceBEq, Int.toNat_natCast, Int.reduceToNat, Int.reduceNeg, Int.reduceLT, Int.reduceLE, Int.reduceBEq, Int.reduceBNe, decide_true, decide_false, Bool.false_eq_true, false_imp_iff, Nat.lt_irrefl])
  generalize hb : decide ((0 : Int) ≤ (n : Int)) = b
  obtain rfl : b = true := by rw [← hb]; simp
  simp only [go_sem, Nat.reduceMul, Nat.reduceLT, Nat.reduceLeDiff, Nat.reduceEqDiff, Nat.reduceBEq, Int.toNat_natCast, Int.reduceToNat, Int.reduceNeg, Int.reduceLT, Int.reduceLE, Int.reduceBEq, Int.reduceBNe, decide_true, decide_false, Bool.false_eq_true, false_imp_iff, Nat.lt_irrefl]
  refine Fin_plain ?_
  rw [u64_wrap n (by omega), show 2 * (n : Int) = ((2 * n : Nat) : Int) by omega, u64_wrap (2 * n) (by omega)]
theorem andNot_128 (m : Nat) : intBitsA .andNot .u8 (IntKind.u8.wrap (m : Int)) 128 = ((m % 128 : Nat) : Int) := by
  have h1 : IntKind.u8.wrap (m : Int) = ((m % 256 : Nat) : Int) := by
    simp only [IntKind.wrap, IntKind.signed, IntKind.bits, Bool.false_and, Bool.false_eq_true, if_false]; omega
  rw [h1]
  have h2 : ∀ x : Fin 256, intBitsA .andNot .u8 ((x.val : Nat) : Int) 128 = ((x.val % 128 : Nat) : Int) := by decide +kernel
  have := h2 ⟨m % 256, Nat.mod_lt _ (by decide)⟩
  simp only at this
  rw [this]; congr 1; omega
theorem or_128 (y : Nat) (h : y < 128) : intBitsA .or .u8 (y : Int) 128 = ((128 + y : Nat) : Int) := by
  have h2 : ∀ x : Fin 128, intBitsA .or .u8 ((x.val : Nat) : Int) 128 = ((128 + x.val : Nat) : Int) := by decide +kernel
  exact h2 ⟨y, h⟩
/-- What stands behind b after i rounds. -/
def vX (u i : Nat) : Str := if i = 10 then vb u else vhi (u / 128 ^ (10 - i))
theorem shr_eq (u k : Nat) (hk : k ≤ 9) : ((u : Int)).fdiv (2 ^ min (7 * k) 64) = ((u / 128 ^ k : Nat) : Int) := by
  have e1 : min (7 * k) 64 = 7 * k := by omega
  have e2 : (2 : Int) ^ (7 * k) = ((128 ^ k : Nat) : Int) := by
    rw [show (128 : Nat) = 2 ^ 7 by decide, ← Nat.pow_mul]; simp
  rw [e1, e2, Int.fdiv_eq_ediv_of_nonneg _ (Int.natCast_nonneg _), Int.natCast_ediv]
theorem vX_last (u : Nat) : vX u 10 = vX u 9 ++ [UInt8.ofNat (u % 128)] := by simp [vX, vb]
theorem vX_succ (u i : Nat) (hi : i < 9) : vX u (i + 1) = vhi (u / 128 ^ (9 - i)) ∧ vX u i = vhi (u / 128 ^ (9 - i) / 128) := by
  refine ⟨?_, ?_⟩
  · simp only [vX]; rw [if_neg (by omega), show 10 - (i + 1) = 9 - i by omega]
  · simp only [vX]; rw [if_neg (by omega), show 10 - i = (9 - i) + 1 by omega, Nat.pow_succ, Nat.div_div_eq_div_mul]
theorem vX_step (u i : Nat) (hi : i < 9) (h : u / 128 ^ (9 - i) ≠ 0) : vX u (i + 1) = vX u i ++ [UInt8.ofNat (128 + u / 128 ^ (9 - i) % 128)] := by
  rw [(vX_succ u i hi).1, (vX_succ u i hi).2, vhi_pos h]
theorem vX_skip (u i : Nat) (hi : i < 9) (h : u / 128 ^ (9 - i) = 0) : vX u (i + 1) = vX u i := by
  rw [(vX_succ u i hi).1, (vX_succ u i hi).2, h]
theorem vhi_len : ∀ (k m : Nat), m < 128 ^ k → (vhi m).length ≤ k := by
  intro k
  induction k with
  | zero => intro m h; have : m = 0 := by simp at h; exact h
            subst this; simp [vhi_zero]
  | succ k ih =>
    intro m h
    by_cases q : m = 0
    · subst q; simp [vhi_zero]
    · rw [vhi_pos q, List.length_append]
      have := ih (m / 128) (by rw [Nat.div_lt_iff_lt_mul (by decide), ← Nat.pow_succ]; exact h)
      simp; omega
theorem vX_len (u i : Nat) (hu : u < 18446744073709551616) : (vX u i).length ≤ 10 := by
  have h9 : ∀ m, m < 18446744073709551616 → (vhi (m / 128)).length ≤ 9 := fun m hm => vhi_len 9 _ (by omega)
  simp only [vX]
  split
  · have := h9 u hu
    simp [vb]; omega
  · refine Nat.le_trans (vhi_len 10 _ ?_) (by omega)
    have : u / 128 ^ (10 - i) ≤ u := Nat.div_le_self _ _
    omega
theorem byte_end (l : Str) (k : Nat) (h : k < 256) : bytesA l ++ [.int .u8 (k : Int)] = bytesA (l ++ [UInt8.ofNat k]) := by
  simp [bytesA, UInt8.toNat_ofNat', Nat.mod_eq_of_lt h]
theorem int_own (c : Bool) (b : Str) (n : Nat) (h : List AObj) (hn : n ≤ 4611686018427387904) (hb : b.length ≤ 140737488300000) : ACall Try.prog 51 [.fz c (bytesA b), .int .i64 n] h (fun r h' => ∃ t g, r = .sl t g 1 0 (b ++ vb (2 * n)).length ∧ h'[t]? = some (.arr g 1 (bytesA (b ++ vb (2 * n))))) := by
  (refine ACall.of_code Try.func51 rfl ?_; simp only [Try.f51]; simp only [go_sem, Nat.reduceMul, Nat.reduceLT, Nat.reduceLeDiff, Nat.reduceEqDiff, Nat.reduceBEq, Int.toNat_natCast, Int.reduceToNat, Int.reduceNeg, Int.reduceLT, Int.reduceLE, Int.reduceBEq, Int.reduceBNe, decide_true, decide_false, Bool.false_eq_true, false_imp_iff, Nat.lt_irrefl])
  refine ⟨⟨by omega, by omega, by omega, bytesA_cells⟩, ?_⟩
  (refine ACallT.pure (by simp only [go_sem, Nat.reduceMul, Nat.reduceLT, Nat.reduceLeDiff, Nat.reduceEqDiff, Nat.reduceBEq, Int.toNat_natCast, Int.reduceToNat, Int.reduceNeg, Int.reduceLT, Int.reduceLE, Int.reduceBEq, Int.reduceBNe, decide_true, decide_false, Bool.false_eq_true, false_imp_iff, Nat.lt_irrefl]; rfl) (by first | trivial | assumption | (simp only [go_sem, Nat.reduceMul, Nat.reduceLT, Nat.reduceLeDiff, Nat.reduceEqDiff, Nat.reduceBEq, Int.toNat_natCast, Int.reduceToNat, Int.reduceNeg, Int.reduceLT, Int.reduceLE, Int.reduceBEq, Int.reduceBNe, decide_true, decide_false, Bool.false_eq_true, false_imp_iff, Nat.lt_irrefl]; done) | (simp only [go_sem, Nat.reduceMul, Nat.reduceLT, Nat.reduceLeDiff, Nat.reduceEqDiff, Nat.reduceBEq, Int.toNat_natCast, Int.reduceToNat, Int.reduceNeg, Int.reduceLT, Int.reduceLE, Int.reduceBEq, Int.reduceBNe, decide_true, decide_false, Bool.false_eq_true, false_imp_iff, Nat.lt_irrefl]; first | trivial | assumption | omega | decide | (refine ⟨?_, ?_⟩ <;> first | trivial | assumption | omega | decide))) (fold_ok n _ hn) ?_; refine fun _ _ e => ?_; subst e; refine ⟨rfl, ?_⟩; simp only [go_sem, Nat.reduceMul, Nat.reduceLT, Nat.reduceLeDiff, Nat.reduceEqDiff, Nat.reduceBEq, Int.toNat_natCast, Int.reduceToNat, Int.reduceNeg, Int.reduceLT, Int.reduceLE, Int.reduceBEq, Int.reduceBNe, decide_true, decide_false, Bool.false_eq_true, false_imp_iff, Nat.lt_irrefl])
  generalize hu : 2 * n = u
  have hu2 : u < 18446744073709551616 := by omega
  refine ALoop.over [0, 6, 7, 8, 17, 18, 19, 20, 21, 22, 23, 24, 25, 26, 27, 28, 29, 30, 31, 32, 33, 34, 35, 36, 37, 38, 39, 40, 41, 42, 43, 44, 45] (fun e h' => ∃ i : Nat, i ≤ 10 ∧ e.getD 17 .any = .int .i64 i ∧ ((vX u i = [] ∧ e.getD 0 .any = .fz true (bytesA b)) ∨ ∃ t g, e.getD 0 .any = .sl t g 1 0 (b ++ vX u i).length ∧ h'[t]? = some (.arr g 1 (bytesA (b ++ vX u i))))) (fun e _ => 10 - natA (e.getD 17 .any)) ⟨0, by simp, rfl, .inl ⟨?_, rfl⟩⟩ ?_
  · simp only [vX]
    rw [if_neg (by omega), Nat.div_eq_of_lt (by omega), vhi_zero]
  simp only [List.length_cons, List.length_nil, Nat.reduceAdd, allL_succ, allL_zero]
  intro y0 y6 y7 y8 y17 y18 y19 y20 y21 y22 y23 y24 y25 y26 y27 y28 y29 y30 y31 y32 y33 y34 y35 y36 y37 y38 y39 y40 y41 y42 y43 y44 y45 h' hI
  simp only [go_sem] at hI
  obtain ⟨i, hi, rfl, hX⟩ := hI
  simp only [go_sem, Nat.reduceMul, Nat.reduceLT, Nat.reduceLeDiff, Nat.reduceEqDiff, Nat.reduceBEq, Int.toNat_natCast, Int.reduceToNat, Int.reduceNeg, Int.reduceLT, Int.reduceLE, Int.reduceBEq, Int.reduceBNe, decide_true, decide_false, Bool.false_eq_true, false_imp_iff, Nat.lt_irrefl]
  refine acond_intro (fun hc => ?_) (fun hc => ?_)
  · have hlt : i < 10 := by have := of_decide_eq_true hc; omega
    simp only [go_sem, Nat.reduceMul, Nat.reduceLT, Nat.reduceLeDiff, Nat.reduceEqDiff, Nat.reduceBEq, Int.toNat_natCast, Int.reduceToNat, Int.reduceNeg, Int.reduceLT, Int.reduceLE, Int.reduceBEq, Int.reduceBNe, decide_true, decide_false, Bool.false_eq_true, false_imp_iff, Nat.lt_irrefl]
    generalize hs : IntKind.i64.wrap (7 * IntKind.i64.wrap (9 - (i : Int))) = sh
    obtain rfl : sh = ((7 * (9 - i) : Nat) : Int) := by rw [← hs, wrap_id (x := 9 - (i : Int)) (by omega) (by omega), wrap_id (by omega) (by omega)]; omega
    clear hs
    refine ⟨by omega, ?_⟩
    have hbl := vX_len u i hu2
    have hw : IntKind.i64.wrap ((i : Int) + 1) = ((i + 1 : Nat) : Int) := by rw [wrap_id (by omega) (by omega)]; omega
    simp only [go_sem, Nat.reduceMul, Nat.reduceLT, Nat.reduceLeDiff, Nat.reduceEqDiff, Nat.reduceBEq, Int.toNat_natCast, Int.reduceToNat, Int.reduceNeg, Int.reduceLT, Int.reduceLE, Int.reduceBEq, Int.reduceBNe, decide_true, decide_false, Bool.false_eq_true, false_imp_iff, Nat.lt_irrefl]
    generalize hm : ((u : Int)).fdiv (2 ^ min (7 * (9 - i)) 64) = m
    obtain rfl : m = ((u / 128 ^ (9 - i) : Nat) : Int) := by rw [← hm]; exact shr_eq u (9 - i) (by omega)
    generalize hy : intBitsA BinOp.andNot IntKind.u8 (IntKind.u8.wrap ((u / 128 ^ (9 - i) : Nat) : Int)) 128 = y
    obtain rfl : y = ((u / 128 ^ (9 - i) % 128 : Nat) : Int) := by rw [← hy]; exact andNot_128 _
    clear hm hy
    by_cases h9 : i = 9
    · generalize hb0 : (((7 * (9 - i) : Nat) : Int) == 0) = b0
      obtain rfl : b0 = true := by rw [← hb0, h9]; rfl
      have hu9 : u / 128 ^ (9 - i) % 128 = u % 128 := by subst h9; simp
      generalize u / 128 ^ (9 - i) % 128 = q at *
      subst hu9
      have hk : u % 128 < 256 := by omega
      have hX' : vX u (i + 1) = vX u i ++ [UInt8.ofNat (u % 128)] := by subst h9; exact vX_last u
      rcases hX with ⟨h1, rfl⟩ | ⟨t, g, rfl, hg⟩
      · simp only [go_sem, Nat.reduceMul, Nat.reduceLT, Nat.reduceLeDiff, Nat.reduceEqDiff, Nat.reduceBEq, Int.toNat_natCast, Int.reduceToNat, Int.reduceNeg, Int.reduceLT, Int.reduceLE, Int.reduceBEq, Int.reduceBNe, decide_true, decide_false, Bool.false_eq_true, false_imp_iff, Nat.lt_irrefl]
        refine ⟨⟨by omega, by omega, cells_bytes b⟩, fun q => by simp at q, fun _ => ⟨⟨i + 1, by omega, by rw [hw], .inr ⟨h'.length + 1, 0, ?_, ?_⟩⟩, by rw [hw]; omega⟩⟩
        · rw [hX', h1]; rfl
        · rw [getElem?_app, hX', h1, List.nil_append, ← byte_end _ _ hk]; rfl
      · have hg2 : ∀ x, (h' ++ x)[t]? = some (AObj.arr g 1 (bytesA (b ++ vX u i))) := fun x => by
          rw [List.getElem?_append_left (List.getElem?_eq_some_iff.1 hg).1]; exact hg
        simp only [go_sem, hg2, Nat.reduceMul, Nat.reduceLT, Nat.reduceLeDiff, Nat.reduceEqDiff, Nat.reduceBEq, Int.toNat_natCast, Int.reduceToNat, Int.reduceNeg, Int.reduceLT, Int.reduceLE, Int.reduceBEq, Int.reduceBNe, decide_true, decide_false, Bool.false_eq_true, false_imp_iff, Nat.lt_irrefl]
        refine ⟨⟨by omega, by omega⟩, ⟨i + 1, by omega, by rw [hw], .inr ⟨t, g + 1, ?_, ?_⟩⟩, by rw [hw]; omega⟩
        · rw [hX', List.length_append]; rfl
        · rw [List.getElem?_set_self (by have := (List.getElem?_eq_some_iff.1 hg).1; simp; omega), hX', byte_end _ _ hk, List.append_assoc]
    · generalize hb0 : (((7 * (9 - i) : Nat) : Int) == 0) = b0
      obtain rfl : b0 = false := by rw [← hb0, beq_eq_false_iff_ne]; omega
      simp only [go_sem, Nat.reduceMul, Nat.reduceLT, Nat.reduceLeDiff, Nat.reduceEqDiff, Nat.reduceBEq, Int.toNat_natCast, Int.reduceToNat, Int.reduceNeg, Int.reduceLT, Int.reduceLE, Int.reduceBEq, Int.reduceBNe, decide_true, decide_false, Bool.false_eq_true, false_imp_iff, Nat.lt_irrefl]
      refine ⟨by omega, ?_⟩
      refine acond_intro (fun hc2 => ?_) (fun hc2 => ?_)
      · simp only [go_sem, Nat.reduceMul, Nat.reduceLT, Nat.reduceLeDiff, Nat.reduceEqDiff, Nat.reduceBEq, Int.toNat_natCast, Int.reduceToNat, Int.reduceNeg, Int.reduceLT, Int.reduceLE, Int.reduceBEq, Int.reduceBNe, decide_true, decide_false, Bool.false_eq_true, false_imp_iff, Nat.lt_irrefl]
        generalize hy : intBitsA BinOp.or IntKind.u8 ((u / 128 ^ (9 - i) % 128 : Nat) : Int) 128 = y
        obtain rfl : y = ((128 + u / 128 ^ (9 - i) % 128 : Nat) : Int) := by rw [← hy]; exact or_128 _ (Nat.mod_lt _ (by decide))
        have hne : u / 128 ^ (9 - i) ≠ 0 := by
          have := of_decide_eq_true hc2
          rw [shr_eq u (9 - i) (by omega)] at this; omega
        have hk : 128 + u / 128 ^ (9 - i) % 128 < 256 := by omega
        have hX' := vX_step u i (by omega) hne
        rcases hX with ⟨h1, rfl⟩ | ⟨t, g, rfl, hg⟩
        · simp only [go_sem, Nat.reduceMul, Nat.reduceLT, Nat.reduceLeDiff, Nat.reduceEqDiff, Nat.reduceBEq, Int.toNat_natCast, Int.reduceToNat, Int.reduceNeg, Int.reduceLT, Int.reduceLE, Int.reduceBEq, Int.reduceBNe, decide_true, decide_false, Bool.false_eq_true, false_imp_iff, Nat.lt_irrefl]
          refine ⟨⟨by omega, by omega, cells_bytes b⟩, fun q => by simp at q, fun _ => ⟨⟨i + 1, by omega, by rw [hw], .inr ⟨h'.length + 1, 0, ?_, ?_⟩⟩, by rw [hw]; omega⟩⟩
          · rw [hX', h1]; rfl
          · rw [getElem?_app, hX', h1, List.nil_append, ← byte_end _ _ hk]; rfl
        · have hg2 : ∀ x, (h' ++ x)[t]? = some (AObj.arr g 1 (bytesA (b ++ vX u i))) := fun x => by
            rw [List.getElem?_append_left (List.getElem?_eq_some_iff.1 hg).1]; exact hg
          simp only [go_sem, hg2, Nat.reduceMul, Nat.reduceLT, Nat.reduceLeDiff, Nat.reduceEqDiff, Nat.reduceBEq, Int.toNat_natCast, Int.reduceToNat, Int.reduceNeg, Int.reduceLT, Int.reduceLE, Int.reduceBEq, Int.reduceBNe, decide_true, decide_false, Bool.false_eq_true, false_imp_iff, Nat.lt_irrefl]
          refine ⟨⟨by omega, by omega⟩, ⟨i + 1, by omega, by rw [hw], .inr ⟨t, g + 1, ?_, ?_⟩⟩, by rw [hw]; omega⟩
          · rw [hX', List.length_append]; rfl
          · rw [List.getElem?_set_self (by have := (List.getElem?_eq_some_iff.1 hg).1; simp; omega), hX', byte_end _ _ hk, List.append_assoc]
      · simp only [go_sem, Nat.reduceMul, Nat.reduceLT, Nat.reduceLeDiff, Nat.reduceEqDiff, Nat.reduceBEq, Int.toNat_natCast, Int.reduceToNat, Int.reduceNeg, Int.reduceLT, Int.reduceLE, Int.reduceBEq, Int.reduceBNe, decide_true, decide_false, Bool.false_eq_true, false_imp_iff, Nat.lt_irrefl]
        have hz : u / 128 ^ (9 - i) = 0 := by
          have := of_decide_eq_false hc2
          rw [shr_eq u (9 - i) (by omega)] at this
          exact Nat.eq_zero_of_not_pos fun q => this (Int.natCast_pos.2 q)
        have hX' := vX_skip u i (by omega) hz
        refine ⟨⟨i + 1, by omega, by rw [hw], ?_⟩, by rw [hw]; omega⟩
        rw [hX']
        simpa using hX
  · have hge : i = 10 := by have := of_decide_eq_false hc; omega
    subst hge
    rcases hX with ⟨h1, _⟩ | ⟨t, g, rfl, hg⟩
    · exfalso; simp [vX, vb] at h1
    · simp only [go_sem, Nat.reduceMul, Nat.reduceLT, Nat.reduceLeDiff, Nat.reduceEqDiff, Nat.reduceBEq, Int.toNat_natCast, Int.reduceToNat, Int.reduceNeg, Int.reduceLT, Int.reduceLE, Int.reduceBEq, Int.reduceBNe, decide_true, decide_false, Bool.false_eq_true, false_imp_iff, Nat.lt_irrefl]
      refine Fin_plain ?_
      refine ⟨t, g, ?_, ?_⟩
      · simp [vX]
      · simpa [vX] using hg
theorem vb_len (u : Nat) (hu : u < 18446744073709551616) : (vb u).length ≤ 10 := by
  have := vX_len u 10 hu
  simpa [vX] using this
theorem frz_one {h : List AObj} {t g : Nat} {l : Str} (hg : h[t]? = some (.arr g 1 (bytesA l))) : frzA h 4 (.sl t g 1 0 l.length) = .fz false (bytesA l) := by
  simp only [frz_sl, hg]
  exact frzO_all (bytesA_len l).symm (flatX_bytes l)
theorem int_fz (c : Bool) (b : Str) (n : Nat) (h : List AObj) (hn : n ≤ 4611686018427387904) (hb : b.length ≤ 140737488300000) : ACall Try.prog 51 [.fz c (bytesA b), .int .i64 n] h (fun r _ => r = .fz false (bytesA (b ++ vb (2 * n)))) := by
  refine ACall.freeze 4 (int_own c b n h hn hb) ?_
  rintro r h' ⟨t, g, rfl, hg⟩
  exact frz_one hg
theorem text_own (c : Bool) (b s : Str) (h : List AObj) (hs : s.length ≤ 10000000000) (hb : b.length ≤ 130000000000000) : ACall Try.prog 53 [.fz c (bytesA b), .str s] h (fun r h' => ∃ t g, r = .sl t g 1 0 (b ++ (vb (2 * s.length) ++ s)).length ∧ h'[t]? = some (.arr g 1 (bytesA (b ++ (vb (2 * s.length) ++ s))))) := by
  have hv := vb_len (2 * s.length) (by omega)
  (refine ACall.of_code Try.func53 rfl ?_; simp only [Try.f53]; simp only [go_sem, Nat.reduceMul, Nat.reduceLT, Nat.reduceLeDiff, Nat.reduceEqDiff, Nat.reduceBEq, Int.toNat_natCast, Int.reduceToNat, Int.reduceNeg, Int.reduceLT, Int.reduceLE, Int.reduceBEq, Int.reduceBNe, decide_true, decide_false, Bool.false_eq_true, false_imp_iff, Nat.lt_irrefl])
  refine ACallT.by (int_own c b s.length _ (by omega) (by omega)) ?_
  rintro _ h' ⟨t, g, rfl, hg⟩
  simp only [go_sem, hg, Nat.reduceMul, Nat.reduceLT, Nat.reduceLeDiff, Nat.reduceEqDiff, Nat.reduceBEq, Int.toNat_natCast, Int.reduceToNat, Int.reduceNeg, Int.reduceLT, Int.reduceLE, Int.reduceBEq, Int.reduceBNe, decide_true, decide_false, Bool.false_eq_true, false_imp_iff, Nat.lt_irrefl]
  refine ⟨⟨by omega, by omega, okEl_bytes s⟩, ?_⟩
  refine Fin_plain ?_
  refine ⟨t, g + 1, ?_, ?_⟩
  · simp only [List.length_append]; rw [Nat.add_assoc]
  · rw [List.getElem?_set_self (List.getElem?_eq_some_iff.1 hg).1, bytesA_app, List.append_assoc]
theorem text_fz (c : Bool) (b s : Str) (h : List AObj) (hs : s.length ≤ 10000000000) (hb : b.length ≤ 130000000000000) : ACall Try.prog 53 [.fz c (bytesA b), .str s] h (fun r _ => r = .fz false (bytesA (b ++ (vb (2 * s.length) ++ s)))) := by
  refine ACall.freeze 4 (text_own c b s h hs hb) ?_
  rintro r h' ⟨t, g, rfl, hg⟩
  exact frz_one hg
theorem rint_own (n : Nat) (h : List AObj) (hn : n ≤ 4611686018427387904) : ACall Try.prog 54 [.int .i64 n] h (fun r h' => ∃ t g, r = .sl t g 1 0 (vb (2 * n)).length ∧ h'[t]? = some (.arr g 1 (bytesA (vb (2 * n))))) := by
  (refine ACall.of_code Try.func54 rfl ?_; simp only [Try.f54]; simp only [go_sem, Nat.reduceMul, Nat.reduceLT, Nat.reduceLeDiff, Nat.reduceEqDiff, Nat.reduceBEq, Int.toNat_natCast, Int.reduceToNat, Int.reduceNeg, Int.reduceLT, Int.reduceLE, Int.reduceBEq, Int.reduceBNe, decide_true, decide_false, Bool.false_eq_true, false_imp_iff, Nat.lt_irrefl])
  (refine ACallT.pure (by simp only [go_sem, Nat.reduceMul, Nat.reduceLT, Nat.reduceLeDiff, Nat.reduceEqDiff, Nat.reduceBEq, Int.toNat_natCast, Int.reduceToNat, Int.reduceNeg, Int.reduceLT, Int.reduceLE, Int.reduceBEq, Int.reduceBNe, decide_true, decide_false, Bool.false_eq_true, false_imp_iff, Nat.lt_irrefl]; rfl) (by first | trivial | assumption | (simp only [go_sem, Nat.reduceMul, Nat.reduceLT, Nat.reduceLeDiff, Nat.reduceEqDiff, Nat.reduceBEq, Int.toNat_natCast, Int.reduceToNat, Int.reduceNeg, Int.reduceLT, Int.reduceLE, Int.reduceBEq, Int.reduceBNe, decide_true, decide_false, Bool.false_eq_true, false_imp_iff, Nat.lt_irrefl]; done) | (simp only [go_sem, Nat.reduceMul, Nat.reduceLT, Nat.reduceLeDiff, Nat.reduceEqDiff, Nat.reduceBEq, Int.toNat_natCast, Int.reduceToNat, Int.reduceNeg, Int.reduceLT, Int.reduceLE, Int.reduceBEq, Int.reduceBNe, decide_true, decide_false, Bool.false_eq_true, false_imp_iff, Nat.lt_irrefl]; first | trivial | assumption | omega | decide | (refine ⟨?_, ?_⟩ <;> first | trivial | assumption | omega | decide))) (rfold_ok n _ hn) ?_; refine fun _ _ e => ?_; subst e; refine ⟨rfl, ?_⟩; simp only [go_sem, Nat.reduceMul, Nat.reduceLT, Nat.reduceLeDiff, Nat.reduceEqDiff, Nat.reduceBEq, Int.toNat_natCast, Int.reduceToNat, Int.reduceNeg, Int.reduceLT, Int.reduceLE, Int.reduceBEq, Int.reduceBNe, decide_true, decide_false, Bool.false_eq_true, false_imp_iff, Nat.lt_irrefl])
  refine ⟨by decide, ?_⟩
  generalize hu : 2 * n = u0
  have hu2 : u0 < 18446744073709551616 := by omega
  have hvl := vb_len u0 hu2
  generalize hy : IntKind.u8.wrap ((u0 : Int).tmod 128) = y
  obtain rfl : y = ((u0 % 128 : Nat) : Int) := by
    rw [← hy]
    have : (u0 : Int).tmod 128 = ((u0 % 128 : Nat) : Int) := by rw [Int.tmod_eq_emod_of_nonneg (by omega)]; omega
    rw [this]; simp only [IntKind.wrap, IntKind.signed, IntKind.bits, Bool.false_and, Bool.false_eq_true, if_false]; omega
  refine ALoop.over [3, 4, 5, 12, 13, 14, 15, 16, 17, 18, 19, 20, 21, 22, 23, 24] (fun e h' => ∃ (u : Nat) (X : Str) (t g : Nat), e.getD 3 .any = .int .u64 u ∧ e.getD 4 .any = .sl t g 1 0 X.length ∧ h'[t]? = some (.arr g 1 (bytesA X)) ∧ vhi (u / 128) ++ X = vb u0 ∧ u < 18446744073709551616) (fun e _ => natA (e.getD 3 .any)) ⟨u0, [UInt8.ofNat (u0 % 128)], h.length, 0, rfl, rfl, ?_, rfl, hu2⟩ ?_
  · rw [getElem?_app0, show bytesA [UInt8.ofNat (u0 % 128)] = bytesA [] ++ [.int .u8 ((u0 % 128 : Nat) : Int)] by rw [byte_end _ _ (by omega)]; rfl]; rfl
  simp only [List.length_cons, List.length_nil, Nat.reduceAdd, allL_succ, allL_zero]
  intro y3 y4 y5 y12 y13 y14 y15 y16 y17 y18 y19 y20 y21 y22 y23 y24 h' hI
  simp only [go_sem] at hI
  obtain ⟨u, X, t, g, rfl, rfl, hg, hX, hub⟩ := hI
  have hXl : X.length ≤ 10 := by rw [← hX, List.length_append] at hvl; omega
  simp only [go_sem, Nat.reduceMul, Nat.reduceLT, Nat.reduceLeDiff, Nat.reduceEqDiff, Nat.reduceBEq, Int.toNat_natCast, Int.reduceToNat, Int.reduceNeg, Int.reduceLT, Int.reduceLE, Int.reduceBEq, Int.reduceBNe, decide_true, decide_false, Bool.false_eq_true, false_imp_iff, Nat.lt_irrefl]
  refine acond_intro (fun hc => ?_) (fun hc => ?_)
  · have hge : 128 ≤ u := by have := of_decide_eq_true hc; omega
    have hg2 : ∀ x, (h' ++ x)[t]? = some (AObj.arr g 1 (bytesA X)) := fun x => by
      rw [List.getElem?_append_left (List.getElem?_eq_some_iff.1 hg).1]; exact hg
    simp only [go_sem, hg2, Nat.reduceMul, Nat.reduceLT, Nat.reduceLeDiff, Nat.reduceEqDiff, Nat.reduceBEq, Int.toNat_natCast, Int.reduceToNat, Int.reduceNeg, Int.reduceLT, Int.reduceLE, Int.reduceBEq, Int.reduceBNe, decide_true, decide_false, Bool.false_eq_true, false_imp_iff, Nat.lt_irrefl]
    have hw1 : IntKind.u64.wrap ((u : Int).tdiv 128) = ((u / 128 : Nat) : Int) := by
      have : (u : Int).tdiv 128 = ((u / 128 : Nat) : Int) := by rw [Int.tdiv_eq_ediv_of_nonneg (by omega)]; omega
      rw [this, u64_wrap _ (by omega)]
    have hw2 : IntKind.u8.wrap (IntKind.u64.wrap (128 + ((u / 128 : Nat) : Int).tmod 128)) = ((128 + u / 128 % 128 : Nat) : Int) := by
      have : 128 + ((u / 128 : Nat) : Int).tmod 128 = ((128 + u / 128 % 128 : Nat) : Int) := by rw [Int.tmod_eq_emod_of_nonneg (by omega)]; omega
      rw [this, u64_wrap _ (by omega)]
      simp only [IntKind.wrap, IntKind.signed, IntKind.bits, Bool.false_and, Bool.false_eq_true, if_false]; omega
    rw [hw1, hw2]
    refine ⟨by decide, by decide, ⟨by omega, by omega, okEl_bytes X⟩, ⟨u / 128, UInt8.ofNat (128 + u / 128 % 128) :: X, h'.length, 1, rfl, ?_, ?_, ?_, by omega⟩, by omega⟩
    · rw [List.length_cons, Nat.add_comm]
    · rw [getElem?_app0]
      have := byte_end [] (128 + u / 128 % 128) (by omega)
      simp only [bytesA, List.map_nil, List.nil_append, List.map_cons] at this ⊢
      injection this with this
      rw [this]; rfl
    · rw [← hX, vhi_pos (m := u / 128) (by omega)]; simp
  · have hlt : u < 128 := by have := of_decide_eq_false hc; omega
    simp only [go_sem, Nat.reduceMul, Nat.reduceLT, Nat.reduceLeDiff, Nat.reduceEqDiff, Nat.reduceBEq, Int.toNat_natCast, Int.reduceToNat, Int.reduceNeg, Int.reduceLT, Int.reduceLE, Int.reduceBEq, Int.reduceBNe, decide_true, decide_false, Bool.false_eq_true, false_imp_iff, Nat.lt_irrefl]
    refine Fin_plain ?_
    rw [Nat.div_eq_of_lt hlt, vhi_zero, List.nil_append] at hX
    rw [← hX]
    exact ⟨t, g, rfl, hg⟩
theorem rtext_own (s : Str) (h : List AObj) (hs : s.length ≤ 10000000000) : ACall Try.prog 55 [.str s] h (fun r h' => ∃ t g, r = .sl t g 1 0 (vb (2 * s.length) ++ s).length ∧ h'[t]? = some (.arr g 1 (bytesA (vb (2 * s.length) ++ s)))) := by
  have hv := vb_len (2 * s.length) (by omega)
  (refine ACall.of_code Try.func55 rfl ?_; simp only [Try.f55]; simp only [go_sem, Nat.reduceMul, Nat.reduceLT, Nat.reduceLeDiff, Nat.reduceEqDiff, Nat.reduceBEq, Int.toNat_natCast, Int.reduceToNat, Int.reduceNeg, Int.reduceLT, Int.reduceLE, Int.reduceBEq, Int.reduceBNe, decide_true, decide_false, Bool.false_eq_true, false_imp_iff, Nat.lt_irrefl])
  refine ACallT.by (rint_own s.length _ (by omega)) ?_
  rintro _ h' ⟨t, g, rfl, hg⟩
  simp only [go_sem, hg, Nat.reduceMul, Nat.reduceLT, Nat.reduceLeDiff, Nat.reduceEqDiff, Nat.reduceBEq, Int.toNat_natCast, Int.reduceToNat, Int.reduceNeg, Int.reduceLT, Int.reduceLE, Int.reduceBEq, Int.reduceBNe, decide_true, decide_false, Bool.false_eq_true, false_imp_iff, Nat.lt_irrefl]
  refine ⟨⟨by omega, by omega, okEl_bytes s⟩, ?_⟩
  refine Fin_plain ?_
  refine ⟨t, g + 1, ?_, ?_⟩
  · simp only [List.length_append]
  · rw [List.getElem?_set_self (List.getElem?_eq_some_iff.1 hg).1, bytesA_app]
theorem rint_fz (n : Nat) (h : List AObj) (hn : n ≤ 4611686018427387904) : ACall Try.prog 54 [.int .i64 n] h (fun r _ => r = .fz false (bytesA (vb (2 * n)))) := by
  refine ACall.freeze 4 (rint_own n h hn) ?_
  rintro r h' ⟨t, g, rfl, hg⟩
  exact frz_one hg
theorem rtext_fz (s : Str) (h : List AObj) (hs : s.length ≤ 10000000000) : ACall Try.prog 55 [.str s] h (fun r _ => r = .fz false (bytesA (vb (2 * s.length) ++ s))) := by
  refine ACall.freeze 4 (rtext_own s h hs) ?_
  rintro r h' ⟨t, g, rfl, hg⟩
  exact frz_one hg
end Go.Proofs.Vale
