/- YtinajnnflgpjbaaVDictP: a text of the proof of this claim, by its prover. -/
import Derived.Test.YtinajnnflgpjbaaVDictL
import Derived.Test.YtinajnnflgpjbaaVPart
set_option linter.unusedVariables false
set_option linter.unusedSimpArgs false
set_option maxHeartbeats 4000000
set_option maxRecDepth 100000
namespace Go.Proofs.Vale
open Go.Proofs Go.Proofs.YtinajnnflgpjbaaT
attribute [local irreducible] acode aopsL aopsT dopsL dopsT pop popG aop ALoop ADraw ACall AWP AFin acondT ALoopT ADrawT ACallT doP doG doGd

/-! ### Reading numbers and texts -/
/-- The number that begins bytes, folded, and how many bytes it has. -/
def nxtF : Nat → Nat → Nat → Str → Option (Nat × Nat)
  | 0, _, _, _ => none
  | _ + 1, _, _, [] => none
  | f + 1, k, u, c :: r => if (k = 0 ∧ c = 128) ∨ 144115188075855872 ≤ u then none else if c.toNat < 128 then some (128 * u + c.toNat % 128, k + 1) else nxtF f (k + 1) (128 * u + c.toNat % 128) r
def nxt (b : Str) : Option (Nat × Nat) := nxtF 10 0 0 b
def unf (u : Nat) : Int := if u % 2 = 0 then ((u / 2 : Nat) : Int) else -((u / 2 : Nat) : Int) - 1
def nxA (o : Option (Nat × Nat)) : AV := match o with
  | some (u, n) => .tup [.int .i64 (unf u), .int .i64 n]
  | none => .tup [.int .i64 0, .int .i64 0]
theorem and1_u64 (u : Nat) (hu : u < 18446744073709551616) : intBitsA .and .u64 (u : Int) 1 = ((u % 2 : Nat) : Int) := by
  simp only [intBitsA]
  show IntKind.u64.wrap ((BitVec.ofInt 64 (u : Int) &&& BitVec.ofInt 64 1).toNat : Int) = _
  rw [BitVec.ofInt_natCast, show BitVec.ofInt 64 1 = BitVec.ofNat 64 1 by decide, BitVec.toNat_and, BitVec.toNat_ofNat, BitVec.toNat_ofNat, Nat.mod_eq_of_lt hu, show 1 % 2 ^ 64 = 1 by decide, Nat.and_one_is_mod, u64_wrap _ (by omega)]
theorem xor_i64_0 (x : Nat) (hx : x < 9223372036854775808) : intBitsA .xor .i64 (x : Int) 0 = x := by
  simp only [intBitsA]
  show IntKind.i64.wrap ((BitVec.ofInt 64 (x : Int) ^^^ BitVec.ofInt 64 0).toNat : Int) = _
  rw [BitVec.ofInt_natCast, show BitVec.ofInt 64 0 = 0#64 by decide, BitVec.xor_zero, BitVec.toNat_ofNat, Nat.mod_eq_of_lt (by omega), wrap_id (by omega) (by omega)]
theorem wrap_hi {y : Int} (h0 : 9223372036854775808 ≤ y) (h1 : y < 18446744073709551616) : IntKind.i64.wrap y = y - 18446744073709551616 := by
  simp [IntKind.wrap, IntKind.signed, IntKind.bits]; omega
theorem xor_i64_m1 (x : Nat) (hx : x < 9223372036854775808) : intBitsA .xor .i64 (x : Int) (-1) = -(x : Int) - 1 := by
  simp only [intBitsA]
  show IntKind.i64.wrap ((BitVec.ofInt 64 (x : Int) ^^^ BitVec.ofInt 64 (-1)).toNat : Int) = _
  rw [BitVec.ofInt_natCast, show BitVec.ofInt 64 (-1) = BitVec.allOnes 64 by decide, BitVec.xor_allOnes, BitVec.toNat_not, BitVec.toNat_ofNat, Nat.mod_eq_of_lt (by omega)]
  have : ((2 ^ 64 - 1 - x : Nat) : Int) = 18446744073709551615 - x := by omega
  rw [this]
  rw [wrap_hi (by omega) (by omega)]; omega
theorem or_add (a b : Nat) (hb : b < 128) (ha : 128 * a + b < 18446744073709551616) : intBitsA .or .u64 ((128 * a : Nat) : Int) (b : Int) = ((128 * a + b : Nat) : Int) := by
  simp only [intBitsA]
  show IntKind.u64.wrap ((BitVec.ofInt 64 ((128 * a : Nat) : Int) ||| BitVec.ofInt 64 (b : Int)).toNat : Int) = _
  rw [BitVec.ofInt_natCast, BitVec.ofInt_natCast, BitVec.toNat_or, BitVec.toNat_ofNat, BitVec.toNat_ofNat, Nat.mod_eq_of_lt (by omega), Nat.mod_eq_of_lt (by omega)]
  have := Nat.two_pow_add_eq_or_of_lt (i := 7) (by simpa using hb) a
  rw [show (2 : Nat) ^ 7 = 128 by decide] at this
  rw [← this, u64_wrap _ ha]
theorem byte_andNot (c : UInt8) : intBitsA .andNot .u8 (c.toNat : Int) 128 = ((c.toNat % 128 : Nat) : Int) := by
  have := andNot_128 c.toNat
  have h := c.toNat_lt
  have e : IntKind.u8.wrap (c.toNat : Int) = c.toNat := by simp only [IntKind.wrap, IntKind.signed, IntKind.bits, Bool.false_and, Bool.false_eq_true, if_false]; omega
  rw [e] at this; exact this
theorem byte_and (c : UInt8) : (intBitsA .and .u8 (c.toNat : Int) 128 == 0) = decide (c.toNat < 128) := by
  have h2 : ∀ x : Fin 256, (intBitsA .and .u8 ((x.val : Nat) : Int) 128 == 0) = decide (x.val < 128) := by decide +kernel
  exact h2 ⟨c.toNat, c.toNat_lt⟩
theorem unfold_ok (u : Nat) (h : List AObj) (hu : u < 18446744073709551616) : ACall Try.prog 88 [.int .u64 u] h (fun r _ => r = .int .i64 (unf u)) := by
  (refine ACall.of_code Try.func88 rfl ?_; simp only [Try.f88]; simp only [go_sem, Nat.reduceMul, Nat.reduceLT, Nat.reduceLeDiff, Nat.reduceEqDiff, Nat.reduceBEq, Int.toNat_natCast, Int.reduceToNat, Int.reduceNeg, Int.reduceLT, Int.reduceLE, Int.reduceBEq, Int.reduceBNe, decide_true, decide_false, Bool.false_eq_true, false_imp_iff, Nat.lt_irrefl])
  refine Fin_plain ?_
  have e1 : (2 : Int) ^ min 1 64 = 2 := by decide
  have e2 : IntKind.i64.wrap ((u : Int).fdiv 2) = ((u / 2 : Nat) : Int) := by
    have : (u : Int).fdiv 2 = ((u / 2 : Nat) : Int) := by rw [Int.fdiv_eq_ediv_of_nonneg _ (by decide)]; omega
    rw [this, wrap_id (by omega) (by omega)]
  rw [e1, e2, and1_u64 u hu, wrap_id (x := ((u % 2 : Nat) : Int)) (by omega) (by omega)]
  simp only [unf]
  by_cases q : u % 2 = 0
  · rw [if_pos q, q, show IntKind.i64.wrap (0 - ((0 : Nat) : Int)) = 0 by decide, xor_i64_0 _ (by omega)]
  · rw [if_neg q, show u % 2 = 1 by omega, show IntKind.i64.wrap (0 - ((1 : Nat) : Int)) = -1 by decide, xor_i64_m1 _ (by omega)]
theorem runfold_ok (u : Nat) (h : List AObj) (hu : u < 18446744073709551616) : ACall Try.prog 90 [.int .u64 u] h (fun r _ => r = .int .i64 (unf u)) := by
  (refine ACall.of_code Try.func90 rfl ?_; simp only [Try.f90]; simp only [go_sem, Nat.reduceMul, Nat.reduceLT, Nat.reduceLeDiff, Nat.reduceEqDiff, Nat.reduceBEq, Int.toNat_natCast, Int.reduceToNat, Int.reduceNeg, Int.reduceLT, Int.reduceLE, Int.reduceBEq, Int.reduceBNe, decide_true, decide_false, Bool.false_eq_true, false_imp_iff, Nat.lt_irrefl])
  refine ⟨by decide, ?_⟩
  have e2 : IntKind.i64.wrap (IntKind.u64.wrap ((u : Int).tdiv 2)) = ((u / 2 : Nat) : Int) := by
    have : (u : Int).tdiv 2 = ((u / 2 : Nat) : Int) := by rw [Int.tdiv_eq_ediv_of_nonneg (by omega)]; omega
    rw [this, u64_wrap _ (by omega), wrap_id (by omega) (by omega)]
  have e3 : ((u : Int).tmod 2 == 0) = decide (u % 2 = 0) := by
    have : (u : Int).tmod 2 = ((u % 2 : Nat) : Int) := by rw [Int.tmod_eq_emod_of_nonneg (by omega)]; omega
    rw [this]
    by_cases q : u % 2 = 0
    · rw [q]; rfl
    · have : u % 2 = 1 := by omega
      rw [this]; rfl
  rw [e3]
  by_cases q : u % 2 = 0
  · generalize hd : decide (u % 2 = 0) = d
    obtain rfl : d = true := by rw [← hd]; simp [q]
    simp only [go_sem, Nat.reduceMul, Nat.reduceLT, Nat.reduceLeDiff, Nat.reduceEqDiff, Nat.reduceBEq, Int.toNat_natCast, Int.reduceToNat, Int.reduceNeg, Int.reduceLT, Int.reduceLE, Int.reduceBEq, Int.reduceBNe, decide_true, decide_false, Bool.false_eq_true, false_imp_iff, Nat.lt_irrefl]
    refine ⟨by decide, ?_⟩
    refine Fin_plain ?_
    rw [e2, unf, if_pos q]
  · generalize hd : decide (u % 2 = 0) = d
    obtain rfl : d = false := by rw [← hd]; simp [q]
    simp only [go_sem, Nat.reduceMul, Nat.reduceLT, Nat.reduceLeDiff, Nat.reduceEqDiff, Nat.reduceBEq, Int.toNat_natCast, Int.reduceToNat, Int.reduceNeg, Int.reduceLT, Int.reduceLE, Int.reduceBEq, Int.reduceBNe, decide_true, decide_false, Bool.false_eq_true, false_imp_iff, Nat.lt_irrefl]
    refine ⟨by decide, ?_⟩
    refine Fin_plain ?_
    rw [e2, unf, if_neg q, wrap_id (x := 0 - ((u / 2 : Nat) : Int)) (by omega) (by omega), wrap_id (by omega) (by omega)]
    congr 1; omega
theorem bytes_get (b : Str) (k : Nat) (h : k < b.length) : (bytesA b).getD k .any = .int .u8 (b[k].toNat : Int) := by simp [bytesA, List.getD_eq_getElem?_getD, h]
theorem byte_is (c : UInt8) : ((c.toNat : Int) == 128) = decide (c = 128) := by
  by_cases q : c = 128
  · rw [q]; rfl
  · have : ¬ (c.toNat : Int) = 128 := fun e => q (UInt8.toNat_inj.1 (by
      have : c.toNat = 128 := by omega
      rw [this]; rfl))
    simp [q, this]
theorem nat_is0 (i : Nat) : ((i : Int) == 0) = decide (i = 0) := by
  by_cases q : i = 0
  · subst q; rfl
  · have : ¬ (i : Int) = 0 := by omega
    simp [q, this]
theorem next_ok (c : Bool) (b : Str) (h : List AObj) (hb : b.length ≤ 4611686018427387904) : ACall Try.prog 74 [.fz c (bytesA b)] h (fun r _ => r = nxA (nxt b)) := by
  (refine ACall.of_code Try.func74 rfl ?_; simp only [Try.f74]; simp only [go_sem, Nat.reduceMul, Nat.reduceLT, Nat.reduceLeDiff, Nat.reduceEqDiff, Nat.reduceBEq, Int.toNat_natCast, Int.reduceToNat, Int.reduceNeg, Int.reduceLT, Int.reduceLE, Int.reduceBEq, Int.reduceBNe, decide_true, decide_false, Bool.false_eq_true, false_imp_iff, Nat.lt_irrefl])
  generalize hm : (if (10 : Int) < (b.length : Int) then (10 : Int) else (b.length : Int)) = m
  obtain ⟨m, rfl, hm1, hm2, hm3⟩ : ∃ k : Nat, m = (k : Int) ∧ k ≤ b.length ∧ k ≤ 10 ∧ (k = 10 ∨ k = b.length) := by
    rw [← hm]; split
    · exact ⟨10, rfl, by omega, by omega, .inl rfl⟩
    · exact ⟨b.length, rfl, by omega, by omega, .inr rfl⟩
  clear hm
  refine ⟨⟨by omega, by omega, bytesA_cells⟩, ?_⟩
  simp only [go_sem, Nat.reduceMul, Nat.reduceLT, Nat.reduceLeDiff, Nat.reduceEqDiff, Nat.reduceBEq, Int.toNat_natCast, Int.reduceToNat, Int.reduceNeg, Int.reduceLT, Int.reduceLE, Int.reduceBEq, Int.reduceBNe, decide_true, decide_false, Bool.false_eq_true, false_imp_iff, Nat.lt_irrefl]
  generalize hcB : c = cB
  generalize hTB : List.take m (bytesA b) = B
  refine ALoop.over [2, 3, 4, 5, 6, 13, 14, 15, 16, 17, 18, 19, 20, 21, 22, 23, 24, 25, 26, 27, 28, 29, 30, 31, 32, 33, 34, 35, 36, 37, 38, 39, 40, 41, 42] (fun e h' => ∃ (i u : Nat), i ≤ m ∧ e.getD 13 .any = .int .i64 i ∧ e.getD 4 .any = .int .u64 u ∧ u < 18446744073709551616 ∧ nxt b = nxtF (10 - i) i u (b.drop i)) (fun e _ => m - natA (e.getD 13 .any)) ⟨0, 0, by simp, rfl, rfl, by omega, rfl⟩ ?_
  simp only [List.length_cons, List.length_nil, Nat.reduceAdd, allL_succ, allL_zero]
  intro y2 y3 y4 y5 y6 y13 y14 y15 y16 y17 y18 y19 y20 y21 y22 y23 y24 y25 y26 y27 y28 y29 y30 y31 y32 y33 y34 y35 y36 y37 y38 y39 y40 y41 y42 h' hI
  simp only [go_sem] at hI
  obtain ⟨i, u, hi, rfl, rfl, hu, hnx⟩ := hI
  have hBl : B.length = m := by rw [← hTB, List.length_take, bytesA_len]; omega
  have hBg : ∀ k (hk : k < m), B.getD k .any = .int .u8 ((b[k]'(by omega)).toNat : Int) := by
    intro k hk
    have := bytes_get b k (by omega)
    rw [List.getD_eq_getElem?_getD] at this ⊢
    subst hTB; rw [List.getElem?_take_of_lt hk]; exact this
  simp only [go_sem, Nat.reduceMul, Nat.reduceLT, Nat.reduceLeDiff, Nat.reduceEqDiff, Nat.reduceBEq, Int.toNat_natCast, Int.reduceToNat, Int.reduceNeg, Int.reduceLT, Int.reduceLE, Int.reduceBEq, Int.reduceBNe, decide_true, decide_false, Bool.false_eq_true, false_imp_iff, Nat.lt_irrefl]
  refine acond_intro (fun hc => ?_) (fun hc => ?_)
  · have hlt : i < m := by have := of_decide_eq_true hc; omega
    have hib : i < b.length := by omega
    have hstep : nxtF (10 - i) i u (b.drop i) = if (i = 0 ∧ b[i] = 128) ∨ 144115188075855872 ≤ u then none else if b[i].toNat < 128 then some (128 * u + b[i].toNat % 128, i + 1) else nxtF (10 - (i + 1)) (i + 1) (128 * u + b[i].toNat % 128) (b.drop (i + 1)) := by
      rw [List.drop_eq_getElem_cons hib, show 10 - i = (10 - (i + 1)) + 1 by omega]; rfl
    rw [hstep] at hnx
    have hc256 := b[i].toNat_lt
    have hsh : ((u : Int)).fdiv (2 ^ min 57 64) = ((u / 144115188075855872 : Nat) : Int) := by
      have e : (2 : Int) ^ min 57 64 = 144115188075855872 := by decide
      rw [e, Int.fdiv_eq_ediv_of_nonneg _ (by decide)]; omega
    simp only [go_sem, hBg i hlt, Nat.reduceMul, Nat.reduceLT, Nat.reduceLeDiff, Nat.reduceEqDiff, Nat.reduceBEq, Int.toNat_natCast, Int.reduceToNat, Int.reduceNeg, Int.reduceLT, Int.reduceLE, Int.reduceBEq, Int.reduceBNe, decide_true, decide_false, Bool.false_eq_true, false_imp_iff, Nat.lt_irrefl]
    refine ⟨⟨by omega, by omega⟩, ?_⟩
    have hcd : (bif bif (i : Int) == 0 then (b[i].toNat : Int) == 128 else false then true else decide ((0 : Int) < ((u : Int)).fdiv (2 ^ min 57 64))) = decide ((i = 0 ∧ b[i] = 128) ∨ 144115188075855872 ≤ u) := by
      rw [byte_is, nat_is0, hsh]
      have : decide ((0 : Int) < ((u / 144115188075855872 : Nat) : Int)) = decide (144115188075855872 ≤ u) := by congr 1; simp; omega
      rw [this]
      by_cases q1 : i = 0 <;> by_cases q2 : b[i] = 128 <;> by_cases q3 : 144115188075855872 ≤ u <;> simp [q1, q2, q3]
    generalize (bif bif (i : Int) == 0 then (b[i].toNat : Int) == 128 else false then true else decide ((0 : Int) < ((u : Int)).fdiv (2 ^ min 57 64))) = d at hcd
    subst hcd
    refine acond_intro (fun hc2 => ?_) (fun hc2 => ?_)
    · have := of_decide_eq_true hc2
      rw [if_pos this] at hnx
      simp only [go_sem, Nat.reduceMul, Nat.reduceLT, Nat.reduceLeDiff, Nat.reduceEqDiff, Nat.reduceBEq, Int.toNat_natCast, Int.reduceToNat, Int.reduceNeg, Int.reduceLT, Int.reduceLE, Int.reduceBEq, Int.reduceBNe, decide_true, decide_false, Bool.false_eq_true, false_imp_iff, Nat.lt_irrefl]
      refine Fin_plain ?_
      rw [hnx]; rfl
    · have hnc := of_decide_eq_false hc2
      rw [if_neg hnc] at hnx
      have hu57 : u < 144115188075855872 := by omega
      simp only [go_sem, Nat.reduceMul, Nat.reduceLT, Nat.reduceLeDiff, Nat.reduceEqDiff, Nat.reduceBEq, Int.toNat_natCast, Int.reduceToNat, Int.reduceNeg, Int.reduceLT, Int.reduceLE, Int.reduceBEq, Int.reduceBNe, decide_true, decide_false, Bool.false_eq_true, false_imp_iff, Nat.lt_irrefl]
      have hv1 : IntKind.u64.wrap ((u : Int) * 2 ^ min 7 64) = ((128 * u : Nat) : Int) := by
        have e : (2 : Int) ^ min 7 64 = 128 := by decide
        rw [e, show (u : Int) * 128 = ((128 * u : Nat) : Int) by omega, u64_wrap _ (by omega)]
      have hv2 : intBitsA .or .u64 (IntKind.u64.wrap ((u : Int) * 2 ^ min 7 64)) (IntKind.u64.wrap (intBitsA .andNot .u8 (b[i].toNat : Int) 128)) = ((128 * u + b[i].toNat % 128 : Nat) : Int) := by
        rw [hv1, byte_andNot, u64_wrap _ (by omega), or_add _ _ (by omega) (by omega)]
      generalize intBitsA .or .u64 (IntKind.u64.wrap ((u : Int) * 2 ^ min 7 64)) (IntKind.u64.wrap (intBitsA .andNot .u8 (b[i].toNat : Int) 128)) = u2 at hv2
      subst hv2
      have hv3 := byte_and b[i]
      generalize (intBitsA .and .u8 (b[i].toNat : Int) 128 == 0) = d at hv3
      subst hv3
      have hw : IntKind.i64.wrap ((i : Int) + 1) = ((i + 1 : Nat) : Int) := by rw [wrap_id (by omega) (by omega)]; omega
      refine acond_intro (fun hc3 => ?_) (fun hc3 => ?_)
      · have := of_decide_eq_true hc3
        rw [if_pos this] at hnx
        simp only [go_sem, Nat.reduceMul, Nat.reduceLT, Nat.reduceLeDiff, Nat.reduceEqDiff, Nat.reduceBEq, Int.toNat_natCast, Int.reduceToNat, Int.reduceNeg, Int.reduceLT, Int.reduceLE, Int.reduceBEq, Int.reduceBNe, decide_true, decide_false, Bool.false_eq_true, false_imp_iff, Nat.lt_irrefl]
        (refine ACallT.pure (by simp only [go_sem, Nat.reduceMul, Nat.reduceLT, Nat.reduceLeDiff, Nat.reduceEqDiff, Nat.reduceBEq, Int.toNat_natCast, Int.reduceToNat, Int.reduceNeg, Int.reduceLT, Int.reduceLE, Int.reduceBEq, Int.reduceBNe, decide_true, decide_false, Bool.false_eq_true, false_imp_iff, Nat.lt_irrefl]; rfl) (by first | trivial | assumption | (simp only [go_sem, Nat.reduceMul, Nat.reduceLT, Nat.reduceLeDiff, Nat.reduceEqDiff, Nat.reduceBEq, Int.toNat_natCast, Int.reduceToNat, Int.reduceNeg, Int.reduceLT, Int.reduceLE, Int.reduceBEq, Int.reduceBNe, decide_true, decide_false, Bool.false_eq_true, false_imp_iff, Nat.lt_irrefl]; done) | (simp only [go_sem, Nat.reduceMul, Nat.reduceLT, Nat.reduceLeDiff, Nat.reduceEqDiff, Nat.reduceBEq, Int.toNat_natCast, Int.reduceToNat, Int.reduceNeg, Int.reduceLT, Int.reduceLE, Int.reduceBEq, Int.reduceBNe, decide_true, decide_false, Bool.false_eq_true, false_imp_iff, Nat.lt_irrefl]; first | trivial | assumption | omega | decide | (refine ⟨?_, ?_⟩ <;> first | trivial | assumption | omega | decide))) (unfold_ok (128 * u + b[i].toNat % 128) _ (by omega)) ?_; refine fun _ _ e => ?_; subst e; refine ⟨rfl, ?_⟩; simp only [go_sem, Nat.reduceMul, Nat.reduceLT, Nat.reduceLeDiff, Nat.reduceEqDiff, Nat.reduceBEq, Int.toNat_natCast, Int.reduceToNat, Int.reduceNeg, Int.reduceLT, Int.reduceLE, Int.reduceBEq, Int.reduceBNe, decide_true, decide_false, Bool.false_eq_true, false_imp_iff, Nat.lt_irrefl])
        refine Fin_plain ?_
        rw [hnx, hw]; rfl
      · have := of_decide_eq_false hc3
        rw [if_neg this] at hnx
        simp only [go_sem, Nat.reduceMul, Nat.reduceLT, Nat.reduceLeDiff, Nat.reduceEqDiff, Nat.reduceBEq, Int.toNat_natCast, Int.reduceToNat, Int.reduceNeg, Int.reduceLT, Int.reduceLE, Int.reduceBEq, Int.reduceBNe, decide_true, decide_false, Bool.false_eq_true, false_imp_iff, Nat.lt_irrefl]
        exact ⟨⟨i + 1, 128 * u + b[i].toNat % 128, by omega, by rw [hw], rfl, by omega, hnx⟩, by rw [hw]; omega⟩
  · have hge : i = m := by have := of_decide_eq_false hc; omega
    have hnone : nxt b = none := by
      rw [hnx]
      rcases hm3 with q | q
      · subst hge; rw [q]; rfl
      · rw [List.drop_eq_nil_of_le (by omega)]
        cases 10 - i <;> rfl
    simp only [go_sem, Nat.reduceMul, Nat.reduceLT, Nat.reduceLeDiff, Nat.reduceEqDiff, Nat.reduceBEq, Int.toNat_natCast, Int.reduceToNat, Int.reduceNeg, Int.reduceLT, Int.reduceLE, Int.reduceBEq, Int.reduceBNe, decide_true, decide_false, Bool.false_eq_true, false_imp_iff, Nat.lt_irrefl]
    refine Fin_plain ?_
    rw [hnone]; rfl
/-- The next number, and what is behind it. -/
def rdInt (lo hi : Int) (b : Str) : Option (Int × Str) := match nxt b with
  | some (u, n) => if unf u < lo ∨ hi < unf u then none else some (unf u, b.drop n)
  | none => none
def rdTx (most : Int) (b : Str) : Option (Str × Str) := match nxt b with
  | some (u, n) => if unf u < 0 ∨ most < unf u ∨ (b.length : Int) - n < unf u then none else some ((b.drop n).take (unf u).toNat, b.drop (n + (unf u).toNat))
  | none => none
theorem nxtF_n : ∀ (f k u : Nat) (b : Str) (v n : Nat), nxtF f k u b = some (v, n) → k < n ∧ n ≤ k + b.length ∧ n ≤ k + f ∧ (u < 18446744073709551616 → v < 18446744073709551616)
  | 0, _, _, _, _, _, h => by cases h
  | f + 1, _, _, [], _, _, h => by cases h
  | f + 1, k, u, c :: r, v, n, h => by
    simp only [nxtF] at h
    split at h
    · cases h
    · rename_i hc
      have hu : u < 144115188075855872 := by omega
      have h128 : c.toNat % 128 < 128 := by omega
      split at h
      · injection h with h; injection h with h1 h2; subst h1 h2
        refine ⟨by omega, by simp, by omega, fun _ => by omega⟩
      · have := nxtF_n f (k + 1) _ r v n h
        refine ⟨by omega, by simp only [List.length_cons]; omega, by omega, fun _ => this.2.2.2 (by omega)⟩
theorem nxt_n {b : Str} {v n : Nat} (h : nxt b = some (v, n)) : 0 < n ∧ n ≤ b.length ∧ n ≤ 10 ∧ v < 18446744073709551616 := by
  have := nxtF_n 10 0 0 b v n h
  exact ⟨by omega, by omega, by omega, this.2.2.2 (by omega)⟩
theorem unf_bound {u : Nat} (h : u < 18446744073709551616) : -9223372036854775808 ≤ unf u ∧ unf u ≤ 9223372036854775807 := by
  simp only [unf]; split <;> omega
/-- A reader at bytes. -/
def RdAt (h : List AObj) (t : Nat) (c : Bool) (b : Str) : Prop := h[t]? = some (.arr 0 1 [.agg [.fz c (bytesA b)]])
def rdV (o : Option (Int × Str)) : AV := match o with
  | some (v, _) => .tup [.int .i64 v, .int .i64 0]
  | none => .tup [.int .i64 0, .int .i64 11]
def rdO' (o : Option (Int × Str)) (h : List AObj) (t : Nat) (c : Bool) : List AObj := match o with
  | some (_, b) => h.set t (.arr 0 1 [.agg [.fz c (bytesA b)]])
  | none => h
theorem drop_bytes (n : Nat) (b : Str) : List.drop n (bytesA b) = bytesA (b.drop n) := by simp [bytesA]
theorem take_bytes' (n : Nat) (b : Str) : List.take n (bytesA b) = bytesA (b.take n) := by simp [bytesA]
theorem rint_ok (t : Nat) (c : Bool) (b : Str) (lo hi : Int) (h : List AObj) (hb : b.length ≤ 4611686018427387904) (hr : RdAt h t c b) : ACall Try.prog 59 [.ref t 0 1 0 0, .int .i64 lo, .int .i64 hi] h (fun r h' => r = rdV (rdInt lo hi b) ∧ h' = rdO' (rdInt lo hi b) h t c) := by
  simp only [RdAt] at hr
  (refine ACall.of_code Try.func59 rfl ?_; simp only [Try.f59]; simp only [go_sem, Nat.reduceMul, Nat.reduceLT, Nat.reduceLeDiff, Nat.reduceEqDiff, Nat.reduceBEq, Int.toNat_natCast, Int.reduceToNat, Int.reduceNeg, Int.reduceLT, Int.reduceLE, Int.reduceBEq, Int.reduceBNe, decide_true, decide_false, Bool.false_eq_true, false_imp_iff, Nat.lt_irrefl])
  simp only [go_sem, hr, Nat.reduceMul, Nat.reduceLT, Nat.reduceLeDiff, Nat.reduceEqDiff, Nat.reduceBEq, Int.toNat_natCast, Int.reduceToNat, Int.reduceNeg, Int.reduceLT, Int.reduceLE, Int.reduceBEq, Int.reduceBNe, decide_true, decide_false, Bool.false_eq_true, false_imp_iff, Nat.lt_irrefl]
  have hn := next_ok c b (deadH h) hb
  cases hx : nxt b with
  | none =>
    have h1 : rdInt lo hi b = none := by simp only [rdInt, hx]
    rw [hx] at hn; simp only [nxA] at hn
    (refine ACallT.pure (by simp only [go_sem, Nat.reduceMul, Nat.reduceLT, Nat.reduceLeDiff, Nat.reduceEqDiff, Nat.reduceBEq, Int.toNat_natCast, Int.reduceToNat, Int.reduceNeg, Int.reduceLT, Int.reduceLE, Int.reduceBEq, Int.reduceBNe, decide_true, decide_false, Bool.false_eq_true, false_imp_iff, Nat.lt_irrefl]; rfl) (by first | trivial | assumption | (simp only [go_sem, Nat.reduceMul, Nat.reduceLT, Nat.reduceLeDiff, Nat.reduceEqDiff, Nat.reduceBEq, Int.toNat_natCast, Int.reduceToNat, Int.reduceNeg, Int.reduceLT, Int.reduceLE, Int.reduceBEq, Int.reduceBNe, decide_true, decide_false, Bool.false_eq_true, false_imp_iff, Nat.lt_irrefl]; done) | (simp only [go_sem, Nat.reduceMul, Nat.reduceLT, Nat.reduceLeDiff, Nat.reduceEqDiff, Nat.reduceBEq, Int.toNat_natCast, Int.reduceToNat, Int.reduceNeg, Int.reduceLT, Int.reduceLE, Int.reduceBEq, Int.reduceBNe, decide_true, decide_false, Bool.false_eq_true, false_imp_iff, Nat.lt_irrefl]; first | trivial | assumption | omega | decide | (refine ⟨?_, ?_⟩ <;> first | trivial | assumption | omega | decide))) (hn) ?_; refine fun _ _ e => ?_; subst e; refine ⟨rfl, ?_⟩; simp only [go_sem, Nat.reduceMul, Nat.reduceLT, Nat.reduceLeDiff, Nat.reduceEqDiff, Nat.reduceBEq, Int.toNat_natCast, Int.reduceToNat, Int.reduceNeg, Int.reduceLT, Int.reduceLE, Int.reduceBEq, Int.reduceBNe, decide_true, decide_false, Bool.false_eq_true, false_imp_iff, Nat.lt_irrefl])
    rw [h1]
    refine Fin_plain ?_; exact ⟨rfl, rfl⟩
  | some p =>
    obtain ⟨u, n⟩ := p
    obtain ⟨hn1, hn2, hn3, hu⟩ := nxt_n hx
    have hub := unf_bound hu
    rw [hx] at hn; simp only [nxA] at hn
    have h1 : rdInt lo hi b = if unf u < lo ∨ hi < unf u then none else some (unf u, b.drop n) := by simp only [rdInt, hx]
    (refine ACallT.pure (by simp only [go_sem, Nat.reduceMul, Nat.reduceLT, Nat.reduceLeDiff, Nat.reduceEqDiff, Nat.reduceBEq, Int.toNat_natCast, Int.reduceToNat, Int.reduceNeg, Int.reduceLT, Int.reduceLE, Int.reduceBEq, Int.reduceBNe, decide_true, decide_false, Bool.false_eq_true, false_imp_iff, Nat.lt_irrefl]; rfl) (by first | trivial | assumption | (simp only [go_sem, Nat.reduceMul, Nat.reduceLT, Nat.reduceLeDiff, Nat.reduceEqDiff, Nat.reduceBEq, Int.toNat_natCast, Int.reduceToNat, Int.reduceNeg, Int.reduceLT, Int.reduceLE, Int.reduceBEq, Int.reduceBNe, decide_true, decide_false, Bool.false_eq_true, false_imp_iff, Nat.lt_irrefl]; done) | (simp only [go_sem, Nat.reduceMul, Nat.reduceLT, Nat.reduceLeDiff, Nat.reduceEqDiff, Nat.reduceBEq, Int.toNat_natCast, Int.reduceToNat, Int.reduceNeg, Int.reduceLT, Int.reduceLE, Int.reduceBEq, Int.reduceBNe, decide_true, decide_false, Bool.false_eq_true, false_imp_iff, Nat.lt_irrefl]; first | trivial | assumption | omega | decide | (refine ⟨?_, ?_⟩ <;> first | trivial | assumption | omega | decide))) (hn) ?_; refine fun _ _ e => ?_; subst e; refine ⟨rfl, ?_⟩; simp only [go_sem, Nat.reduceMul, Nat.reduceLT, Nat.reduceLeDiff, Nat.reduceEqDiff, Nat.reduceBEq, Int.toNat_natCast, Int.reduceToNat, Int.reduceNeg, Int.reduceLT, Int.reduceLE, Int.reduceBEq, Int.reduceBNe, decide_true, decide_false, Bool.false_eq_true, false_imp_iff, Nat.lt_irrefl])
    generalize hd0 : ((n : Int) == 0) = d0
    obtain rfl : d0 = false := by rw [← hd0, beq_eq_false_iff_ne]; omega
    simp only [go_sem, Nat.reduceMul, Nat.reduceLT, Nat.reduceLeDiff, Nat.reduceEqDiff, Nat.reduceBEq, Int.toNat_natCast, Int.reduceToNat, Int.reduceNeg, Int.reduceLT, Int.reduceLE, Int.reduceBEq, Int.reduceBNe, decide_true, decide_false, Bool.false_eq_true, false_imp_iff, Nat.lt_irrefl]
    generalize hd1 : decide (unf u < lo) = d1
    cases d1 with
    | true =>
      have := of_decide_eq_true hd1
      rw [if_pos (.inl this)] at h1
      simp only [go_sem, Nat.reduceMul, Nat.reduceLT, Nat.reduceLeDiff, Nat.reduceEqDiff, Nat.reduceBEq, Int.toNat_natCast, Int.reduceToNat, Int.reduceNeg, Int.reduceLT, Int.reduceLE, Int.reduceBEq, Int.reduceBNe, decide_true, decide_false, Bool.false_eq_true, false_imp_iff, Nat.lt_irrefl]
      rw [h1]
      refine Fin_plain ?_; exact ⟨rfl, rfl⟩
    | false =>
      have hlo := of_decide_eq_false hd1
      simp only [go_sem, Nat.reduceMul, Nat.reduceLT, Nat.reduceLeDiff, Nat.reduceEqDiff, Nat.reduceBEq, Int.toNat_natCast, Int.reduceToNat, Int.reduceNeg, Int.reduceLT, Int.reduceLE, Int.reduceBEq, Int.reduceBNe, decide_true, decide_false, Bool.false_eq_true, false_imp_iff, Nat.lt_irrefl]
      generalize hd2 : decide (hi < unf u) = d2
      cases d2 with
      | true =>
        have := of_decide_eq_true hd2
        rw [if_pos (.inr this)] at h1
        simp only [go_sem, Nat.reduceMul, Nat.reduceLT, Nat.reduceLeDiff, Nat.reduceEqDiff, Nat.reduceBEq, Int.toNat_natCast, Int.reduceToNat, Int.reduceNeg, Int.reduceLT, Int.reduceLE, Int.reduceBEq, Int.reduceBNe, decide_true, decide_false, Bool.false_eq_true, false_imp_iff, Nat.lt_irrefl]
        rw [h1]
        refine Fin_plain ?_; exact ⟨rfl, rfl⟩
      | false =>
        have hhi := of_decide_eq_false hd2
        rw [if_neg (by omega)] at h1
        simp only [go_sem, hr, Nat.reduceMul, Nat.reduceLT, Nat.reduceLeDiff, Nat.reduceEqDiff, Nat.reduceBEq, Int.toNat_natCast, Int.reduceToNat, Int.reduceNeg, Int.reduceLT, Int.reduceLE, Int.reduceBEq, Int.reduceBNe, decide_true, decide_false, Bool.false_eq_true, false_imp_iff, Nat.lt_irrefl]
        refine ⟨⟨by omega, by omega, by omega, bytesA_cells⟩, ?_⟩
        refine Fin_plain ?_
        rw [h1, drop_bytes]; exact ⟨rfl, rfl⟩
def rdTV (o : Option (Str × Str)) : AV := match o with
  | some (s, _) => .tup [.str s, .int .i64 0]
  | none => .tup [.str [], .int .i64 11]
def rdTO (o : Option (Str × Str)) (h : List AObj) (t : Nat) (c : Bool) : List AObj := match o with
  | some (_, b) => h.set t (.arr 0 1 [.agg [.fz c (bytesA b)]])
  | none => h
theorem rtext_ok (t : Nat) (c : Bool) (b : Str) (hi : Int) (h : List AObj) (hb : b.length ≤ 4611686018427387904) (hr : RdAt h t c b) : ACall Try.prog 60 [.ref t 0 1 0 0, .int .i64 hi] h (fun r h' => r = rdTV (rdTx hi b) ∧ h' = rdTO (rdTx hi b) h t c) := by
  simp only [RdAt] at hr
  (refine ACall.of_code Try.func60 rfl ?_; simp only [Try.f60]; simp only [go_sem, Nat.reduceMul, Nat.reduceLT, Nat.reduceLeDiff, Nat.reduceEqDiff, Nat.reduceBEq, Int.toNat_natCast, Int.reduceToNat, Int.reduceNeg, Int.reduceLT, Int.reduceLE, Int.reduceBEq, Int.reduceBNe, decide_true, decide_false, Bool.false_eq_true, false_imp_iff, Nat.lt_irrefl])
  simp only [go_sem, hr, Nat.reduceMul, Nat.reduceLT, Nat.reduceLeDiff, Nat.reduceEqDiff, Nat.reduceBEq, Int.toNat_natCast, Int.reduceToNat, Int.reduceNeg, Int.reduceLT, Int.reduceLE, Int.reduceBEq, Int.reduceBNe, decide_true, decide_false, Bool.false_eq_true, false_imp_iff, Nat.lt_irrefl]
  have hn := next_ok c b (deadH h) hb
  cases hx : nxt b with
  | none =>
    have h1 : rdTx hi b = none := by simp only [rdTx, hx]
    rw [hx] at hn; simp only [nxA] at hn
    (refine ACallT.pure (by simp only [go_sem, Nat.reduceMul, Nat.reduceLT, Nat.reduceLeDiff, Nat.reduceEqDiff, Nat.reduceBEq, Int.toNat_natCast, Int.reduceToNat, Int.reduceNeg, Int.reduceLT, Int.reduceLE, Int.reduceBEq, Int.reduceBNe, decide_true, decide_false, Bool.false_eq_true, false_imp_iff, Nat.lt_irrefl]; rfl) (by first | trivial | assumption | (simp only [go_sem, Nat.reduceMul, Nat.reduceLT, Nat.reduceLeDiff, Nat.reduceEqDiff, Nat.reduceBEq, Int.toNat_natCast, Int.reduceToNat, Int.reduceNeg, Int.reduceLT, Int.reduceLE, Int.reduceBEq, Int.reduceBNe, decide_true, decide_false, Bool.false_eq_true, false_imp_iff, Nat.lt_irrefl]; done) | (simp only [go_sem, Nat.reduceMul, Nat.reduceLT, Nat.reduceLeDiff, Nat.reduceEqDiff, Nat.reduceBEq, Int.toNat_natCast, Int.reduceToNat, Int.reduceNeg, Int.reduceLT, Int.reduceLE, Int.reduceBEq, Int.reduceBNe, decide_true, decide_false, Bool.false_eq_true, false_imp_iff, Nat.lt_irrefl]; first | trivial | assumption | omega | decide | (refine ⟨?_, ?_⟩ <;> first | trivial | assumption | omega | decide))) (hn) ?_; refine fun _ _ e => ?_; subst e; refine ⟨rfl, ?_⟩)
    simp only [go_sem, hr, Nat.reduceMul, Nat.reduceLT, Nat.reduceLeDiff, Nat.reduceEqDiff, Nat.reduceBEq, Int.toNat_natCast, Int.reduceToNat, Int.reduceNeg, Int.reduceLT, Int.reduceLE, Int.reduceBEq, Int.reduceBNe, decide_true, decide_false, Bool.false_eq_true, false_imp_iff, Nat.lt_irrefl]
    rw [h1]
    refine Fin_plain ?_; exact ⟨rfl, rfl⟩
  | some p =>
    obtain ⟨u, n⟩ := p
    obtain ⟨hn1, hn2, hn3, hu⟩ := nxt_n hx
    have hub := unf_bound hu
    rw [hx] at hn; simp only [nxA] at hn
    have h1 : rdTx hi b = if unf u < 0 ∨ hi < unf u ∨ (b.length : Int) - n < unf u then none else some ((b.drop n).take (unf u).toNat, b.drop (n + (unf u).toNat)) := by simp only [rdTx, hx]
    (refine ACallT.pure (by simp only [go_sem, Nat.reduceMul, Nat.reduceLT, Nat.reduceLeDiff, Nat.reduceEqDiff, Nat.reduceBEq, Int.toNat_natCast, Int.reduceToNat, Int.reduceNeg, Int.reduceLT, Int.reduceLE, Int.reduceBEq, Int.reduceBNe, decide_true, decide_false, Bool.false_eq_true, false_imp_iff, Nat.lt_irrefl]; rfl) (by first | trivial | assumption | (simp only [go_sem, Nat.reduceMul, Nat.reduceLT, Nat.reduceLeDiff, Nat.reduceEqDiff, Nat.reduceBEq, Int.toNat_natCast, Int.reduceToNat, Int.reduceNeg, Int.reduceLT, Int.reduceLE, Int.reduceBEq, Int.reduceBNe, decide_true, decide_false, Bool.false_eq_true, false_imp_iff, Nat.lt_irrefl]; done) | (simp only [go_sem, Nat.reduceMul, Nat.reduceLT, Nat.reduceLeDiff, Nat.reduceEqDiff, Nat.reduceBEq, Int.toNat_natCast, Int.reduceToNat, Int.reduceNeg, Int.reduceLT, Int.reduceLE, Int.reduceBEq, Int.reduceBNe, decide_true, decide_false, Bool.false_eq_true, false_imp_iff, Nat.lt_irrefl]; first | trivial | assumption | omega | decide | (refine ⟨?_, ?_⟩ <;> first | trivial | assumption | omega | decide))) (hn) ?_; refine fun _ _ e => ?_; subst e; refine ⟨rfl, ?_⟩; simp only [go_sem, Nat.reduceMul, Nat.reduceLT, Nat.reduceLeDiff, Nat.reduceEqDiff, Nat.reduceBEq, Int.toNat_natCast, Int.reduceToNat, Int.reduceNeg, Int.reduceLT, Int.reduceLE, Int.reduceBEq, Int.reduceBNe, decide_true, decide_false, Bool.false_eq_true, false_imp_iff, Nat.lt_irrefl])
    generalize hd0 : ((n : Int) == 0) = d0
    obtain rfl : d0 = false := by rw [← hd0, beq_eq_false_iff_ne]; omega
    simp only [go_sem, Nat.reduceMul, Nat.reduceLT, Nat.reduceLeDiff, Nat.reduceEqDiff, Nat.reduceBEq, Int.toNat_natCast, Int.reduceToNat, Int.reduceNeg, Int.reduceLT, Int.reduceLE, Int.reduceBEq, Int.reduceBNe, decide_true, decide_false, Bool.false_eq_true, false_imp_iff, Nat.lt_irrefl]
    generalize hd1 : decide (unf u < 0) = d1
    cases d1 with
    | true =>
      have := of_decide_eq_true hd1
      rw [if_pos (.inl this)] at h1
      simp only [go_sem, hr, Nat.reduceMul, Nat.reduceLT, Nat.reduceLeDiff, Nat.reduceEqDiff, Nat.reduceBEq, Int.toNat_natCast, Int.reduceToNat, Int.reduceNeg, Int.reduceLT, Int.reduceLE, Int.reduceBEq, Int.reduceBNe, decide_true, decide_false, Bool.false_eq_true, false_imp_iff, Nat.lt_irrefl]
      rw [h1]
      refine Fin_plain ?_; exact ⟨rfl, rfl⟩
    | false =>
      have hlo := of_decide_eq_false hd1
      simp only [go_sem, Nat.reduceMul, Nat.reduceLT, Nat.reduceLeDiff, Nat.reduceEqDiff, Nat.reduceBEq, Int.toNat_natCast, Int.reduceToNat, Int.reduceNeg, Int.reduceLT, Int.reduceLE, Int.reduceBEq, Int.reduceBNe, decide_true, decide_false, Bool.false_eq_true, false_imp_iff, Nat.lt_irrefl]
      generalize hd2 : decide (hi < unf u) = d2
      cases d2 with
      | true =>
        have := of_decide_eq_true hd2
        rw [if_pos (.inr (.inl this))] at h1
        simp only [go_sem, hr, Nat.reduceMul, Nat.reduceLT, Nat.reduceLeDiff, Nat.reduceEqDiff, Nat.reduceBEq, Int.toNat_natCast, Int.reduceToNat, Int.reduceNeg, Int.reduceLT, Int.reduceLE, Int.reduceBEq, Int.reduceBNe, decide_true, decide_false, Bool.false_eq_true, false_imp_iff, Nat.lt_irrefl]
        rw [h1]
        refine Fin_plain ?_; exact ⟨rfl, rfl⟩
      | false =>
        have hhi := of_decide_eq_false hd2
        simp only [go_sem, hr, Nat.reduceMul, Nat.reduceLT, Nat.reduceLeDiff, Nat.reduceEqDiff, Nat.reduceBEq, Int.toNat_natCast, Int.reduceToNat, Int.reduceNeg, Int.reduceLT, Int.reduceLE, Int.reduceBEq, Int.reduceBNe, decide_true, decide_false, Bool.false_eq_true, false_imp_iff, Nat.lt_irrefl]
        have hw : IntKind.i64.wrap ((b.length : Int) - n) = (b.length : Int) - n := wrap_id (by omega) (by omega)
        generalize hd3 : decide (IntKind.i64.wrap ((b.length : Int) - n) < unf u) = d3
        rw [hw] at hd3
        cases d3 with
        | true =>
          have := of_decide_eq_true hd3
          rw [if_pos (.inr (.inr this))] at h1
          simp only [go_sem, Nat.reduceMul, Nat.reduceLT, Nat.reduceLeDiff, Nat.reduceEqDiff, Nat.reduceBEq, Int.toNat_natCast, Int.reduceToNat, Int.reduceNeg, Int.reduceLT, Int.reduceLE, Int.reduceBEq, Int.reduceBNe, decide_true, decide_false, Bool.false_eq_true, false_imp_iff, Nat.lt_irrefl]
          rw [h1]
          refine Fin_plain ?_; exact ⟨rfl, rfl⟩
        | false =>
          have hle := of_decide_eq_false hd3
          rw [if_neg (by omega)] at h1
          simp only [go_sem, hr, Nat.reduceMul, Nat.reduceLT, Nat.reduceLeDiff, Nat.reduceEqDiff, Nat.reduceBEq, Int.toNat_natCast, Int.reduceToNat, Int.reduceNeg, Int.reduceLT, Int.reduceLE, Int.reduceBEq, Int.reduceBNe, decide_true, decide_false, Bool.false_eq_true, false_imp_iff, Nat.lt_irrefl]
          have hv : unf u = ((unf u).toNat : Int) := by omega
          generalize (unf u).toNat = k at hv h1
          rw [hv] at hle hlo hhi
          have hw2 : IntKind.i64.wrap ((n : Int) + unf u) = ((n + k : Nat) : Int) := by rw [hv, wrap_id (by omega) (by omega)]; omega
          rw [hw2, Int.toNat_natCast, take_bytes', drop_bytes, drop_bytes, bytesA_byteOf]
          refine ⟨⟨by omega, by omega, by omega, bytesA_cells⟩, bytesA_ok _, ⟨by omega, by omega, by omega, bytesA_cells⟩, ?_⟩
          refine Fin_plain ?_
          rw [h1, List.drop_take, Nat.add_sub_cancel_left]; exact ⟨rfl, rfl⟩
theorem rleft_ok (t : Nat) (c : Bool) (b : Str) (h : List AObj) (hr : RdAt h t c b) : ACall Try.prog 61 [.ref t 0 1 0 0] h (fun r h' => r = .int .i64 b.length ∧ h' = h) := by
  simp only [RdAt] at hr
  (refine ACall.of_code Try.func61 rfl ?_; simp only [Try.f61]; simp only [go_sem, Nat.reduceMul, Nat.reduceLT, Nat.reduceLeDiff, Nat.reduceEqDiff, Nat.reduceBEq, Int.toNat_natCast, Int.reduceToNat, Int.reduceNeg, Int.reduceLT, Int.reduceLE, Int.reduceBEq, Int.reduceBNe, decide_true, decide_false, Bool.false_eq_true, false_imp_iff, Nat.lt_irrefl])
  simp only [go_sem, hr, Nat.reduceMul, Nat.reduceLT, Nat.reduceLeDiff, Nat.reduceEqDiff, Nat.reduceBEq, Int.toNat_natCast, Int.reduceToNat, Int.reduceNeg, Int.reduceLT, Int.reduceLE, Int.reduceBEq, Int.reduceBNe, decide_true, decide_false, Bool.false_eq_true, false_imp_iff, Nat.lt_irrefl]
  refine Fin_plain ?_; exact ⟨rfl, rfl⟩
theorem bclone_ok (c : Bool) (b : Str) (h : List AObj) (hb : b.length ≤ 130000000000000) : ACall Try.prog 73 [.fz c (bytesA b)] h (fun r h' => (b = [] ∧ r = .fz true [] ∧ h' = h) ∨ ∃ g, r = .sl h.length g 1 0 b.length ∧ h' = h ++ [.arr g 1 (bytesA b)]) := by
  (refine ACall.of_code Try.func73 rfl ?_; simp only [Try.f73]; simp only [go_sem, Nat.reduceMul, Nat.reduceLT, Nat.reduceLeDiff, Nat.reduceEqDiff, Nat.reduceBEq, Int.toNat_natCast, Int.reduceToNat, Int.reduceNeg, Int.reduceLT, Int.reduceLE, Int.reduceBEq, Int.reduceBNe, decide_true, decide_false, Bool.false_eq_true, false_imp_iff, Nat.lt_irrefl])
  intro q hq
  cases q with
  | true =>
    simp only [go_sem, Nat.reduceMul, Nat.reduceLT, Nat.reduceLeDiff, Nat.reduceEqDiff, Nat.reduceBEq, Int.toNat_natCast, Int.reduceToNat, Int.reduceNeg, Int.reduceLT, Int.reduceLE, Int.reduceBEq, Int.reduceBNe, decide_true, decide_false, Bool.false_eq_true, false_imp_iff, Nat.lt_irrefl]
    have : b = [] := by have := hq rfl; cases b with
      | nil => rfl
      | cons a l => simp [bytesA] at this
    refine Fin_plain (.inl ⟨this, rfl, rfl⟩)
  | false =>
    simp only [go_sem, Nat.reduceMul, Nat.reduceLT, Nat.reduceLeDiff, Nat.reduceEqDiff, Nat.reduceBEq, Int.toNat_natCast, Int.reduceToNat, Int.reduceNeg, Int.reduceLT, Int.reduceLE, Int.reduceBEq, Int.reduceBNe, decide_true, decide_false, Bool.false_eq_true, false_imp_iff, Nat.lt_irrefl]
    refine ⟨⟨by omega, by omega, okEl_bytes b⟩, ?_⟩
    refine Fin_plain (.inr ⟨1, rfl, rfl⟩)
theorem open_ok (c : Bool) (b : Str) (h : List AObj) (hb : b.length ≤ 130000000000000) : ACall Try.prog 58 [.fz c (bytesA b)] h (fun r h' => ∃ (e : List AObj) (c' : Bool), r = .ref (h.length + e.length) 0 1 0 0 ∧ h' = h ++ (e ++ [.arr 0 1 [.agg [.fz c' (bytesA b)]]])) := by
  (refine ACall.of_code Try.func58 rfl ?_; simp only [Try.f58]; simp only [go_sem, Nat.reduceMul, Nat.reduceLT, Nat.reduceLeDiff, Nat.reduceEqDiff, Nat.reduceBEq, Int.toNat_natCast, Int.reduceToNat, Int.reduceNeg, Int.reduceLT, Int.reduceLE, Int.reduceBEq, Int.reduceBNe, decide_true, decide_false, Bool.false_eq_true, false_imp_iff, Nat.lt_irrefl])
  refine ACallT.by (bclone_ok c b _ hb) ?_
  rintro _ _ (⟨rfl, rfl, rfl⟩ | ⟨g, rfl, rfl⟩)
  · simp only [go_sem, Nat.reduceMul, Nat.reduceLT, Nat.reduceLeDiff, Nat.reduceEqDiff, Nat.reduceBEq, Int.toNat_natCast, Int.reduceToNat, Int.reduceNeg, Int.reduceLT, Int.reduceLE, Int.reduceBEq, Int.reduceBNe, decide_true, decide_false, Bool.false_eq_true, false_imp_iff, Nat.lt_irrefl]
    refine Fin_plain ?_
    exact ⟨[], true, rfl, rfl⟩
  · simp only [go_sem, Nat.reduceMul, Nat.reduceLT, Nat.reduceLeDiff, Nat.reduceEqDiff, Nat.reduceBEq, Int.toNat_natCast, Int.reduceToNat, Int.reduceNeg, Int.reduceLT, Int.reduceLE, Int.reduceBEq, Int.reduceBNe, decide_true, decide_false, Bool.false_eq_true, false_imp_iff, Nat.lt_irrefl]
    have hT : frzT (fun i => i == h.length) (h ++ [AObj.arr g 1 (bytesA b), AObj.arr 0 1 [AV.agg [AV.sl h.length g 1 0 (List.length b)]]]) 3 (.agg [AV.sl h.length g 1 0 (List.length b)]) = .agg [.fz false (bytesA b)] := by
      have := frzT_all (T := fun i => i == h.length) (h := h ++ [AObj.arr g 1 (bytesA b), AObj.arr 0 1 [AV.agg [AV.sl h.length g 1 0 (List.length b)]]]) (k := 0) (t := h.length) (g := g) (s := 1) (n := List.length b) (l := bytesA b) (by rw [getElem?_app0]; rfl) (by simp) (bytesA_len b).symm (flatX_bytes b)
      simp only [frzT, List.map_cons, List.map_nil] at this ⊢
      rw [this]
    refine Fin_part (fun i => i == h.length) 3 (h ++ ([.dead] ++ [.arr 0 1 [.agg [.fz false (bytesA b)]]])) (by simp) ?_ ?_
    · intro i o ho
      rcases Nat.lt_or_ge i h.length with q | q
      · refine PartO.same (by simp; omega) ?_
        rw [List.getElem?_append_left q] at ho ⊢; exact ho
      · obtain ⟨j, rfl⟩ : ∃ j, i = h.length + j := ⟨i - h.length, by omega⟩
        rw [getElem?_app] at ho
        match j, ho with
        | 0, ho => injection ho with ho; exact .inl ho.symm
        | 1, ho =>
          injection ho with ho
          refine .inr ⟨by simp, .inr ⟨0, 1, [AV.agg [AV.sl h.length g 1 0 (List.length b)]], 3, by rw [getElem?_app]; rfl, ?_, ?_⟩⟩
          · rw [List.map_cons, hT]; exact ho.symm
          · intro y hy; simp only [List.mem_singleton] at hy; subst hy; rw [hT]; rfl
        | j + 2, ho => simp at ho
    · refine ⟨[.dead], false, ?_, rfl⟩
      simp only [frzT]
      rw [if_pos (by simp)]; rfl
end Go.Proofs.Vale
