/- YtmhcmpeffhlaeaaGreatVDimE: a text of the proof of this claim, by its prover. -/
import Derived.Test.YtmhcmpeffhlaeaaGreatVDimB
import Derived.Test.YtmhcmpeffhlaeaaGreatVRk
set_option linter.unusedVariables false
set_option linter.unusedSimpArgs false
set_option maxHeartbeats 4000000
set_option maxRecDepth 100000
namespace Go.Proofs.Vale
open Go.Proofs Go.Proofs.YtmhcmpeffhlaeaaGreatT
attribute [local irreducible] acode aopsL aopsT dopsL dopsT pop popG aop ALoop ADraw ACall AWP AFin acondT ALoopT ADrawT ACallT doP doG doGd

/-! ### How many numbers -/
theorem andN (a b : Nat) (ha : a < 18446744073709551616) : intBitsA .and .u64 (a : Int) (b : Int) = ((a &&& b : Nat) : Int) := by
  simp only [intBitsA]
  have e : (BitVec.ofInt 64 (a : Int) &&& BitVec.ofInt 64 (b : Int)) = BitVec.ofNat 64 (a &&& b) := by
    rw [BitVec.ofInt_natCast, BitVec.ofInt_natCast]
    apply BitVec.eq_of_toNat_eq
    simp [Nat.and_mod_two_pow]
  have hlt : a &&& b < 18446744073709551616 := Nat.lt_of_le_of_lt Nat.and_le_left ha
  show IntKind.u64.wrap ((BitVec.ofInt 64 (a : Int) &&& BitVec.ofInt 64 (b : Int)).toNat : Int) = _
  rw [e, BitVec.toNat_ofNat, Nat.mod_eq_of_lt hlt, wrap_u64 (by omega) (by omega)]
def onesA (w : Nat) : Nat := (w / 2 &&& 6148914691236517205) + (w &&& 6148914691236517205)
def onesB (w : Nat) : Nat := (w / 4 &&& 3689348814741910323) + (w &&& 3689348814741910323)
def onesC (w : Nat) : Nat := (w / 16 + w) &&& 1085102592571150095
def onesD (w : Nat) : Nat := w + w / 256
def onesE (w : Nat) : Nat := w + w / 65536
def onesF (w : Nat) : Nat := w + w / 4294967296
def ones (w : Nat) : Nat := onesF (onesE (onesD (onesC (onesB (onesA w))))) &&& 127
theorem shr2 (w k : Nat) (hk : k ≤ 63) : ((w : Nat) : Int).fdiv (2 ^ min k 64) = ((w / 2 ^ k : Nat) : Int) := by
  have e1 : min k 64 = k := by omega
  rw [e1, show ((2 : Int) ^ k) = ((2 ^ k : Nat) : Int) by simp, Int.fdiv_eq_ediv_of_nonneg _ (Int.natCast_nonneg _), Int.natCast_ediv]
theorem andI (a b : Nat) (ha : a < 9223372036854775808) : intBitsA .and .i64 (a : Int) (b : Int) = ((a &&& b : Nat) : Int) := by
  simp only [intBitsA]
  have e : (BitVec.ofInt 64 (a : Int) &&& BitVec.ofInt 64 (b : Int)) = BitVec.ofNat 64 (a &&& b) := by
    rw [BitVec.ofInt_natCast, BitVec.ofInt_natCast]
    apply BitVec.eq_of_toNat_eq
    simp [Nat.and_mod_two_pow]
  have hlt : a &&& b < 9223372036854775808 := Nat.lt_of_le_of_lt Nat.and_le_left ha
  show IntKind.i64.wrap ((BitVec.ofInt 64 (a : Int) &&& BitVec.ofInt 64 (b : Int)).toNat : Int) = _
  rw [e, BitVec.toNat_ofNat, Nat.mod_eq_of_lt (by omega), wrap_id (by omega) (by omega)]
theorem onesA_le (w : Nat) : onesA w ≤ 12297829382473034410 := Nat.add_le_add Nat.and_le_right Nat.and_le_right
theorem onesB_le (w : Nat) : onesB w ≤ 7378697629483820646 := Nat.add_le_add Nat.and_le_right Nat.and_le_right
theorem onesC_le (w : Nat) : onesC w ≤ 1085102592571150095 := Nat.and_le_right
theorem stA (w : Nat) (hw : w < 18446744073709551616) : IntKind.u64.wrap (intBitsA .and .u64 ((w : Int).fdiv (2 ^ min 1 64)) 6148914691236517205 + intBitsA .and .u64 (w : Int) 6148914691236517205) = (onesA w : Int) := by
  have h1 := andN (w / 2 ^ 1) 6148914691236517205 (by omega)
  have h2 := andN w 6148914691236517205 hw
  have := onesA_le w
  rw [shr2 w 1 (by omega), show (6148914691236517205 : Int) = ((6148914691236517205 : Nat) : Int) from rfl, h1, h2, ← Int.natCast_add]
  exact wrap_u64 (Int.natCast_nonneg _) (Int.ofNat_le.2 (Nat.le_trans this (by decide)))
theorem stB (w : Nat) (hw : w < 18446744073709551616) : IntKind.u64.wrap (intBitsA .and .u64 ((w : Int).fdiv (2 ^ min 2 64)) 3689348814741910323 + intBitsA .and .u64 (w : Int) 3689348814741910323) = (onesB w : Int) := by
  have h1 := andN (w / 2 ^ 2) 3689348814741910323 (by omega)
  have h2 := andN w 3689348814741910323 hw
  have := onesB_le w
  rw [shr2 w 2 (by omega), show (3689348814741910323 : Int) = ((3689348814741910323 : Nat) : Int) from rfl, h1, h2, ← Int.natCast_add]
  exact wrap_u64 (Int.natCast_nonneg _) (Int.ofNat_le.2 (Nat.le_trans this (by decide)))
theorem stC (w : Nat) (hw : w ≤ 7378697629483820646) : intBitsA .and .u64 (IntKind.u64.wrap ((w : Int).fdiv (2 ^ min 4 64) + (w : Int))) 1085102592571150095 = (onesC w : Int) := by
  rw [shr2 w 4 (by omega), ← Int.natCast_add, wrap_u64 (by omega) (by omega)]
  exact andN (w / 2 ^ 4 + w) 1085102592571150095 (by omega)
theorem stS (w k : Nat) (hk : k ≤ 63) (hw : w < 9223372036854775808) : IntKind.u64.wrap ((w : Int) + (w : Int).fdiv (2 ^ min k 64)) = ((w + w / 2 ^ k : Nat) : Int) := by
  have : w / 2 ^ k ≤ w := Nat.div_le_self _ _
  rw [shr2 w k hk, ← Int.natCast_add]
  exact wrap_u64 (Int.natCast_nonneg _) (by omega)
theorem ones_ok (w : Nat) (h : List AObj) (hw : w < 18446744073709551616) : ACall Tryz.prog 121 [.int .u64 w] h (fun r _ => r = .int .i64 (ones w)) := by
  (refine ACall.of_code Tryz.func121 rfl ?_; simp only [Tryz.f121]; simp only [go_sem, Nat.reduceMul, Nat.reduceLT, Nat.reduceLeDiff, Nat.reduceEqDiff, Nat.reduceBEq, Int.toNat_natCast, Int.reduceToNat, Int.reduceNeg, Int.reduceLT, Int.reduceLE, Int.reduceBEq, Int.reduceBNe, decide_true, decide_false, Bool.false_eq_true, false_imp_iff, Nat.lt_irrefl])
  refine Fin_plain ?_
  have hA := onesA_le w
  have hB := onesB_le (onesA w)
  have hC := onesC_le (onesB (onesA w))
  rw [stA w hw, stB _ (by omega), stC _ hB]
  unfold ones
  generalize onesC (onesB (onesA w)) = c at *
  have hD : onesD c ≤ 2 * c := by unfold onesD; have := Nat.div_le_self c 256; omega
  have hE : onesE (onesD c) ≤ 4 * c := by unfold onesE; have := Nat.div_le_self (onesD c) 65536; omega
  have hF : onesF (onesE (onesD c)) ≤ 8 * c := by unfold onesF; have := Nat.div_le_self (onesE (onesD c)) 4294967296; omega
  rw [stS c 8 (by omega) (by omega)]
  rw [show c + c / 2 ^ 8 = onesD c from rfl, stS _ 16 (by omega) (by omega)]
  rw [show onesD c + onesD c / 2 ^ 16 = onesE (onesD c) from rfl, stS _ 32 (by omega) (by omega)]
  rw [show onesE (onesD c) + onesE (onesD c) / 2 ^ 32 = onesF (onesE (onesD c)) from rfl, wrap_id (by omega) (by omega)]
  exact congrArg _ (andI _ 127 (by omega))
end Go.Proofs.Vale

set_option linter.unusedVariables false
set_option linter.unusedSimpArgs false
set_option maxHeartbeats 4000000
set_option maxRecDepth 100000
namespace Go.Proofs.Vale
open Go.Proofs Go.Proofs.YtmhcmpeffhlaeaaGreatT
attribute [local irreducible] acode aopsL aopsT dopsL dopsT pop popG aop ALoop ADraw ACall AWP AFin acondT ALoopT ADrawT ACallT doP doG doGd

theorem ones_le (w : Nat) : ones w ≤ 127 := Nat.and_le_right
def cntW (ws : List Nat) : Nat := (ws.map ones).sum
theorem cntW_le : ∀ ws : List Nat, cntW ws ≤ 127 * ws.length
  | [] => by simp [cntW]
  | w :: ws => by have := cntW_le ws; have := ones_le w; simp [cntW] at *; omega
theorem count_ok (ws : List Nat) (h : List AObj) (hl : ws.length = 4) (hw : ∀ w ∈ ws, w < 18446744073709551616) : ACall Tryz.prog 101 [.ptr (.agg (chA ws))] h (fun r _ => r = .int .i64 (cntW ws)) := by
  (refine ACall.of_code Tryz.func101 rfl ?_; simp only [Tryz.f101]; simp only [go_sem, Nat.reduceMul, Nat.reduceLT, Nat.reduceLeDiff, Nat.reduceEqDiff, Nat.reduceBEq, Int.toNat_natCast, Int.reduceToNat, Int.reduceNeg, Int.reduceLT, Int.reduceLE, Int.reduceBEq, Int.reduceBNe, decide_true, decide_false, Bool.false_eq_true, false_imp_iff, Nat.lt_irrefl])
  refine ALoop.over [3, 5, 7, 8, 9, 10, 11, 12, 13, 14, 15, 16] (fun e _ => ∃ i : Nat, i ≤ 4 ∧ e.getD 7 .any = .int .i64 i ∧ e.getD 3 .any = .int .i64 (cntW (ws.take i))) (fun e _ => 10 - natA (e.getD 7 .any)) ⟨0, by simp, rfl, rfl⟩ ?_
  simp only [List.length_cons, List.length_nil, Nat.reduceAdd, allL_succ, allL_zero]
  intro y3 y5 y7 y8 y9 y10 y11 y12 y13 y14 y15 y16 h' hI
  simp only [go_sem] at hI
  obtain ⟨i, hi, rfl, rfl⟩ := hI
  simp only [go_sem, Nat.reduceMul, Nat.reduceLT, Nat.reduceLeDiff, Nat.reduceEqDiff, Nat.reduceBEq, Int.toNat_natCast, Int.reduceToNat, Int.reduceNeg, Int.reduceLT, Int.reduceLE, Int.reduceBEq, Int.reduceBNe, decide_true, decide_false, Bool.false_eq_true, false_imp_iff, Nat.lt_irrefl]
  refine acond_intro (fun hc => ?_) (fun hc => ?_)
  · have hlt : i < 4 := by have := of_decide_eq_true hc; omega
    have e := chA_get ws i (by omega)
    simp only [go_sem, e, Nat.reduceMul, Nat.reduceLT, Nat.reduceLeDiff, Nat.reduceEqDiff, Nat.reduceBEq, Int.toNat_natCast, Int.reduceToNat, Int.reduceNeg, Int.reduceLT, Int.reduceLE, Int.reduceBEq, Int.reduceBNe, decide_true, decide_false, Bool.false_eq_true, false_imp_iff, Nat.lt_irrefl]
    refine ⟨⟨by omega, by omega, by rw [chA_len]; omega⟩, ?_⟩
    have hwi := getD_lt ws hw i
    have hT : cntW (ws.take (i + 1)) = cntW (ws.take i) + ones (ws.getD i 0) := by
      simp only [cntW]
      rw [List.take_add_one, List.getElem?_eq_getElem (by omega)]
      rw [List.map_append, List.sum_append]
      simp [-List.map_take, List.getD_eq_getElem?_getD, List.getElem?_eq_getElem (show i < ws.length by omega)]
    have hcl := cntW_le (ws.take i)
    have hol := ones_le (ws.getD i 0)
    have htl : (ws.take i).length ≤ 4 := by simp; omega
    generalize ws.getD i 0 = w at *
    (refine ACallT.pure (by simp only [go_sem, Nat.reduceMul, Nat.reduceLT, Nat.reduceLeDiff, Nat.reduceEqDiff, Nat.reduceBEq, Int.toNat_natCast, Int.reduceToNat, Int.reduceNeg, Int.reduceLT, Int.reduceLE, Int.reduceBEq, Int.reduceBNe, decide_true, decide_false, Bool.false_eq_true, false_imp_iff, Nat.lt_irrefl]; rfl) (by first | trivial | assumption | (simp only [go_sem, Nat.reduceMul, Nat.reduceLT, Nat.reduceLeDiff, Nat.reduceEqDiff, Nat.reduceBEq, Int.toNat_natCast, Int.reduceToNat, Int.reduceNeg, Int.reduceLT, Int.reduceLE, Int.reduceBEq, Int.reduceBNe, decide_true, decide_false, Bool.false_eq_true, false_imp_iff, Nat.lt_irrefl]; done) | (simp only [go_sem, Nat.reduceMul, Nat.reduceLT, Nat.reduceLeDiff, Nat.reduceEqDiff, Nat.reduceBEq, Int.toNat_natCast, Int.reduceToNat, Int.reduceNeg, Int.reduceLT, Int.reduceLE, Int.reduceBEq, Int.reduceBNe, decide_true, decide_false, Bool.false_eq_true, false_imp_iff, Nat.lt_irrefl]; first | trivial | assumption | omega | decide | (refine ⟨?_, ?_⟩ <;> first | trivial | assumption | omega | decide))) (ones_ok w _ hwi) ?_; refine fun _ _ e => ?_; subst e; refine ⟨rfl, ?_⟩; simp only [go_sem, Nat.reduceMul, Nat.reduceLT, Nat.reduceLeDiff, Nat.reduceEqDiff, Nat.reduceBEq, Int.toNat_natCast, Int.reduceToNat, Int.reduceNeg, Int.reduceLT, Int.reduceLE, Int.reduceBEq, Int.reduceBNe, decide_true, decide_false, Bool.false_eq_true, false_imp_iff, Nat.lt_irrefl])
    generalize cntW (ws.take i) = c at *
    have hw1 : IntKind.i64.wrap ((i : Int) + 1) = ((i + 1 : Nat) : Int) := by rw [wrap_id (by omega) (by omega)]; omega
    have hw2 : IntKind.i64.wrap ((c : Int) + (ones w : Int)) = ((c + ones w : Nat) : Int) := by rw [wrap_id (by omega) (by omega)]; omega
    rw [hw1, hw2]
    refine ⟨⟨i + 1, by omega, rfl, by rw [hT]⟩, by omega⟩
  · have : i = 4 := by have := of_decide_eq_false hc; omega
    subst this
    simp only [go_sem, Nat.reduceMul, Nat.reduceLT, Nat.reduceLeDiff, Nat.reduceEqDiff, Nat.reduceBEq, Int.toNat_natCast, Int.reduceToNat, Int.reduceNeg, Int.reduceLT, Int.reduceLE, Int.reduceBEq, Int.reduceBNe, decide_true, decide_false, Bool.false_eq_true, false_imp_iff, Nat.lt_irrefl]
    refine Fin_plain ?_
    rw [show ws.take 4 = ws by rw [← hl, List.take_length]]
end Go.Proofs.Vale

set_option linter.unusedVariables false
set_option linter.unusedSimpArgs false
set_option maxHeartbeats 4000000
set_option maxRecDepth 100000
namespace Go.Proofs.Vale
open Go.Proofs Go.Proofs.YtmhcmpeffhlaeaaGreatT

/-! ### For the kernel: what the chunks' functions answer -/
def unw : List AV → Option (List Nat)
  | [] => some []
  | x :: l => (match x with
    | .int k n => (match k with
      | .u64 => (match n with
        | .ofNat w => bif Nat.blt w 18446744073709551616 then (match unw l with | some ws => some (w :: ws) | none => none) else none
        | .negSucc _ => none)
      | _ => none)
    | _ => none)
theorem unw_ok : ∀ {l : List AV} {ws : List Nat}, unw l = some ws → l = chA ws ∧ ∀ w ∈ ws, w < 18446744073709551616
  | [], ws, h => by injection h with h; subst h; exact ⟨rfl, by simp⟩
  | x :: l, ws, h => by
    simp only [unw] at h
    split at h
    · split at h
      · split at h
        · rename_i w
          cases hb : Nat.blt w 18446744073709551616 with
          | false => rw [hb] at h; cases h
          | true =>
            rw [hb] at h
            simp only [cond_true] at h
            split at h
            · rename_i ws' e
              injection h with h; subst h
              obtain ⟨h1, h2⟩ := unw_ok e
              refine ⟨by rw [h1]; rfl, fun v hv => ?_⟩
              rcases List.mem_cons.1 hv with rfl | hv
              · exact blt_iff.1 hb
              · exact h2 v hv
            · cases h
        · cases h
      · cases h
    · cases h
def agW (y : AV) : Option (List Nat) :=
  match y with
  | .agg cs => (match unw cs with
    | some ws => bif Nat.beq (lenB ws) 4 then some ws else none
    | none => none)
  | _ => none
theorem agW_ok {y : AV} {ws : List Nat} (h : agW y = some ws) : ws.length = 4 ∧ (∀ w ∈ ws, w < 18446744073709551616) ∧ y = .agg (chA ws) := by
  unfold agW at h
  split at h
  · split at h
    · rename_i cs _ ws' e
      cases hb : Nat.beq (lenB ws') 4 with
      | false => rw [hb] at h; cases h
      | true =>
        rw [hb] at h
        simp only [cond_true, Option.some.injEq] at h
        subst h
        obtain ⟨h1, h2⟩ := unw_ok e
        exact ⟨by rw [← lenB_eq]; exact beq_iff.1 hb, h2, by rw [h1]⟩
    · cases h
  · cases h
def chunkOf (m : Mem) (p : AV) : Option (List Nat) :=
  match p with
  | .ptr y => agW y
  | .ref t g s i j => (match m.at t with
    | .arr g' s' l => bif Nat.beq g g' && Nat.beq s 4 && Nat.beq s' 4 && Nat.beq i 0 && Nat.beq j 0 then (match l with
      | [y] => agW y
      | _ => none) else none
    | _ => none)
  | _ => none
theorem chunkOf_ok {m : Mem} {p : AV} {ws : List Nat} (h : chunkOf m p = some ws) (z : List AObj) : ChunkAt (m.L ++ z) p ws := by
  unfold chunkOf at h
  split at h
  · obtain ⟨h1, h2, rfl⟩ := agW_ok h
    exact ⟨h1, h2, .inl rfl⟩
  · rename_i t g s i j
    split at h
    · rename_i g' s' l e
      cases hb : (Nat.beq g g' && Nat.beq s 4 && Nat.beq s' 4 && Nat.beq i 0 && Nat.beq j 0) with
      | false => rw [hb] at h; cases h
      | true =>
        rw [hb] at h
        simp only [cond_true] at h
        simp only [Bool.and_eq_true, beq_iff] at hb
        obtain ⟨⟨⟨⟨rfl, rfl⟩, rfl⟩, rfl⟩, rfl⟩ := hb
        split at h
        · obtain ⟨h1, h2, rfl⟩ := agW_ok h
          refine ⟨h1, h2, .inr ⟨t, g, rfl, ?_⟩⟩
          have hn : m.at t ≠ .dead := by rw [e]; simp
          have hg := Mem.at_get hn
          rw [e] at hg
          rw [List.getElem?_append_left (List.getElem?_eq_some_iff.1 hg).1]; exact hg
        · cases h
    · cases h
  · cases h
def xHas (args : List AV) (m : Mem) : OV :=
  match args with
  | [p, .int k n] => (match k with
    | .i64 => (match n with
      | .ofNat x => (match chunkOf m p with
        | some ws => bif Nat.blt x 256 then .val (.bool (bitL ws x)) m else .none
        | none => .none)
      | .negSucc _ => .none)
    | _ => .none)
  | _ => .none
theorem xHas_ok (args : List AV) (m m' : Mem) (x : AV) (h : xHas args m = .val x m') : ACall Tryz.prog 117 args m.L fun y g => y = x ∧ g = m'.L := by
  unfold xHas at h
  split at h
  · split at h
    · split at h
      · rename_i p _ _ x'
        split at h
        · rename_i ws e
          obtain ⟨hb, h⟩ := bifv h
          simp only [OV.val.injEq] at h
          obtain ⟨rfl, rfl⟩ := h
          have := chunkOf_ok e []
          rw [List.append_nil] at this
          exact has_same p ws x' m.L this (blt_iff.1 hb)
        · cases h
      · cases h
    · cases h
  · cases h
def xCnt (args : List AV) (m : Mem) : OV :=
  match args with
  | [p] => (match chunkOf m p with
    | some ws => .val (.int .i64 (Int.ofNat (cntW ws))) m
    | none => .none)
  | _ => .none
theorem xCnt_ok (args : List AV) (m m' : Mem) (x : AV) (h : xCnt args m = .val x m') : ACall Tryz.prog 101 args m.L fun y g => y = x ∧ g = m'.L := by
  unfold xCnt at h
  split at h
  · rename_i p
    split at h
    · rename_i ws e
      simp only [OV.val.injEq] at h
      obtain ⟨rfl, rfl⟩ := h
      have := chunkOf_ok e []
      rw [List.append_nil] at this
      obtain ⟨hl, hw, rfl | ⟨t, g, rfl, ht⟩⟩ := this
      · exact ACall.frame ((count_ok ws _ hl hw).mono fun r h' e => by subst e; exact ⟨rfl, rfl, rfl⟩)
      · refine ACall.pure (as' := [.ptr (.agg (chA ws))]) (p := 0 < 1) ?_ (by decide) ((count_ok ws _ hl hw).mono fun r h' e => by subst e; exact ⟨rfl, rfl, rfl⟩)
        simp only [go_sem, ht]
    · cases h
  · cases h
def padM (m : Mem) : Nat → Mem
  | 0 => m
  | c + 1 => padM (m.push .dead) c
def padOk (m : Mem) : Nat → Bool
  | 0 => true
  | c + 1 => m.ok && padOk (m.push .dead) c
theorem padM_L : ∀ (c : Nat) (m : Mem), padOk m c = true → (padM m c).L = m.L ++ List.replicate c AObj.dead
  | 0, m, _ => by simp [padM]
  | c + 1, m, h => by
    simp only [padOk, Bool.and_eq_true] at h
    rw [padM, padM_L c _ h.2, Mem.push_L _ h.1, List.append_assoc]; rfl
def xStr (args : List AV) (m : Mem) : OV :=
  match args with
  | [p] => (match chunkOf m p with
    | some ws => (match strL ws 257 0 with
      | [] => bif m.ok then .val (.fz true []) (m.push .dead) else .none
      | r :: rs => bif padOk m (1 + 2 * lenB (r :: rs)) then .val (.fz false ((r :: rs).map runV)) (padM m (1 + 2 * lenB (r :: rs))) else .none)
    | none => .none)
  | _ => .none
theorem flat_runs (T : Nat → Bool) (h : List AObj) (k : Nat) (l : List (Nat × Nat)) : (l.map runV).map (frzT T h (k + 2)) = l.map runV := by
  simp [runV, frzT]
theorem xStr_ok (args : List AV) (m m' : Mem) (x : AV) (h : xStr args m = .val x m') : ACall Tryz.prog 78 args m.L fun y g => y = x ∧ g = m'.L := by
  unfold xStr at h
  split at h
  · rename_i p
    split at h
    · rename_i ws e
      have hs := stretches_ok p ws m.L (chunkOf_ok e)
      generalize strL ws 257 0 = S at *
      split at h
      · obtain ⟨hb, h⟩ := bifv h
        simp only [OV.val.injEq] at h
        obtain ⟨rfl, rfl⟩ := h
        refine ACall.junk 1 4 hs ?_
        rintro r h' ⟨z, rfl, hz, ⟨-, rfl⟩ | ⟨t, g, ⟨h1, hn⟩, rfl, h2⟩⟩
        · exact ⟨z, rfl, by simpa using hz, rfl, by rw [Mem.push_L _ hb]; rfl⟩
        · exact absurd rfl hn
      · rename_i r0 rs
        obtain ⟨hb, h⟩ := bifv h
        simp only [OV.val.injEq] at h
        obtain ⟨rfl, rfl⟩ := h
        rw [lenB_eq] at hb ⊢
        refine ACall.junk (1 + 2 * (r0 :: rs).length) 4 hs ?_
        rintro r h' ⟨z, rfl, hz, ⟨q, rfl⟩ | ⟨t, g, ⟨h1, hn⟩, rfl, h2⟩⟩
        · cases q
        · refine ⟨z, rfl, hz, ?_, (padM_L _ _ hb).symm⟩
          have hT : (decide (m.L.length ≤ t)) = true := by simpa using h1
          simp only [frzT, hT, h2]
          rw [if_neg (by simp), if_pos (by
            refine ⟨trivial, trivial, by simp, fun y hy => ?_⟩
            obtain ⟨q, _, rfl⟩ := List.mem_map.1 hy
            simp [runV, frzT, AV.cells])]
          rw [List.drop_zero, show (r0 :: rs).length = ((r0 :: rs).map runV).length by simp, List.take_length, flat_runs]
    · cases h
  · cases h
end Go.Proofs.Vale
