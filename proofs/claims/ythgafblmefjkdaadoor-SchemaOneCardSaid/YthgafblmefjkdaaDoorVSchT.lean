/- YthgafblmefjkdaaDoorVSchT: a text of the proof of this claim, by its prover. -/
import Derived.Test.YthgafblmefjkdaaDoorVSchJ
set_option linter.unusedVariables false
set_option linter.unusedSimpArgs false
set_option maxHeartbeats 4000000
set_option maxRecDepth 100000
namespace Go.Proofs.Vale
open Go.Proofs Go.Proofs.YthgafblmefjkdaaDoorT
attribute [local irreducible] acode aopsL aopsT dopsL dopsT dmL dmT pop popG aop ALoop ADraw ACall AWP AFin acondT ALoopT ADrawT ACallT doP doG doGd

/-! ### The law: one by one -/
theorem strs_take (l : List Str) (k : Nat) : List.take k (strs l) = strs (l.take k) := by simp [strs]
theorem strs_drop (l : List Str) (k : Nat) : List.drop k (strs l) = strs (l.drop k) := by simp [strs]
theorem and1023 (i : Int) : ∃ k : Nat, intBitsA .and .i64 i 1023 = (k : Int) ∧ k ≤ 1023 := by
  refine ⟨(BitVec.ofInt 64 i &&& BitVec.ofInt 64 1023).toNat, ?_, ?_⟩
  · show IntKind.i64.wrap (((BitVec.ofInt 64 i &&& BitVec.ofInt 64 1023).toNat : Nat) : Int) = _
    have : (BitVec.ofInt 64 i &&& BitVec.ofInt 64 1023).toNat ≤ 1023 := by
      rw [BitVec.toNat_and]; exact Nat.and_le_right
    exact wrap_id (by omega) (by omega)
  · rw [BitVec.toNat_and]; exact Nat.and_le_right
theorem place_ok (i : Int) (n : Nat) (hn : 0 < n) : ∃ k : Nat, (intBitsA .and .i64 i 1023).tmod (n : Int) = (k : Int) ∧ k < n := by
  obtain ⟨q, h1, h2⟩ := and1023 i
  refine ⟨q % n, ?_, Nat.mod_lt _ hn⟩
  rw [h1]
  exact (Int.ofNat_tmod q n).symm
theorem without_ok (d m : List Str) (k : Nat) (hk : k < d.length) (h2 : 2 ≤ d.length) (hR : rightS d m = true) : rightS (d.take k ++ d.drop (k + 1)) m = true ∧ subS (d.take k ++ d.drop (k + 1)) d = true ∧ subS d (d.take k ++ d.drop (k + 1)) = false ∧ (d.take k ++ d.drop (k + 1)).length = d.length - 1 := by
  have hsub : (d.take k ++ d.drop (k + 1)).Sublist d := by rw [← List.eraseIdx_eq_take_drop_succ]; exact List.eraseIdx_sublist _ _
  have hlen : (d.take k ++ d.drop (k + 1)).length = d.length - 1 := by rw [List.length_append, List.length_take, List.length_drop]; omega
  refine ⟨?_, (sub_iff _ _).2 hsub, ?_, hlen⟩
  · rw [right_eq] at hR ⊢
    simp only [Bool.and_eq_true, decide_eq_true_eq, sizesS] at hR ⊢
    obtain ⟨⟨h1, ⟨h3, h4⟩, h5⟩, h6⟩ := hR
    have hs2 : ((d.take k ++ d.drop (k + 1)) ++ m).Sublist (d ++ m) := List.Sublist.append hsub (List.Sublist.refl m)
    refine ⟨⟨hs2.nodup h1, ⟨by omega, by omega⟩, h5⟩, ?_⟩
    rw [List.all_eq_true] at h6 ⊢
    exact fun x hx => h6 x (hs2.subset hx)
  · cases e : subS d (d.take k ++ d.drop (k + 1)) with
    | false => rfl
    | true => have := sub_le e; omega
theorem check_off (d m dims : List Str) (t : Int) (ms : List Int) (h : dims.length ≠ d.length) : checkS d m t dims ms = 101 := by
  have : ((dims.length : Int) != (d.length : Int)) = true := by simp; omega
  rw [checkS, this]; rfl
theorem check_one (d td m dims : List Str) (t : Int) (ms : List Int) (k : Nat) (h1 : td.length = d.length - 1) (h2 : 2 ≤ d.length) (h3 : dims.length = td.length) : checkS td m t dims ms = checkS d m t (dims.take k ++ [[]] ++ dims.drop k) ms := by
  have e1 : (((dims.take k ++ [[]] ++ dims.drop k : List Str).length : Int) != (d.length : Int)) = ((dims.length : Int) != (td.length : Int)) := by
    have : (dims.take k ++ [[]] ++ dims.drop k : List Str).length = dims.length + 1 := by simp; omega
    rw [this, h3]
    have a : ((td.length : Int) != (td.length : Int)) = false := by simp
    rw [a]; simp; omega
  have e2 : (dims.take k ++ [[]] ++ dims.drop k : List Str).any (fun s => !valueS s) = dims.any (fun s => !valueS s) := by
    rw [List.any_append, List.any_append]
    have : ([[]] : List Str).any (fun s => !valueS s) = false := by decide
    rw [this, Bool.or_false, ← List.any_append, List.take_append_drop]
  simp only [checkS, e1, e2]
theorem one_law (c1 c2 c3 c4 : Bool) (d m dims : List Str) (t : Int) (ms : List Int) (i : Int) (h : List AObj) (hd : d.length ≤ 8796093021952) (hm : m.length ≤ 8796093021952) (hdm : dims.length ≤ 9223372036854775807) (hms : ms.length ≤ 9223372036854775807) (hL : ∀ s ∈ d ++ m, s.length ≤ 9223372036854775807) (hD : ∀ s ∈ dims, s.length ≤ 9223372036854775807) : ACall Tryd.prog 6 [schA c1 c2 d m, evA' t c3 c4 dims ms, .int .i64 i] h (fun r _ => r = .bool true) := by
  simp only [schA, evA']
  (refine ACall.of_code Tryd.func6 rfl ?_; simp only [Tryd.f6]; simp only [go_sem, Nat.reduceMul, Nat.reduceLT, Nat.reduceLeDiff, Nat.reduceEqDiff, Nat.reduceBEq, Int.toNat_natCast, Int.reduceToNat, Int.reduceNeg, Int.reduceLT, Int.reduceLE, Int.reduceBEq, Int.reduceBNe, decide_true, decide_false, Bool.false_eq_true, false_imp_iff, Nat.lt_irrefl])
  refine ACallT.by (fits_ok d c1 _ (by omega)) ?_
  rintro r h1 ⟨rfl, rfl⟩
  simp only [go_sem, Nat.reduceMul, Nat.reduceLT, Nat.reduceLeDiff, Nat.reduceEqDiff, Nat.reduceBEq, Int.toNat_natCast, Int.reduceToNat, Int.reduceNeg, Int.reduceLT, Int.reduceLE, Int.reduceBEq, Int.reduceBNe, decide_true, decide_false, Bool.false_eq_true, false_imp_iff, Nat.lt_irrefl]
  refine ACallT.by (fits_ok dims c3 _ (by omega)) ?_
  rintro r h1 ⟨rfl, rfl⟩
  generalize hfd : fitS d = fd
  generalize hfa : fitS dims = fa
  simp only [go_sem, Nat.reduceMul, Nat.reduceLT, Nat.reduceLeDiff, Nat.reduceEqDiff, Nat.reduceBEq, Int.toNat_natCast, Int.reduceToNat, Int.reduceNeg, Int.reduceLT, Int.reduceLE, Int.reduceBEq, Int.reduceBNe, decide_true, decide_false, Bool.false_eq_true, false_imp_iff, Nat.lt_irrefl]
  generalize hz : (bif !fd then true else !fa) = z
  cases z with
  | true =>
    simp only [go_sem, Nat.reduceMul, Nat.reduceLT, Nat.reduceLeDiff, Nat.reduceEqDiff, Nat.reduceBEq, Int.toNat_natCast, Int.reduceToNat, Int.reduceNeg, Int.reduceLT, Int.reduceLE, Int.reduceBEq, Int.reduceBNe, decide_true, decide_false, Bool.false_eq_true, false_imp_iff, Nat.lt_irrefl]
    (refine ACallT.frame (alive_ok _) ?_; refine fun _ _ e => ?_; subst e; refine ⟨by (first | rfl | (simp only [AV.low, lowL, low_strs, low_bytes, Bool.and_true, Bool.and_self])), ?_⟩; simp only [go_sem, Nat.reduceMul, Nat.reduceLT, Nat.reduceLeDiff, Nat.reduceEqDiff, Nat.reduceBEq, Int.toNat_natCast, Int.reduceToNat, Int.reduceNeg, Int.reduceLT, Int.reduceLE, Int.reduceBEq, Int.reduceBNe, decide_true, decide_false, Bool.false_eq_true, false_imp_iff, Nat.lt_irrefl])
    exact Fin_plain rfl
  | false =>
    obtain rfl : fd = true := by cases fd <;> first | rfl | (cases fa <;> cases hz)
    obtain rfl : fa = true := by cases fa <;> first | rfl | cases hz
    have hd2 : d.length ≤ 20 := by
      have := hfd; simp only [fitS, Bool.and_eq_true, decide_eq_true_eq] at this; exact this.1
    have hdm2 : dims.length ≤ 20 := by
      have := hfa; simp only [fitS, Bool.and_eq_true, decide_eq_true_eq] at this; exact this.1
    simp only [go_sem, Nat.reduceMul, Nat.reduceLT, Nat.reduceLeDiff, Nat.reduceEqDiff, Nat.reduceBEq, Int.toNat_natCast, Int.reduceToNat, Int.reduceNeg, Int.reduceLT, Int.reduceLE, Int.reduceBEq, Int.reduceBNe, decide_true, decide_false, Bool.false_eq_true, false_imp_iff, Nat.lt_irrefl]
    (refine ACallT.frame (right_ok c1 c2 d m _ (by omega) hL) ?_; refine fun _ _ e => ?_; subst e; refine ⟨by (first | rfl | (simp only [AV.low, lowL, low_strs, low_bytes, Bool.and_true, Bool.and_self])), ?_⟩; simp only [go_sem, Nat.reduceMul, Nat.reduceLT, Nat.reduceLeDiff, Nat.reduceEqDiff, Nat.reduceBEq, Int.toNat_natCast, Int.reduceToNat, Int.reduceNeg, Int.reduceLT, Int.reduceLE, Int.reduceBEq, Int.reduceBNe, decide_true, decide_false, Bool.false_eq_true, false_imp_iff, Nat.lt_irrefl])
    generalize hR : rightS d m = rt
    cases rt with
    | false =>
      simp only [go_sem, Nat.reduceMul, Nat.reduceLT, Nat.reduceLeDiff, Nat.reduceEqDiff, Nat.reduceBEq, Int.toNat_natCast, Int.reduceToNat, Int.reduceNeg, Int.reduceLT, Int.reduceLE, Int.reduceBEq, Int.reduceBNe, decide_true, decide_false, Bool.false_eq_true, false_imp_iff, Nat.lt_irrefl]
      (refine ACallT.frame (alive_ok _) ?_; refine fun _ _ e => ?_; subst e; refine ⟨by (first | rfl | (simp only [AV.low, lowL, low_strs, low_bytes, Bool.and_true, Bool.and_self])), ?_⟩; simp only [go_sem, Nat.reduceMul, Nat.reduceLT, Nat.reduceLeDiff, Nat.reduceEqDiff, Nat.reduceBEq, Int.toNat_natCast, Int.reduceToNat, Int.reduceNeg, Int.reduceLT, Int.reduceLE, Int.reduceBEq, Int.reduceBNe, decide_true, decide_false, Bool.false_eq_true, false_imp_iff, Nat.lt_irrefl])
      exact Fin_plain rfl
    | true =>
      simp only [go_sem, Nat.reduceMul, Nat.reduceLT, Nat.reduceLeDiff, Nat.reduceEqDiff, Nat.reduceBEq, Int.toNat_natCast, Int.reduceToNat, Int.reduceNeg, Int.reduceLT, Int.reduceLE, Int.reduceBEq, Int.reduceBNe, decide_true, decide_false, Bool.false_eq_true, false_imp_iff, Nat.lt_irrefl]
      generalize hz1 : decide ((d.length : Int) < 2) = z1
      cases z1 with
      | true =>
        simp only [go_sem, Nat.reduceMul, Nat.reduceLT, Nat.reduceLeDiff, Nat.reduceEqDiff, Nat.reduceBEq, Int.toNat_natCast, Int.reduceToNat, Int.reduceNeg, Int.reduceLT, Int.reduceLE, Int.reduceBEq, Int.reduceBNe, decide_true, decide_false, Bool.false_eq_true, false_imp_iff, Nat.lt_irrefl]
        (refine ACallT.frame (alive_ok _) ?_; refine fun _ _ e => ?_; subst e; refine ⟨by (first | rfl | (simp only [AV.low, lowL, low_strs, low_bytes, Bool.and_true, Bool.and_self])), ?_⟩; simp only [go_sem, Nat.reduceMul, Nat.reduceLT, Nat.reduceLeDiff, Nat.reduceEqDiff, Nat.reduceBEq, Int.toNat_natCast, Int.reduceToNat, Int.reduceNeg, Int.reduceLT, Int.reduceLE, Int.reduceBEq, Int.reduceBNe, decide_true, decide_false, Bool.false_eq_true, false_imp_iff, Nat.lt_irrefl])
        exact Fin_plain rfl
      | false =>
        simp only [go_sem, Nat.reduceMul, Nat.reduceLT, Nat.reduceLeDiff, Nat.reduceEqDiff, Nat.reduceBEq, Int.toNat_natCast, Int.reduceToNat, Int.reduceNeg, Int.reduceLT, Int.reduceLE, Int.reduceBEq, Int.reduceBNe, decide_true, decide_false, Bool.false_eq_true, false_imp_iff, Nat.lt_irrefl]
        generalize hz2 : decide (20 < (ms.length : Int)) = z2
        cases z2 with
        | true =>
          simp only [go_sem, Nat.reduceMul, Nat.reduceLT, Nat.reduceLeDiff, Nat.reduceEqDiff, Nat.reduceBEq, Int.toNat_natCast, Int.reduceToNat, Int.reduceNeg, Int.reduceLT, Int.reduceLE, Int.reduceBEq, Int.reduceBNe, decide_true, decide_false, Bool.false_eq_true, false_imp_iff, Nat.lt_irrefl]
          (refine ACallT.frame (alive_ok _) ?_; refine fun _ _ e => ?_; subst e; refine ⟨by (first | rfl | (simp only [AV.low, lowL, low_strs, low_bytes, Bool.and_true, Bool.and_self])), ?_⟩; simp only [go_sem, Nat.reduceMul, Nat.reduceLT, Nat.reduceLeDiff, Nat.reduceEqDiff, Nat.reduceBEq, Int.toNat_natCast, Int.reduceToNat, Int.reduceNeg, Int.reduceLT, Int.reduceLE, Int.reduceBEq, Int.reduceBNe, decide_true, decide_false, Bool.false_eq_true, false_imp_iff, Nat.lt_irrefl])
          exact Fin_plain rfl
        | false =>
          have hdl : 2 ≤ d.length := by have := of_decide_eq_false hz1; omega
          simp only [go_sem, Nat.reduceMul, Nat.reduceLT, Nat.reduceLeDiff, Nat.reduceEqDiff, Nat.reduceBEq, Int.toNat_natCast, Int.reduceToNat, Int.reduceNeg, Int.reduceLT, Int.reduceLE, Int.reduceBEq, Int.reduceBNe, decide_true, decide_false, Bool.false_eq_true, false_imp_iff, Nat.lt_irrefl]
          refine ⟨by omega, ?_⟩
          obtain ⟨k, hk, hkl⟩ := place_ok i d.length (by omega)
          generalize (intBitsA .and .i64 i 1023).tmod (d.length : Int) = kk at hk ⊢
          subst hk
          have hw : IntKind.i64.wrap ((k : Int) + 1) = ((k + 1 : Nat) : Int) := by rw [wrap_id (by omega) (by omega)]; omega
          (refine ADrawT.memF 6 [(5, 0), (5, 2), (11, 0), (11, 2), (11, 5), (11, 7), (16, 0), (16, 2), (16, 5), (16, 7), (16, 11), (16, 13), (16, 15)] mixedOrdersD (by kernel_rfl) (by kernel_rfl) ?_; simp only [go_sem, Nat.reduceMul, Nat.reduceLT, Nat.reduceLeDiff, Nat.reduceEqDiff, Nat.reduceBEq, Int.toNat_natCast, Int.reduceToNat, Int.reduceNeg, Int.reduceLT, Int.reduceLE, Int.reduceBEq, Int.reduceBNe, decide_true, decide_false, Bool.false_eq_true, false_imp_iff, Nat.lt_irrefl])
          rw [hw, Int.toNat_natCast, strs_take, strs_drop, strs_app]
          rw [frzO_all (by simp only [strs_len, List.length_append]) (flatS _)]
          have hc : ∀ x ∈ strs d, x.cells.length = 1 := by intro x hx; simp only [strs, List.mem_map] at hx; obtain ⟨b, _, rfl⟩ := hx; rfl
          have hl1 : (d.take k).length = k := by rw [List.length_take]; omega
          have hl2 : (d.drop (k + 1)).length = d.length - (k + 1) := List.length_drop
          simp only [strs_len, hl1, hl2]
          refine ⟨⟨by omega, by omega, hc⟩, ⟨by omega, by omega, okEl_strs _⟩, ⟨by omega, by omega, by omega, hc⟩, ⟨by omega, by omega, okEl_strs _⟩, by simp [okAcc], ?_⟩
          obtain ⟨hR2, hS1, hS2, hlt⟩ := without_ok d m k hkl hdl hR
          have hL2 : ∀ s ∈ (d.take k ++ d.drop (k + 1)) ++ m, s.length ≤ 9223372036854775807 := by
            intro s hs
            refine hL s ?_
            simp only [List.mem_append] at hs ⊢
            rcases hs with (q | q) | q
            · exact .inl (List.mem_of_mem_take q)
            · exact .inl (List.mem_of_mem_drop q)
            · exact .inr q
          have hlen : k + (d.length - (k + 1)) = d.length - 1 := by omega
          generalize d.take k ++ d.drop (k + 1) = td at *
          (refine ACallT.frame (right_ok false c2 td m _ (by omega) hL2) ?_; refine fun _ _ e => ?_; subst e; refine ⟨by (first | rfl | (simp only [AV.low, lowL, low_strs, low_bytes, Bool.and_true, Bool.and_self])), ?_⟩; simp only [go_sem, Nat.reduceMul, Nat.reduceLT, Nat.reduceLeDiff, Nat.reduceEqDiff, Nat.reduceBEq, Int.toNat_natCast, Int.reduceToNat, Int.reduceNeg, Int.reduceLT, Int.reduceLE, Int.reduceBEq, Int.reduceBNe, decide_true, decide_false, Bool.false_eq_true, false_imp_iff, Nat.lt_irrefl])
          rw [hR2]
          simp only [go_sem, Nat.reduceMul, Nat.reduceLT, Nat.reduceLeDiff, Nat.reduceEqDiff, Nat.reduceBEq, Int.toNat_natCast, Int.reduceToNat, Int.reduceNeg, Int.reduceLT, Int.reduceLE, Int.reduceBEq, Int.reduceBNe, decide_true, decide_false, Bool.false_eq_true, false_imp_iff, Nat.lt_irrefl]
          refine ACallT.by (subset_ok td d false c1 _ (by omega) (by omega)) ?_
          rintro r h1 ⟨rfl, rfl⟩
          rw [hS1]
          simp only [go_sem, Nat.reduceMul, Nat.reduceLT, Nat.reduceLeDiff, Nat.reduceEqDiff, Nat.reduceBEq, Int.toNat_natCast, Int.reduceToNat, Int.reduceNeg, Int.reduceLT, Int.reduceLE, Int.reduceBEq, Int.reduceBNe, decide_true, decide_false, Bool.false_eq_true, false_imp_iff, Nat.lt_irrefl]
          refine ACallT.by (subset_ok d td c1 false _ (by omega) (by omega)) ?_
          rintro r h1 ⟨rfl, rfl⟩
          rw [hS2]
          simp only [go_sem, Nat.reduceMul, Nat.reduceLT, Nat.reduceLeDiff, Nat.reduceEqDiff, Nat.reduceBEq, Int.toNat_natCast, Int.reduceToNat, Int.reduceNeg, Int.reduceLT, Int.reduceLE, Int.reduceBEq, Int.reduceBNe, decide_true, decide_false, Bool.false_eq_true, false_imp_iff, Nat.lt_irrefl]
          refine acond_intro (fun hb => ?_) (fun hb => ?_)
          · have hne : dims.length ≠ td.length := by intro q; rw [q] at hb; simp at hb
            simp only [go_sem, Nat.reduceMul, Nat.reduceLT, Nat.reduceLeDiff, Nat.reduceEqDiff, Nat.reduceBEq, Int.toNat_natCast, Int.reduceToNat, Int.reduceNeg, Int.reduceLT, Int.reduceLE, Int.reduceBEq, Int.reduceBNe, decide_true, decide_false, Bool.false_eq_true, false_imp_iff, Nat.lt_irrefl]
            (refine ACallT.frame (alive_ok _) ?_; refine fun _ _ e => ?_; subst e; refine ⟨by (first | rfl | (simp only [AV.low, lowL, low_strs, low_bytes, Bool.and_true, Bool.and_self])), ?_⟩; simp only [go_sem, Nat.reduceMul, Nat.reduceLT, Nat.reduceLeDiff, Nat.reduceEqDiff, Nat.reduceBEq, Int.toNat_natCast, Int.reduceToNat, Int.reduceNeg, Int.reduceLT, Int.reduceLE, Int.reduceBEq, Int.reduceBNe, decide_true, decide_false, Bool.false_eq_true, false_imp_iff, Nat.lt_irrefl])
            (refine ACallT.frame (check_ok false c2 c3 c4 td m dims t ms _ hdm hms (fun s hs h => value_all s h (hD s hs))) ?_; refine fun _ _ e => ?_; subst e; refine ⟨by (first | rfl | (simp only [AV.low, lowL, low_strs, low_bytes, Bool.and_true, Bool.and_self])), ?_⟩; simp only [go_sem, Nat.reduceMul, Nat.reduceLT, Nat.reduceLeDiff, Nat.reduceEqDiff, Nat.reduceBEq, Int.toNat_natCast, Int.reduceToNat, Int.reduceNeg, Int.reduceLT, Int.reduceLE, Int.reduceBEq, Int.reduceBNe, decide_true, decide_false, Bool.false_eq_true, false_imp_iff, Nat.lt_irrefl])
            rw [check_off td m dims t ms hne]
            simp only [go_sem, Nat.reduceMul, Nat.reduceLT, Nat.reduceLeDiff, Nat.reduceEqDiff, Nat.reduceBEq, Int.toNat_natCast, Int.reduceToNat, Int.reduceNeg, Int.reduceLT, Int.reduceLE, Int.reduceBEq, Int.reduceBNe, decide_true, decide_false, Bool.false_eq_true, false_imp_iff, Nat.lt_irrefl]
            exact Fin_plain rfl
          · have heq : dims.length = td.length := by
              have : ((dims.length : Int) != (td.length : Int)) = false := hb
              simp only [bne_eq_false_iff_eq] at this; omega
            have hkd : k ≤ dims.length := by omega
            have hcd : ∀ x ∈ strs dims, x.cells.length = 1 := strs_cells dims
            have hl3 : (dims.take k).length = k := by rw [List.length_take]; omega
            simp only [go_sem, Nat.reduceMul, Nat.reduceLT, Nat.reduceLeDiff, Nat.reduceEqDiff, Nat.reduceBEq, Int.toNat_natCast, Int.reduceToNat, Int.reduceNeg, Int.reduceLT, Int.reduceLE, Int.reduceBEq, Int.reduceBNe, decide_true, decide_false, Bool.false_eq_true, false_imp_iff, Nat.lt_irrefl]
            rw [strs_take]
            simp only [strs_len, hl3]
            refine ⟨⟨by omega, by omega, hcd⟩, ⟨by omega, by omega, okEl_strs _⟩, ⟨by omega, by omega⟩, ?_⟩
            (refine ADrawT.memF 6 [(6, 1), (6, 3), (8, 1), (8, 3), (8, 6)] mixedOrdersD (by kernel_rfl) (by kernel_rfl) ?_; simp only [go_sem, Nat.reduceMul, Nat.reduceLT, Nat.reduceLeDiff, Nat.reduceEqDiff, Nat.reduceBEq, Int.toNat_natCast, Int.reduceToNat, Int.reduceNeg, Int.reduceLT, Int.reduceLE, Int.reduceBEq, Int.reduceBNe, decide_true, decide_false, Bool.false_eq_true, false_imp_iff, Nat.lt_irrefl])
            have hE : strs (List.take k dims) ++ AV.str [] :: List.drop k (strs dims) = strs (dims.take k ++ [[]] ++ dims.drop k) := by simp [strs]
            have hl4 : (List.drop k (strs dims)).length = dims.length - k := by rw [List.length_drop, strs_len]
            rw [hE, frzO_all (by rw [hl4, strs_len]; simp; omega) (flatS _)]
            have hk1 := check_one d td m dims t ms k hlt hdl heq
            have hD2 : ∀ s ∈ (dims.take k ++ [[]] ++ dims.drop k : List Str), s.length ≤ 9223372036854775807 := by
              intro s hs
              simp only [List.mem_append, List.mem_singleton] at hs
              rcases hs with (q | q) | q
              · exact hD s (List.mem_of_mem_take q)
              · subst q; simp
              · exact hD s (List.mem_of_mem_drop q)
            have hl5 : (dims.take k ++ [[]] ++ dims.drop k : List Str).length ≤ 9223372036854775807 := by simp; omega
            generalize (dims.take k ++ [[]] ++ dims.drop k : List Str) = D2 at *
            simp only [hl3, hl4]
            refine ⟨⟨by omega, by omega, by omega, hcd⟩, ⟨trivial, by omega, by omega, by rw [strs_drop]; exact okEl_strs _⟩, by simp [okAcc], ?_⟩
            refine ADrawT.quiet mixedOrdersD (by kernel_rfl) ?_
            simp only [go_sem, Nat.reduceMul, Nat.reduceLT, Nat.reduceLeDiff, Nat.reduceEqDiff, Nat.reduceBEq, Int.toNat_natCast, Int.reduceToNat, Int.reduceNeg, Int.reduceLT, Int.reduceLE, Int.reduceBEq, Int.reduceBNe, decide_true, decide_false, Bool.false_eq_true, false_imp_iff, Nat.lt_irrefl]
            refine doX_intro (.bool true) ?_ ?_
            · simp only [go_sem, Nat.reduceMul, Nat.reduceLT, Nat.reduceLeDiff, Nat.reduceEqDiff, Nat.reduceBEq, Int.toNat_natCast, Int.reduceToNat, Int.reduceNeg, Int.reduceLT, Int.reduceLE, Int.reduceBEq, Int.reduceBNe, decide_true, decide_false, Bool.false_eq_true, false_imp_iff, Nat.lt_irrefl]
              (refine ACallT.frame (alive_ok _) ?_; refine fun _ _ e => ?_; subst e; refine ⟨by (first | rfl | (simp only [AV.low, lowL, low_strs, low_bytes, Bool.and_true, Bool.and_self])), ?_⟩; simp only [go_sem, Nat.reduceMul, Nat.reduceLT, Nat.reduceLeDiff, Nat.reduceEqDiff, Nat.reduceBEq, Int.toNat_natCast, Int.reduceToNat, Int.reduceNeg, Int.reduceLT, Int.reduceLE, Int.reduceBEq, Int.reduceBNe, decide_true, decide_false, Bool.false_eq_true, false_imp_iff, Nat.lt_irrefl])
            simp only [go_sem, Nat.reduceMul, Nat.reduceLT, Nat.reduceLeDiff, Nat.reduceEqDiff, Nat.reduceBEq, Int.toNat_natCast, Int.reduceToNat, Int.reduceNeg, Int.reduceLT, Int.reduceLE, Int.reduceBEq, Int.reduceBNe, decide_true, decide_false, Bool.false_eq_true, false_imp_iff, Nat.lt_irrefl]
            refine doX_intro (.int .i64 (checkS td m t dims ms)) ?_ ?_
            · simp only [go_sem, Nat.reduceMul, Nat.reduceLT, Nat.reduceLeDiff, Nat.reduceEqDiff, Nat.reduceBEq, Int.toNat_natCast, Int.reduceToNat, Int.reduceNeg, Int.reduceLT, Int.reduceLE, Int.reduceBEq, Int.reduceBNe, decide_true, decide_false, Bool.false_eq_true, false_imp_iff, Nat.lt_irrefl]
              (refine ACallT.frame (check_ok false c2 c3 c4 td m dims t ms _ hdm hms (fun s hs h => value_all s h (hD s hs))) ?_; refine fun _ _ e => ?_; subst e; refine ⟨by (first | rfl | (simp only [AV.low, lowL, low_strs, low_bytes, Bool.and_true, Bool.and_self])), ?_⟩; simp only [go_sem, Nat.reduceMul, Nat.reduceLT, Nat.reduceLeDiff, Nat.reduceEqDiff, Nat.reduceBEq, Int.toNat_natCast, Int.reduceToNat, Int.reduceNeg, Int.reduceLT, Int.reduceLE, Int.reduceBEq, Int.reduceBNe, decide_true, decide_false, Bool.false_eq_true, false_imp_iff, Nat.lt_irrefl])
            simp only [go_sem, Nat.reduceMul, Nat.reduceLT, Nat.reduceLeDiff, Nat.reduceEqDiff, Nat.reduceBEq, Int.toNat_natCast, Int.reduceToNat, Int.reduceNeg, Int.reduceLT, Int.reduceLE, Int.reduceBEq, Int.reduceBNe, decide_true, decide_false, Bool.false_eq_true, false_imp_iff, Nat.lt_irrefl]
            refine doX_intro (.int .i64 (checkS d m t D2 ms)) ?_ ?_
            · simp only [go_sem, Nat.reduceMul, Nat.reduceLT, Nat.reduceLeDiff, Nat.reduceEqDiff, Nat.reduceBEq, Int.toNat_natCast, Int.reduceToNat, Int.reduceNeg, Int.reduceLT, Int.reduceLE, Int.reduceBEq, Int.reduceBNe, decide_true, decide_false, Bool.false_eq_true, false_imp_iff, Nat.lt_irrefl]
              (refine ACallT.frame (check_ok c1 c2 false c4 d m D2 t ms _ hl5 hms (fun s hs h => value_all s h (hD2 s hs))) ?_; refine fun _ _ e => ?_; subst e; refine ⟨by (first | rfl | (simp only [AV.low, lowL, low_strs, low_bytes, Bool.and_true, Bool.and_self])), ?_⟩; simp only [go_sem, Nat.reduceMul, Nat.reduceLT, Nat.reduceLeDiff, Nat.reduceEqDiff, Nat.reduceBEq, Int.toNat_natCast, Int.reduceToNat, Int.reduceNeg, Int.reduceLT, Int.reduceLE, Int.reduceBEq, Int.reduceBNe, decide_true, decide_false, Bool.false_eq_true, false_imp_iff, Nat.lt_irrefl])
            rw [hk1]
            simp only [go_sem, Nat.reduceMul, Nat.reduceLT, Nat.reduceLeDiff, Nat.reduceEqDiff, Nat.reduceBEq, Int.toNat_natCast, Int.reduceToNat, Int.reduceNeg, Int.reduceLT, Int.reduceLE, Int.reduceBEq, Int.reduceBNe, decide_true, decide_false, Bool.false_eq_true, false_imp_iff, Nat.lt_irrefl]
            exact Fin_plain rfl
end Go.Proofs.Vale
