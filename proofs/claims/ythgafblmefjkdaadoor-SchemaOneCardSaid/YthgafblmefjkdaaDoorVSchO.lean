/- YthgafblmefjkdaaDoorVSchO: a text of the proof of this claim, by its prover. -/
import Derived.Test.YthgafblmefjkdaaDoorVSchN
set_option linter.unusedVariables false
set_option linter.unusedSimpArgs false
set_option maxHeartbeats 4000000
set_option maxRecDepth 100000
namespace Go.Proofs.Vale
open Go.Proofs Go.Proofs.YthgafblmefjkdaaDoorT
attribute [local irreducible] acode aopsL aopsT dopsL dopsT pop popG aop ALoop ADraw ACall AWP AFin acondT ALoopT ADrawT ACallT doP doG doGd

/-! ### The law: names are values -/
theorem letter_ok (f : Bool) (b : UInt8) (h : letter f b = true) : decide (b.toNat < 128) = true ∧ [(34 : UInt8), 92].contains b = false ∧ badB b = false := by
  have hn : 48 ≤ b.toNat ∧ b.toNat ≤ 122 ∧ b.toNat ≠ 92 := by
    simp only [letter, Bool.or_eq_true, Bool.and_eq_true, decide_eq_true_eq, beq_iff_eq] at h
    omega
  obtain ⟨h1, h2, h3⟩ := hn
  refine ⟨by simp; omega, ?_, ?_⟩
  · have e1 : b ≠ 34 := fun e => by subst e; simp at h1
    have e2 : b ≠ 92 := fun e => by subst e; simp at h3
    simp [e1, e2]
  · simp only [badB, badR]
    rw [show decide (((b.toNat : Nat) : Int) < 32) = false by simp; omega, show decide ((126 : Int) < ((b.toNat : Nat) : Int)) = false by simp; omega]; rfl
theorem name_letters (s : Str) (h : nameS s = true) : (∀ b ∈ s, ∃ f, letter f b = true) ∧ s ≠ [] ∧ s.length ≤ 12 := by
  simp only [nameS, Bool.and_eq_true, Bool.not_eq_true', decide_eq_true_eq] at h
  obtain ⟨⟨⟨h1, h2⟩, h3⟩, h4⟩ := h
  refine ⟨fun b hb => ?_, by simpa using h1, h2⟩
  simp only [lettersFrom, List.drop_zero] at h4
  obtain ⟨i, hi, rfl⟩ := List.getElem_of_mem hb
  have := List.all_eq_true.1 h4 (s[i], i) (by rw [List.mem_zipIdx_iff_getElem?]; simp [hi])
  exact ⟨_, this⟩
theorem name_ascii (s : Str) (h : nameS s = true) : ascii s = true := by
  rw [ascii, List.all_eq_true]
  intro b hb
  obtain ⟨f, hf⟩ := (name_letters s h).1 b hb
  exact (letter_ok f b hf).1
theorem name_value (s : Str) (h : nameS s = true) : valueS s = true := by
  obtain ⟨h1, h2, h3⟩ := name_letters s h
  have e1 : (s.any fun b => [(34 : UInt8), 92].contains b) = false := by
    rw [List.any_eq_false]; intro b hb
    obtain ⟨f, hf⟩ := h1 b hb
    rw [(letter_ok f b hf).2.1]; simp
  have e2 : s.any badB = false := by
    rw [List.any_eq_false]; intro b hb
    obtain ⟨f, hf⟩ := h1 b hb
    rw [(letter_ok f b hf).2.2]; simp
  rw [valueS, e1, e2, decide_eq_true (by omega)]; rfl
theorem names_at (d m : List Str) (hnd : (d ++ m).Nodup) (hall : (d ++ m).all nameS = true) (k : Nat) (hk : k < d.length) : findV d d[k] = .tup [.int .i64 (k : Int), .bool true] ∧ findV m d[k] = .tup [.int .i64 0, .bool false] ∧ nameS d[k] = true := by
  rw [List.nodup_append] at hnd
  obtain ⟨h1, h2, h3⟩ := hnd
  have hm : d[k] ∈ d := List.getElem_mem _
  refine ⟨?_, ?_, List.all_eq_true.1 hall _ (List.mem_append_left _ hm)⟩
  · rw [findV, if_pos hm]
    have : ix d d[k] = k := ix_eq d d[k] k (by omega) (fun j hj q => by
      have e : d[j] ≠ d[k] := (List.pairwise_iff_getElem.1 h1) j k hj hk q
      have e : d[k] ≠ d[j] := fun q => e q.symm
      simpa using e) (fun _ => by simp)
    rw [this]
  · rw [findV, if_neg (fun q => h3 _ hm _ q rfl)]
theorem names_law (c1 c2 : Bool) (d m : List Str) (name : Str) (h : List AObj) (hd : d.length ≤ 8796093021952) (hm : m.length ≤ 8796093021952) (hn : name.length ≤ 9223372036854775807) (hL : ∀ s ∈ d ++ m, s.length ≤ 9223372036854775807) : ACall Tryd.prog 3 [schA c1 c2 d m, .str name] h (fun r _ => r = .bool true) := by
  simp only [schA]
  (refine ACall.of_code Tryd.func3 rfl ?_; simp only [Tryd.f3]; simp only [go_sem, Nat.reduceMul, Nat.reduceLT, Nat.reduceLeDiff, Nat.reduceEqDiff, Nat.reduceBEq, Int.toNat_natCast, Int.reduceToNat, Int.reduceNeg, Int.reduceLT, Int.reduceLE, Int.reduceBEq, Int.reduceBNe, decide_true, decide_false, Bool.false_eq_true, false_imp_iff, Nat.lt_irrefl])
  refine ACallT.by (fits_ok d c1 _ (by omega)) ?_
  rintro r h1 ⟨rfl, rfl⟩
  simp only [go_sem, Nat.reduceMul, Nat.reduceLT, Nat.reduceLeDiff, Nat.reduceEqDiff, Nat.reduceBEq, Int.toNat_natCast, Int.reduceToNat, Int.reduceNeg, Int.reduceLT, Int.reduceLE, Int.reduceBEq, Int.reduceBNe, decide_true, decide_false, Bool.false_eq_true, false_imp_iff, Nat.lt_irrefl]
  refine ACallT.by (fits_ok m c2 _ (by omega)) ?_
  rintro r h1 ⟨rfl, rfl⟩
  generalize hfd : fitS d = fd
  generalize hfm : fitS m = fm
  simp only [go_sem, Nat.reduceMul, Nat.reduceLT, Nat.reduceLeDiff, Nat.reduceEqDiff, Nat.reduceBEq, Int.toNat_natCast, Int.reduceToNat, Int.reduceNeg, Int.reduceLT, Int.reduceLE, Int.reduceBEq, Int.reduceBNe, decide_true, decide_false, Bool.false_eq_true, false_imp_iff, Nat.lt_irrefl]
  refine acond_intro (fun hc => ?_) (fun hc => ?_)
  · simp only [go_sem, Nat.reduceMul, Nat.reduceLT, Nat.reduceLeDiff, Nat.reduceEqDiff, Nat.reduceBEq, Int.toNat_natCast, Int.reduceToNat, Int.reduceNeg, Int.reduceLT, Int.reduceLE, Int.reduceBEq, Int.reduceBNe, decide_true, decide_false, Bool.false_eq_true, false_imp_iff, Nat.lt_irrefl]
    (refine ACallT.frame (alive_ok _) ?_; refine fun _ _ e => ?_; subst e; refine ⟨by (first | rfl | (simp only [AV.low, lowL, low_strs, low_bytes, Bool.and_true, Bool.and_self])), ?_⟩; simp only [go_sem, Nat.reduceMul, Nat.reduceLT, Nat.reduceLeDiff, Nat.reduceEqDiff, Nat.reduceBEq, Int.toNat_natCast, Int.reduceToNat, Int.reduceNeg, Int.reduceLT, Int.reduceLE, Int.reduceBEq, Int.reduceBNe, decide_true, decide_false, Bool.false_eq_true, false_imp_iff, Nat.lt_irrefl])
    exact Fin_plain rfl
  · obtain rfl : fd = true := by cases fd <;> first | rfl | (cases hc)
    obtain rfl : fm = true := by cases fm <;> first | rfl | (cases hc)
    have hd2 : d.length ≤ 20 := by
      have := hfd; simp only [fitS, Bool.and_eq_true, decide_eq_true_eq] at this; exact this.1
    have hm2 : m.length ≤ 20 := by
      have := hfm; simp only [fitS, Bool.and_eq_true, decide_eq_true_eq] at this; exact this.1
    clear hc
    simp only [go_sem, Nat.reduceMul, Nat.reduceLT, Nat.reduceLeDiff, Nat.reduceEqDiff, Nat.reduceBEq, Int.toNat_natCast, Int.reduceToNat, Int.reduceNeg, Int.reduceLT, Int.reduceLE, Int.reduceBEq, Int.reduceBNe, decide_true, decide_false, Bool.false_eq_true, false_imp_iff, Nat.lt_irrefl]
    (refine ACallT.frame (name_ok name _ hn) ?_; refine fun _ _ e => ?_; subst e; refine ⟨by (first | rfl | (simp only [AV.low, lowL, low_strs, low_bytes, Bool.and_true, Bool.and_self])), ?_⟩; simp only [go_sem, Nat.reduceMul, Nat.reduceLT, Nat.reduceLeDiff, Nat.reduceEqDiff, Nat.reduceBEq, Int.toNat_natCast, Int.reduceToNat, Int.reduceNeg, Int.reduceLT, Int.reduceLE, Int.reduceBEq, Int.reduceBNe, decide_true, decide_false, Bool.false_eq_true, false_imp_iff, Nat.lt_irrefl])
    generalize hN : nameS name = N
    cases N with
    | true =>
      simp only [go_sem, Nat.reduceMul, Nat.reduceLT, Nat.reduceLeDiff, Nat.reduceEqDiff, Nat.reduceBEq, Int.toNat_natCast, Int.reduceToNat, Int.reduceNeg, Int.reduceLT, Int.reduceLE, Int.reduceBEq, Int.reduceBNe, decide_true, decide_false, Bool.false_eq_true, false_imp_iff, Nat.lt_irrefl]
      (refine ACallT.frame (value_ok name _ hn (name_ascii name hN)) ?_; refine fun _ _ e => ?_; subst e; refine ⟨by (first | rfl | (simp only [AV.low, lowL, low_strs, low_bytes, Bool.and_true, Bool.and_self])), ?_⟩; simp only [go_sem, Nat.reduceMul, Nat.reduceLT, Nat.reduceLeDiff, Nat.reduceEqDiff, Nat.reduceBEq, Int.toNat_natCast, Int.reduceToNat, Int.reduceNeg, Int.reduceLT, Int.reduceLE, Int.reduceBEq, Int.reduceBNe, decide_true, decide_false, Bool.false_eq_true, false_imp_iff, Nat.lt_irrefl])
      rw [name_value name hN, show (name == ([] : Str)) = false by simpa using (name_letters name hN).2.1]
      simp only [go_sem, Nat.reduceMul, Nat.reduceLT, Nat.reduceLeDiff, Nat.reduceEqDiff, Nat.reduceBEq, Int.toNat_natCast, Int.reduceToNat, Int.reduceNeg, Int.reduceLT, Int.reduceLE, Int.reduceBEq, Int.reduceBNe, decide_true, decide_false, Bool.false_eq_true, false_imp_iff, Nat.lt_irrefl]
      (refine ACallT.frame (right_ok c1 c2 d m _ (by omega) hL) ?_; refine fun _ _ e => ?_; subst e; refine ⟨by (first | rfl | (simp only [AV.low, lowL, low_strs, low_bytes, Bool.and_true, Bool.and_self])), ?_⟩; simp only [go_sem, Nat.reduceMul, Nat.reduceLT, Nat.reduceLeDiff, Nat.reduceEqDiff, Nat.reduceBEq, Int.toNat_natCast, Int.reduceToNat, Int.reduceNeg, Int.reduceLT, Int.reduceLE, Int.reduceBEq, Int.reduceBNe, decide_true, decide_false, Bool.false_eq_true, false_imp_iff, Nat.lt_irrefl])
      generalize hR : rightS d m = R
      cases R with
      | false =>
        simp only [go_sem, Nat.reduceMul, Nat.reduceLT, Nat.reduceLeDiff, Nat.reduceEqDiff, Nat.reduceBEq, Int.toNat_natCast, Int.reduceToNat, Int.reduceNeg, Int.reduceLT, Int.reduceLE, Int.reduceBEq, Int.reduceBNe, decide_true, decide_false, Bool.false_eq_true, false_imp_iff, Nat.lt_irrefl]
        (refine ACallT.frame (alive_ok _) ?_; refine fun _ _ e => ?_; subst e; refine ⟨by (first | rfl | (simp only [AV.low, lowL, low_strs, low_bytes, Bool.and_true, Bool.and_self])), ?_⟩; simp only [go_sem, Nat.reduceMul, Nat.reduceLT, Nat.reduceLeDiff, Nat.reduceEqDiff, Nat.reduceBEq, Int.toNat_natCast, Int.reduceToNat, Int.reduceNeg, Int.reduceLT, Int.reduceLE, Int.reduceBEq, Int.reduceBNe, decide_true, decide_false, Bool.false_eq_true, false_imp_iff, Nat.lt_irrefl])
        exact Fin_plain rfl
      | true =>
        rw [right_eq] at hR
        simp only [Bool.and_eq_true, decide_eq_true_eq] at hR
        obtain ⟨⟨hnd, -⟩, hall⟩ := hR
        simp only [go_sem, Nat.reduceMul, Nat.reduceLT, Nat.reduceLeDiff, Nat.reduceEqDiff, Nat.reduceBEq, Int.toNat_natCast, Int.reduceToNat, Int.reduceNeg, Int.reduceLT, Int.reduceLE, Int.reduceBEq, Int.reduceBNe, decide_true, decide_false, Bool.false_eq_true, false_imp_iff, Nat.lt_irrefl]
        refine ALoop.over [4, 7, 8, 9, 10, 11, 45, 46, 47, 48, 49, 50, 51, 52, 53, 54, 55, 56, 57, 58, 59, 60, 61, 62, 63, 64, 65, 66, 67, 68, 69, 70, 71, 72, 73, 74, 75, 76, 77, 78, 79, 80, 81, 82, 83, 84, 85, 86, 87, 88, 89, 90] (fun e h' => h' = h ++ [.arr 0 2 [.agg [.fz c1 (strs d), .fz c2 (strs m)]]] ∧ ∃ k : Nat, k ≤ d.length ∧ e.getD 7 .any = .int .i64 k) (fun e _ => d.length - natA (e.getD 7 .any)) ⟨rfl, 0, by simp, rfl⟩ ?_
        simp only [List.length_cons, List.length_nil, Nat.reduceAdd, allL_succ, allL_zero]
        intro y4 y7 y8 y9 y10 y11 y45 y46 y47 y48 y49 y50 y51 y52 y53 y54 y55 y56 y57 y58 y59 y60 y61 y62 y63 y64 y65 y66 y67 y68 y69 y70 y71 y72 y73 y74 y75 y76 y77 y78 y79 y80 y81 y82 y83 y84 y85 y86 y87 y88 y89 y90 h' hI
        simp only [go_sem] at hI
        obtain ⟨rfl, k, hk, rfl⟩ := hI
        simp only [go_sem, Nat.reduceMul, Nat.reduceLT, Nat.reduceLeDiff, Nat.reduceEqDiff, Nat.reduceBEq, Int.toNat_natCast, Int.reduceToNat, Int.reduceNeg, Int.reduceLT, Int.reduceLE, Int.reduceBEq, Int.reduceBNe, decide_true, decide_false, Bool.false_eq_true, false_imp_iff, Nat.lt_irrefl]
        refine acond_intro (fun hc => ?_) (fun hc => ?_)
        · have hlt : k < d.length := by simpa using hc
          obtain ⟨hD, hM, hNm⟩ := names_at d m hnd hall k hlt
          have hdim : ∀ h, ACall Tryd.prog 12 [schA c1 c2 d m, .str d[k]] h (fun r _ => r = .tup [.int .i64 (k : Int), .bool true]) := fun h => by
            have := dim_ok c1 c2 d m d[k] h (by omega); rw [hD] at this; exact this
          have hmet : ∀ h, ACall Tryd.prog 13 [schA c1 c2 d m, .str d[k]] h (fun r _ => r = .tup [.int .i64 0, .bool false]) := fun h => by
            have := metric_ok c1 c2 d m d[k] h (by omega); rw [hM] at this; exact this
          have hnam : ∀ h, ACall Tryd.prog 9 [.str d[k]] h (fun r _ => r = .bool true) := fun h => by
            have := name_ok d[k] h (hL _ (List.mem_append_left _ (List.getElem_mem _))); rw [hNm] at this; exact this
          simp only [go_sem, Nat.reduceMul, Nat.reduceLT, Nat.reduceLeDiff, Nat.reduceEqDiff, Nat.reduceBEq, Int.toNat_natCast, Int.reduceToNat, Int.reduceNeg, Int.reduceLT, Int.reduceLE, Int.reduceBEq, Int.reduceBNe, decide_true, decide_false, Bool.false_eq_true, false_imp_iff, Nat.lt_irrefl]
          refine ADrawT.quiet mixedOrdersD (by kernel_rfl) ?_
          simp only [go_sem, strs_get d _ hlt, Nat.reduceMul, Nat.reduceLT, Nat.reduceLeDiff, Nat.reduceEqDiff, Nat.reduceBEq, Int.toNat_natCast, Int.reduceToNat, Int.reduceNeg, Int.reduceLT, Int.reduceLE, Int.reduceBEq, Int.reduceBNe, decide_true, decide_false, Bool.false_eq_true, false_imp_iff, Nat.lt_irrefl]
          refine ⟨⟨by omega, by omega⟩, ?_⟩
          refine doX_intro (.tup [.int .i64 (k : Int), .bool true]) ?_ ?_
          · simp only [go_sem, Nat.reduceMul, Nat.reduceLT, Nat.reduceLeDiff, Nat.reduceEqDiff, Nat.reduceBEq, Int.toNat_natCast, Int.reduceToNat, Int.reduceNeg, Int.reduceLT, Int.reduceLE, Int.reduceBEq, Int.reduceBNe, decide_true, decide_false, Bool.false_eq_true, false_imp_iff, Nat.lt_irrefl]
            (refine ACallT.pure (by simp only [go_sem, Nat.reduceMul, Nat.reduceLT, Nat.reduceLeDiff, Nat.reduceEqDiff, Nat.reduceBEq, Int.toNat_natCast, Int.reduceToNat, Int.reduceNeg, Int.reduceLT, Int.reduceLE, Int.reduceBEq, Int.reduceBNe, decide_true, decide_false, Bool.false_eq_true, false_imp_iff, Nat.lt_irrefl]; rfl) (by first | trivial | assumption | (simp only [go_sem, Nat.reduceMul, Nat.reduceLT, Nat.reduceLeDiff, Nat.reduceEqDiff, Nat.reduceBEq, Int.toNat_natCast, Int.reduceToNat, Int.reduceNeg, Int.reduceLT, Int.reduceLE, Int.reduceBEq, Int.reduceBNe, decide_true, decide_false, Bool.false_eq_true, false_imp_iff, Nat.lt_irrefl]; done) | (simp only [go_sem, Nat.reduceMul, Nat.reduceLT, Nat.reduceLeDiff, Nat.reduceEqDiff, Nat.reduceBEq, Int.toNat_natCast, Int.reduceToNat, Int.reduceNeg, Int.reduceLT, Int.reduceLE, Int.reduceBEq, Int.reduceBNe, decide_true, decide_false, Bool.false_eq_true, false_imp_iff, Nat.lt_irrefl]; first | trivial | assumption | omega | decide | (refine ⟨?_, ?_⟩ <;> first | trivial | assumption | omega | decide))) (hdim _) ?_; refine fun _ _ e => ?_; subst e; refine ⟨rfl, ?_⟩; simp only [go_sem, Nat.reduceMul, Nat.reduceLT, Nat.reduceLeDiff, Nat.reduceEqDiff, Nat.reduceBEq, Int.toNat_natCast, Int.reduceToNat, Int.reduceNeg, Int.reduceLT, Int.reduceLE, Int.reduceBEq, Int.reduceBNe, decide_true, decide_false, Bool.false_eq_true, false_imp_iff, Nat.lt_irrefl])
          simp only [go_sem, Nat.reduceMul, Nat.reduceLT, Nat.reduceLeDiff, Nat.reduceEqDiff, Nat.reduceBEq, Int.toNat_natCast, Int.reduceToNat, Int.reduceNeg, Int.reduceLT, Int.reduceLE, Int.reduceBEq, Int.reduceBNe, decide_true, decide_false, Bool.false_eq_true, false_imp_iff, Nat.lt_irrefl]
          refine ADrawT.quiet mixedOrdersD (by kernel_rfl) ?_
          simp only [go_sem, strs_get d _ hlt, Nat.reduceMul, Nat.reduceLT, Nat.reduceLeDiff, Nat.reduceEqDiff, Nat.reduceBEq, Int.toNat_natCast, Int.reduceToNat, Int.reduceNeg, Int.reduceLT, Int.reduceLE, Int.reduceBEq, Int.reduceBNe, decide_true, decide_false, Bool.false_eq_true, false_imp_iff, Nat.lt_irrefl]
          refine ⟨⟨by omega, by omega⟩, ?_⟩
          refine doX_intro (.tup [.int .i64 0, .bool false]) ?_ ?_
          · simp only [go_sem, Nat.reduceMul, Nat.reduceLT, Nat.reduceLeDiff, Nat.reduceEqDiff, Nat.reduceBEq, Int.toNat_natCast, Int.reduceToNat, Int.reduceNeg, Int.reduceLT, Int.reduceLE, Int.reduceBEq, Int.reduceBNe, decide_true, decide_false, Bool.false_eq_true, false_imp_iff, Nat.lt_irrefl]
            (refine ACallT.pure (by simp only [go_sem, Nat.reduceMul, Nat.reduceLT, Nat.reduceLeDiff, Nat.reduceEqDiff, Nat.reduceBEq, Int.toNat_natCast, Int.reduceToNat, Int.reduceNeg, Int.reduceLT, Int.reduceLE, Int.reduceBEq, Int.reduceBNe, decide_true, decide_false, Bool.false_eq_true, false_imp_iff, Nat.lt_irrefl]; rfl) (by first | trivial | assumption | (simp only [go_sem, Nat.reduceMul, Nat.reduceLT, Nat.reduceLeDiff, Nat.reduceEqDiff, Nat.reduceBEq, Int.toNat_natCast, Int.reduceToNat, Int.reduceNeg, Int.reduceLT, Int.reduceLE, Int.reduceBEq, Int.reduceBNe, decide_true, decide_false, Bool.false_eq_true, false_imp_iff, Nat.lt_irrefl]; done) | (simp only [go_sem, Nat.reduceMul, Nat.reduceLT, Nat.reduceLeDiff, Nat.reduceEqDiff, Nat.reduceBEq, Int.toNat_natCast, Int.reduceToNat, Int.reduceNeg, Int.reduceLT, Int.reduceLE, Int.reduceBEq, Int.reduceBNe, decide_true, decide_false, Bool.false_eq_true, false_imp_iff, Nat.lt_irrefl]; first | trivial | assumption | omega | decide | (refine ⟨?_, ?_⟩ <;> first | trivial | assumption | omega | decide))) (hmet _) ?_; refine fun _ _ e => ?_; subst e; refine ⟨rfl, ?_⟩; simp only [go_sem, Nat.reduceMul, Nat.reduceLT, Nat.reduceLeDiff, Nat.reduceEqDiff, Nat.reduceBEq, Int.toNat_natCast, Int.reduceToNat, Int.reduceNeg, Int.reduceLT, Int.reduceLE, Int.reduceBEq, Int.reduceBNe, decide_true, decide_false, Bool.false_eq_true, false_imp_iff, Nat.lt_irrefl])
          simp only [go_sem, strs_get d _ hlt, Nat.reduceMul, Nat.reduceLT, Nat.reduceLeDiff, Nat.reduceEqDiff, Nat.reduceBEq, Int.toNat_natCast, Int.reduceToNat, Int.reduceNeg, Int.reduceLT, Int.reduceLE, Int.reduceBEq, Int.reduceBNe, decide_true, decide_false, Bool.false_eq_true, false_imp_iff, Nat.lt_irrefl]
          refine ⟨⟨by omega, by omega⟩, ?_⟩
          (refine ACallT.pure (by simp only [go_sem, Nat.reduceMul, Nat.reduceLT, Nat.reduceLeDiff, Nat.reduceEqDiff, Nat.reduceBEq, Int.toNat_natCast, Int.reduceToNat, Int.reduceNeg, Int.reduceLT, Int.reduceLE, Int.reduceBEq, Int.reduceBNe, decide_true, decide_false, Bool.false_eq_true, false_imp_iff, Nat.lt_irrefl]; rfl) (by first | trivial | assumption | (simp only [go_sem, Nat.reduceMul, Nat.reduceLT, Nat.reduceLeDiff, Nat.reduceEqDiff, Nat.reduceBEq, Int.toNat_natCast, Int.reduceToNat, Int.reduceNeg, Int.reduceLT, Int.reduceLE, Int.reduceBEq, Int.reduceBNe, decide_true, decide_false, Bool.false_eq_true, false_imp_iff, Nat.lt_irrefl]; done) | (simp only [go_sem, Nat.reduceMul, Nat.reduceLT, Nat.reduceLeDiff, Nat.reduceEqDiff, Nat.reduceBEq, Int.toNat_natCast, Int.reduceToNat, Int.reduceNeg, Int.reduceLT, Int.reduceLE, Int.reduceBEq, Int.reduceBNe, decide_true, decide_false, Bool.false_eq_true, false_imp_iff, Nat.lt_irrefl]; first | trivial | assumption | omega | decide | (refine ⟨?_, ?_⟩ <;> first | trivial | assumption | omega | decide))) (hnam _) ?_; refine fun _ _ e => ?_; subst e; refine ⟨rfl, ?_⟩; simp only [go_sem, Nat.reduceMul, Nat.reduceLT, Nat.reduceLeDiff, Nat.reduceEqDiff, Nat.reduceBEq, Int.toNat_natCast, Int.reduceToNat, Int.reduceNeg, Int.reduceLT, Int.reduceLE, Int.reduceBEq, Int.reduceBNe, decide_true, decide_false, Bool.false_eq_true, false_imp_iff, Nat.lt_irrefl])
          rw [wrap_id (x := (k : Int) + 1) (by omega) (by omega)]
          exact ⟨⟨k + 1, by omega, rfl⟩, by omega⟩
        · simp only [go_sem, Nat.reduceMul, Nat.reduceLT, Nat.reduceLeDiff, Nat.reduceEqDiff, Nat.reduceBEq, Int.toNat_natCast, Int.reduceToNat, Int.reduceNeg, Int.reduceLT, Int.reduceLE, Int.reduceBEq, Int.reduceBNe, decide_true, decide_false, Bool.false_eq_true, false_imp_iff, Nat.lt_irrefl]
          (refine ACallT.frame (alive_ok _) ?_; refine fun _ _ e => ?_; subst e; refine ⟨by (first | rfl | (simp only [AV.low, lowL, low_strs, low_bytes, Bool.and_true, Bool.and_self])), ?_⟩; simp only [go_sem, Nat.reduceMul, Nat.reduceLT, Nat.reduceLeDiff, Nat.reduceEqDiff, Nat.reduceBEq, Int.toNat_natCast, Int.reduceToNat, Int.reduceNeg, Int.reduceLT, Int.reduceLE, Int.reduceBEq, Int.reduceBNe, decide_true, decide_false, Bool.false_eq_true, false_imp_iff, Nat.lt_irrefl])
          exact Fin_plain rfl
    | false =>
      simp only [go_sem, Nat.reduceMul, Nat.reduceLT, Nat.reduceLeDiff, Nat.reduceEqDiff, Nat.reduceBEq, Int.toNat_natCast, Int.reduceToNat, Int.reduceNeg, Int.reduceLT, Int.reduceLE, Int.reduceBEq, Int.reduceBNe, decide_true, decide_false, Bool.false_eq_true, false_imp_iff, Nat.lt_irrefl]
      (refine ACallT.frame (right_ok c1 c2 d m _ (by omega) hL) ?_; refine fun _ _ e => ?_; subst e; refine ⟨by (first | rfl | (simp only [AV.low, lowL, low_strs, low_bytes, Bool.and_true, Bool.and_self])), ?_⟩; simp only [go_sem, Nat.reduceMul, Nat.reduceLT, Nat.reduceLeDiff, Nat.reduceEqDiff, Nat.reduceBEq, Int.toNat_natCast, Int.reduceToNat, Int.reduceNeg, Int.reduceLT, Int.reduceLE, Int.reduceBEq, Int.reduceBNe, decide_true, decide_false, Bool.false_eq_true, false_imp_iff, Nat.lt_irrefl])
      generalize hR : rightS d m = R
      cases R with
      | false =>
        simp only [go_sem, Nat.reduceMul, Nat.reduceLT, Nat.reduceLeDiff, Nat.reduceEqDiff, Nat.reduceBEq, Int.toNat_natCast, Int.reduceToNat, Int.reduceNeg, Int.reduceLT, Int.reduceLE, Int.reduceBEq, Int.reduceBNe, decide_true, decide_false, Bool.false_eq_true, false_imp_iff, Nat.lt_irrefl]
        (refine ACallT.frame (alive_ok _) ?_; refine fun _ _ e => ?_; subst e; refine ⟨by (first | rfl | (simp only [AV.low, lowL, low_strs, low_bytes, Bool.and_true, Bool.and_self])), ?_⟩; simp only [go_sem, Nat.reduceMul, Nat.reduceLT, Nat.reduceLeDiff, Nat.reduceEqDiff, Nat.reduceBEq, Int.toNat_natCast, Int.reduceToNat, Int.reduceNeg, Int.reduceLT, Int.reduceLE, Int.reduceBEq, Int.reduceBNe, decide_true, decide_false, Bool.false_eq_true, false_imp_iff, Nat.lt_irrefl])
        exact Fin_plain rfl
      | true =>
        rw [right_eq] at hR
        simp only [Bool.and_eq_true, decide_eq_true_eq] at hR
        obtain ⟨⟨hnd, -⟩, hall⟩ := hR
        simp only [go_sem, Nat.reduceMul, Nat.reduceLT, Nat.reduceLeDiff, Nat.reduceEqDiff, Nat.reduceBEq, Int.toNat_natCast, Int.reduceToNat, Int.reduceNeg, Int.reduceLT, Int.reduceLE, Int.reduceBEq, Int.reduceBNe, decide_true, decide_false, Bool.false_eq_true, false_imp_iff, Nat.lt_irrefl]
        refine ALoop.over [4, 7, 8, 9, 10, 11, 45, 46, 47, 48, 49, 50, 51, 52, 53, 54, 55, 56, 57, 58, 59, 60, 61, 62, 63, 64, 65, 66, 67, 68, 69, 70, 71, 72, 73, 74, 75, 76, 77, 78, 79, 80, 81, 82, 83, 84, 85, 86, 87, 88, 89, 90] (fun e h' => h' = h ++ [.arr 0 2 [.agg [.fz c1 (strs d), .fz c2 (strs m)]]] ∧ ∃ k : Nat, k ≤ d.length ∧ e.getD 7 .any = .int .i64 k) (fun e _ => d.length - natA (e.getD 7 .any)) ⟨rfl, 0, by simp, rfl⟩ ?_
        simp only [List.length_cons, List.length_nil, Nat.reduceAdd, allL_succ, allL_zero]
        intro y4 y7 y8 y9 y10 y11 y45 y46 y47 y48 y49 y50 y51 y52 y53 y54 y55 y56 y57 y58 y59 y60 y61 y62 y63 y64 y65 y66 y67 y68 y69 y70 y71 y72 y73 y74 y75 y76 y77 y78 y79 y80 y81 y82 y83 y84 y85 y86 y87 y88 y89 y90 h' hI
        simp only [go_sem] at hI
        obtain ⟨rfl, k, hk, rfl⟩ := hI
        simp only [go_sem, Nat.reduceMul, Nat.reduceLT, Nat.reduceLeDiff, Nat.reduceEqDiff, Nat.reduceBEq, Int.toNat_natCast, Int.reduceToNat, Int.reduceNeg, Int.reduceLT, Int.reduceLE, Int.reduceBEq, Int.reduceBNe, decide_true, decide_false, Bool.false_eq_true, false_imp_iff, Nat.lt_irrefl]
        refine acond_intro (fun hc => ?_) (fun hc => ?_)
        · have hlt : k < d.length := by simpa using hc
          obtain ⟨hD, hM, hNm⟩ := names_at d m hnd hall k hlt
          have hdim : ∀ h, ACall Tryd.prog 12 [schA c1 c2 d m, .str d[k]] h (fun r _ => r = .tup [.int .i64 (k : Int), .bool true]) := fun h => by
            have := dim_ok c1 c2 d m d[k] h (by omega); rw [hD] at this; exact this
          have hmet : ∀ h, ACall Tryd.prog 13 [schA c1 c2 d m, .str d[k]] h (fun r _ => r = .tup [.int .i64 0, .bool false]) := fun h => by
            have := metric_ok c1 c2 d m d[k] h (by omega); rw [hM] at this; exact this
          have hnam : ∀ h, ACall Tryd.prog 9 [.str d[k]] h (fun r _ => r = .bool true) := fun h => by
            have := name_ok d[k] h (hL _ (List.mem_append_left _ (List.getElem_mem _))); rw [hNm] at this; exact this
          simp only [go_sem, Nat.reduceMul, Nat.reduceLT, Nat.reduceLeDiff, Nat.reduceEqDiff, Nat.reduceBEq, Int.toNat_natCast, Int.reduceToNat, Int.reduceNeg, Int.reduceLT, Int.reduceLE, Int.reduceBEq, Int.reduceBNe, decide_true, decide_false, Bool.false_eq_true, false_imp_iff, Nat.lt_irrefl]
          refine ADrawT.quiet mixedOrdersD (by kernel_rfl) ?_
          simp only [go_sem, strs_get d _ hlt, Nat.reduceMul, Nat.reduceLT, Nat.reduceLeDiff, Nat.reduceEqDiff, Nat.reduceBEq, Int.toNat_natCast, Int.reduceToNat, Int.reduceNeg, Int.reduceLT, Int.reduceLE, Int.reduceBEq, Int.reduceBNe, decide_true, decide_false, Bool.false_eq_true, false_imp_iff, Nat.lt_irrefl]
          refine ⟨⟨by omega, by omega⟩, ?_⟩
          refine doX_intro (.tup [.int .i64 (k : Int), .bool true]) ?_ ?_
          · simp only [go_sem, Nat.reduceMul, Nat.reduceLT, Nat.reduceLeDiff, Nat.reduceEqDiff, Nat.reduceBEq, Int.toNat_natCast, Int.reduceToNat, Int.reduceNeg, Int.reduceLT, Int.reduceLE, Int.reduceBEq, Int.reduceBNe, decide_true, decide_false, Bool.false_eq_true, false_imp_iff, Nat.lt_irrefl]
            (refine ACallT.pure (by simp only [go_sem, Nat.reduceMul, Nat.reduceLT, Nat.reduceLeDiff, Nat.reduceEqDiff, Nat.reduceBEq, Int.toNat_natCast, Int.reduceToNat, Int.reduceNeg, Int.reduceLT, Int.reduceLE, Int.reduceBEq, Int.reduceBNe, decide_true, decide_false, Bool.false_eq_true, false_imp_iff, Nat.lt_irrefl]; rfl) (by first | trivial | assumption | (simp only [go_sem, Nat.reduceMul, Nat.reduceLT, Nat.reduceLeDiff, Nat.reduceEqDiff, Nat.reduceBEq, Int.toNat_natCast, Int.reduceToNat, Int.reduceNeg, Int.reduceLT, Int.reduceLE, Int.reduceBEq, Int.reduceBNe, decide_true, decide_false, Bool.false_eq_true, false_imp_iff, Nat.lt_irrefl]; done) | (simp only [go_sem, Nat.reduceMul, Nat.reduceLT, Nat.reduceLeDiff, Nat.reduceEqDiff, Nat.reduceBEq, Int.toNat_natCast, Int.reduceToNat, Int.reduceNeg, Int.reduceLT, Int.reduceLE, Int.reduceBEq, Int.reduceBNe, decide_true, decide_false, Bool.false_eq_true, false_imp_iff, Nat.lt_irrefl]; first | trivial | assumption | omega | decide | (refine ⟨?_, ?_⟩ <;> first | trivial | assumption | omega | decide))) (hdim _) ?_; refine fun _ _ e => ?_; subst e; refine ⟨rfl, ?_⟩; simp only [go_sem, Nat.reduceMul, Nat.reduceLT, Nat.reduceLeDiff, Nat.reduceEqDiff, Nat.reduceBEq, Int.toNat_natCast, Int.reduceToNat, Int.reduceNeg, Int.reduceLT, Int.reduceLE, Int.reduceBEq, Int.reduceBNe, decide_true, decide_false, Bool.false_eq_true, false_imp_iff, Nat.lt_irrefl])
          simp only [go_sem, Nat.reduceMul, Nat.reduceLT, Nat.reduceLeDiff, Nat.reduceEqDiff, Nat.reduceBEq, Int.toNat_natCast, Int.reduceToNat, Int.reduceNeg, Int.reduceLT, Int.reduceLE, Int.reduceBEq, Int.reduceBNe, decide_true, decide_false, Bool.false_eq_true, false_imp_iff, Nat.lt_irrefl]
          refine ADrawT.quiet mixedOrdersD (by kernel_rfl) ?_
          simp only [go_sem, strs_get d _ hlt, Nat.reduceMul, Nat.reduceLT, Nat.reduceLeDiff, Nat.reduceEqDiff, Nat.reduceBEq, Int.toNat_natCast, Int.reduceToNat, Int.reduceNeg, Int.reduceLT, Int.reduceLE, Int.reduceBEq, Int.reduceBNe, decide_true, decide_false, Bool.false_eq_true, false_imp_iff, Nat.lt_irrefl]
          refine ⟨⟨by omega, by omega⟩, ?_⟩
          refine doX_intro (.tup [.int .i64 0, .bool false]) ?_ ?_
          · simp only [go_sem, Nat.reduceMul, Nat.reduceLT, Nat.reduceLeDiff, Nat.reduceEqDiff, Nat.reduceBEq, Int.toNat_natCast, Int.reduceToNat, Int.reduceNeg, Int.reduceLT, Int.reduceLE, Int.reduceBEq, Int.reduceBNe, decide_true, decide_false, Bool.false_eq_true, false_imp_iff, Nat.lt_irrefl]
            (refine ACallT.pure (by simp only [go_sem, Nat.reduceMul, Nat.reduceLT, Nat.reduceLeDiff, Nat.reduceEqDiff, Nat.reduceBEq, Int.toNat_natCast, Int.reduceToNat, Int.reduceNeg, Int.reduceLT, Int.reduceLE, Int.reduceBEq, Int.reduceBNe, decide_true, decide_false, Bool.false_eq_true, false_imp_iff, Nat.lt_irrefl]; rfl) (by first | trivial | assumption | (simp only [go_sem, Nat.reduceMul, Nat.reduceLT, Nat.reduceLeDiff, Nat.reduceEqDiff, Nat.reduceBEq, Int.toNat_natCast, Int.reduceToNat, Int.reduceNeg, Int.reduceLT, Int.reduceLE, Int.reduceBEq, Int.reduceBNe, decide_true, decide_false, Bool.false_eq_true, false_imp_iff, Nat.lt_irrefl]; done) | (simp only [go_sem, Nat.reduceMul, Nat.reduceLT, Nat.reduceLeDiff, Nat.reduceEqDiff, Nat.reduceBEq, Int.toNat_natCast, Int.reduceToNat, Int.reduceNeg, Int.reduceLT, Int.reduceLE, Int.reduceBEq, Int.reduceBNe, decide_true, decide_false, Bool.false_eq_true, false_imp_iff, Nat.lt_irrefl]; first | trivial | assumption | omega | decide | (refine ⟨?_, ?_⟩ <;> first | trivial | assumption | omega | decide))) (hmet _) ?_; refine fun _ _ e => ?_; subst e; refine ⟨rfl, ?_⟩; simp only [go_sem, Nat.reduceMul, Nat.reduceLT, Nat.reduceLeDiff, Nat.reduceEqDiff, Nat.reduceBEq, Int.toNat_natCast, Int.reduceToNat, Int.reduceNeg, Int.reduceLT, Int.reduceLE, Int.reduceBEq, Int.reduceBNe, decide_true, decide_false, Bool.false_eq_true, false_imp_iff, Nat.lt_irrefl])
          simp only [go_sem, strs_get d _ hlt, Nat.reduceMul, Nat.reduceLT, Nat.reduceLeDiff, Nat.reduceEqDiff, Nat.reduceBEq, Int.toNat_natCast, Int.reduceToNat, Int.reduceNeg, Int.reduceLT, Int.reduceLE, Int.reduceBEq, Int.reduceBNe, decide_true, decide_false, Bool.false_eq_true, false_imp_iff, Nat.lt_irrefl]
          refine ⟨⟨by omega, by omega⟩, ?_⟩
          (refine ACallT.pure (by simp only [go_sem, Nat.reduceMul, Nat.reduceLT, Nat.reduceLeDiff, Nat.reduceEqDiff, Nat.reduceBEq, Int.toNat_natCast, Int.reduceToNat, Int.reduceNeg, Int.reduceLT, Int.reduceLE, Int.reduceBEq, Int.reduceBNe, decide_true, decide_false, Bool.false_eq_true, false_imp_iff, Nat.lt_irrefl]; rfl) (by first | trivial | assumption | (simp only [go_sem, Nat.reduceMul, Nat.reduceLT, Nat.reduceLeDiff, Nat.reduceEqDiff, Nat.reduceBEq, Int.toNat_natCast, Int.reduceToNat, Int.reduceNeg, Int.reduceLT, Int.reduceLE, Int.reduceBEq, Int.reduceBNe, decide_true, decide_false, Bool.false_eq_true, false_imp_iff, Nat.lt_irrefl]; done) | (simp only [go_sem, Nat.reduceMul, Nat.reduceLT, Nat.reduceLeDiff, Nat.reduceEqDiff, Nat.reduceBEq, Int.toNat_natCast, Int.reduceToNat, Int.reduceNeg, Int.reduceLT, Int.reduceLE, Int.reduceBEq, Int.reduceBNe, decide_true, decide_false, Bool.false_eq_true, false_imp_iff, Nat.lt_irrefl]; first | trivial | assumption | omega | decide | (refine ⟨?_, ?_⟩ <;> first | trivial | assumption | omega | decide))) (hnam _) ?_; refine fun _ _ e => ?_; subst e; refine ⟨rfl, ?_⟩; simp only [go_sem, Nat.reduceMul, Nat.reduceLT, Nat.reduceLeDiff, Nat.reduceEqDiff, Nat.reduceBEq, Int.toNat_natCast, Int.reduceToNat, Int.reduceNeg, Int.reduceLT, Int.reduceLE, Int.reduceBEq, Int.reduceBNe, decide_true, decide_false, Bool.false_eq_true, false_imp_iff, Nat.lt_irrefl])
          rw [wrap_id (x := (k : Int) + 1) (by omega) (by omega)]
          exact ⟨⟨k + 1, by omega, rfl⟩, by omega⟩
        · simp only [go_sem, Nat.reduceMul, Nat.reduceLT, Nat.reduceLeDiff, Nat.reduceEqDiff, Nat.reduceBEq, Int.toNat_natCast, Int.reduceToNat, Int.reduceNeg, Int.reduceLT, Int.reduceLE, Int.reduceBEq, Int.reduceBNe, decide_true, decide_false, Bool.false_eq_true, false_imp_iff, Nat.lt_irrefl]
          (refine ACallT.frame (alive_ok _) ?_; refine fun _ _ e => ?_; subst e; refine ⟨by (first | rfl | (simp only [AV.low, lowL, low_strs, low_bytes, Bool.and_true, Bool.and_self])), ?_⟩; simp only [go_sem, Nat.reduceMul, Nat.reduceLT, Nat.reduceLeDiff, Nat.reduceEqDiff, Nat.reduceBEq, Int.toNat_natCast, Int.reduceToNat, Int.reduceNeg, Int.reduceLT, Int.reduceLE, Int.reduceBEq, Int.reduceBNe, decide_true, decide_false, Bool.false_eq_true, false_imp_iff, Nat.lt_irrefl])
          exact Fin_plain rfl
end Go.Proofs.Vale
