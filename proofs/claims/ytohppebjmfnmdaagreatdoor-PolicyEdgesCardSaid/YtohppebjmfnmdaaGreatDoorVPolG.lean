/- YtohppebjmfnmdaaGreatDoorVPolG: a text of the proof of this claim, by its prover. -/
import Derived.Test.YtohppebjmfnmdaaGreatDoorVPolF
set_option linter.unusedVariables false
set_option linter.unusedSimpArgs false
set_option maxHeartbeats 4000000
set_option maxRecDepth 100000
namespace Go.Proofs.Vale
open Go.Proofs Go.Proofs.YtohppebjmfnmdaaGreatDoorT
attribute [local irreducible] acode aopsL aopsT dopsL dopsT dmL dmT pop popG aop ALoop ADraw ACall AWP AFin acondT ALoopT ADrawT ACallT doP doG doGd

/-! ### The law: edges fall -/
theorem edgesK_any {p : Pol} {now : Int} {r : AV} (h : if ag now = true then ∃ c, r = .tup [.fz c (intsA (edgesL p now p.T.length)), .int .i64 0] else r = .tup [.fz true [], .int .i64 1]) :
    ∃ (c : Bool) (L : List AV) (e : Int), r = .tup [.fz c L, .int .i64 e] ∧ r.low 0 = true ∧ ((ag now = true ∧ L = intsA (edgesL p now p.T.length) ∧ e = 0) ∨ (ag now = false ∧ L = [] ∧ e = 1)) := by
  cases hn : ag now with
  | true =>
    rw [hn, if_pos rfl] at h
    obtain ⟨c, h⟩ := h
    exact ⟨c, _, 0, h, by rw [h]; simp [AV.low, lowL, low_ints], .inl ⟨rfl, rfl, rfl⟩⟩
  | false =>
    rw [hn, if_neg (by simp)] at h
    exact ⟨true, [], 1, h, by rw [h]; simp [AV.low, lowL], .inr ⟨rfl, rfl, rfl⟩⟩
theorem edges_law (alive_ok : ∀ h, ACall Tryz.prog 8 [] h (fun r _ => r = .bool true)) (d m : List Str) (p : Pol) (x y : Int) (h : List AObj) (hd1 : d.length ≤ 9223372036854775807) (hd2 : m.length ≤ 8796093021952) (hm : ∀ s ∈ d ++ m, s.length ≤ 9223372036854775807) (hT : ∀ t ∈ p.T, t.2.2.length ≤ 9223372036854775807) (hJ : ∀ t ∈ p.J, t.2.2.length ≤ 9223372036854775807) : ACall Tryz.prog 3 [schA false false d m, polA p, .agg [.int .i64 x, .int .i64 y]] h (fun r _ => r = .bool true) := by
  have live : ∀ {h : List AObj} {K : AV → List AObj → Prop} {t : Tag K}, K (.bool true) h → ACallT Tryz.prog 8 [] h K t := fun k => ACallT.frame (alive_ok _) (fun r h2 e => by subst e; exact ⟨rfl, k⟩)
  have hpa : polA p = .agg [.fz false (tiersA p.T), .fz false (tiersA p.J), .int .i64 p.H] := rfl
  have hsa : schA false false d m = .agg [.fz false (strs d), .fz false (strs m)] := rfl
  simp only [hpa, hsa]
  (refine ACall.of_code Tryz.func3 rfl ?_; simp only [Tryz.f3]; simp only [go_sem, Nat.reduceMul, Nat.reduceLT, Nat.reduceLeDiff, Nat.reduceEqDiff, Nat.reduceBEq, Int.toNat_natCast, Int.reduceToNat, Int.reduceNeg, Int.reduceLT, Int.reduceLE, Int.reduceBEq, Int.reduceBNe, decide_true, decide_false, Bool.false_eq_true, false_imp_iff, Nat.lt_irrefl])
  refine ACallT.by (fits_ok d false _ (by omega)) ?_
  rintro r h1 ⟨rfl, rfl⟩
  simp only [go_sem, Nat.reduceMul, Nat.reduceLT, Nat.reduceLeDiff, Nat.reduceEqDiff, Nat.reduceBEq, Int.toNat_natCast, Int.reduceToNat, Int.reduceNeg, Int.reduceLT, Int.reduceLE, Int.reduceBEq, Int.reduceBNe, decide_true, decide_false, Bool.false_eq_true, false_imp_iff, Nat.lt_irrefl]
  have hf := fun h => pfits_ok p h hT hJ
  simp only [hpa] at hf
  refine ACallT.frame (hf _) ?_
  rintro r h2 ⟨pf, rfl, hpf⟩
  refine ⟨rfl, ?_⟩
  generalize hfd : fitS d = fd
  cases fd with
  | false =>
    simp only [go_sem, Nat.reduceMul, Nat.reduceLT, Nat.reduceLeDiff, Nat.reduceEqDiff, Nat.reduceBEq, Int.toNat_natCast, Int.reduceToNat, Int.reduceNeg, Int.reduceLT, Int.reduceLE, Int.reduceBEq, Int.reduceBNe, decide_true, decide_false, Bool.false_eq_true, false_imp_iff, Nat.lt_irrefl]
    refine live ?_
    simp only [go_sem, Nat.reduceMul, Nat.reduceLT, Nat.reduceLeDiff, Nat.reduceEqDiff, Nat.reduceBEq, Int.toNat_natCast, Int.reduceToNat, Int.reduceNeg, Int.reduceLT, Int.reduceLE, Int.reduceBEq, Int.reduceBNe, decide_true, decide_false, Bool.false_eq_true, false_imp_iff, Nat.lt_irrefl]
    exact Fin_plain rfl
  | true =>
  cases pf with
  | false =>
    simp only [go_sem, Nat.reduceMul, Nat.reduceLT, Nat.reduceLeDiff, Nat.reduceEqDiff, Nat.reduceBEq, Int.toNat_natCast, Int.reduceToNat, Int.reduceNeg, Int.reduceLT, Int.reduceLE, Int.reduceBEq, Int.reduceBNe, decide_true, decide_false, Bool.false_eq_true, false_imp_iff, Nat.lt_irrefl]
    refine live ?_
    simp only [go_sem, Nat.reduceMul, Nat.reduceLT, Nat.reduceLeDiff, Nat.reduceEqDiff, Nat.reduceBEq, Int.toNat_natCast, Int.reduceToNat, Int.reduceNeg, Int.reduceLT, Int.reduceLE, Int.reduceBEq, Int.reduceBNe, decide_true, decide_false, Bool.false_eq_true, false_imp_iff, Nat.lt_irrefl]
    exact Fin_plain rfl
  | true =>
  obtain ⟨hl1, hl2⟩ := hpf rfl
  have hd : d.length + m.length ≤ 8796093022000 := by
    unfold fitS at hfd
    simp only [Bool.and_eq_true, decide_eq_true_eq] at hfd
    omega
  simp only [go_sem, Nat.reduceMul, Nat.reduceLT, Nat.reduceLeDiff, Nat.reduceEqDiff, Nat.reduceBEq, Int.toNat_natCast, Int.reduceToNat, Int.reduceNeg, Int.reduceLT, Int.reduceLE, Int.reduceBEq, Int.reduceBNe, decide_true, decide_false, Bool.false_eq_true, false_imp_iff, Nat.lt_irrefl]
  have hr := fun h => rright_any false false d m h hd hm
  simp only [hsa] at hr
  refine ACallT.frame (hr _) ?_
  rintro r h2 ⟨rt, rfl⟩
  refine ⟨rfl, ?_⟩
  cases rt with
  | false =>
    simp only [go_sem, Nat.reduceMul, Nat.reduceLT, Nat.reduceLeDiff, Nat.reduceEqDiff, Nat.reduceBEq, Int.toNat_natCast, Int.reduceToNat, Int.reduceNeg, Int.reduceLT, Int.reduceLE, Int.reduceBEq, Int.reduceBNe, decide_true, decide_false, Bool.false_eq_true, false_imp_iff, Nat.lt_irrefl]
    refine live ?_
    simp only [go_sem, Nat.reduceMul, Nat.reduceLT, Nat.reduceLeDiff, Nat.reduceEqDiff, Nat.reduceBEq, Int.toNat_natCast, Int.reduceToNat, Int.reduceNeg, Int.reduceLT, Int.reduceLE, Int.reduceBEq, Int.reduceBNe, decide_true, decide_false, Bool.false_eq_true, false_imp_iff, Nat.lt_irrefl]
    exact Fin_plain rfl
  | true =>
  simp only [go_sem, Nat.reduceMul, Nat.reduceLT, Nat.reduceLeDiff, Nat.reduceEqDiff, Nat.reduceBEq, Int.toNat_natCast, Int.reduceToNat, Int.reduceNeg, Int.reduceLT, Int.reduceLE, Int.reduceBEq, Int.reduceBNe, decide_true, decide_false, Bool.false_eq_true, false_imp_iff, Nat.lt_irrefl]
  have hk := fun h => check_ok d m p false false h (by omega) hT hJ (by omega) (by omega)
  simp only [hpa, hsa] at hk
  refine ACallT.frame (hk _) ?_
  rintro r h2 rfl
  refine ⟨rfl, ?_⟩
  by_cases hck : checkP d p = 0
  rotate_left
  · have : (checkP d p != 0) = true := by simpa using hck
    simp only [go_sem, this, Nat.reduceMul, Nat.reduceLT, Nat.reduceLeDiff, Nat.reduceEqDiff, Nat.reduceBEq, Int.toNat_natCast, Int.reduceToNat, Int.reduceNeg, Int.reduceLT, Int.reduceLE, Int.reduceBEq, Int.reduceBNe, decide_true, decide_false, Bool.false_eq_true, false_imp_iff, Nat.lt_irrefl]
    refine live ?_
    simp only [go_sem, Nat.reduceMul, Nat.reduceLT, Nat.reduceLeDiff, Nat.reduceEqDiff, Nat.reduceBEq, Int.toNat_natCast, Int.reduceToNat, Int.reduceNeg, Int.reduceLT, Int.reduceLE, Int.reduceBEq, Int.reduceBNe, decide_true, decide_false, Bool.false_eq_true, false_imp_iff, Nat.lt_irrefl]
    exact Fin_plain rfl
  have o := check_OkP d p hck
  rw [hck]
  simp only [go_sem, Nat.reduceMul, Nat.reduceLT, Nat.reduceLeDiff, Nat.reduceEqDiff, Nat.reduceBEq, Int.toNat_natCast, Int.reduceToNat, Int.reduceNeg, Int.reduceLT, Int.reduceLE, Int.reduceBEq, Int.reduceBNe, decide_true, decide_false, Bool.false_eq_true, false_imp_iff, Nat.lt_irrefl]
  refine ⟨by omega, by omega, by omega, by omega, ?_⟩
  have hlo : (if y < x then y else x) ≤ (if x < y then y else x) := by split <;> split <;> omega
  generalize (if y < x then y else x) = lo at hlo ⊢
  generalize hhi : (if x < y then y else x) = hi at hlo
  have hed := fun now h => edges_ok p o now h
  simp only [hpa] at hed
  refine ACallT.frame (hed lo _) ?_
  intro r h2 hr1
  obtain ⟨c1, L1, e1, rfl, hlow, h1⟩ := edgesK_any hr1
  refine ⟨hlow, ?_⟩
  simp only [go_sem, Nat.reduceMul, Nat.reduceLT, Nat.reduceLeDiff, Nat.reduceEqDiff, Nat.reduceBEq, Int.toNat_natCast, Int.reduceToNat, Int.reduceNeg, Int.reduceLT, Int.reduceLE, Int.reduceBEq, Int.reduceBNe, decide_true, decide_false, Bool.false_eq_true, false_imp_iff, Nat.lt_irrefl]
  refine ACallT.frame (hed hi _) ?_
  intro r h2 hr2
  obtain ⟨c2, L2, e2, rfl, hlow, h2⟩ := edgesK_any hr2
  refine ⟨hlow, ?_⟩
  simp only [go_sem, Nat.reduceMul, Nat.reduceLT, Nat.reduceLeDiff, Nat.reduceEqDiff, Nat.reduceBEq, Int.toNat_natCast, Int.reduceToNat, Int.reduceNeg, Int.reduceLT, Int.reduceLE, Int.reduceBEq, Int.reduceBNe, decide_true, decide_false, Bool.false_eq_true, false_imp_iff, Nat.lt_irrefl]
  refine acond_intro (fun hc => ?_) (fun hc => ?_)
  · have hout : decide (lo < 0) = true ∨ decide ((1099511627776 : Int) < hi) = true := by
      by_cases a : ag lo = true
      · by_cases b : ag hi = true
        · rcases h1 with ⟨_, _, rfl⟩ | ⟨q, _⟩
          · rcases h2 with ⟨_, _, rfl⟩ | ⟨q, _⟩
            · simp at hc
            · rw [b] at q; cases q
          · rw [a] at q; cases q
        · have a' := (ag_iff _).1 a
          have b' : ¬ (0 ≤ hi ∧ hi ≤ 1099511627776) := fun q => b ((ag_iff _).2 q)
          right; simp; omega
      · have a' : ¬ (0 ≤ lo ∧ lo ≤ 1099511627776) := fun q => a ((ag_iff _).2 q)
        by_cases z : lo < 0
        · left; simp [z]
        · right; simp; omega
    simp only [go_sem, Nat.reduceMul, Nat.reduceLT, Nat.reduceLeDiff, Nat.reduceEqDiff, Nat.reduceBEq, Int.toNat_natCast, Int.reduceToNat, Int.reduceNeg, Int.reduceLT, Int.reduceLE, Int.reduceBEq, Int.reduceBNe, decide_true, decide_false, Bool.false_eq_true, false_imp_iff, Nat.lt_irrefl]
    refine live ?_
    simp only [go_sem, Nat.reduceMul, Nat.reduceLT, Nat.reduceLeDiff, Nat.reduceEqDiff, Nat.reduceBEq, Int.toNat_natCast, Int.reduceToNat, Int.reduceNeg, Int.reduceLT, Int.reduceLE, Int.reduceBEq, Int.reduceBNe, decide_true, decide_false, Bool.false_eq_true, false_imp_iff, Nat.lt_irrefl]
    refine Fin_plain ?_
    rcases hout with q | q
    · rw [q]; rfl
    · rw [q]; cases decide (lo < 0) <;> rfl
  have he : e1 = 0 ∧ e2 = 0 := by
    by_cases q1 : e1 = 0
    · by_cases q2 : e2 = 0
      · exact ⟨q1, q2⟩
      · simp [q1, q2] at hc
    · simp [q1] at hc
  obtain ⟨rfl, rfl⟩ := he
  have h1' : ag lo = true ∧ L1 = intsA (edgesL p lo p.T.length) := by
    rcases h1 with ⟨q, q2, _⟩ | ⟨_, _, q⟩
    · exact ⟨q, q2⟩
    · cases q
  have h2' : ag hi = true ∧ L2 = intsA (edgesL p hi p.T.length) := by
    rcases h2 with ⟨q, q2, _⟩ | ⟨_, _, q⟩
    · exact ⟨q, q2⟩
    · cases q
  obtain ⟨hag1, rfl⟩ := h1'
  obtain ⟨hag2, rfl⟩ := h2'
  have hr1 := (ag_iff _).1 hag1
  have hln1 : (edgesL p lo p.T.length).length = p.T.length := edges_len _ _ _
  have hln2 : (edgesL p hi p.T.length).length = p.T.length := edges_len _ _ _
  have hne := o.ne
  clear hr2 h1 h2
  simp only [go_sem, Nat.reduceMul, Nat.reduceLT, Nat.reduceLeDiff, Nat.reduceEqDiff, Nat.reduceBEq, Int.toNat_natCast, Int.reduceToNat, Int.reduceNeg, Int.reduceLT, Int.reduceLE, Int.reduceBEq, Int.reduceBNe, decide_true, decide_false, Bool.false_eq_true, false_imp_iff, Nat.lt_irrefl]
  refine ALoop.over [6, 15, 16, 80, 81, 82, 83, 84, 85, 86, 87, 88, 89, 90, 91, 92, 93, 94, 95, 96, 97, 98, 99, 100, 101, 102, 103, 104, 105, 106, 107, 108, 109, 110, 111, 112, 113, 114, 115, 116, 117, 118, 119, 120, 121, 122, 123, 124, 125, 126, 127, 128, 129, 130, 131, 132, 133, 134, 135, 136, 137, 138, 139, 140, 141, 142, 143] (fun e h' => h'[h.length + 1]? = some (.arr 0 3 [polA p]) ∧ ∃ k : Nat, k ≤ p.T.length ∧ e.getD 15 .any = .int .i64 (k : Int)) (fun e _ => p.T.length - natA (e.getD 15 .any)) ⟨by rw [List.getElem?_append_right (by omega), Nat.add_sub_cancel_left]; rfl, 0, by omega, rfl⟩ ?_
  simp only [List.length_cons, List.length_nil, Nat.reduceAdd, allL_succ, allL_zero]
  intro y6 y15 y16 y80 y81 y82 y83 y84 y85 y86 y87 y88 y89 y90 y91 y92 y93 y94 y95 y96 y97 y98 y99 y100 y101 y102 y103 y104 y105 y106 y107 y108 y109 y110 y111 y112 y113 y114 y115 y116 y117 y118 y119 y120 y121 y122 y123 y124 y125 y126 y127 y128 y129 y130 y131 y132 y133 y134 y135 y136 y137 y138 y139 y140 y141 y142 y143 h' hI
  simp only [go_sem] at hI
  obtain ⟨hP, k, hk, rfl⟩ := hI
  simp only [hpa] at hP
  simp only [go_sem, hln1, Nat.reduceMul, Nat.reduceLT, Nat.reduceLeDiff, Nat.reduceEqDiff, Nat.reduceBEq, Int.toNat_natCast, Int.reduceToNat, Int.reduceNeg, Int.reduceLT, Int.reduceLE, Int.reduceBEq, Int.reduceBNe, decide_true, decide_false, Bool.false_eq_true, false_imp_iff, Nat.lt_irrefl]
  refine acond_intro (fun hc => ?_) (fun hc => ?_)
  · have hlt : k < p.T.length := by have := of_decide_eq_true hc; omega
    have g1 := edges_get p lo p.T.length k hlt
    have g2 := edges_get p hi p.T.length k hlt
    have n1 := edge_time p o lo hi hlo k
    have n2 := edge_now p o lo hr1.1 k
    simp only [go_sem, hln1, Nat.reduceMul, Nat.reduceLT, Nat.reduceLeDiff, Nat.reduceEqDiff, Nat.reduceBEq, Int.toNat_natCast, Int.reduceToNat, Int.reduceNeg, Int.reduceLT, Int.reduceLE, Int.reduceBEq, Int.reduceBNe, decide_true, decide_false, Bool.false_eq_true, false_imp_iff, Nat.lt_irrefl]
    refine ADrawT.quiet mixedOrdersD (by kernel_rfl) ?_
    have d1 : decide (edgeZ p hi k < edgeZ p lo k) = false := by simp; omega
    have d2 : decide (lo < edgeZ p lo k) = false := by simp; omega
    have d3 : decide (edgeZ p lo k < 0) = false := by simp; omega
    have hb1 : min (k + 1) (p.T.length - 1) < p.T.length := by omega
    have hgb := tiers_get p.T (min (k + 1) (p.T.length - 1)) hb1
    have hgz : granZ p k = (p.T[min (k + 1) (p.T.length - 1)]).2.1 := by
      unfold granZ
      by_cases q : k + 1 < p.T.length
      · rw [dif_pos q]; congr 3; omega
      · rw [dif_neg q, dif_pos hlt]; congr 3; omega
    have hal : alS (edgeZ p lo k) (p.T[min (k + 1) (p.T.length - 1)]).2.1 = true := by
      rw [← hgz]
      unfold alS
      have e1 := gran_ok p o k
      have e2 := edge_mod p lo k
      have e3 := edge_now p o lo hr1.1 k
      rw [(gr_iff _).2 e1, Int.tmod_eq_emod_of_nonneg e3.2, e2]; rfl
    have hmn : (if ((p.T.length - 1 : Nat) : Int) < ((k + 1 : Nat) : Int) then ((p.T.length - 1 : Nat) : Int) else ((k + 1 : Nat) : Int)) = ((min (k + 1) (p.T.length - 1) : Nat) : Int) := by split <;> omega
    have hwk : IntKind.i64.wrap ((k : Int) + 1) = ((k + 1 : Nat) : Int) := by rw [wrap_id (by omega) (by omega)]; omega
    have hwl : IntKind.i64.wrap ((p.T.length : Int) - 1) = ((p.T.length - 1 : Nat) : Int) := by rw [wrap_id (by omega) (by omega)]; omega
    by_cases hk0 : k = 0
    · subst hk0
      simp only [Nat.zero_add] at hgb hb1 hal hmn
      have hw0 : IntKind.i64.wrap (((0 : Nat) : Int) - 1) = -1 := rfl
      have ht0 : (-1 : Int).toNat = 0 := rfl
      have d4 : decide ((0 : Int) < ((0 : Nat) : Int)) = false := rfl
      simp only [go_sem, g1, g2, hln1, hln2, d1, d2, d3, d4, hw0, ht0, cond_false, Nat.reduceMul, Nat.reduceLT, Nat.reduceLeDiff, Nat.reduceEqDiff, Nat.reduceBEq, Int.toNat_natCast, Int.reduceToNat, Int.reduceNeg, Int.reduceLT, Int.reduceLE, Int.reduceBEq, Int.reduceBNe, decide_true, decide_false, Bool.false_eq_true, false_imp_iff, Nat.lt_irrefl]
      simp only [go_sem, hwk, hwl, hP, Nat.reduceMul, Nat.reduceLT, Nat.reduceLeDiff, Nat.reduceEqDiff, Nat.reduceBEq, Int.toNat_natCast, Int.reduceToNat, Int.reduceNeg, Int.reduceLT, Int.reduceLE, Int.reduceBEq, Int.reduceBNe, decide_true, decide_false, Bool.false_eq_true, false_imp_iff, Nat.lt_irrefl]
      refine ⟨⟨by omega, by omega⟩, ⟨by omega, by omega⟩, ⟨by omega, by omega⟩, ⟨by omega, by omega⟩, ?_⟩
      refine ADrawT.quiet mixedOrdersD (by kernel_rfl) ?_
      simp only [go_sem, g1, hP, hln1, hmn, hgb, Nat.reduceMul, Nat.reduceLT, Nat.reduceLeDiff, Nat.reduceEqDiff, Nat.reduceBEq, Int.toNat_natCast, Int.reduceToNat, Int.reduceNeg, Int.reduceLT, Int.reduceLE, Int.reduceBEq, Int.reduceBNe, decide_true, decide_false, Bool.false_eq_true, false_imp_iff, Nat.lt_irrefl]
      refine ⟨⟨by omega, by omega⟩, ⟨by omega, by omega⟩, ?_⟩
      refine doX_intro (.bool true) ?_ ?_
      · simp only [go_sem, Nat.reduceMul, Nat.reduceLT, Nat.reduceLeDiff, Nat.reduceEqDiff, Nat.reduceBEq, Int.toNat_natCast, Int.reduceToNat, Int.reduceNeg, Int.reduceLT, Int.reduceLE, Int.reduceBEq, Int.reduceBNe, decide_true, decide_false, Bool.false_eq_true, false_imp_iff, Nat.lt_irrefl]
        refine ACallT.by (aligned_ok _ _ _) ?_
        rintro r h2 ⟨rfl, rfl⟩
        rw [hal]
        exact ⟨rfl, rfl⟩
      simp only [go_sem, Nat.reduceMul, Nat.reduceLT, Nat.reduceLeDiff, Nat.reduceEqDiff, Nat.reduceBEq, Int.toNat_natCast, Int.reduceToNat, Int.reduceNeg, Int.reduceLT, Int.reduceLE, Int.reduceBEq, Int.reduceBNe, decide_true, decide_false, Bool.false_eq_true, false_imp_iff, Nat.lt_irrefl]
      rw [wrap_id (by omega) (by omega)]
      exact ⟨⟨hP, 1, by omega, rfl⟩, by omega⟩
    · have hwr : IntKind.i64.wrap ((k : Int) - 1) = ((k - 1 : Nat) : Int) := by rw [wrap_id (by omega) (by omega)]; omega
      have g3 := edges_get p lo p.T.length (k - 1) (by omega)
      have n3 := edge_mono p o lo (k - 1) (by omega)
      rw [show k - 1 + 1 = k by omega] at n3
      have d5 : decide (edgeZ p lo (k - 1) < edgeZ p lo k) = false := by simp; omega
      have d4 : decide ((0 : Int) < (k : Int)) = true := by simp; omega
      simp only [go_sem, g1, g2, g3, hln1, hln2, d1, d2, d3, d4, d5, hwr, cond_false, cond_true, Nat.reduceMul, Nat.reduceLT, Nat.reduceLeDiff, Nat.reduceEqDiff, Nat.reduceBEq, Int.toNat_natCast, Int.reduceToNat, Int.reduceNeg, Int.reduceLT, Int.reduceLE, Int.reduceBEq, Int.reduceBNe, decide_true, decide_false, Bool.false_eq_true, false_imp_iff, Nat.lt_irrefl]
      simp only [go_sem, hwk, hwl, hP, Nat.reduceMul, Nat.reduceLT, Nat.reduceLeDiff, Nat.reduceEqDiff, Nat.reduceBEq, Int.toNat_natCast, Int.reduceToNat, Int.reduceNeg, Int.reduceLT, Int.reduceLE, Int.reduceBEq, Int.reduceBNe, decide_true, decide_false, Bool.false_eq_true, false_imp_iff, Nat.lt_irrefl]
      refine ⟨⟨by omega, by omega⟩, ⟨by omega, by omega⟩, ⟨by omega, by omega⟩, ⟨by omega, by omega⟩, ⟨by omega, by omega⟩, ⟨by omega, by omega⟩, ?_⟩
      refine ADrawT.quiet mixedOrdersD (by kernel_rfl) ?_
      simp only [go_sem, g1, hP, hln1, hmn, hgb, Nat.reduceMul, Nat.reduceLT, Nat.reduceLeDiff, Nat.reduceEqDiff, Nat.reduceBEq, Int.toNat_natCast, Int.reduceToNat, Int.reduceNeg, Int.reduceLT, Int.reduceLE, Int.reduceBEq, Int.reduceBNe, decide_true, decide_false, Bool.false_eq_true, false_imp_iff, Nat.lt_irrefl]
      refine ⟨⟨by omega, by omega⟩, ⟨by omega, by omega⟩, ?_⟩
      refine doX_intro (.bool true) ?_ ?_
      · simp only [go_sem, Nat.reduceMul, Nat.reduceLT, Nat.reduceLeDiff, Nat.reduceEqDiff, Nat.reduceBEq, Int.toNat_natCast, Int.reduceToNat, Int.reduceNeg, Int.reduceLT, Int.reduceLE, Int.reduceBEq, Int.reduceBNe, decide_true, decide_false, Bool.false_eq_true, false_imp_iff, Nat.lt_irrefl]
        refine ACallT.by (aligned_ok _ _ _) ?_
        rintro r h2 ⟨rfl, rfl⟩
        rw [hal]
        exact ⟨rfl, rfl⟩
      simp only [go_sem, Nat.reduceMul, Nat.reduceLT, Nat.reduceLeDiff, Nat.reduceEqDiff, Nat.reduceBEq, Int.toNat_natCast, Int.reduceToNat, Int.reduceNeg, Int.reduceLT, Int.reduceLE, Int.reduceBEq, Int.reduceBNe, decide_true, decide_false, Bool.false_eq_true, false_imp_iff, Nat.lt_irrefl]
      rw [wrap_id (by omega) (by omega)]
      exact ⟨⟨hP, k + 1, by omega, rfl⟩, by omega⟩
  · simp only [go_sem, hln1, hP, Nat.reduceMul, Nat.reduceLT, Nat.reduceLeDiff, Nat.reduceEqDiff, Nat.reduceBEq, Int.toNat_natCast, Int.reduceToNat, Int.reduceNeg, Int.reduceLT, Int.reduceLE, Int.reduceBEq, Int.reduceBNe, decide_true, decide_false, Bool.false_eq_true, false_imp_iff, Nat.lt_irrefl]
    have hz := hed 0
    refine ACallT.frame (hz _) ?_
    intro r h2 hr3
    obtain ⟨c3, L3, e3, rfl, hlow, h3⟩ := edgesK_any hr3
    refine ⟨hlow, ?_⟩
    have hag0 : ag 0 = true := by decide
    obtain ⟨rfl, rfl⟩ : L3 = intsA (edgesL p 0 p.T.length) ∧ e3 = 0 := by
      rcases h3 with ⟨_, q1, q2⟩ | ⟨q, _⟩
      · exact ⟨q1, q2⟩
      · rw [hag0] at q; cases q
    have hln3 : (edgesL p 0 p.T.length).length = p.T.length := edges_len _ _ _
    simp only [go_sem, Nat.reduceMul, Nat.reduceLT, Nat.reduceLeDiff, Nat.reduceEqDiff, Nat.reduceBEq, Int.toNat_natCast, Int.reduceToNat, Int.reduceNeg, Int.reduceLT, Int.reduceLE, Int.reduceBEq, Int.reduceBNe, decide_true, decide_false, Bool.false_eq_true, false_imp_iff, Nat.lt_irrefl]
    refine ALoop.over [6, 19, 149, 150, 151, 152, 153, 154, 155, 156, 157, 158, 159] (fun e h' => h'[h.length + 1]? = some (.arr 0 3 [polA p]) ∧ ∃ k : Nat, k ≤ p.T.length ∧ e.getD 19 .any = .int .i64 (k : Int)) (fun e _ => p.T.length - natA (e.getD 19 .any)) ⟨by simp only [hpa]; exact hP, 0, by omega, rfl⟩ ?_
    simp only [List.length_cons, List.length_nil, Nat.reduceAdd, allL_succ, allL_zero]
    intro y6 y19 y149 y150 y151 y152 y153 y154 y155 y156 y157 y158 y159 h' hI
    simp only [go_sem] at hI
    obtain ⟨hP, k, hk, rfl⟩ := hI
    simp only [hpa] at hP
    simp only [go_sem, hln3, Nat.reduceMul, Nat.reduceLT, Nat.reduceLeDiff, Nat.reduceEqDiff, Nat.reduceBEq, Int.toNat_natCast, Int.reduceToNat, Int.reduceNeg, Int.reduceLT, Int.reduceLE, Int.reduceBEq, Int.reduceBNe, decide_true, decide_false, Bool.false_eq_true, false_imp_iff, Nat.lt_irrefl]
    refine acond_intro (fun hc => ?_) (fun hc => ?_)
    · have hlt : k < p.T.length := by have := of_decide_eq_true hc; omega
      have g3 := edges_get p 0 p.T.length k hlt
      rw [edge_zero p o k] at g3
      simp only [go_sem, g3, hln3, Nat.reduceMul, Nat.reduceLT, Nat.reduceLeDiff, Nat.reduceEqDiff, Nat.reduceBEq, Int.toNat_natCast, Int.reduceToNat, Int.reduceNeg, Int.reduceLT, Int.reduceLE, Int.reduceBEq, Int.reduceBNe, decide_true, decide_false, Bool.false_eq_true, false_imp_iff, Nat.lt_irrefl]
      refine ⟨⟨by omega, by omega⟩, ?_⟩
      rw [wrap_id (by omega) (by omega)]
      exact ⟨⟨hP, k + 1, by omega, rfl⟩, by omega⟩
    · simp only [go_sem, Nat.reduceMul, Nat.reduceLT, Nat.reduceLeDiff, Nat.reduceEqDiff, Nat.reduceBEq, Int.toNat_natCast, Int.reduceToNat, Int.reduceNeg, Int.reduceLT, Int.reduceLE, Int.reduceBEq, Int.reduceBNe, decide_true, decide_false, Bool.false_eq_true, false_imp_iff, Nat.lt_irrefl]
      refine live ?_
      simp only [go_sem, hP, hln1, Nat.reduceMul, Nat.reduceLT, Nat.reduceLeDiff, Nat.reduceEqDiff, Nat.reduceBEq, Int.toNat_natCast, Int.reduceToNat, Int.reduceNeg, Int.reduceLT, Int.reduceLE, Int.reduceBEq, Int.reduceBNe, decide_true, decide_false, Bool.false_eq_true, false_imp_iff, Nat.lt_irrefl]
      refine Fin_plain ?_
      simp
end Go.Proofs.Vale
