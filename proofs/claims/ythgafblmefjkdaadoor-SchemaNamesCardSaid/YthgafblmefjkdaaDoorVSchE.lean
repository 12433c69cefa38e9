/- YthgafblmefjkdaaDoorVSchE: a text of the proof of this claim, by its prover. -/
import Derived.Test.YthgafblmefjkdaaDoorVSchD
set_option linter.unusedVariables false
set_option linter.unusedSimpArgs false
set_option maxHeartbeats 4000000
set_option maxRecDepth 100000
namespace Go.Proofs.Vale
open Go.Proofs Go.Proofs.YthgafblmefjkdaaDoorT
attribute [local irreducible] acode aopsL aopsT dopsL dopsT pop popG aop ALoop ADraw ACall AWP AFin acondT ALoopT ADrawT ACallT doP doG doGd

/-! ### Values -/
theorem below_lay {β : Beta} {fr : Nat → Prop} {w w' : World} {h : List AObj} (L : Lay β fr w.heap h) (B : Go.RowKit.Below w.heap.size w w') : Lay β fr w'.heap h ∧ Step1 β fr h w β fr h w' := by
  have same := B.block
  have E : Ext β fr w.heap β fr w'.heap := ⟨fun _ _ _ e => e, fun _ e => e, fun b hb => same b (L.frlt b hb), fun t g b c e f hb hc => ⟨c, f, by rw [same b (L.lt _ _ _ hb)]; exact hc, rfl⟩⟩
  refine ⟨?_, ?_⟩
  · exact { frlt := fun b hb => Nat.lt_of_lt_of_le (L.frlt b hb) B.size, ownfr := L.ownfr, lt := fun t g b hb => Nat.lt_of_lt_of_le (L.lt t g b hb) B.size, inj := L.inj
            obj := fun t o ho => (L.obj t o ho).ext E fun g b _ hb => same b (L.lt _ _ _ hb), dom := L.dom, top := L.top, tab := fun b cs q => ⟨(L.tab b cs q).1, by rw [E.cells b (L.tab b cs q).1]; exact (L.tab b cs q).2⟩ }
  · exact { ext := E, os := B.os, tape := B.tape, output := B.output, size := B.size, keep := fun b hb _ => same b hb, prov := fun b e => .inl e, frz := fun b e => .inl e }
theorem two_args {β : Beta} {fr : Nat → Prop} {H : Array Obj} {s t : Str} {us : Array Value} (R : CellsRep β fr H [.str s, .str t] us) : ∃ a b : ByteArray, us = #[.string a, .string b] ∧ a.data.toList = s ∧ b.data.toList = t := by
  obtain ⟨hvs, hv⟩ := R
  obtain ⟨v, hv1, hv2⟩ := hv 0 (by simp)
  obtain ⟨u, hu1, hu2⟩ := hv 1 (by simp)
  simp only [List.getElem_cons_zero, List.getElem_cons_succ, Rep] at hv2 hu2
  obtain ⟨a, rfl, ha⟩ := hv2
  obtain ⟨b, rfl, hb⟩ := hu2
  refine ⟨a, b, ?_, ha, hb⟩
  apply Array.ext_getElem?
  intro i
  rcases i with _ | _ | i
  · rw [hv1]; rfl
  · rw [hu1]; rfl
  · rw [Array.getElem?_eq_none (by rw [hvs]; simp), Array.getElem?_eq_none (by simp)]
def ascii (s : Str) : Bool := s.all fun b => decide (b.toNat < 128)
theorem bsize (b : ByteArray) : b.size = b.data.toList.length := by show b.data.size = _; rw [Array.length_toList]
theorem containsAny_ok (s t : Str) (h : List AObj) (hs : s.length < 4294967281) (ht : t.length < 4294967281) (ha : ascii s = true) (hb : ascii t = true) : ACall Tryd.prog 21 [.str s, .str t] h (fun r h' => r = .bool (Lib.containsAny s t) ∧ h' = h) := by
  unfold ACall; intro w β fr us L Rr
  obtain ⟨a, b, rfl, rfl, rfl⟩ := two_args Rr
  refine (Tryd.strings_ContainsAny_laid a b w (by rw [bsize]; exact hs) (by rw [bsize]; exact ht) (fun j x hx => ?_) (fun j x hx => ?_)).mono ?_
  · have := List.all_eq_true.1 ha x (List.mem_of_getElem? hx); simpa using this
  · have := List.all_eq_true.1 hb x (List.mem_of_getElem? hx); simpa using this
  rintro e w' ⟨rfl, B⟩
  obtain ⟨L', S'⟩ := below_lay L B
  exact ⟨_, _, _, β, fr, rfl, ⟨rfl, rfl⟩, L', by simp [Rep], S'⟩
theorem cany0 (t : Str) : ∀ s : Str, 0 ≤ Lib.indexAny s t ↔ (s.any fun b => t.contains b) = true := by
  intro s
  induction s with
  | nil => simp [Lib.indexAny]
  | cons b s ih =>
    rw [Lib.indexAny, List.any_cons]
    have := Lib.indexAny_ge t s
    by_cases hb : t.contains b = true
    · rw [if_pos hb, hb]; simp
    · have hb2 : t.contains b = false := by simpa using hb
      rw [if_neg hb, hb2, Bool.false_or, ← ih]
      by_cases q : (Lib.indexAny s t == -1) = true
      · rw [if_pos q]
        have : Lib.indexAny s t = -1 := by simpa using q
        rw [this]
      · rw [if_neg q]
        have : Lib.indexAny s t ≠ -1 := by simpa using q
        omega
theorem cany (t : Str) (s : Str) : Lib.containsAny s t = s.any fun b => t.contains b := by
  rw [Lib.containsAny, Bool.eq_iff_iff, decide_eq_true_iff, cany0]
def badR (r : Int) : Bool := bif decide (r < 32) then true else decide (126 < r)
def badB (b : UInt8) : Bool := badR (b.toNat : Int)
theorem bad_ok (r : Int) (h : List AObj) : ACall Tryd.prog 23 [.int .i32 r] h (fun x h' => x = .bool (badR r) ∧ h' = h) := by
  (refine ACall.of_code Tryd.func23 rfl ?_; simp only [Tryd.f23]; simp only [go_sem, Nat.reduceMul, Nat.reduceLT, Nat.reduceLeDiff, Nat.reduceEqDiff, Nat.reduceBEq, Int.toNat_natCast, Int.reduceToNat, Int.reduceNeg, Int.reduceLT, Int.reduceLE, Int.reduceBEq, Int.reduceBNe, decide_true, decide_false, Bool.false_eq_true, false_imp_iff, Nat.lt_irrefl])
  refine Fin_plain ⟨?_, rfl⟩
  simp only [badR]
theorem bad_eq (s : Str) (k : Nat) (h : k < s.length) : badB s[k] = badR (dcA s k).1 ∧ (badR (dcA s k).1 = false → (dcA s k).2 = 1) := by
  by_cases hl : (s[k]).toNat < 128
  · rw [dc_lo s k h hl]; exact ⟨rfl, fun _ => rfl⟩
  · have hh := dc_hi s k h hl
    have e : badR (dcA s k).1 = true := by
      simp only [badR]
      rw [show decide ((126 : Int) < ((dcA s k).1 : Int)) = true by simp; omega]
      cases decide (((dcA s k).1 : Int) < 32) <;> rfl
    rw [e]
    refine ⟨?_, fun q => by cases q⟩
    simp only [badB, badR]
    rw [show decide ((126 : Int) < ((s[k]).toNat : Int)) = true by simp; omega]
    cases decide (((s[k]).toNat : Int) < 32) <;> rfl
theorem indexFunc_ok (s : Str) (h : List AObj) (hs : s.length ≤ 9223372036854775807) : ACall Tryd.prog 53 [.str s, .func (.func 23) [] [], .bool true] h (fun r _ => ∃ i : Int, r = .int .i64 i ∧ decide (0 ≤ i) = s.any badB) := by
  (refine ACall.of_code Tryd.func53 rfl ?_; simp only [Tryd.f53]; simp only [go_sem, Nat.reduceMul, Nat.reduceLT, Nat.reduceLeDiff, Nat.reduceEqDiff, Nat.reduceBEq, Int.toNat_natCast, Int.reduceToNat, Int.reduceNeg, Int.reduceLT, Int.reduceLE, Int.reduceBEq, Int.reduceBNe, decide_true, decide_false, Bool.false_eq_true, false_imp_iff, Nat.lt_irrefl])
  refine ALoop.over [6, 7, 8, 11, 12, 13, 14, 15, 16, 17, 18, 19, 20] (fun e h' => ∃ k : Nat, k ≤ s.length ∧ h' = h ++ [.it s k] ∧ (s.take k).any badB = false) (fun e h' => s.length - (match h'[h.length]? with | some (.it _ k) => k | _ => 0)) ⟨0, by omega, rfl, rfl⟩ ?_
  simp only [List.length_cons, List.length_nil, Nat.reduceAdd, allL_succ, allL_zero]
  intro y6 y7 y8 y11 y12 y13 y14 y15 y16 y17 y18 y19 y20 h' hI
  obtain ⟨k, hk, rfl, hA⟩ := hI
  simp only [go_sem, getElem?_app0, Nat.reduceMul, Nat.reduceLT, Nat.reduceLeDiff, Nat.reduceEqDiff, Nat.reduceBEq, Int.toNat_natCast, Int.reduceToNat, Int.reduceNeg, Int.reduceLT, Int.reduceLE, Int.reduceBEq, Int.reduceBNe, decide_true, decide_false, Bool.false_eq_true, false_imp_iff, Nat.lt_irrefl]
  refine nxG_intro (fun hp => ?_) (fun hp => ?_)
  · simp only [go_sem, Nat.reduceMul, Nat.reduceLT, Nat.reduceLeDiff, Nat.reduceEqDiff, Nat.reduceBEq, Int.toNat_natCast, Int.reduceToNat, Int.reduceNeg, Int.reduceLT, Int.reduceLE, Int.reduceBEq, Int.reduceBNe, decide_true, decide_false, Bool.false_eq_true, false_imp_iff, Nat.lt_irrefl]
    obtain ⟨hL, hW⟩ := bad_eq s k hp
    refine ACallT.by (bad_ok _ _) ?_
    rintro r h1 ⟨rfl, rfl⟩
    generalize hb : badR (dcA s k).1 = z at *
    cases z with
    | true =>
      simp only [go_sem, Nat.reduceMul, Nat.reduceLT, Nat.reduceLeDiff, Nat.reduceEqDiff, Nat.reduceBEq, Int.toNat_natCast, Int.reduceToNat, Int.reduceNeg, Int.reduceLT, Int.reduceLE, Int.reduceBEq, Int.reduceBNe, decide_true, decide_false, Bool.false_eq_true, false_imp_iff, Nat.lt_irrefl]
      refine Fin_plain ⟨k, rfl, ?_⟩
      have : s.any badB = true := by rw [List.any_eq_true]; exact ⟨s[k], List.getElem_mem _, hL⟩
      rw [this]; simp
    | false =>
      rw [hW rfl]
      simp only [go_sem, getElem?_app0, set_app0, Nat.reduceMul, Nat.reduceLT, Nat.reduceLeDiff, Nat.reduceEqDiff, Nat.reduceBEq, Int.toNat_natCast, Int.reduceToNat, Int.reduceNeg, Int.reduceLT, Int.reduceLE, Int.reduceBEq, Int.reduceBNe, decide_true, decide_false, Bool.false_eq_true, false_imp_iff, Nat.lt_irrefl]
      refine ⟨⟨k + 1, by omega, rfl, ?_⟩, Nat.sub_lt_sub_left hp (Nat.lt_succ_self k)⟩
      rw [List.take_succ_eq_append_getElem hp, List.any_append, hA]; simp [hL]
  · simp only [go_sem, Nat.reduceMul, Nat.reduceLT, Nat.reduceLeDiff, Nat.reduceEqDiff, Nat.reduceBEq, Int.toNat_natCast, Int.reduceToNat, Int.reduceNeg, Int.reduceLT, Int.reduceLE, Int.reduceBEq, Int.reduceBNe, decide_true, decide_false, Bool.false_eq_true, false_imp_iff, Nat.lt_irrefl]
    have : k = s.length := by omega
    subst this
    refine Fin_plain ⟨-1, rfl, ?_⟩
    rw [List.take_length] at hA
    rw [hA]; rfl
theorem indexF_ok (s : Str) (h : List AObj) (hs : s.length ≤ 9223372036854775807) : ACall Tryd.prog 40 [.str s, .func (.func 23) [] []] h (fun r _ => ∃ i : Int, r = .int .i64 i ∧ decide (0 ≤ i) = s.any badB) := by
  (refine ACall.of_code Tryd.func40 rfl ?_; simp only [Tryd.f40]; simp only [go_sem, Nat.reduceMul, Nat.reduceLT, Nat.reduceLeDiff, Nat.reduceEqDiff, Nat.reduceBEq, Int.toNat_natCast, Int.reduceToNat, Int.reduceNeg, Int.reduceLT, Int.reduceLE, Int.reduceBEq, Int.reduceBNe, decide_true, decide_false, Bool.false_eq_true, false_imp_iff, Nat.lt_irrefl])
  refine ACallT.by (indexFunc_ok s _ hs) ?_
  rintro r h1 ⟨i, rfl, hi⟩
  simp only [go_sem, Nat.reduceMul, Nat.reduceLT, Nat.reduceLeDiff, Nat.reduceEqDiff, Nat.reduceBEq, Int.toNat_natCast, Int.reduceToNat, Int.reduceNeg, Int.reduceLT, Int.reduceLE, Int.reduceBEq, Int.reduceBNe, decide_true, decide_false, Bool.false_eq_true, false_imp_iff, Nat.lt_irrefl]
  exact Fin_plain ⟨i, rfl, hi⟩
theorem containsF_ok (s : Str) (h : List AObj) (hs : s.length ≤ 9223372036854775807) : ACall Tryd.prog 22 [.str s, .func (.func 23) [] []] h (fun r _ => r = .bool (s.any badB)) := by
  (refine ACall.of_code Tryd.func22 rfl ?_; simp only [Tryd.f22]; simp only [go_sem, Nat.reduceMul, Nat.reduceLT, Nat.reduceLeDiff, Nat.reduceEqDiff, Nat.reduceBEq, Int.toNat_natCast, Int.reduceToNat, Int.reduceNeg, Int.reduceLT, Int.reduceLE, Int.reduceBEq, Int.reduceBNe, decide_true, decide_false, Bool.false_eq_true, false_imp_iff, Nat.lt_irrefl])
  refine ACallT.by (indexF_ok s _ hs) ?_
  rintro r h1 ⟨i, rfl, hi⟩
  simp only [go_sem, Nat.reduceMul, Nat.reduceLT, Nat.reduceLeDiff, Nat.reduceEqDiff, Nat.reduceBEq, Int.toNat_natCast, Int.reduceToNat, Int.reduceNeg, Int.reduceLT, Int.reduceLE, Int.reduceBEq, Int.reduceBNe, decide_true, decide_false, Bool.false_eq_true, false_imp_iff, Nat.lt_irrefl]
  exact Fin_plain (by rw [hi])
def valueS (s : Str) : Bool := decide (s.length ≤ 24) && !(s.any fun b => [(34 : UInt8), 92].contains b) && !(s.any badB)
theorem value_ok (s : Str) (h : List AObj) (hs : s.length ≤ 9223372036854775807) (ha : ascii s = true) : ACall Tryd.prog 10 [.str s] h (fun r _ => r = .bool (valueS s)) := by
  (refine ACall.of_code Tryd.func10 rfl ?_; simp only [Tryd.f10]; simp only [go_sem, Nat.reduceMul, Nat.reduceLT, Nat.reduceLeDiff, Nat.reduceEqDiff, Nat.reduceBEq, Int.toNat_natCast, Int.reduceToNat, Int.reduceNeg, Int.reduceLT, Int.reduceLE, Int.reduceBEq, Int.reduceBNe, decide_true, decide_false, Bool.false_eq_true, false_imp_iff, Nat.lt_irrefl])
  generalize hz : decide (((List.length s : Nat) : Int) ≤ 24) = z
  cases z with
  | false =>
    simp only [go_sem, Nat.reduceMul, Nat.reduceLT, Nat.reduceLeDiff, Nat.reduceEqDiff, Nat.reduceBEq, Int.toNat_natCast, Int.reduceToNat, Int.reduceNeg, Int.reduceLT, Int.reduceLE, Int.reduceBEq, Int.reduceBNe, decide_true, decide_false, Bool.false_eq_true, false_imp_iff, Nat.lt_irrefl]
    have := of_decide_eq_false hz
    refine Fin_plain ?_
    rw [valueS, decide_eq_false (by omega)]; rfl
  | true =>
    have := of_decide_eq_true hz
    simp only [go_sem, Nat.reduceMul, Nat.reduceLT, Nat.reduceLeDiff, Nat.reduceEqDiff, Nat.reduceBEq, Int.toNat_natCast, Int.reduceToNat, Int.reduceNeg, Int.reduceLT, Int.reduceLE, Int.reduceBEq, Int.reduceBNe, decide_true, decide_false, Bool.false_eq_true, false_imp_iff, Nat.lt_irrefl]
    refine ACallT.by (containsAny_ok s _ _ (by omega) (by decide) ha (by decide)) ?_
    rintro r h1 ⟨rfl, rfl⟩
    rw [cany]
    generalize hz2 : (s.any fun b => [(34 : UInt8), 92].contains b) = z2
    cases z2 with
    | true =>
      simp only [go_sem, Nat.reduceMul, Nat.reduceLT, Nat.reduceLeDiff, Nat.reduceEqDiff, Nat.reduceBEq, Int.toNat_natCast, Int.reduceToNat, Int.reduceNeg, Int.reduceLT, Int.reduceLE, Int.reduceBEq, Int.reduceBNe, decide_true, decide_false, Bool.false_eq_true, false_imp_iff, Nat.lt_irrefl]
      refine Fin_plain ?_
      rw [valueS, hz2]; simp
    | false =>
      simp only [go_sem, Nat.reduceMul, Nat.reduceLT, Nat.reduceLeDiff, Nat.reduceEqDiff, Nat.reduceBEq, Int.toNat_natCast, Int.reduceToNat, Int.reduceNeg, Int.reduceLT, Int.reduceLE, Int.reduceBEq, Int.reduceBNe, decide_true, decide_false, Bool.false_eq_true, false_imp_iff, Nat.lt_irrefl]
      refine ACallT.by (containsF_ok s _ hs) ?_
      rintro r h2 rfl
      simp only [go_sem, Nat.reduceMul, Nat.reduceLT, Nat.reduceLeDiff, Nat.reduceEqDiff, Nat.reduceBEq, Int.toNat_natCast, Int.reduceToNat, Int.reduceNeg, Int.reduceLT, Int.reduceLE, Int.reduceBEq, Int.reduceBNe, decide_true, decide_false, Bool.false_eq_true, false_imp_iff, Nat.lt_irrefl]
      refine Fin_plain ?_
      rw [valueS, hz2, decide_eq_true (by omega)]; rfl
end Go.Proofs.Vale
