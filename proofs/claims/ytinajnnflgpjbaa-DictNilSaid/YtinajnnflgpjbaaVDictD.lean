/- YtinajnnflgpjbaaVDictD: a text of the proof of this claim, by its prover. -/
import Derived.Test.YtinajnnflgpjbaaVDictC
set_option linter.unusedVariables false
set_option linter.unusedSimpArgs false
set_option maxHeartbeats 4000000
set_option maxRecDepth 100000
namespace Go.Proofs.Vale
open Go.Proofs Go.Proofs.YtinajnnflgpjbaaT
attribute [local irreducible] acode aopsL aopsT dopsL dopsT pop popG aop ALoop ADraw ACall AWP AFin acondT ALoopT ADrawT ACallT doP doG doGd

/-- How many bytes two texts begin with alike. -/
def cmn : Str → Str → Nat
  | x :: a, y :: b => if x = y then cmn a b + 1 else 0
  | _, _ => 0
theorem cmn_spec : ∀ (a b : Str) (k : Nat), k ≤ a.length → k ≤ b.length → a.take k = b.take k → (∀ (h1 : k < a.length) (h2 : k < b.length), a[k] ≠ b[k]) → cmn a b = k
  | [], b, k, h1, h2, h3, h4 => by simp at h1; subst h1; cases b <;> rfl
  | x :: a, [], k, h1, h2, h3, h4 => by simp at h2; subst h2; rfl
  | x :: a, y :: b, 0, h1, h2, h3, h4 => by
    have := h4 (by simp) (by simp)
    simp only [List.getElem_cons_zero] at this
    simp [cmn, this]
  | x :: a, y :: b, k + 1, h1, h2, h3, h4 => by
    simp only [List.take_succ_cons, List.cons.injEq] at h3
    simp only [cmn, h3.1, if_true]
    rw [cmn_spec a b k (by simpa using h1) (by simpa using h2) h3.2 (fun p q => by
      have := h4 (by simp; omega) (by simp; omega)
      simpa using this)]
theorem cmn_le : ∀ (a b : Str), cmn a b ≤ a.length ∧ cmn a b ≤ b.length
  | [], b => by cases b <;> simp [cmn]
  | x :: a, [] => by simp [cmn]
  | x :: a, y :: b => by
    have := cmn_le a b
    simp only [cmn]; split <;> simp <;> omega
theorem common_ok (a b : Str) (h : List AObj) (ha : a.length ≤ 4611686018427387904) (hb : b.length ≤ 4611686018427387904) : ACall Try.prog 52 [.str a, .str b] h (fun r _ => r = .int .i64 (cmn a b)) := by
  (refine ACall.of_code Try.func52 rfl ?_; simp only [Try.f52]; simp only [go_sem, Nat.reduceMul, Nat.reduceLT, Nat.reduceLeDiff, Nat.reduceEqDiff, Nat.reduceBEq, Int.toNat_natCast, Int.reduceToNat, Int.reduceNeg, Int.reduceLT, Int.reduceLE, Int.reduceBEq, Int.reduceBNe, decide_true, decide_false, Bool.false_eq_true, false_imp_iff, Nat.lt_irrefl])
  generalize hm : (if ((b.length : Int) < (a.length : Int)) then (b.length : Int) else (a.length : Int)) = m
  obtain ⟨m, rfl, hma, hmb, hmm⟩ : ∃ k : Nat, m = (k : Int) ∧ k ≤ a.length ∧ k ≤ b.length ∧ (k = a.length ∨ k = b.length) := by
    rw [← hm]; split
    · exact ⟨b.length, rfl, by omega, by omega, .inr rfl⟩
    · exact ⟨a.length, rfl, by omega, by omega, .inl rfl⟩
  refine ALoop.over [4, 6, 13, 14, 15, 16, 17, 18, 19, 20, 21, 22, 23, 24] (fun e h' => ∃ k : Nat, k ≤ m ∧ e.getD 13 .any = .int .i64 k ∧ a.take k = b.take k) (fun e _ => m - natA (e.getD 13 .any)) ⟨0, by simp, rfl, by simp⟩ ?_
  simp only [List.length_cons, List.length_nil, Nat.reduceAdd, allL_succ, allL_zero]
  intro y4 y6 y13 y14 y15 y16 y17 y18 y19 y20 y21 y22 y23 y24 h' hI
  simp only [go_sem] at hI
  obtain ⟨k, hk, rfl, hlo⟩ := hI
  simp only [go_sem, Nat.reduceMul, Nat.reduceLT, Nat.reduceLeDiff, Nat.reduceEqDiff, Nat.reduceBEq, Int.toNat_natCast, Int.reduceToNat, Int.reduceNeg, Int.reduceLT, Int.reduceLE, Int.reduceBEq, Int.reduceBNe, decide_true, decide_false, Bool.false_eq_true, false_imp_iff, Nat.lt_irrefl]
  refine acond_intro (fun hc => ?_) (fun hc => ?_)
  · have hlt : k < m := by have := of_decide_eq_true hc; omega
    simp only [go_sem, Nat.reduceMul, Nat.reduceLT, Nat.reduceLeDiff, Nat.reduceEqDiff, Nat.reduceBEq, Int.toNat_natCast, Int.reduceToNat, Int.reduceNeg, Int.reduceLT, Int.reduceLE, Int.reduceBEq, Int.reduceBNe, decide_true, decide_false, Bool.false_eq_true, false_imp_iff, Nat.lt_irrefl]
    refine ADrawT.quiet mixedOrdersD (by kernel_rfl) ?_
    simp only [go_sem, Nat.reduceMul, Nat.reduceLT, Nat.reduceLeDiff, Nat.reduceEqDiff, Nat.reduceBEq, Int.toNat_natCast, Int.reduceToNat, Int.reduceNeg, Int.reduceLT, Int.reduceLE, Int.reduceBEq, Int.reduceBNe, decide_true, decide_false, Bool.false_eq_true, false_imp_iff, Nat.lt_irrefl]
    refine ⟨⟨by omega, by omega⟩, ⟨by omega, by omega⟩, ?_⟩
    have hka : k < a.length := by omega
    have hkb : k < b.length := by omega
    have ea : a.getD k 0 = a[k] := by rw [List.getD_eq_getElem?_getD, List.getElem?_eq_getElem hka]; rfl
    have eb : b.getD k 0 = b[k] := by rw [List.getD_eq_getElem?_getD, List.getElem?_eq_getElem hkb]; rfl
    refine acond_intro (fun hc => ?_) (fun hc => ?_)
    · simp only [go_sem, Nat.reduceMul, Nat.reduceLT, Nat.reduceLeDiff, Nat.reduceEqDiff, Nat.reduceBEq, Int.toNat_natCast, Int.reduceToNat, Int.reduceNeg, Int.reduceLT, Int.reduceLE, Int.reduceBEq, Int.reduceBNe, decide_true, decide_false, Bool.false_eq_true, false_imp_iff, Nat.lt_irrefl]
      refine Fin_plain ?_
      rw [cmn_spec a b k (by omega) (by omega) hlo (fun p q e => by rw [ea, eb, e] at hc; simp at hc)]
    · simp only [go_sem, Nat.reduceMul, Nat.reduceLT, Nat.reduceLeDiff, Nat.reduceEqDiff, Nat.reduceBEq, Int.toNat_natCast, Int.reduceToNat, Int.reduceNeg, Int.reduceLT, Int.reduceLE, Int.reduceBEq, Int.reduceBNe, decide_true, decide_false, Bool.false_eq_true, false_imp_iff, Nat.lt_irrefl]
      rw [wrap_id (by omega) (by omega)]
      refine ⟨⟨k + 1, by omega, rfl, ?_⟩, by omega⟩
      rw [List.take_succ_eq_append_getElem hka, List.take_succ_eq_append_getElem hkb, hlo]
      have : a[k] = b[k] := by
        rw [ea, eb] at hc
        have : (a[k].toNat : Int) = (b[k].toNat : Int) := by simpa using hc
        exact UInt8.toNat_inj.1 (by omega)
      rw [this]
  · have hge : k = m := by have := of_decide_eq_false hc; omega
    simp only [go_sem, Nat.reduceMul, Nat.reduceLT, Nat.reduceLeDiff, Nat.reduceEqDiff, Nat.reduceBEq, Int.toNat_natCast, Int.reduceToNat, Int.reduceNeg, Int.reduceLT, Int.reduceLE, Int.reduceBEq, Int.reduceBNe, decide_true, decide_false, Bool.false_eq_true, false_imp_iff, Nat.lt_irrefl]
    refine Fin_plain ?_
    subst hge
    rw [cmn_spec a b k hma hmb hlo (fun p q => by omega)]
/-- The bytes of the texts l behind the text last. -/
def encF : Str → List Str → Str
  | _, [] => []
  | last, s :: r => vb (2 * cmn last s) ++ (vb (2 * (s.drop (cmn last s)).length) ++ s.drop (cmn last s)) ++ encF s r
theorem encF_app : ∀ (p : List Str) (last s : Str), encF last (p ++ [s]) = encF last p ++ (vb (2 * cmn (p.getLastD last) s) ++ (vb (2 * (s.drop (cmn (p.getLastD last) s)).length) ++ s.drop (cmn (p.getLastD last) s)))
  | [], last, s => by simp [encF]
  | q :: p, last, s => by
    rw [List.cons_append, encF, encF, encF_app p q s, List.getLastD_cons]
    simp [List.append_assoc]
def bytesF (l : List Str) : Str := vb (2 * l.length) ++ encF [] l
theorem encF_len : ∀ (l : List Str) (last : Str) (m : Nat), m ≤ 10000000000 → (∀ s ∈ l, s.length ≤ m) → (encF last l).length ≤ l.length * (m + 20)
  | [], last, m, hm, h => by simp [encF]
  | s :: r, last, m, hm, h => by
    have h1 := h s (by simp)
    have h2 := encF_len r s m hm fun t ht => h t (by simp [ht])
    have h3 := (cmn_le last s).2
    have h4 := vb_len (2 * cmn last s) (by omega)
    have h5 := vb_len (2 * (s.drop (cmn last s)).length) (by simp; omega)
    simp only [encF, List.length_append, List.length_cons, List.length_drop] at h5 ⊢
    rw [Nat.add_mul]; omega
theorem bytes_ok (d : Option Bool) (l : List Str) (h : List AObj) (hl : l.length ≤ 100000) (hs : ∀ s ∈ l, s.length ≤ 100000) : ACall Try.prog 34 [dictA d l] h (fun r _ => r = .fz false (bytesA (bytesF (dictL d l)))) := by
  have hl2 : (dictL d l).length ≤ 100000 := by cases d <;> simp [dictL, hl]
  have hs2 : ∀ s ∈ dictL d l, s.length ≤ 100000 := by cases d <;> simp [dictL]; exact hs
  (refine ACall.of_code Try.func34 rfl ?_; simp only [Try.f34]; simp only [go_sem, Nat.reduceMul, Nat.reduceLT, Nat.reduceLeDiff, Nat.reduceEqDiff, Nat.reduceBEq, Int.toNat_natCast, Int.reduceToNat, Int.reduceNeg, Int.reduceLT, Int.reduceLE, Int.reduceBEq, Int.reduceBNe, decide_true, decide_false, Bool.false_eq_true, false_imp_iff, Nat.lt_irrefl])
  (refine ACallT.pure (by simp only [go_sem, Nat.reduceMul, Nat.reduceLT, Nat.reduceLeDiff, Nat.reduceEqDiff, Nat.reduceBEq, Int.toNat_natCast, Int.reduceToNat, Int.reduceNeg, Int.reduceLT, Int.reduceLE, Int.reduceBEq, Int.reduceBNe, decide_true, decide_false, Bool.false_eq_true, false_imp_iff, Nat.lt_irrefl]; rfl) (by first | trivial | assumption | (simp only [go_sem, Nat.reduceMul, Nat.reduceLT, Nat.reduceLeDiff, Nat.reduceEqDiff, Nat.reduceBEq, Int.toNat_natCast, Int.reduceToNat, Int.reduceNeg, Int.reduceLT, Int.reduceLE, Int.reduceBEq, Int.reduceBNe, decide_true, decide_false, Bool.false_eq_true, false_imp_iff, Nat.lt_irrefl]; done) | (simp only [go_sem, Nat.reduceMul, Nat.reduceLT, Nat.reduceLeDiff, Nat.reduceEqDiff, Nat.reduceBEq, Int.toNat_natCast, Int.reduceToNat, Int.reduceNeg, Int.reduceLT, Int.reduceLE, Int.reduceBEq, Int.reduceBNe, decide_true, decide_false, Bool.false_eq_true, false_imp_iff, Nat.lt_irrefl]; first | trivial | assumption | omega | decide | (refine ⟨?_, ?_⟩ <;> first | trivial | assumption | omega | decide))) (len_ok d l _) ?_; refine fun _ _ e => ?_; subst e; refine ⟨rfl, ?_⟩; simp only [go_sem, Nat.reduceMul, Nat.reduceLT, Nat.reduceLeDiff, Nat.reduceEqDiff, Nat.reduceBEq, Int.toNat_natCast, Int.reduceToNat, Int.reduceNeg, Int.reduceLT, Int.reduceLE, Int.reduceBEq, Int.reduceBNe, decide_true, decide_false, Bool.false_eq_true, false_imp_iff, Nat.lt_irrefl])
  (refine ACallT.frame (int_fz true [] (dictL d l).length _ (by omega) (by simp)) ?_; refine fun _ _ e => ?_; subst e; refine ⟨by (first | rfl | (simp only [AV.low, lowL, low_strs, low_bytes, Bool.and_true, Bool.and_self])), ?_⟩; simp only [go_sem, Nat.reduceMul, Nat.reduceLT, Nat.reduceLeDiff, Nat.reduceEqDiff, Nat.reduceBEq, Int.toNat_natCast, Int.reduceToNat, Int.reduceNeg, Int.reduceLT, Int.reduceLE, Int.reduceBEq, Int.reduceBNe, decide_true, decide_false, Bool.false_eq_true, false_imp_iff, Nat.lt_irrefl])
  (refine ACallT.frame (all_ok' d l _) ?_; refine fun _ _ e => ?_; subst e; refine ⟨by (first | rfl | (simp only [AV.low, lowL, low_strs, low_bytes, Bool.and_true, Bool.and_self])), ?_⟩; simp only [go_sem, Nat.reduceMul, Nat.reduceLT, Nat.reduceLeDiff, Nat.reduceEqDiff, Nat.reduceBEq, Int.toNat_natCast, Int.reduceToNat, Int.reduceNeg, Int.reduceLT, Int.reduceLE, Int.reduceBEq, Int.reduceBNe, decide_true, decide_false, Bool.false_eq_true, false_imp_iff, Nat.lt_irrefl])
  generalize dictL d l = m at *
  refine ALoop.over [3, 4, 6, 7, 14, 15, 16, 17, 18, 19, 20, 21, 22, 23, 24, 25, 26, 27, 28, 29] (fun e h' => ∃ k : Nat, k ≤ m.length ∧ e.getD 14 .any = .int .i64 k ∧ e.getD 3 .any = .fz false (bytesA (vb (2 * m.length) ++ encF [] (m.take k))) ∧ e.getD 4 .any = .str ((m.take k).getLastD [])) (fun e _ => m.length - natA (e.getD 14 .any)) ⟨0, by simp, rfl, by simp [encF], by simp⟩ ?_
  simp only [List.length_cons, List.length_nil, Nat.reduceAdd, allL_succ, allL_zero]
  intro y3 y4 y6 y7 y14 y15 y16 y17 y18 y19 y20 y21 y22 y23 y24 y25 y26 y27 y28 y29 h' hI
  simp only [go_sem] at hI
  obtain ⟨k, hk, rfl, rfl, rfl⟩ := hI
  simp only [go_sem, Nat.reduceMul, Nat.reduceLT, Nat.reduceLeDiff, Nat.reduceEqDiff, Nat.reduceBEq, Int.toNat_natCast, Int.reduceToNat, Int.reduceNeg, Int.reduceLT, Int.reduceLE, Int.reduceBEq, Int.reduceBNe, decide_true, decide_false, Bool.false_eq_true, false_imp_iff, Nat.lt_irrefl]
  refine acond_intro (fun hc => ?_) (fun hc => ?_)
  · have hlt : k < m.length := by have := of_decide_eq_true hc; omega
    simp only [go_sem, strs_get m k hlt, Nat.reduceMul, Nat.reduceLT, Nat.reduceLeDiff, Nat.reduceEqDiff, Nat.reduceBEq, Int.toNat_natCast, Int.reduceToNat, Int.reduceNeg, Int.reduceLT, Int.reduceLE, Int.reduceBEq, Int.reduceBNe, decide_true, decide_false, Bool.false_eq_true, false_imp_iff, Nat.lt_irrefl]
    refine ⟨⟨by omega, by omega⟩, ?_⟩
    have hkl : m[k].length ≤ 100000 := hs2 _ (List.getElem_mem _)
    have hpl : (m.take k).getLastD [] = [] ∨ (m.take k).getLastD [] ∈ m := by
      cases q : m.take k with
      | nil => exact .inl rfl
      | cons a r =>
        right
        have : (a :: r).getLastD [] ∈ a :: r := by rw [List.getLastD_eq_getLast?, List.getLast?_eq_some_getLast (by simp)]; exact List.getLast_mem _
        rw [← q] at this ⊢
        exact List.mem_of_mem_take this
    have hpl2 : ((m.take k).getLastD []).length ≤ 100000 := by
      rcases hpl with e | e
      · rw [e]; simp
      · exact hs2 _ e
    have hel := encF_len (m.take k) [] 100000 (by omega) fun s hs => hs2 s (List.mem_of_mem_take hs)
    have hel2 : (encF [] (m.take k)).length ≤ 100000 * 100020 := Nat.le_trans hel (Nat.mul_le_mul_right _ (by simp; omega))
    have hvl := vb_len (2 * m.length) (by omega)
    generalize hla : (m.take k).getLastD [] = la at *
    (refine ACallT.pure (by simp only [go_sem, Nat.reduceMul, Nat.reduceLT, Nat.reduceLeDiff, Nat.reduceEqDiff, Nat.reduceBEq, Int.toNat_natCast, Int.reduceToNat, Int.reduceNeg, Int.reduceLT, Int.reduceLE, Int.reduceBEq, Int.reduceBNe, decide_true, decide_false, Bool.false_eq_true, false_imp_iff, Nat.lt_irrefl]; rfl) (by first | trivial | assumption | (simp only [go_sem, Nat.reduceMul, Nat.reduceLT, Nat.reduceLeDiff, Nat.reduceEqDiff, Nat.reduceBEq, Int.toNat_natCast, Int.reduceToNat, Int.reduceNeg, Int.reduceLT, Int.reduceLE, Int.reduceBEq, Int.reduceBNe, decide_true, decide_false, Bool.false_eq_true, false_imp_iff, Nat.lt_irrefl]; done) | (simp only [go_sem, Nat.reduceMul, Nat.reduceLT, Nat.reduceLeDiff, Nat.reduceEqDiff, Nat.reduceBEq, Int.toNat_natCast, Int.reduceToNat, Int.reduceNeg, Int.reduceLT, Int.reduceLE, Int.reduceBEq, Int.reduceBNe, decide_true, decide_false, Bool.false_eq_true, false_imp_iff, Nat.lt_irrefl]; first | trivial | assumption | omega | decide | (refine ⟨?_, ?_⟩ <;> first | trivial | assumption | omega | decide))) (common_ok la m[k] _ (by omega) (by omega)) ?_; refine fun _ _ e => ?_; subst e; refine ⟨rfl, ?_⟩; simp only [go_sem, Nat.reduceMul, Nat.reduceLT, Nat.reduceLeDiff, Nat.reduceEqDiff, Nat.reduceBEq, Int.toNat_natCast, Int.reduceToNat, Int.reduceNeg, Int.reduceLT, Int.reduceLE, Int.reduceBEq, Int.reduceBNe, decide_true, decide_false, Bool.false_eq_true, false_imp_iff, Nat.lt_irrefl])
    have hcl := (cmn_le la m[k]).2
    have hvl2 := vb_len (2 * cmn la m[k]) (by omega)
    generalize hpre : vb (2 * m.length) ++ encF [] (List.take k m) = pre
    have hprel : pre.length ≤ 100000 * 100020 + 10 := by rw [← hpre, List.length_append]; omega
    refine ADrawT.quiet mixedOrdersD (by kernel_rfl) ?_
    simp only [go_sem, Nat.reduceMul, Nat.reduceLT, Nat.reduceLeDiff, Nat.reduceEqDiff, Nat.reduceBEq, Int.toNat_natCast, Int.reduceToNat, Int.reduceNeg, Int.reduceLT, Int.reduceLE, Int.reduceBEq, Int.reduceBNe, decide_true, decide_false, Bool.false_eq_true, false_imp_iff, Nat.lt_irrefl]
    refine doX_intro (.fz false (bytesA (pre ++ vb (2 * cmn la m[k])))) ?_ ?_
    · simp only [go_sem, Nat.reduceMul, Nat.reduceLT, Nat.reduceLeDiff, Nat.reduceEqDiff, Nat.reduceBEq, Int.toNat_natCast, Int.reduceToNat, Int.reduceNeg, Int.reduceLT, Int.reduceLE, Int.reduceBEq, Int.reduceBNe, decide_true, decide_false, Bool.false_eq_true, false_imp_iff, Nat.lt_irrefl]
      (refine ACallT.frame (int_fz false pre (cmn la m[k]) _ (by omega) (by omega)) ?_; refine fun _ _ e => ?_; subst e; refine ⟨by (first | rfl | (simp only [AV.low, lowL, low_strs, low_bytes, Bool.and_true, Bool.and_self])), ?_⟩; simp only [go_sem, Nat.reduceMul, Nat.reduceLT, Nat.reduceLeDiff, Nat.reduceEqDiff, Nat.reduceBEq, Int.toNat_natCast, Int.reduceToNat, Int.reduceNeg, Int.reduceLT, Int.reduceLE, Int.reduceBEq, Int.reduceBNe, decide_true, decide_false, Bool.false_eq_true, false_imp_iff, Nat.lt_irrefl])
    simp only [go_sem, Nat.reduceMul, Nat.reduceLT, Nat.reduceLeDiff, Nat.reduceEqDiff, Nat.reduceBEq, Int.toNat_natCast, Int.reduceToNat, Int.reduceNeg, Int.reduceLT, Int.reduceLE, Int.reduceBEq, Int.reduceBNe, decide_true, decide_false, Bool.false_eq_true, false_imp_iff, Nat.lt_irrefl]
    refine ⟨⟨by omega, by omega, by omega⟩, ?_⟩
    have hdl : (List.drop (cmn la m[k]) m[k]).length ≤ 100000 := by simp; omega
    refine doX_intro (.fz false (bytesA ((pre ++ vb (2 * cmn la m[k])) ++ (vb (2 * (List.drop (cmn la m[k]) m[k]).length) ++ List.drop (cmn la m[k]) m[k])))) ?_ ?_
    · simp only [go_sem, Nat.reduceMul, Nat.reduceLT, Nat.reduceLeDiff, Nat.reduceEqDiff, Nat.reduceBEq, Int.toNat_natCast, Int.reduceToNat, Int.reduceNeg, Int.reduceLT, Int.reduceLE, Int.reduceBEq, Int.reduceBNe, decide_true, decide_false, Bool.false_eq_true, false_imp_iff, Nat.lt_irrefl]
      (refine ACallT.frame (text_fz false (pre ++ vb (2 * cmn la m[k])) (List.drop (cmn la m[k]) m[k]) _ (by omega) (by rw [List.length_append]; omega)) ?_; refine fun _ _ e => ?_; subst e; refine ⟨by (first | rfl | (simp only [AV.low, lowL, low_strs, low_bytes, Bool.and_true, Bool.and_self])), ?_⟩; simp only [go_sem, Nat.reduceMul, Nat.reduceLT, Nat.reduceLeDiff, Nat.reduceEqDiff, Nat.reduceBEq, Int.toNat_natCast, Int.reduceToNat, Int.reduceNeg, Int.reduceLT, Int.reduceLE, Int.reduceBEq, Int.reduceBNe, decide_true, decide_false, Bool.false_eq_true, false_imp_iff, Nat.lt_irrefl])
    simp only [go_sem, Nat.reduceMul, Nat.reduceLT, Nat.reduceLeDiff, Nat.reduceEqDiff, Nat.reduceBEq, Int.toNat_natCast, Int.reduceToNat, Int.reduceNeg, Int.reduceLT, Int.reduceLE, Int.reduceBEq, Int.reduceBNe, decide_true, decide_false, Bool.false_eq_true, false_imp_iff, Nat.lt_irrefl]
    rw [wrap_id (by omega) (by omega)]
    refine ⟨⟨k + 1, by omega, rfl, ?_, ?_⟩, by omega⟩
    · rw [← hpre, List.take_succ_eq_append_getElem hlt, encF_app, hla]; simp [List.append_assoc]
    · rw [List.take_succ_eq_append_getElem hlt, List.getLastD_concat]
  · simp only [go_sem, Nat.reduceMul, Nat.reduceLT, Nat.reduceLeDiff, Nat.reduceEqDiff, Nat.reduceBEq, Int.toNat_natCast, Int.reduceToNat, Int.reduceNeg, Int.reduceLT, Int.reduceLE, Int.reduceBEq, Int.reduceBNe, decide_true, decide_false, Bool.false_eq_true, false_imp_iff, Nat.lt_irrefl]
    refine Fin_plain ?_
    have hge : k = m.length := by have := of_decide_eq_false hc; omega
    subst hge
    rw [List.take_length]; rfl
end Go.Proofs.Vale
