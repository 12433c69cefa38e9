/- YtchboekipfpheaaDoorVLexP: a text of the proof of this claim, by its prover. -/
import Derived.Test.YtchboekipfpheaaDoorVLexM
set_option linter.unusedVariables false
set_option linter.unusedSimpArgs false
set_option maxHeartbeats 4000000
set_option maxRecDepth 100000
namespace Go.Proofs.Vale
open Go.Proofs Go.Proofs.YtchboekipfpheaaDoorT
attribute [local irreducible] acode aopsL aopsT dopsL dopsT dmL dmT pop popG aop ALoop ADraw ACall AWP AFin acondT ALoopT ADrawT ACallT doP doG doGd

/-! ### Equal tokens; a token's own text -/
theorem sameT_eq (x y : Tok) : (x.1 == y.1 && (x.2.1 == y.2.1 && x.2.2 == y.2.2)) = decide (x = y) := by
  obtain ⟨a, b, c⟩ := x; obtain ⟨d, e, f⟩ := y
  by_cases h1 : a = d <;> by_cases h2 : b = e <;> by_cases h3 : c = f <;> simp [h1, h2, h3]
theorem same_ok (a b : List Tok) (c1 c2 : Bool) (h : List AObj) (ha : a.length ≤ 9223372036854775000) (hb : b.length ≤ 9223372036854775000) : ACall Tryd.prog 10 [.fz c1 (toks a), .fz c2 (toks b)] h (fun r h' => r = .bool (decide (a = b)) ∧ h' = h) := by
  (refine ACall.of_code Tryd.func10 rfl ?_; simp only [Tryd.f10]; simp only [go_sem, Nat.reduceMul, Nat.reduceLT, Nat.reduceLeDiff, Nat.reduceEqDiff, Nat.reduceBEq, Int.toNat_natCast, Int.reduceToNat, Int.reduceNeg, Int.reduceLT, Int.reduceLE, Int.reduceBEq, Int.reduceBNe, decide_true, decide_false, Bool.false_eq_true, false_imp_iff, Nat.lt_irrefl])
  refine acond_intro (fun hc => ?_) (fun hc => ?_)
  · simp only [go_sem, Nat.reduceMul, Nat.reduceLT, Nat.reduceLeDiff, Nat.reduceEqDiff, Nat.reduceBEq, Int.toNat_natCast, Int.reduceToNat, Int.reduceNeg, Int.reduceLT, Int.reduceLE, Int.reduceBEq, Int.reduceBNe, decide_true, decide_false, Bool.false_eq_true, false_imp_iff, Nat.lt_irrefl]
    refine Fin_plain ⟨?_, rfl⟩
    have : a ≠ b := by rintro rfl; simp at hc
    simp [this]
  have hl : a.length = b.length := by have q : (a.length : Int) = b.length := by simpa using hc
                                      omega
  simp only [go_sem, Nat.reduceMul, Nat.reduceLT, Nat.reduceLeDiff, Nat.reduceEqDiff, Nat.reduceBEq, Int.toNat_natCast, Int.reduceToNat, Int.reduceNeg, Int.reduceLT, Int.reduceLE, Int.reduceBEq, Int.reduceBNe, decide_true, decide_false, Bool.false_eq_true, false_imp_iff, Nat.lt_irrefl]
  refine ALoop.over [4, 5, 11, 12, 13, 14, 15, 16, 17, 18, 19, 20, 21, 22, 23, 24, 25] (fun e h' => h' = h ∧ ∃ k : Nat, k ≤ a.length ∧ e.getD 5 .any = .int .i64 (k : Int) ∧ a.take k = b.take k) (fun e _ => a.length - natA (e.getD 5 .any)) ⟨rfl, 0, by omega, rfl, rfl⟩ ?_
  simp only [List.length_cons, List.length_nil, Nat.reduceAdd, allL_succ, allL_zero]
  intro y4 y5 y11 y12 y13 y14 y15 y16 y17 y18 y19 y20 y21 y22 y23 y24 y25 h' hI
  simp only [go_sem] at hI
  obtain ⟨rfl, k, hk, rfl, hT⟩ := hI
  simp only [go_sem, Nat.reduceMul, Nat.reduceLT, Nat.reduceLeDiff, Nat.reduceEqDiff, Nat.reduceBEq, Int.toNat_natCast, Int.reduceToNat, Int.reduceNeg, Int.reduceLT, Int.reduceLE, Int.reduceBEq, Int.reduceBNe, decide_true, decide_false, Bool.false_eq_true, false_imp_iff, Nat.lt_irrefl]
  refine acond_intro (fun hc => ?_) (fun hc => ?_)
  · have hlt : k < a.length := by have := of_decide_eq_true hc; omega
    have hlt2 : k < b.length := by omega
    have hg := toks_get a k hlt
    have hg2 := toks_get b k hlt2
    simp only [go_sem, Nat.reduceMul, Nat.reduceLT, Nat.reduceLeDiff, Nat.reduceEqDiff, Nat.reduceBEq, Int.toNat_natCast, Int.reduceToNat, Int.reduceNeg, Int.reduceLT, Int.reduceLE, Int.reduceBEq, Int.reduceBNe, decide_true, decide_false, Bool.false_eq_true, false_imp_iff, Nat.lt_irrefl]
    refine ADrawT.quiet mixedOrdersD (by kernel_rfl) ?_
    simp only [go_sem, hg, hg2, Nat.reduceMul, Nat.reduceLT, Nat.reduceLeDiff, Nat.reduceEqDiff, Nat.reduceBEq, Int.toNat_natCast, Int.reduceToNat, Int.reduceNeg, Int.reduceLT, Int.reduceLE, Int.reduceBEq, Int.reduceBNe, decide_true, decide_false, Bool.false_eq_true, false_imp_iff, Nat.lt_irrefl]
    simp only [tokA]
    simp only [go_sem, Nat.reduceMul, Nat.reduceLT, Nat.reduceLeDiff, Nat.reduceEqDiff, Nat.reduceBEq, Int.toNat_natCast, Int.reduceToNat, Int.reduceNeg, Int.reduceLT, Int.reduceLE, Int.reduceBEq, Int.reduceBNe, decide_true, decide_false, Bool.false_eq_true, false_imp_iff, Nat.lt_irrefl]
    refine ⟨⟨by omega, by omega⟩, ⟨by omega, by omega⟩, ?_⟩
    have e : (a[k].fst == b[k].fst && (a[k].snd.fst == b[k].snd.fst && a[k].snd.snd == b[k].snd.snd)) = decide (a[k] = b[k]) := sameT_eq a[k] b[k]
    rw [e]
    refine acond_intro (fun hd => ?_) (fun hd => ?_)
    · simp only [go_sem, Nat.reduceMul, Nat.reduceLT, Nat.reduceLeDiff, Nat.reduceEqDiff, Nat.reduceBEq, Int.toNat_natCast, Int.reduceToNat, Int.reduceNeg, Int.reduceLT, Int.reduceLE, Int.reduceBEq, Int.reduceBNe, decide_true, decide_false, Bool.false_eq_true, false_imp_iff, Nat.lt_irrefl]
      refine Fin_plain ⟨?_, rfl⟩
      have hd' : a[k] ≠ b[k] := by simpa using hd
      have : a ≠ b := by rintro rfl; exact hd' rfl
      simp [this]
    · have hd' : a[k] = b[k] := by simpa using hd
      simp only [go_sem, Nat.reduceMul, Nat.reduceLT, Nat.reduceLeDiff, Nat.reduceEqDiff, Nat.reduceBEq, Int.toNat_natCast, Int.reduceToNat, Int.reduceNeg, Int.reduceLT, Int.reduceLE, Int.reduceBEq, Int.reduceBNe, decide_true, decide_false, Bool.false_eq_true, false_imp_iff, Nat.lt_irrefl]
      rw [wrap_id (by omega) (by omega)]
      exact ⟨⟨k + 1, by omega, rfl, by rw [List.take_succ_eq_append_getElem hlt, List.take_succ_eq_append_getElem hlt2, hT, hd']⟩, by omega⟩
  · have hk2 : k = a.length := by have := of_decide_eq_false hc; omega
    subst hk2
    simp only [go_sem, Nat.reduceMul, Nat.reduceLT, Nat.reduceLeDiff, Nat.reduceEqDiff, Nat.reduceBEq, Int.toNat_natCast, Int.reduceToNat, Int.reduceNeg, Int.reduceLT, Int.reduceLE, Int.reduceBEq, Int.reduceBNe, decide_true, decide_false, Bool.false_eq_true, false_imp_iff, Nat.lt_irrefl]
    refine Fin_plain ⟨?_, rfl⟩
    rw [List.take_length, hl, List.take_length] at hT
    simp [hT]
def standS (t : Tok) : Str := if t.1 = 2 then 34 :: (t.2.1 ++ [34]) else t.2.1
theorem stands_ok (t : Tok) (h : List AObj) (ht : t.2.1.length ≤ 9223372036854775000) : ACall Tryd.prog 22 [tokA t] h (fun r _ => r = .str (standS t)) := by
  simp only [tokA]
  (refine ACall.of_code Tryd.func22 rfl ?_; simp only [Tryd.f22]; simp only [go_sem, Nat.reduceMul, Nat.reduceLT, Nat.reduceLeDiff, Nat.reduceEqDiff, Nat.reduceBEq, Int.toNat_natCast, Int.reduceToNat, Int.reduceNeg, Int.reduceLT, Int.reduceLE, Int.reduceBEq, Int.reduceBNe, decide_true, decide_false, Bool.false_eq_true, false_imp_iff, Nat.lt_irrefl])
  refine acond_intro (fun hc => ?_) (fun hc => ?_)
  · have h2 : t.1 = 2 := by simpa using hc
    simp only [go_sem, Nat.reduceMul, Nat.reduceLT, Nat.reduceLeDiff, Nat.reduceEqDiff, Nat.reduceBEq, Int.toNat_natCast, Int.reduceToNat, Int.reduceNeg, Int.reduceLT, Int.reduceLE, Int.reduceBEq, Int.reduceBNe, decide_true, decide_false, Bool.false_eq_true, false_imp_iff, Nat.lt_irrefl]
    refine ⟨by omega, by omega, Fin_plain ?_⟩
    rw [standS, if_pos h2]
  · have h2 : ¬ t.1 = 2 := by simpa using hc
    simp only [go_sem, Nat.reduceMul, Nat.reduceLT, Nat.reduceLeDiff, Nat.reduceEqDiff, Nat.reduceBEq, Int.toNat_natCast, Int.reduceToNat, Int.reduceNeg, Int.reduceLT, Int.reduceLE, Int.reduceBEq, Int.reduceBNe, decide_true, decide_false, Bool.false_eq_true, false_imp_iff, Nat.lt_irrefl]
    refine Fin_plain ?_
    rw [standS, if_neg h2]
theorem join_ok (l : List Str) (sep : Str) (c : Bool) (h : List AObj) (hl : l.length ≤ 140737488355328) (hj : (Lib.join l sep).length ≤ 140737488355328) : ACall Tryd.prog 23 [.fz c (strs l), .str sep] h (fun r h' => r = .str (Lib.join l sep) ∧ h' = h) := by
  unfold ACall; intro w β fr us L Rr
  obtain ⟨hvs, hv⟩ := Rr
  obtain ⟨v, hv1, hv2⟩ := hv 0 (by simp)
  obtain ⟨u, hu1, hu2⟩ := hv 1 (by simp)
  simp only [List.getElem_cons_zero, List.getElem_cons_succ, Rep] at hv2 hu2
  obtain ⟨a, cap, rfl, hcap, -, hel⟩ := hv2
  obtain ⟨b, rfl, rfl⟩ := hu2
  obtain rfl : us = #[.slice a (strs l).length cap, .string b] := by
    apply Array.ext_getElem?
    intro i
    rcases i with _ | _ | i
    · rw [hv1]; rfl
    · rw [hu1]; rfl
    · rw [Array.getElem?_eq_none (by rw [hvs]; simp), Array.getElem?_eq_none (by simp)]
  have hsl : (strs l).length = l.length := by simp [strs]
  rw [hsl] at hcap ⊢
  by_cases he : l = []
  · subst he
    refine (Tryd.strings_Join_none a cap b w).mono ?_
    rintro e w' ⟨rfl, rfl⟩
    refine ⟨_, _, _, β, fr, rfl, ⟨rfl, rfl⟩, L, ?_, Step1.refl _ _ _ _⟩
    simp only [Rep]
    exact ⟨_, rfl, rfl⟩
  · obtain ⟨ad, s, rfl, hfr, hsp, hs, hcell⟩ := hel (by intro q; exact he (by simpa [strs] using q))
    have hs1 : s = 1 := by
      obtain ⟨x, hx⟩ := List.exists_mem_of_ne_nil l he
      rw [← hs (.str x) (by simp only [strs, List.mem_map]; exact ⟨x, hx, rfl⟩)]; rfl
    subst hs1
    obtain ⟨bk, o, sp⟩ := ad
    simp only at hsp hfr hcell
    subst hsp
    have hcl : ∀ i (hi : i < l.length), ∃ y : ByteArray, cellAt w.heap bk (o + i) = some (.string y) ∧ y.data.toList = l[i] := by
      intro i hi
      have e1 : (strs l)[i]'(by rw [hsl]; exact hi) = .str l[i] := by simp [strs]
      obtain ⟨u, h1, h2⟩ := hcell i (by rw [hsl]; exact hi) 0 (by rw [e1]; exact Nat.zero_lt_one)
      simp only [e1] at h2
      have e2 : ∀ p : 0 < (AV.str l[i]).cells.length, (AV.cells (.str l[i]))[0]'p = .str l[i] := fun _ => rfl
      rw [e2] at h2
      simp only [Rep] at h2
      obtain ⟨y, rfl, hy⟩ := h2
      refine ⟨y, ?_, hy⟩
      rw [← h1]; congr 1; omega
    have hxs : (l.map fun x => (⟨x.toArray⟩ : ByteArray)).map (·.data.toList) = l := by simp [List.map_map, Function.comp_def]
    have hw : ∀ (j : Nat) (x : ByteArray), (l.map fun x => (⟨x.toArray⟩ : ByteArray))[j]? = some x → w.cell? ⟨bk, o + j, none⟩ = some (.string x) := by
      intro j x hx
      rw [cell?_eq _ _ rfl]
      rw [List.getElem?_map] at hx
      rcases hq : l[j]? with _ | q
      · rw [hq] at hx; cases hx
      · rw [hq] at hx
        injection hx with hx
        obtain ⟨hj1, hj2⟩ := List.getElem?_eq_some_iff.1 hq
        obtain ⟨y, h1, h2⟩ := hcl j hj1
        simp only
        rw [h1, ← hx]
        have : y = ⟨q.toArray⟩ := by
          have h3 : y.data = q.toArray := by rw [← Array.toArray_toList (xs := y.data), h2, hj2]
          cases y; simp_all
        rw [this]
    have z := Tryd.strings_Join bk o cap (l.map fun x => (⟨x.toArray⟩ : ByteArray)) b w hw (L.frlt bk hfr) (by rw [List.length_map]; exact hl) (by rw [List.length_map]; exact hcap) (by rw [hxs]; exact hj)
    rw [List.length_map, hxs] at z
    refine z.mono ?_
    rintro e w' ⟨rfl, B⟩
    obtain ⟨L', S'⟩ := below_lay L B
    refine ⟨_, _, _, β, fr, rfl, ⟨rfl, rfl⟩, L', ?_, S'⟩
    simp only [Rep]
    exact ⟨_, rfl, by simp⟩
end Go.Proofs.Vale

set_option linter.unusedVariables false
set_option linter.unusedSimpArgs false
set_option maxHeartbeats 4000000
set_option maxRecDepth 100000
namespace Go.Proofs.Vale
open Go.Proofs Go.Proofs.YtchboekipfpheaaDoorT
attribute [local irreducible] acode aopsL aopsT dopsL dopsT dmL dmT pop popG aop ALoop ADraw ACall AWP AFin acondT ALoopT ADrawT ACallT doP doG doGd

/-! ### The tokens' text, by the program and by the document -/
def textS (l : List Tok) : Str := Lib.join (l.map standS) [32]
/-- Tokens few and short enough. -/
def few (l : List Tok) : Prop := l.length ≤ 1000 ∧ ∀ t ∈ l, t.2.1.length ≤ 1000
theorem join_snoc (l : List Str) (x sep : Str) (h : l ≠ []) : Lib.join (l ++ [x]) sep = Lib.join l sep ++ sep ++ x := by
  cases l with
  | nil => exact absurd rfl h
  | cons y r => rw [List.cons_append, Lib.join_cons, Lib.join_cons]; simp [Lib.joinTail, List.append_assoc]
theorem textS_step (l : List Tok) (k : Nat) (h : k < l.length) : textS (l.take (k + 1)) = (if 0 < k then textS (l.take k) ++ [32] else textS (l.take k)) ++ standS l[k] := by
  unfold textS
  rw [List.take_succ_eq_append_getElem h, List.map_append, List.map_cons, List.map_nil]
  by_cases q : 0 < k
  · rw [if_pos q, join_snoc _ _ _ (by intro z; have := congrArg List.length z; rw [List.length_map, List.length_take] at this; simp only [List.length_nil] at this; omega)]
  · obtain rfl : k = 0 := by omega
    simp [Lib.join_one, Lib.join_nil]
theorem stand_len (t : Tok) : (standS t).length ≤ t.2.1.length + 2 := by
  unfold standS; split <;> simp
theorem textS_len (l : List Tok) (h : few l) : ∀ k, k ≤ l.length → (textS (l.take k)).length ≤ 1003 * k
  | 0, _ => by simp [textS, Lib.join_nil]
  | k + 1, hk => by
    have ih := textS_len l h k (by omega)
    have hs := stand_len l[k]
    have hl := h.2 l[k] (List.getElem_mem _)
    rw [textS_step l k (by omega)]
    split <;> simp <;> omega
theorem few_get {l : List Tok} (h : few l) {k : Nat} (hk : k < l.length) : (l[k]).2.1.length ≤ 1000 := h.2 _ (List.getElem_mem _)
theorem text_ok (l : List Tok) (c : Bool) (h : List AObj) (hf : few l) : ACall Tryd.prog 13 [.fz c (toks l)] h (fun r _ => r = .str (textS l)) := by
  have hl1 := hf.1
  (refine ACall.of_code Tryd.func13 rfl ?_; simp only [Tryd.f13]; simp only [go_sem, Nat.reduceMul, Nat.reduceLT, Nat.reduceLeDiff, Nat.reduceEqDiff, Nat.reduceBEq, Int.toNat_natCast, Int.reduceToNat, Int.reduceNeg, Int.reduceLT, Int.reduceLE, Int.reduceBEq, Int.reduceBNe, decide_true, decide_false, Bool.false_eq_true, false_imp_iff, Nat.lt_irrefl])
  refine ALoop.over [3, 5, 8, 9, 10, 11, 12, 13, 14, 15, 16, 17] (fun e h' => ∃ k : Nat, k ≤ l.length ∧ e.getD 8 .any = .int .i64 (k : Int) ∧ ((e.getD 3 .any = .fz true [] ∧ k = 0) ∨ ∃ tg g, tg < h'.length ∧ e.getD 3 .any = .sl tg g 1 0 k ∧ h'[tg]? = some (.arr g 1 (strs ((l.take k).map standS))))) (fun e _ => l.length - natA (e.getD 8 .any)) ⟨0, by omega, rfl, .inl ⟨rfl, rfl⟩⟩ ?_
  simp only [List.length_cons, List.length_nil, Nat.reduceAdd, allL_succ, allL_zero]
  intro y3 y5 y8 y9 y10 y11 y12 y13 y14 y15 y16 y17 h' hI
  simp only [go_sem] at hI
  obtain ⟨k, hk, rfl, hX⟩ := hI
  simp only [go_sem, Nat.reduceMul, Nat.reduceLT, Nat.reduceLeDiff, Nat.reduceEqDiff, Nat.reduceBEq, Int.toNat_natCast, Int.reduceToNat, Int.reduceNeg, Int.reduceLT, Int.reduceLE, Int.reduceBEq, Int.reduceBNe, decide_true, decide_false, Bool.false_eq_true, false_imp_iff, Nat.lt_irrefl]
  refine acond_intro (fun hc => ?_) (fun hc => ?_)
  · have hlt : k < l.length := by have := of_decide_eq_true hc; omega
    have hg : (toks l).getD k .any = .agg [.int .i64 l[k].1, .str l[k].2.1, .int .i64 l[k].2.2] := toks_get l k hlt
    have hml : (List.map standS (List.take k l)).length = k := by rw [List.length_map, List.length_take]; omega
    have hstep : List.map standS (l.take (k + 1)) = List.map standS (l.take k) ++ [standS l[k]] := by rw [List.take_succ_eq_append_getElem hlt, List.map_append]; rfl
    have hlk := few_get hf hlt
    simp only [go_sem, hg, Nat.reduceMul, Nat.reduceLT, Nat.reduceLeDiff, Nat.reduceEqDiff, Nat.reduceBEq, Int.toNat_natCast, Int.reduceToNat, Int.reduceNeg, Int.reduceLT, Int.reduceLE, Int.reduceBEq, Int.reduceBNe, decide_true, decide_false, Bool.false_eq_true, false_imp_iff, Nat.lt_irrefl]
    refine ⟨⟨by omega, by omega⟩, ?_⟩
    refine ACallT.frame (stands_ok l[k] _ (by omega)) ?_
    rintro r h2 rfl
    refine ⟨rfl, ?_⟩
    rcases hX with ⟨rfl, rfl⟩ | ⟨tg, g, htl, rfl, hg3⟩
    · simp only [go_sem, Nat.reduceMul, Nat.reduceLT, Nat.reduceLeDiff, Nat.reduceEqDiff, Nat.reduceBEq, Int.toNat_natCast, Int.reduceToNat, Int.reduceNeg, Int.reduceLT, Int.reduceLE, Int.reduceBEq, Int.reduceBNe, decide_true, decide_false, Bool.false_eq_true, false_imp_iff, Nat.lt_irrefl]
      refine ⟨fun q => absurd q (by simp), fun _ => ?_⟩
      rw [wrap_id (by omega) (by omega)]
      refine ⟨⟨1, by omega, rfl, .inr ⟨_, _, ?_, rfl, ?_⟩⟩, by omega⟩
      · simp
      · rw [getElem?_app]; rw [hstep]; rfl
    · have hgx : ∀ x, (h' ++ x)[tg]? = some (AObj.arr g 1 (strs ((l.take k).map standS))) := fun x => by rw [List.getElem?_append_left htl]; exact hg3
      simp only [go_sem, hgx, hml, Nat.reduceMul, Nat.reduceLT, Nat.reduceLeDiff, Nat.reduceEqDiff, Nat.reduceBEq, Int.toNat_natCast, Int.reduceToNat, Int.reduceNeg, Int.reduceLT, Int.reduceLE, Int.reduceBEq, Int.reduceBNe, decide_true, decide_false, Bool.false_eq_true, false_imp_iff, Nat.lt_irrefl]
      refine ⟨⟨by omega, by omega⟩, ?_⟩
      rw [wrap_id (by omega) (by omega)]
      refine ⟨⟨k + 1, by omega, rfl, .inr ⟨tg, g + 1, ?_, rfl, ?_⟩⟩, by omega⟩
      · first | omega | (simp; omega)
      · rw [List.getElem?_set_self (by simp; omega), hstep]; simp [strs]
  · have hk2 : k = l.length := by have := of_decide_eq_false hc; omega
    subst hk2
    have hlen := textS_len l hf l.length (Nat.le_refl _)
    rw [List.take_length] at hlen
    rcases hX with ⟨rfl, h0⟩ | ⟨tg, g, htl, rfl, hg3⟩
    · simp only [go_sem, Nat.reduceMul, Nat.reduceLT, Nat.reduceLeDiff, Nat.reduceEqDiff, Nat.reduceBEq, Int.toNat_natCast, Int.reduceToNat, Int.reduceNeg, Int.reduceLT, Int.reduceLE, Int.reduceBEq, Int.reduceBNe, decide_true, decide_false, Bool.false_eq_true, false_imp_iff, Nat.lt_irrefl]
      refine ACallT.by (join_ok [] [32] true _ (by simp) (by simp [Lib.join_nil])) ?_
      rintro r h1 ⟨rfl, rfl⟩
      simp only [go_sem, Nat.reduceMul, Nat.reduceLT, Nat.reduceLeDiff, Nat.reduceEqDiff, Nat.reduceBEq, Int.toNat_natCast, Int.reduceToNat, Int.reduceNeg, Int.reduceLT, Int.reduceLE, Int.reduceBEq, Int.reduceBNe, decide_true, decide_false, Bool.false_eq_true, false_imp_iff, Nat.lt_irrefl]
      refine Fin_plain ?_
      obtain rfl := List.length_eq_zero_iff.1 h0
      rfl
    · rw [List.take_length] at hg3
      have hts : List.take l.length (strs (List.map standS l)) = strs (List.map standS l) := List.take_of_length_le (by simp [strs])
      have hml : (List.map standS l).length = l.length := List.length_map _
      simp only [go_sem, hg3, Nat.reduceMul, Nat.reduceLT, Nat.reduceLeDiff, Nat.reduceEqDiff, Nat.reduceBEq, Int.toNat_natCast, Int.reduceToNat, Int.reduceNeg, Int.reduceLT, Int.reduceLE, Int.reduceBEq, Int.reduceBNe, decide_true, decide_false, Bool.false_eq_true, false_imp_iff, Nat.lt_irrefl]
      refine ACallT.pure (as' := [.fz false (strs (List.map standS l)), .str [32]]) (p := (g = g ∧ 1 = 1 ∧ 0 + l.length ≤ (strs (List.map standS l)).length) ∧ True ∧ True) ?_ ⟨⟨rfl, rfl, by rw [strs_len]; omega⟩, trivial, trivial⟩ (join_ok (List.map standS l) [32] false _ (by omega) (by exact Nat.le_trans hlen (by omega))) ?_
      · simp only [lends, lendA, hg3, List.drop_zero, hts]
      · rintro r h1 ⟨rfl, rfl⟩
        refine ⟨rfl, ?_⟩
        simp only [go_sem, Nat.reduceMul, Nat.reduceLT, Nat.reduceLeDiff, Nat.reduceEqDiff, Nat.reduceBEq, Int.toNat_natCast, Int.reduceToNat, Int.reduceNeg, Int.reduceLT, Int.reduceLE, Int.reduceBEq, Int.reduceBNe, decide_true, decide_false, Bool.false_eq_true, false_imp_iff, Nat.lt_irrefl]
        exact Fin_plain rfl
theorem rtext_ok (l : List Tok) (c : Bool) (h : List AObj) (hf : few l) : ACall Tryd.prog 14 [.fz c (toks l)] h (fun r h' => r = .str (textS l) ∧ h' = h) := by
  have hl1 := hf.1
  (refine ACall.of_code Tryd.func14 rfl ?_; simp only [Tryd.f14]; simp only [go_sem, Nat.reduceMul, Nat.reduceLT, Nat.reduceLeDiff, Nat.reduceEqDiff, Nat.reduceBEq, Int.toNat_natCast, Int.reduceToNat, Int.reduceNeg, Int.reduceLT, Int.reduceLE, Int.reduceBEq, Int.reduceBNe, decide_true, decide_false, Bool.false_eq_true, false_imp_iff, Nat.lt_irrefl])
  refine ALoop.over [3, 4, 5, 6, 7, 8, 9, 10, 11, 12, 13, 14, 15, 16, 17, 18, 19, 20, 21, 22, 23, 24, 25, 26, 27, 28, 29, 30, 31, 32, 33, 34, 35, 36] (fun e h' => h' = h ∧ ∃ k : Nat, k ≤ l.length ∧ e.getD 4 .any = .int .i64 (k : Int) ∧ e.getD 3 .any = .str (textS (l.take k))) (fun e _ => l.length - natA (e.getD 4 .any)) ⟨rfl, 0, by omega, rfl, rfl⟩ ?_
  simp only [List.length_cons, List.length_nil, Nat.reduceAdd, allL_succ, allL_zero]
  intro y3 y4 y5 y6 y7 y8 y9 y10 y11 y12 y13 y14 y15 y16 y17 y18 y19 y20 y21 y22 y23 y24 y25 y26 y27 y28 y29 y30 y31 y32 y33 y34 y35 y36 h' hI
  simp only [go_sem] at hI
  obtain ⟨rfl, k, hk, rfl, rfl⟩ := hI
  simp only [go_sem, Nat.reduceMul, Nat.reduceLT, Nat.reduceLeDiff, Nat.reduceEqDiff, Nat.reduceBEq, Int.toNat_natCast, Int.reduceToNat, Int.reduceNeg, Int.reduceLT, Int.reduceLE, Int.reduceBEq, Int.reduceBNe, decide_true, decide_false, Bool.false_eq_true, false_imp_iff, Nat.lt_irrefl]
  refine acond_intro (fun hc => ?_) (fun hc => ?_)
  · have hlt : k < l.length := by have := of_decide_eq_true hc; omega
    have hg : (toks l).getD k .any = .agg [.int .i64 l[k].1, .str l[k].2.1, .int .i64 l[k].2.2] := toks_get l k hlt
    have hlk := few_get hf hlt
    have hlen := textS_len l hf k hk
    have hst := textS_step l k hlt
    have hsd : standS l[k] = if l[k].1 = 2 then 34 :: (l[k].2.1 ++ [34]) else l[k].2.1 := rfl
    generalize textS (l.take k) = acc at *
    simp only [go_sem, Nat.reduceMul, Nat.reduceLT, Nat.reduceLeDiff, Nat.reduceEqDiff, Nat.reduceBEq, Int.toNat_natCast, Int.reduceToNat, Int.reduceNeg, Int.reduceLT, Int.reduceLE, Int.reduceBEq, Int.reduceBNe, decide_true, decide_false, Bool.false_eq_true, false_imp_iff, Nat.lt_irrefl]
    refine acond_intro (fun hc => ?_) (fun hc => ?_)
    · have hk0 : 0 < k := by have := of_decide_eq_true hc; omega
      rw [if_pos hk0] at hst
      simp only [go_sem, hg, Nat.reduceMul, Nat.reduceLT, Nat.reduceLeDiff, Nat.reduceEqDiff, Nat.reduceBEq, Int.toNat_natCast, Int.reduceToNat, Int.reduceNeg, Int.reduceLT, Int.reduceLE, Int.reduceBEq, Int.reduceBNe, decide_true, decide_false, Bool.false_eq_true, false_imp_iff, Nat.lt_irrefl]
      refine ⟨by first | omega | (simp; omega), ⟨by omega, by omega⟩, ?_⟩
      refine acond_intro (fun hd => ?_) (fun hd => ?_)
      · have h2 : l[k].1 = 2 := by simpa using hd
        rw [if_pos h2] at hsd
        simp only [go_sem, hg, Nat.reduceMul, Nat.reduceLT, Nat.reduceLeDiff, Nat.reduceEqDiff, Nat.reduceBEq, Int.toNat_natCast, Int.reduceToNat, Int.reduceNeg, Int.reduceLT, Int.reduceLE, Int.reduceBEq, Int.reduceBNe, decide_true, decide_false, Bool.false_eq_true, false_imp_iff, Nat.lt_irrefl]
        rw [wrap_id (by omega) (by omega)]
        exact ⟨by omega, ⟨by omega, by omega⟩, by omega, by omega, ⟨k + 1, by omega, rfl, by rw [hst, hsd]; try simp⟩, by omega⟩
      · have h2 : ¬ l[k].1 = 2 := by simpa using hd
        rw [if_neg h2] at hsd
        simp only [go_sem, hg, Nat.reduceMul, Nat.reduceLT, Nat.reduceLeDiff, Nat.reduceEqDiff, Nat.reduceBEq, Int.toNat_natCast, Int.reduceToNat, Int.reduceNeg, Int.reduceLT, Int.reduceLE, Int.reduceBEq, Int.reduceBNe, decide_true, decide_false, Bool.false_eq_true, false_imp_iff, Nat.lt_irrefl]
        rw [wrap_id (by omega) (by omega)]
        exact ⟨⟨by omega, by omega⟩, by omega, ⟨k + 1, by omega, rfl, by rw [hst, hsd]; try simp⟩, by omega⟩
    · have hk0 : ¬ 0 < k := by have := of_decide_eq_false hc; omega
      rw [if_neg hk0] at hst
      simp only [go_sem, hg, Nat.reduceMul, Nat.reduceLT, Nat.reduceLeDiff, Nat.reduceEqDiff, Nat.reduceBEq, Int.toNat_natCast, Int.reduceToNat, Int.reduceNeg, Int.reduceLT, Int.reduceLE, Int.reduceBEq, Int.reduceBNe, decide_true, decide_false, Bool.false_eq_true, false_imp_iff, Nat.lt_irrefl]
      refine ⟨⟨by omega, by omega⟩, ?_⟩
      refine acond_intro (fun hd => ?_) (fun hd => ?_)
      · have h2 : l[k].1 = 2 := by simpa using hd
        rw [if_pos h2] at hsd
        simp only [go_sem, hg, Nat.reduceMul, Nat.reduceLT, Nat.reduceLeDiff, Nat.reduceEqDiff, Nat.reduceBEq, Int.toNat_natCast, Int.reduceToNat, Int.reduceNeg, Int.reduceLT, Int.reduceLE, Int.reduceBEq, Int.reduceBNe, decide_true, decide_false, Bool.false_eq_true, false_imp_iff, Nat.lt_irrefl]
        rw [wrap_id (by omega) (by omega)]
        exact ⟨by omega, ⟨by omega, by omega⟩, by omega, by omega, ⟨k + 1, by omega, rfl, by rw [hst, hsd]; try simp⟩, by omega⟩
      · have h2 : ¬ l[k].1 = 2 := by simpa using hd
        rw [if_neg h2] at hsd
        simp only [go_sem, hg, Nat.reduceMul, Nat.reduceLT, Nat.reduceLeDiff, Nat.reduceEqDiff, Nat.reduceBEq, Int.toNat_natCast, Int.reduceToNat, Int.reduceNeg, Int.reduceLT, Int.reduceLE, Int.reduceBEq, Int.reduceBNe, decide_true, decide_false, Bool.false_eq_true, false_imp_iff, Nat.lt_irrefl]
        rw [wrap_id (by omega) (by omega)]
        exact ⟨⟨by omega, by omega⟩, by omega, ⟨k + 1, by omega, rfl, by rw [hst, hsd]; try simp⟩, by omega⟩
  · have hk2 : k = l.length := by have := of_decide_eq_false hc; omega
    subst hk2
    simp only [go_sem, Nat.reduceMul, Nat.reduceLT, Nat.reduceLeDiff, Nat.reduceEqDiff, Nat.reduceBEq, Int.toNat_natCast, Int.reduceToNat, Int.reduceNeg, Int.reduceLT, Int.reduceLE, Int.reduceBEq, Int.reduceBNe, decide_true, decide_false, Bool.false_eq_true, false_imp_iff, Nat.lt_irrefl]
    exact Fin_plain ⟨rfl, rfl⟩
end Go.Proofs.Vale

set_option linter.unusedVariables false
set_option linter.unusedSimpArgs false
set_option maxHeartbeats 4000000
set_option maxRecDepth 100000
namespace Go.Proofs.Vale
open Go.Proofs Go.Proofs.YtchboekipfpheaaDoorT
attribute [local irreducible] acode aopsL aopsT dopsL dopsT dmL dmT pop popG aop ALoop ADraw ACall AWP AFin acondT ALoopT ADrawT ACallT doP doG doGd

/-! ### A right token -/
theorem doH_off {q : Prop} {e : Option (Prop × Bool)} {A K : AV → Prop} {s : Tag A} {t : Tag K} (k : ∀ x, (x = .tup [] ∨ ∃ b, x = .opt false (.bool b)) → K x) : doH false (addP q (eqR .eql e)) A K s t := by
  rcases e with _ | ⟨p, y⟩
  · exact (show doH false none A K s t by rw [doH_none, doHn_false]; exact k _ (.inl rfl))
  · exact (show doH false (some (q ∧ p, .bool y)) A K s t by rw [doH_some]; exact ⟨fun q => (by cases q), k _ (.inr ⟨_, rfl⟩)⟩)
def rightS (t : Tok) : Bool := match tokensS (standS t) with
  | some l => decide (l = [t])
  | none => false
theorem right_ok (t : Tok) (h : List AObj) (ht : t.2.1.length ≤ 1000) : ACall Tryd.prog 12 [tokA t] h (fun r _ => r = .bool (rightS t)) := by
  have hsl := stand_len t
  simp only [tokA]
  (refine ACall.of_code Tryd.func12 rfl ?_; simp only [Tryd.f12]; simp only [go_sem, Nat.reduceMul, Nat.reduceLT, Nat.reduceLeDiff, Nat.reduceEqDiff, Nat.reduceBEq, Int.toNat_natCast, Int.reduceToNat, Int.reduceNeg, Int.reduceLT, Int.reduceLE, Int.reduceBEq, Int.reduceBNe, decide_true, decide_false, Bool.false_eq_true, false_imp_iff, Nat.lt_irrefl])
  refine ACallT.frame (stands_ok t _ (by omega)) ?_
  rintro r h2 rfl
  refine ⟨rfl, ?_⟩
  simp only [go_sem, Nat.reduceMul, Nat.reduceLT, Nat.reduceLeDiff, Nat.reduceEqDiff, Nat.reduceBEq, Int.toNat_natCast, Int.reduceToNat, Int.reduceNeg, Int.reduceLT, Int.reduceLE, Int.reduceBEq, Int.reduceBNe, decide_true, decide_false, Bool.false_eq_true, false_imp_iff, Nat.lt_irrefl]
  refine ACallT.frame (tokens_ok (standS t) _ (by omega)) ?_
  intro r h2 hr
  rcases hT : tokensS (standS t) with _ | L
  · rw [hT] at hr
    simp only [toksK] at hr
    subst hr
    refine ⟨by simp [AV.low, lowL], ?_⟩
    simp only [go_sem, Nat.reduceMul, Nat.reduceLT, Nat.reduceLeDiff, Nat.reduceEqDiff, Nat.reduceBEq, Int.toNat_natCast, Int.reduceToNat, Int.reduceNeg, Int.reduceLT, Int.reduceLE, Int.reduceBEq, Int.reduceBNe, decide_true, decide_false, Bool.false_eq_true, false_imp_iff, Nat.lt_irrefl]
    refine ADrawT.quiet mixedOrdersD (by kernel_rfl) ?_
    simp only [go_sem, Nat.reduceMul, Nat.reduceLT, Nat.reduceLeDiff, Nat.reduceEqDiff, Nat.reduceBEq, Int.toNat_natCast, Int.reduceToNat, Int.reduceNeg, Int.reduceLT, Int.reduceLE, Int.reduceBEq, Int.reduceBNe, decide_true, decide_false, Bool.false_eq_true, false_imp_iff, Nat.lt_irrefl]
    refine doH_off fun x hx => ?_
    rcases hx with rfl | ⟨y, rfl⟩
    · simp only [go_sem, Nat.reduceMul, Nat.reduceLT, Nat.reduceLeDiff, Nat.reduceEqDiff, Nat.reduceBEq, Int.toNat_natCast, Int.reduceToNat, Int.reduceNeg, Int.reduceLT, Int.reduceLE, Int.reduceBEq, Int.reduceBNe, decide_true, decide_false, Bool.false_eq_true, false_imp_iff, Nat.lt_irrefl]
      refine Fin_plain ?_
      rw [rightS, hT]
    · simp only [go_sem, Nat.reduceMul, Nat.reduceLT, Nat.reduceLeDiff, Nat.reduceEqDiff, Nat.reduceBEq, Int.toNat_natCast, Int.reduceToNat, Int.reduceNeg, Int.reduceLT, Int.reduceLE, Int.reduceBEq, Int.reduceBNe, decide_true, decide_false, Bool.false_eq_true, false_imp_iff, Nat.lt_irrefl]
      refine Fin_plain ?_
      rw [rightS, hT]
  · rw [hT] at hr
    simp only [toksK] at hr
    obtain ⟨c, rfl⟩ := hr
    refine ⟨by simp [AV.low, lowL, low_toks], ?_⟩
    simp only [go_sem, Nat.reduceMul, Nat.reduceLT, Nat.reduceLeDiff, Nat.reduceEqDiff, Nat.reduceBEq, Int.toNat_natCast, Int.reduceToNat, Int.reduceNeg, Int.reduceLT, Int.reduceLE, Int.reduceBEq, Int.reduceBNe, decide_true, decide_false, Bool.false_eq_true, false_imp_iff, Nat.lt_irrefl]
    refine ADrawT.quiet mixedOrdersD (by kernel_rfl) ?_
    by_cases hl : L.length = 1
    · obtain ⟨t', rfl⟩ := List.length_eq_one_iff.1 hl
      have hg : (toks [t']).getD 0 .any = .agg [.int .i64 t'.1, .str t'.2.1, .int .i64 t'.2.2] := rfl
      simp only [go_sem, hg, Nat.reduceMul, Nat.reduceLT, Nat.reduceLeDiff, Nat.reduceEqDiff, Nat.reduceBEq, Int.toNat_natCast, Int.reduceToNat, Int.reduceNeg, Int.reduceLT, Int.reduceLE, Int.reduceBEq, Int.reduceBNe, decide_true, decide_false, Bool.false_eq_true, false_imp_iff, Nat.lt_irrefl]
      refine ⟨fun _ => ⟨rfl, by omega⟩, Fin_plain ?_⟩
      have e : decide ([t'] = [t]) = decide (t' = t) := by simp
      rw [rightS, hT]
      simp only [e]
      rw [← sameT_eq t' t]; rfl
    · have hb : ((L.length : Int) == 1) = false := by simp; omega
      simp only [go_sem, hb, Nat.reduceMul, Nat.reduceLT, Nat.reduceLeDiff, Nat.reduceEqDiff, Nat.reduceBEq, Int.toNat_natCast, Int.reduceToNat, Int.reduceNeg, Int.reduceLT, Int.reduceLE, Int.reduceBEq, Int.reduceBNe, decide_true, decide_false, Bool.false_eq_true, false_imp_iff, Nat.lt_irrefl]
      have hne : decide (L = [t]) = false := by
        have : L ≠ [t] := by rintro rfl; exact hl rfl
        simp [this]
      refine doH_off fun x hx => ?_
      rcases hx with rfl | ⟨y, rfl⟩
      · simp only [go_sem, Nat.reduceMul, Nat.reduceLT, Nat.reduceLeDiff, Nat.reduceEqDiff, Nat.reduceBEq, Int.toNat_natCast, Int.reduceToNat, Int.reduceNeg, Int.reduceLT, Int.reduceLE, Int.reduceBEq, Int.reduceBNe, decide_true, decide_false, Bool.false_eq_true, false_imp_iff, Nat.lt_irrefl]
        refine Fin_plain ?_
        rw [rightS, hT]; simp only [hne]
      · simp only [go_sem, Nat.reduceMul, Nat.reduceLT, Nat.reduceLeDiff, Nat.reduceEqDiff, Nat.reduceBEq, Int.toNat_natCast, Int.reduceToNat, Int.reduceNeg, Int.reduceLT, Int.reduceLE, Int.reduceBEq, Int.reduceBNe, decide_true, decide_false, Bool.false_eq_true, false_imp_iff, Nat.lt_irrefl]
        refine Fin_plain ?_
        rw [rightS, hT]; simp only [hne]
theorem rright_ok (t : Tok) (h : List AObj) (ht : t.2.1.length ≤ 1000) : ACall Tryd.prog 11 [tokA t] h (fun r _ => r = .bool (rightS t)) := by
  have hsl := stand_len t
  simp only [tokA]
  (refine ACall.of_code Tryd.func11 rfl ?_; simp only [Tryd.f11]; simp only [go_sem, Nat.reduceMul, Nat.reduceLT, Nat.reduceLeDiff, Nat.reduceEqDiff, Nat.reduceBEq, Int.toNat_natCast, Int.reduceToNat, Int.reduceNeg, Int.reduceLT, Int.reduceLE, Int.reduceBEq, Int.reduceBNe, decide_true, decide_false, Bool.false_eq_true, false_imp_iff, Nat.lt_irrefl])
  refine ACallT.pure (as' := [.fz false (toks [t])]) (p := (0 = 0 ∧ 3 = 3 ∧ 0 + 1 ≤ 1) ∧ True) ?_ ⟨⟨rfl, rfl, by omega⟩, trivial⟩ (rtext_ok [t] false _ ⟨by simp, by intro u hu; rw [List.mem_singleton.1 hu]; exact ht⟩) ?_
  · have e : (h ++ [AObj.arr 0 3 [AV.agg [AV.int IntKind.i64 t.fst, AV.str t.snd.fst, AV.int IntKind.i64 t.snd.snd]], AObj.arr 0 3 [AV.agg [AV.int IntKind.i64 t.fst, AV.str t.snd.fst, AV.int IntKind.i64 t.snd.snd]]])[h.length + 1]? = some (AObj.arr 0 3 (toks [t])) := by
      rw [List.getElem?_append_right (by omega), Nat.add_sub_cancel_left]; rfl
    simp only [lends, lendA, e]
    rfl
  rintro r h1 ⟨rfl, rfl⟩
  refine ⟨rfl, ?_⟩
  rw [show textS [t] = standS t by simp [textS, Lib.join_one]]
  simp only [go_sem, Nat.reduceMul, Nat.reduceLT, Nat.reduceLeDiff, Nat.reduceEqDiff, Nat.reduceBEq, Int.toNat_natCast, Int.reduceToNat, Int.reduceNeg, Int.reduceLT, Int.reduceLE, Int.reduceBEq, Int.reduceBNe, decide_true, decide_false, Bool.false_eq_true, false_imp_iff, Nat.lt_irrefl]
  refine ACallT.frame (rtokens_ok (standS t) _ (by omega)) ?_
  intro r h2 hr
  rw [tokens_eq] at hr
  rcases hT : tokensS (standS t) with _ | L
  · rw [hT] at hr
    simp only [toksK] at hr
    subst hr
    refine ⟨by simp [AV.low, lowL], ?_⟩
    simp only [go_sem, Nat.reduceMul, Nat.reduceLT, Nat.reduceLeDiff, Nat.reduceEqDiff, Nat.reduceBEq, Int.toNat_natCast, Int.reduceToNat, Int.reduceNeg, Int.reduceLT, Int.reduceLE, Int.reduceBEq, Int.reduceBNe, decide_true, decide_false, Bool.false_eq_true, false_imp_iff, Nat.lt_irrefl]
    refine ADrawT.quiet mixedOrdersD (by kernel_rfl) ?_
    simp only [go_sem, Nat.reduceMul, Nat.reduceLT, Nat.reduceLeDiff, Nat.reduceEqDiff, Nat.reduceBEq, Int.toNat_natCast, Int.reduceToNat, Int.reduceNeg, Int.reduceLT, Int.reduceLE, Int.reduceBEq, Int.reduceBNe, decide_true, decide_false, Bool.false_eq_true, false_imp_iff, Nat.lt_irrefl]
    refine doH_off fun x hx => ?_
    rcases hx with rfl | ⟨y, rfl⟩
    · simp only [go_sem, Nat.reduceMul, Nat.reduceLT, Nat.reduceLeDiff, Nat.reduceEqDiff, Nat.reduceBEq, Int.toNat_natCast, Int.reduceToNat, Int.reduceNeg, Int.reduceLT, Int.reduceLE, Int.reduceBEq, Int.reduceBNe, decide_true, decide_false, Bool.false_eq_true, false_imp_iff, Nat.lt_irrefl]
      refine Fin_plain ?_
      rw [rightS, hT]
    · simp only [go_sem, Nat.reduceMul, Nat.reduceLT, Nat.reduceLeDiff, Nat.reduceEqDiff, Nat.reduceBEq, Int.toNat_natCast, Int.reduceToNat, Int.reduceNeg, Int.reduceLT, Int.reduceLE, Int.reduceBEq, Int.reduceBNe, decide_true, decide_false, Bool.false_eq_true, false_imp_iff, Nat.lt_irrefl]
      refine Fin_plain ?_
      rw [rightS, hT]
  · rw [hT] at hr
    simp only [toksK] at hr
    obtain ⟨c, rfl⟩ := hr
    refine ⟨by simp [AV.low, lowL, low_toks], ?_⟩
    simp only [go_sem, Nat.reduceMul, Nat.reduceLT, Nat.reduceLeDiff, Nat.reduceEqDiff, Nat.reduceBEq, Int.toNat_natCast, Int.reduceToNat, Int.reduceNeg, Int.reduceLT, Int.reduceLE, Int.reduceBEq, Int.reduceBNe, decide_true, decide_false, Bool.false_eq_true, false_imp_iff, Nat.lt_irrefl]
    refine ADrawT.quiet mixedOrdersD (by kernel_rfl) ?_
    by_cases hl : L.length = 1
    · obtain ⟨t', rfl⟩ := List.length_eq_one_iff.1 hl
      have hg : (toks [t']).getD 0 .any = .agg [.int .i64 t'.1, .str t'.2.1, .int .i64 t'.2.2] := rfl
      simp only [go_sem, hg, Nat.reduceMul, Nat.reduceLT, Nat.reduceLeDiff, Nat.reduceEqDiff, Nat.reduceBEq, Int.toNat_natCast, Int.reduceToNat, Int.reduceNeg, Int.reduceLT, Int.reduceLE, Int.reduceBEq, Int.reduceBNe, decide_true, decide_false, Bool.false_eq_true, false_imp_iff, Nat.lt_irrefl]
      refine ⟨fun _ => ⟨rfl, by omega⟩, Fin_plain ?_⟩
      have e : decide ([t'] = [t]) = decide (t' = t) := by simp
      rw [rightS, hT]
      simp only [e]
      rw [← sameT_eq t' t]; rfl
    · have hb : ((L.length : Int) == 1) = false := by simp; omega
      simp only [go_sem, hb, Nat.reduceMul, Nat.reduceLT, Nat.reduceLeDiff, Nat.reduceEqDiff, Nat.reduceBEq, Int.toNat_natCast, Int.reduceToNat, Int.reduceNeg, Int.reduceLT, Int.reduceLE, Int.reduceBEq, Int.reduceBNe, decide_true, decide_false, Bool.false_eq_true, false_imp_iff, Nat.lt_irrefl]
      have hne : decide (L = [t]) = false := by
        have : L ≠ [t] := by rintro rfl; exact hl rfl
        simp [this]
      refine doH_off fun x hx => ?_
      rcases hx with rfl | ⟨y, rfl⟩
      · simp only [go_sem, Nat.reduceMul, Nat.reduceLT, Nat.reduceLeDiff, Nat.reduceEqDiff, Nat.reduceBEq, Int.toNat_natCast, Int.reduceToNat, Int.reduceNeg, Int.reduceLT, Int.reduceLE, Int.reduceBEq, Int.reduceBNe, decide_true, decide_false, Bool.false_eq_true, false_imp_iff, Nat.lt_irrefl]
        refine Fin_plain ?_
        rw [rightS, hT]; simp only [hne]
      · simp only [go_sem, Nat.reduceMul, Nat.reduceLT, Nat.reduceLeDiff, Nat.reduceEqDiff, Nat.reduceBEq, Int.toNat_natCast, Int.reduceToNat, Int.reduceNeg, Int.reduceLT, Int.reduceLE, Int.reduceBEq, Int.reduceBNe, decide_true, decide_false, Bool.false_eq_true, false_imp_iff, Nat.lt_irrefl]
        refine Fin_plain ?_
        rw [rightS, hT]; simp only [hne]
end Go.Proofs.Vale
