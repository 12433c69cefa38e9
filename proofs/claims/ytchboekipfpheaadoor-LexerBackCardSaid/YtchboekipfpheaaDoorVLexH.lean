/- YtchboekipfpheaaDoorVLexH: a text of the proof of this claim, by its prover. -/
import Derived.Test.YtchboekipfpheaaDoorVLexF
set_option linter.unusedVariables false
set_option linter.unusedSimpArgs false
set_option maxHeartbeats 4000000
set_option maxRecDepth 100000
namespace Go.Proofs.Vale
open Go.Proofs Go.Proofs.YtchboekipfpheaaDoorT
attribute [local irreducible] acode aopsL aopsT dopsL dopsT dmL dmT pop popG aop ALoop ADraw ACall AWP AFin acondT ALoopT ADrawT ACallT doP doG doGd

/-! ### Tokens -/
def trimG (s : Str) : Str := Lib.trimLeftS s gapS
theorem trimG_le (s : Str) : (trimG s).length ≤ s.length := (List.dropWhile_suffix _).length_le
def toks (l : List Tok) : List AV := l.map tokA
@[go_sem] theorem toks_len (l : List Tok) : (toks l).length = l.length := by simp [toks]
theorem toks_get (l : List Tok) (k : Nat) (h : k < l.length) : (toks l).getD k .any = tokA l[k] := by simp [toks, List.getD_eq_getElem?_getD, h]
theorem toks_app (a b : List Tok) : toks a ++ toks b = toks (a ++ b) := by simp [toks]
theorem toks_cells (l : List Tok) : ∀ x, x ∈ toks l → x.cells.length = 3 := by
  intro x hx; simp only [toks, List.mem_map] at hx; obtain ⟨n, _, rfl⟩ := hx; rfl
theorem low_toks (n : Nat) : ∀ l : List Tok, lowL n (toks l) = true
  | [] => rfl
  | s :: l => by simp only [toks, List.map_cons, lowL, tokA, AV.low, Bool.true_and]; exact low_toks n l
theorem okEl_toks (l : List Tok) : (toks l).all (okEl 3) = true := by simp [toks, okEl, tokA, AV.cells, AV.one]
/-- The tokens of a text that begins with one. -/
def tokF : Nat → Str → Option (List Tok)
  | _, [] => some []
  | 0, _ :: _ => none
  | n + 1, c :: r => match nextS (c :: r) with
    | none => none
    | some (t, k) => (tokF n (trimG ((c :: r).drop k))).map (t :: ·)
def tokensS (s : Str) : Option (List Tok) := if 400 < s.length then none else tokF s.length (trimG s)
theorem quoted_len (s : Str) (t : Tok) (k : Nat) (h : quotedS s = some (t, k)) : 1 ≤ k ∧ k ≤ s.length := by
  unfold quotedS at h
  split at h
  · rename_i q
    injection h with h; injection h with h1 h2
    have := q.1
    rw [List.length_drop] at this
    omega
  · cases h
theorem uptoN_le (p : UInt8 → Bool) (s : Str) (h : 0 < s.length) : 1 ≤ uptoN p s ∧ uptoN p s ≤ s.length := by
  have : ((s.drop 1).takeWhile p).length ≤ (s.drop 1).length := (List.takeWhile_prefix _).length_le
  rw [List.length_drop] at this
  unfold uptoN; omega
theorem next_len (s : Str) (t : Tok) (k : Nat) (h : nextS s = some (t, k)) : 1 ≤ k ∧ k ≤ s.length := by
  unfold nextS at h
  split at h
  · cases h
  · rename_i c r
    have h0 : 0 < (c :: r).length := by simp
    have hl : ∀ p, ((c :: r).take (uptoN p (c :: r))).length = uptoN p (c :: r) := fun p => by
      have := (uptoN_le p (c :: r) h0).2
      rw [List.length_take]; omega
    split at h
    · injection h with h; injection h with h1 h2
      rw [hl] at h2
      have := uptoN_le wordB (c :: r) h0
      omega
    · split at h
      · injection h with h; injection h with h1 h2
        simp only [List.length_cons]; omega
      · split at h
        · exact quoted_len _ _ _ h
        · split at h
          · split at h
            · injection h with h; injection h with h1 h2
              rw [hl] at h2
              have := uptoN_le figB (c :: r) h0
              omega
            · cases h
          · cases h
theorem tokF_mono : ∀ (n m : Nat) (s : Str), s.length ≤ n → n ≤ m → tokF n s = tokF m s
  | n, m, [], _, _ => by cases n <;> cases m <;> rfl
  | 0, _, c :: r, h, _ => by simp at h
  | n + 1, 0, c :: r, _, h => by omega
  | n + 1, m + 1, c :: r, h1, h2 => by
    simp only [tokF]
    rcases hn : nextS (c :: r) with _ | ⟨t, k⟩
    · rfl
    · have := next_len _ _ _ hn
      have h3 := trimG_le ((c :: r).drop k)
      rw [List.length_drop] at h3
      simp only [List.length_cons] at h1 h3 this
      simp only
      rw [tokF_mono n m _ (by omega) (by omega)]
theorem tokF_step (n : Nat) (s : Str) (h0 : s ≠ []) (hn : s.length ≤ n + 1) : tokF (n + 1) s = match nextS s with
    | none => none
    | some (t, k) => (tokF n (trimG (s.drop k))).map (t :: ·) := by
  cases s with
  | nil => exact absurd rfl h0
  | cons c r => rfl
theorem frzO_same {h : List AObj} {k g s : Nat} {l : List AV} (hf : ∀ y ∈ l, frzA h k y = y) : frzO (some (.arr g s l)) h k g s 0 l.length = .fz false l := by
  have e : l.map (frzA h k) = l := by
    have : ∀ m : List AV, (∀ y ∈ m, frzA h k y = y) → m.map (frzA h k) = m := by
      intro m hm
      induction m with
      | nil => rfl
      | cons a m ih => rw [List.map_cons, hm a (by simp), ih fun y hy => hm y (by simp [hy])]
    exact this _ hf
  simp only [frzO]
  rw [if_pos ⟨trivial, trivial, by omega, fun y hy => by rw [hf y hy]⟩, List.drop_zero, List.take_length, e]
theorem frz_tok {h : List AObj} {k : Nat} (L : List Tok) : ∀ y ∈ toks L, frzA h (k + 2) y = y := by
  intro y hy
  simp only [toks, List.mem_map] at hy
  obtain ⟨t, _, rfl⟩ := hy
  rfl
theorem frz_toks {h : List AObj} {k g : Nat} {L : List Tok} {n : Nat} (hn : n = L.length) : frzO (some (.arr g 3 (toks L))) h (k + 2) g 3 0 n = .fz false (toks L) := by
  subst hn
  have := frzO_same (h := h) (k := k + 2) (g := g) (s := 3) (l := toks L) (frz_tok L)
  rw [toks_len] at this; exact this
/-- What Tokens comes to. -/
def toksK (o : Option (List Tok)) (r : AV) : Prop :=
  match o with
  | none => r = .tup [.fz true [], .int .i64 211]
  | some l => ∃ c, r = .tup [.fz c (toks l), .int .i64 0]
theorem tokens_ok (s : Str) (h : List AObj) (hs : s.length ≤ 281474976710656) : ACall Tryd.prog 8 [.str s] h (fun r _ => toksK (tokensS s) r) := by
  (refine ACall.of_code Tryd.func8 rfl ?_; simp only [Tryd.f8]; simp only [go_sem, Nat.reduceMul, Nat.reduceLT, Nat.reduceLeDiff, Nat.reduceEqDiff, Nat.reduceBEq, Int.toNat_natCast, Int.reduceToNat, Int.reduceNeg, Int.reduceLT, Int.reduceLE, Int.reduceBEq, Int.reduceBNe, decide_true, decide_false, Bool.false_eq_true, false_imp_iff, Nat.lt_irrefl])
  generalize hz : decide ((400 : Int) < (s.length : Int)) = z
  cases z with
  | true =>
    have := of_decide_eq_true hz
    simp only [go_sem, Nat.reduceMul, Nat.reduceLT, Nat.reduceLeDiff, Nat.reduceEqDiff, Nat.reduceBEq, Int.toNat_natCast, Int.reduceToNat, Int.reduceNeg, Int.reduceLT, Int.reduceLE, Int.reduceBEq, Int.reduceBNe, decide_true, decide_false, Bool.false_eq_true, false_imp_iff, Nat.lt_irrefl]
    refine Fin_plain ?_
    rw [tokensS, if_pos (by omega)]; rfl
  | false =>
    have := of_decide_eq_false hz
    have hT : tokensS s = tokF s.length (trimG s) := by rw [tokensS, if_neg (by omega)]
    simp only [go_sem, Nat.reduceMul, Nat.reduceLT, Nat.reduceLeDiff, Nat.reduceEqDiff, Nat.reduceBEq, Int.toNat_natCast, Int.reduceToNat, Int.reduceNeg, Int.reduceLT, Int.reduceLE, Int.reduceBEq, Int.reduceBNe, decide_true, decide_false, Bool.false_eq_true, false_imp_iff, Nat.lt_irrefl]
    refine ACallT.by (trimLeft_ok s _) ?_
    rintro r h1 ⟨rfl, rfl⟩
    rw [show Lib.trimLeftS s gapS = trimG s from rfl]
    have hle := trimG_le s
    simp only [go_sem, Nat.reduceMul, Nat.reduceLT, Nat.reduceLeDiff, Nat.reduceEqDiff, Nat.reduceBEq, Int.toNat_natCast, Int.reduceToNat, Int.reduceNeg, Int.reduceLT, Int.reduceLE, Int.reduceBEq, Int.reduceBNe, decide_true, decide_false, Bool.false_eq_true, false_imp_iff, Nat.lt_irrefl]
    refine ALoop.over [0, 2, 3, 4, 5, 6, 7, 13, 14, 15, 16, 17, 18, 19, 20, 21, 22, 23, 24, 25, 26, 27, 28, 29, 30, 31] (fun e h' => ∃ (s' : Str) (n : Nat) (L : List Tok), e.getD 0 .any = .str s' ∧ s'.length ≤ n ∧ n ≤ 400 ∧ n + L.length ≤ 400 ∧ tokensS s = (tokF n s').map (L ++ ·) ∧ ((e.getD 4 .any = .fz true [] ∧ L = []) ∨ ∃ t g, t < h'.length ∧ e.getD 4 .any = .sl t g 3 0 L.length ∧ h'[t]? = some (.arr g 3 (toks L)))) (fun e _ => match e.getD 0 .any with | .str s' => s'.length | _ => 0) ⟨trimG s, s.length, [], rfl, hle, by omega, by simp; omega, by rw [hT]; simp, .inl ⟨rfl, rfl⟩⟩ ?_
    simp only [List.length_cons, List.length_nil, Nat.reduceAdd, allL_succ, allL_zero]
    intro y0 y2 y3 y4 y5 y6 y7 y13 y14 y15 y16 y17 y18 y19 y20 y21 y22 y23 y24 y25 y26 y27 y28 y29 y30 y31 h' hI
    simp only [go_sem] at hI
    obtain ⟨s', n, L, rfl, hsn, hn, hnL, hA, hX⟩ := hI
    simp only [go_sem, Nat.reduceMul, Nat.reduceLT, Nat.reduceLeDiff, Nat.reduceEqDiff, Nat.reduceBEq, Int.toNat_natCast, Int.reduceToNat, Int.reduceNeg, Int.reduceLT, Int.reduceLE, Int.reduceBEq, Int.reduceBNe, decide_true, decide_false, Bool.false_eq_true, false_imp_iff, Nat.lt_irrefl]
    refine acond_intro (fun hc => ?_) (fun hc => ?_)
    · have hne : s' ≠ [] := by simpa using hc
      have hpos : 0 < s'.length := List.length_pos_iff.2 hne
      simp only [go_sem, Nat.reduceMul, Nat.reduceLT, Nat.reduceLeDiff, Nat.reduceEqDiff, Nat.reduceBEq, Int.toNat_natCast, Int.reduceToNat, Int.reduceNeg, Int.reduceLT, Int.reduceLE, Int.reduceBEq, Int.reduceBNe, decide_true, decide_false, Bool.false_eq_true, false_imp_iff, Nat.lt_irrefl]
      refine ACallT.frame (next_ok s' _ hpos (by omega)) ?_
      intro r h2 hr
      obtain ⟨m, rfl⟩ : ∃ m, n = m + 1 := ⟨n - 1, by omega⟩
      rw [tokF_step m s' hne hsn] at hA
      rcases hns : nextS s' with _ | ⟨t, k⟩
      · rw [hns] at hr hA
        obtain ⟨t, n', rfl⟩ := hr
        refine ⟨by simp [AV.low, lowL, tokA], ?_⟩
        simp only [tokA]
        simp only [go_sem, Nat.reduceMul, Nat.reduceLT, Nat.reduceLeDiff, Nat.reduceEqDiff, Nat.reduceBEq, Int.toNat_natCast, Int.reduceToNat, Int.reduceNeg, Int.reduceLT, Int.reduceLE, Int.reduceBEq, Int.reduceBNe, decide_true, decide_false, Bool.false_eq_true, false_imp_iff, Nat.lt_irrefl]
        refine Fin_plain ?_
        rw [hA]; rfl
      · rw [hns] at hr hA
        simp only [tokK] at hr
        subst hr
        have hk := next_len _ _ _ hns
        refine ⟨by simp [AV.low, lowL, tokA], ?_⟩
        simp only [tokA]
        simp only [go_sem, Nat.reduceMul, Nat.reduceLT, Nat.reduceLeDiff, Nat.reduceEqDiff, Nat.reduceBEq, Int.toNat_natCast, Int.reduceToNat, Int.reduceNeg, Int.reduceLT, Int.reduceLE, Int.reduceBEq, Int.reduceBNe, decide_true, decide_false, Bool.false_eq_true, false_imp_iff, Nat.lt_irrefl]
        rcases hX with ⟨rfl, rfl⟩ | ⟨tg, g, htl, rfl, hg⟩
        · (refine ADrawT.mem [(2, 1), (3, 1), (3, 2)] mixedOrdersD (by kernel_rfl) (by kernel_rfl) ?_; simp only [go_sem, Nat.reduceMul, Nat.reduceLT, Nat.reduceLeDiff, Nat.reduceEqDiff, Nat.reduceBEq, Int.toNat_natCast, Int.reduceToNat, Int.reduceNeg, Int.reduceLT, Int.reduceLE, Int.reduceBEq, Int.reduceBNe, decide_true, decide_false, Bool.false_eq_true, false_imp_iff, Nat.lt_irrefl])
          refine ⟨fun q => absurd q (by simp), fun _ => ⟨⟨by omega, by omega, by omega⟩, by simp [okAcc], ?_⟩⟩
          refine ACallT.by (trimLeft_ok _ _) ?_
          rintro r h1 ⟨rfl, rfl⟩
          rw [show Lib.trimLeftS (List.drop k s') gapS = trimG (s'.drop k) from rfl]
          have hl2 := trimG_le (s'.drop k)
          rw [List.length_drop] at hl2
          simp only [go_sem, Nat.reduceMul, Nat.reduceLT, Nat.reduceLeDiff, Nat.reduceEqDiff, Nat.reduceBEq, Int.toNat_natCast, Int.reduceToNat, Int.reduceNeg, Int.reduceLT, Int.reduceLE, Int.reduceBEq, Int.reduceBNe, decide_true, decide_false, Bool.false_eq_true, false_imp_iff, Nat.lt_irrefl]
          refine ⟨⟨_, m, [t], rfl, by omega, by omega, by simp at hnL ⊢; omega, by rw [hA]; simp [Function.comp_def], .inr ⟨_, _, ?_, rfl, ?_⟩⟩, by omega⟩
          · simp
          · rw [getElem?_app]; rfl
        · have hgx : ∀ x, (h' ++ x)[tg]? = some (AObj.arr g 3 (toks L)) := fun x => by rw [List.getElem?_append_left htl]; exact hg
          (refine ADrawT.mem [(2, 1), (3, 1), (3, 2)] mixedOrdersD (by kernel_rfl) (by kernel_rfl) ?_; simp only [go_sem, Nat.reduceMul, Nat.reduceLT, Nat.reduceLeDiff, Nat.reduceEqDiff, Nat.reduceBEq, Int.toNat_natCast, Int.reduceToNat, Int.reduceNeg, Int.reduceLT, Int.reduceLE, Int.reduceBEq, Int.reduceBNe, decide_true, decide_false, Bool.false_eq_true, false_imp_iff, Nat.lt_irrefl])
          simp only [go_sem, hgx, Nat.reduceMul, Nat.reduceLT, Nat.reduceLeDiff, Nat.reduceEqDiff, Nat.reduceBEq, Int.toNat_natCast, Int.reduceToNat, Int.reduceNeg, Int.reduceLT, Int.reduceLE, Int.reduceBEq, Int.reduceBNe, decide_true, decide_false, Bool.false_eq_true, false_imp_iff, Nat.lt_irrefl]
          refine ⟨⟨by omega, by omega⟩, ⟨by omega, by omega, by omega⟩, by first | (simp [okAcc]; done) | (simp [okAcc]; omega), ?_⟩
          refine ACallT.by (trimLeft_ok _ _) ?_
          rintro r h1 ⟨rfl, rfl⟩
          rw [show Lib.trimLeftS (List.drop k s') gapS = trimG (s'.drop k) from rfl]
          have hl2 := trimG_le (s'.drop k)
          rw [List.length_drop] at hl2
          simp only [go_sem, Nat.reduceMul, Nat.reduceLT, Nat.reduceLeDiff, Nat.reduceEqDiff, Nat.reduceBEq, Int.toNat_natCast, Int.reduceToNat, Int.reduceNeg, Int.reduceLT, Int.reduceLE, Int.reduceBEq, Int.reduceBNe, decide_true, decide_false, Bool.false_eq_true, false_imp_iff, Nat.lt_irrefl]
          refine ⟨⟨_, m, L ++ [t], rfl, by omega, by omega, by simp; omega, by rw [hA]; simp [Function.comp_def], .inr ⟨tg, g + 1, ?_, by simp, ?_⟩⟩, by omega⟩
          · first | omega | (simp; omega)
          · rw [List.getElem?_set_self (by simp; omega), ← toks_app]; rfl
    · have hne : s' = [] := by simpa using hc
      subst hne
      simp only [go_sem, Nat.reduceMul, Nat.reduceLT, Nat.reduceLeDiff, Nat.reduceEqDiff, Nat.reduceBEq, Int.toNat_natCast, Int.reduceToNat, Int.reduceNeg, Int.reduceLT, Int.reduceLE, Int.reduceBEq, Int.reduceBNe, decide_true, decide_false, Bool.false_eq_true, false_imp_iff, Nat.lt_irrefl]
      have hB : tokensS s = some L := by
        rw [hA]
        have : tokF n [] = some [] := by cases n <;> rfl
        rw [this]; simp
      rw [hB]
      rcases hX with ⟨rfl, rfl⟩ | ⟨tg, g, htl, rfl, hg⟩
      · exact Fin_plain ⟨true, rfl⟩
      · refine Fin_freeze 4 ?_
        simp only [frz_tup, List.map_cons, List.map_nil, frz_sl, frz_int, hg]
        rw [frz_toks rfl]
        exact ⟨false, rfl⟩
end Go.Proofs.Vale

set_option linter.unusedVariables false
set_option linter.unusedSimpArgs false
set_option maxHeartbeats 4000000
set_option maxRecDepth 100000
namespace Go.Proofs.Vale
open Go.Proofs Go.Proofs.YtchboekipfpheaaDoorT
attribute [local irreducible] acode aopsL aopsT dopsL dopsT dmL dmT pop popG aop ALoop ADraw ACall AWP AFin acondT ALoopT ADrawT ACallT doP doG doGd

/-! ### The document's pieces -/
theorem rletter_ok (b : UInt8) (h : List AObj) : ACall Tryd.prog 18 [.int .u8 (b.toNat : Int)] h (fun r h' => r = .bool (letB b) ∧ h' = h) := by
  (refine ACall.of_code Tryd.func18 rfl ?_; simp only [Tryd.f18]; simp only [go_sem, Nat.reduceMul, Nat.reduceLT, Nat.reduceLeDiff, Nat.reduceEqDiff, Nat.reduceBEq, Int.toNat_natCast, Int.reduceToNat, Int.reduceNeg, Int.reduceLT, Int.reduceLE, Int.reduceBEq, Int.reduceBNe, decide_true, decide_false, Bool.false_eq_true, false_imp_iff, Nat.lt_irrefl])
  exact Fin_plain ⟨by simp only [letB], rfl⟩
theorem rfigure_ok (b : UInt8) (h : List AObj) : ACall Tryd.prog 19 [.int .u8 (b.toNat : Int)] h (fun r h' => r = .bool (figB b) ∧ h' = h) := by
  (refine ACall.of_code Tryd.func19 rfl ?_; simp only [Tryd.f19]; simp only [go_sem, Nat.reduceMul, Nat.reduceLT, Nat.reduceLeDiff, Nat.reduceEqDiff, Nat.reduceBEq, Int.toNat_natCast, Int.reduceToNat, Int.reduceNeg, Int.reduceLT, Int.reduceLE, Int.reduceBEq, Int.reduceBNe, decide_true, decide_false, Bool.false_eq_true, false_imp_iff, Nat.lt_irrefl])
  exact Fin_plain ⟨by simp only [figB], rfl⟩
theorem rsign_ok (b : UInt8) (h : List AObj) : ACall Tryd.prog 17 [.int .u8 (b.toNat : Int)] h (fun r h' => r = .bool (signB b) ∧ h' = h) := by
  (refine ACall.of_code Tryd.func17 rfl ?_; simp only [Tryd.f17]; simp only [go_sem, Nat.reduceMul, Nat.reduceLT, Nat.reduceLeDiff, Nat.reduceEqDiff, Nat.reduceBEq, Int.toNat_natCast, Int.reduceToNat, Int.reduceNeg, Int.reduceLT, Int.reduceLE, Int.reduceBEq, Int.reduceBNe, decide_true, decide_false, Bool.false_eq_true, false_imp_iff, Nat.lt_irrefl])
  refine Fin_plain ⟨?_, rfl⟩
  rw [show ((b.toNat : Int) == 44) = (b == 44) from byte_eq b 44 (by omega), show ((b.toNat : Int) == 40) = (b == 40) from byte_eq b 40 (by omega), show ((b.toNat : Int) == 41) = (b == 41) from byte_eq b 41 (by omega), show ((b.toNat : Int) == 61) = (b == 61) from byte_eq b 61 (by omega), show ((b.toNat : Int) == 60) = (b == 60) from byte_eq b 60 (by omega), show ((b.toNat : Int) == 62) = (b == 62) from byte_eq b 62 (by omega)]
  have : signB b = ((b == 44) || ((b == 40) || ((b == 41) || ((b == 61) || ((b == 60) || (b == 62)))))) := by
    simp only [signB, signS, List.contains_cons, List.contains_nil, Bool.or_false]
  rw [this]
  cases (b == 44) <;> cases (b == 40) <;> cases (b == 41) <;> cases (b == 61) <;> cases (b == 60) <;> rfl
/-- How many bytes a word, number or text has that begins a text. -/
def endN (u : Str) : Nat := if List.getD u 0 0 = 34 then min (cutN (u.drop 1) + 2) u.length else uptoN (if letB (List.getD u 0 0) then wordB else figB) u
def StopAt (p : UInt8 → Bool) (u : Str) (k : Nat) : Prop := ∀ hk : k < u.length, p u[k] = false
theorem upto_stop (p : UInt8 → Bool) (u : Str) (k : Nat) (hk : k ≤ u.length) (h1 : 1 ≤ k) (hall : ((u.take k).drop 1).all p = true) (hstop : StopAt p u k) : uptoN p u = k := by
  have hd : u.drop 1 = (u.take k).drop 1 ++ u.drop k := by
    rw [← List.drop_append_of_le_length (by rw [List.length_take]; omega), List.take_append_drop]
  rw [uptoN, hd, List.takeWhile_append_of_pos (by intro a ha; exact List.all_eq_true.1 hall a ha)]
  have h2 : (u.drop k).takeWhile p = [] := by
    by_cases q : k < u.length
    · rw [List.drop_eq_getElem_cons q, List.takeWhile_cons, hstop q]; rfl
    · rw [List.drop_eq_nil_of_le (by omega)]; rfl
  rw [h2, List.append_nil, List.length_drop, List.length_take]; omega
theorem upto_more (p : UInt8 → Bool) (u : Str) (k : Nat) (hk : k < u.length) (h1 : 1 ≤ k) (hall : ((u.take k).drop 1).all p = true) (hp : p u[k] = true) : ((u.take (k + 1)).drop 1).all p = true := by
  rw [List.take_succ_eq_append_getElem hk, List.drop_append_of_le_length (by rw [List.length_take]; omega), List.all_append, hall]; simp [hp]
theorem uptoQ (u : Str) : uptoN qB u = cutN (u.drop 1) + 1 := by rw [uptoN, cutN]; omega
theorem end_ok (s : Str) (i : Nat) (h : List AObj) (hi : i < s.length) (hs : s.length ≤ 9223372036854775000) : ACall Tryd.prog 20 [.str s, .int .i64 (i : Int)] h (fun r h' => r = .int .i64 ((i + endN (s.drop i) : Nat) : Int) ∧ h' = h) := by
  have hul : (s.drop i).length = s.length - i := List.length_drop
  have hget : ∀ k, List.getD s (i + k) 0 = List.getD (s.drop i) k 0 := fun k => by rw [List.getD_eq_getElem?_getD, List.getD_eq_getElem?_getD, List.getElem?_drop]
  have hget0 : List.getD s i 0 = List.getD (s.drop i) 0 0 := hget 0
  have hE : endN (s.drop i) = if List.getD (s.drop i) 0 0 = 34 then min (cutN ((s.drop i).drop 1) + 2) (s.drop i).length else uptoN (if letB (List.getD (s.drop i) 0 0) then wordB else figB) (s.drop i) := rfl
  generalize s.drop i = u at *
  generalize List.getD u 0 0 = c at *
  (refine ACall.of_code Tryd.func20 rfl ?_; simp only [Tryd.f20]; simp only [go_sem, Nat.reduceMul, Nat.reduceLT, Nat.reduceLeDiff, Nat.reduceEqDiff, Nat.reduceBEq, Int.toNat_natCast, Int.reduceToNat, Int.reduceNeg, Int.reduceLT, Int.reduceLE, Int.reduceBEq, Int.reduceBNe, decide_true, decide_false, Bool.false_eq_true, false_imp_iff, Nat.lt_irrefl])
  rw [hget0]
  refine ⟨⟨by omega, by omega⟩, ?_⟩
  refine ACallT.by (rletter_ok c _) ?_
  rintro r h1 ⟨rfl, rfl⟩
  simp only [go_sem, Nat.reduceMul, Nat.reduceLT, Nat.reduceLeDiff, Nat.reduceEqDiff, Nat.reduceBEq, Int.toNat_natCast, Int.reduceToNat, Int.reduceNeg, Int.reduceLT, Int.reduceLE, Int.reduceBEq, Int.reduceBNe, decide_true, decide_false, Bool.false_eq_true, false_imp_iff, Nat.lt_irrefl]
  refine ⟨⟨by omega, by omega⟩, ?_⟩
  rw [hget0, show ((c.toNat : Int) == 34) = (c == 34) from byte_eq c 34 (by omega)]
  generalize hq : (c == 34) = q
  cases q with
  | true =>
    have hc : c = 34 := by simpa using hq
    rw [if_pos hc] at hE
    simp only [go_sem, Nat.reduceMul, Nat.reduceLT, Nat.reduceLeDiff, Nat.reduceEqDiff, Nat.reduceBEq, Int.toNat_natCast, Int.reduceToNat, Int.reduceNeg, Int.reduceLT, Int.reduceLE, Int.reduceBEq, Int.reduceBNe, decide_true, decide_false, Bool.false_eq_true, false_imp_iff, Nat.lt_irrefl]
    rw [wrap_id (x := (i : Int) + 1) (by omega) (by omega)]
    refine ALoop.over [6, 19, 20, 21, 22, 23, 24, 25, 26, 27, 28, 29, 30] (fun e h' => h' = h1 ∧ ∃ k : Nat, 1 ≤ k ∧ k ≤ u.length ∧ e.getD 6 .any = .int .i64 ((i + k : Nat) : Int) ∧ ((u.take k).drop 1).all qB = true) (fun e _ => s.length - natA (e.getD 6 .any)) ⟨rfl, 1, by omega, by omega, rfl, by simp⟩ ?_
    simp only [List.length_cons, List.length_nil, Nat.reduceAdd, allL_succ, allL_zero]
    intro y6 y19 y20 y21 y22 y23 y24 y25 y26 y27 y28 y29 y30 h' hI
    simp only [go_sem] at hI
    obtain ⟨rfl, k, hk1, hk, rfl, hall⟩ := hI
    have fin : StopAt qB u k → endN u = min (k + 1) u.length := by
      intro hstop
      have := upto_stop qB u k hk hk1 hall hstop
      rw [uptoQ] at this
      clear hstop
      rw [hE]; omega
    simp only [go_sem, Nat.reduceMul, Nat.reduceLT, Nat.reduceLeDiff, Nat.reduceEqDiff, Nat.reduceBEq, Int.toNat_natCast, Int.reduceToNat, Int.reduceNeg, Int.reduceLT, Int.reduceLE, Int.reduceBEq, Int.reduceBNe, decide_true, decide_false, Bool.false_eq_true, false_imp_iff, Nat.lt_irrefl]
    generalize hz : decide (((i + k : Nat) : Int) < (s.length : Int)) = z
    cases z with
    | false =>
      have hge : ¬ k < u.length := by have := of_decide_eq_false hz; omega
      simp only [go_sem, Nat.reduceMul, Nat.reduceLT, Nat.reduceLeDiff, Nat.reduceEqDiff, Nat.reduceBEq, Int.toNat_natCast, Int.reduceToNat, Int.reduceNeg, Int.reduceLT, Int.reduceLE, Int.reduceBEq, Int.reduceBNe, decide_true, decide_false, Bool.false_eq_true, false_imp_iff, Nat.lt_irrefl]
      rw [wrap_id (by omega) (by omega)]
      refine Fin_plain ⟨?_, rfl⟩
      rw [fin (fun q => absurd q hge)]
      congr 1
      split <;> omega
    | true =>
      have hlt : k < u.length := by have := of_decide_eq_true hz; omega
      simp only [go_sem, hget, Nat.reduceMul, Nat.reduceLT, Nat.reduceLeDiff, Nat.reduceEqDiff, Nat.reduceBEq, Int.toNat_natCast, Int.reduceToNat, Int.reduceNeg, Int.reduceLT, Int.reduceLE, Int.reduceBEq, Int.reduceBNe, decide_true, decide_false, Bool.false_eq_true, false_imp_iff, Nat.lt_irrefl]
      have hgk : List.getD u k 0 = u[k] := str_get u k hlt
      have hb34 : (((List.getD u k 0).toNat : Int) != 34) = qB u[k] := by
        rw [hgk, bne, show (((u[k]).toNat : Int) == 34) = (u[k] == 34) from byte_eq _ 34 (by omega)]; rfl
      rw [hb34]
      refine ⟨⟨by omega, by omega⟩, acond_intro (fun hb => ?_) (fun hb => ?_)⟩
      · simp only [go_sem, Nat.reduceMul, Nat.reduceLT, Nat.reduceLeDiff, Nat.reduceEqDiff, Nat.reduceBEq, Int.toNat_natCast, Int.reduceToNat, Int.reduceNeg, Int.reduceLT, Int.reduceLE, Int.reduceBEq, Int.reduceBNe, decide_true, decide_false, Bool.false_eq_true, false_imp_iff, Nat.lt_irrefl]
        rw [wrap_id (by omega) (by omega)]
        refine ⟨⟨k + 1, by omega, by omega, by congr 1, upto_more qB u k hlt hk1 hall hb⟩, by omega⟩
      · simp only [go_sem, Nat.reduceMul, Nat.reduceLT, Nat.reduceLeDiff, Nat.reduceEqDiff, Nat.reduceBEq, Int.toNat_natCast, Int.reduceToNat, Int.reduceNeg, Int.reduceLT, Int.reduceLE, Int.reduceBEq, Int.reduceBNe, decide_true, decide_false, Bool.false_eq_true, false_imp_iff, Nat.lt_irrefl]
        rw [wrap_id (by omega) (by omega)]
        refine Fin_plain ⟨?_, rfl⟩
        rw [fin (fun q => hb)]
        congr 1
        split <;> omega
  | false =>
    have hc : ¬ c = 34 := by simpa using hq
    rw [if_neg hc] at hE
    simp only [go_sem, Nat.reduceMul, Nat.reduceLT, Nat.reduceLeDiff, Nat.reduceEqDiff, Nat.reduceBEq, Int.toNat_natCast, Int.reduceToNat, Int.reduceNeg, Int.reduceLT, Int.reduceLE, Int.reduceBEq, Int.reduceBNe, decide_true, decide_false, Bool.false_eq_true, false_imp_iff, Nat.lt_irrefl]
    rw [wrap_id (x := (i : Int) + 1) (by omega) (by omega)]
    generalize hP : (if letB c = true then wordB else figB) = p at hE
    refine ALoop.over [6, 7, 8, 36, 37, 38, 39, 40, 41, 42, 43, 44, 45, 46, 47, 48, 49, 50, 51, 52, 53, 54, 55, 56, 57, 58, 59, 60, 61, 62, 63, 64, 65] (fun e h' => h' = h1 ∧ ∃ k : Nat, 1 ≤ k ∧ k ≤ u.length ∧ e.getD 6 .any = .int .i64 ((i + k : Nat) : Int) ∧ ((u.take k).drop 1).all p = true) (fun e _ => s.length - natA (e.getD 6 .any)) ⟨rfl, 1, by omega, by omega, rfl, by simp⟩ ?_
    simp only [List.length_cons, List.length_nil, Nat.reduceAdd, allL_succ, allL_zero]
    intro y6 y7 y8 y36 y37 y38 y39 y40 y41 y42 y43 y44 y45 y46 y47 y48 y49 y50 y51 y52 y53 y54 y55 y56 y57 y58 y59 y60 y61 y62 y63 y64 y65 h' hI
    simp only [go_sem] at hI
    obtain ⟨rfl, k, hk1, hk, rfl, hall⟩ := hI
    have fin : StopAt p u k → endN u = k := by
      intro hstop
      have := upto_stop p u k hk hk1 hall hstop
      rw [hE]; exact this
    simp only [go_sem, Nat.reduceMul, Nat.reduceLT, Nat.reduceLeDiff, Nat.reduceEqDiff, Nat.reduceBEq, Int.toNat_natCast, Int.reduceToNat, Int.reduceNeg, Int.reduceLT, Int.reduceLE, Int.reduceBEq, Int.reduceBNe, decide_true, decide_false, Bool.false_eq_true, false_imp_iff, Nat.lt_irrefl]
    refine acond_intro (fun hz => ?_) (fun hz => ?_)
    · have hlt : k < u.length := by have := of_decide_eq_true hz; omega
      have hgk : List.getD u k 0 = u[k] := str_get u k hlt
      simp only [go_sem, hget, hgk, Nat.reduceMul, Nat.reduceLT, Nat.reduceLeDiff, Nat.reduceEqDiff, Nat.reduceBEq, Int.toNat_natCast, Int.reduceToNat, Int.reduceNeg, Int.reduceLT, Int.reduceLE, Int.reduceBEq, Int.reduceBNe, decide_true, decide_false, Bool.false_eq_true, false_imp_iff, Nat.lt_irrefl]
      refine ⟨⟨by omega, by omega⟩, ?_⟩
      refine ACallT.by (rletter_ok u[k] _) ?_
      rintro r h1 ⟨rfl, rfl⟩
      have hwr : ∀ lk fk : Bool, letB u[k] = lk → figB u[k] = fk → p u[k] = (bif letB c then (bif (bif lk then true else fk) then true else (((u[k]).toNat : Int) == 95)) else fk) := by
        intro lk fk e1 e2
        rw [← hP]
        cases letB c with
        | true => simp only [if_true, wordB, e1, e2, cond_true]
        | false => simp only [Bool.false_eq_true, if_false, e2, cond_false]
      generalize hlc : letB c = lc at *
      generalize hlk : letB u[k] = lk at *
      generalize h95 : (((u[k]).toNat : Int) == 95) = z95 at *
      have stop : ∀ fk : Bool, figB u[k] = fk → (bif lc then (bif (bif lk then true else fk) then true else z95) else fk) = false → endN u = k := fun fk e1 e2 => fin (fun _ => by rw [hwr lk fk rfl e1]; exact e2)
      have more : ∀ fk : Bool, figB u[k] = fk → (bif lc then (bif (bif lk then true else fk) then true else z95) else fk) = true → ((u.take (k + 1)).drop 1).all p = true := fun fk e1 e2 => upto_more p u k hlt hk1 hall (by rw [hwr lk fk rfl e1]; exact e2)
      cases lk with
      | true =>
        simp only [go_sem, hget, hgk, Nat.reduceMul, Nat.reduceLT, Nat.reduceLeDiff, Nat.reduceEqDiff, Nat.reduceBEq, Int.toNat_natCast, Int.reduceToNat, Int.reduceNeg, Int.reduceLT, Int.reduceLE, Int.reduceBEq, Int.reduceBNe, decide_true, decide_false, Bool.false_eq_true, false_imp_iff, Nat.lt_irrefl]
        refine ⟨⟨by omega, by omega⟩, ?_⟩
        refine ACallT.by (rfigure_ok u[k] _) ?_
        rintro r h1 ⟨rfl, rfl⟩
        generalize hfk : figB u[k] = fk at *
        cases fk with
        | true =>
          cases lc with
          | true =>
            simp only [go_sem, Nat.reduceMul, Nat.reduceLT, Nat.reduceLeDiff, Nat.reduceEqDiff, Nat.reduceBEq, Int.toNat_natCast, Int.reduceToNat, Int.reduceNeg, Int.reduceLT, Int.reduceLE, Int.reduceBEq, Int.reduceBNe, decide_true, decide_false, Bool.false_eq_true, false_imp_iff, Nat.lt_irrefl]
            rw [wrap_id (by omega) (by omega)]
            exact ⟨⟨k + 1, by omega, by omega, by congr 1, more true rfl rfl⟩, by omega⟩
          | false =>
            simp only [go_sem, Nat.reduceMul, Nat.reduceLT, Nat.reduceLeDiff, Nat.reduceEqDiff, Nat.reduceBEq, Int.toNat_natCast, Int.reduceToNat, Int.reduceNeg, Int.reduceLT, Int.reduceLE, Int.reduceBEq, Int.reduceBNe, decide_true, decide_false, Bool.false_eq_true, false_imp_iff, Nat.lt_irrefl]
            rw [wrap_id (by omega) (by omega)]
            exact ⟨⟨k + 1, by omega, by omega, by congr 1, more true rfl rfl⟩, by omega⟩
        | false =>
          cases lc with
          | true =>
            simp only [go_sem, Nat.reduceMul, Nat.reduceLT, Nat.reduceLeDiff, Nat.reduceEqDiff, Nat.reduceBEq, Int.toNat_natCast, Int.reduceToNat, Int.reduceNeg, Int.reduceLT, Int.reduceLE, Int.reduceBEq, Int.reduceBNe, decide_true, decide_false, Bool.false_eq_true, false_imp_iff, Nat.lt_irrefl]
            rw [wrap_id (by omega) (by omega)]
            exact ⟨⟨k + 1, by omega, by omega, by congr 1, more false rfl rfl⟩, by omega⟩
          | false =>
            simp only [go_sem, Nat.reduceMul, Nat.reduceLT, Nat.reduceLeDiff, Nat.reduceEqDiff, Nat.reduceBEq, Int.toNat_natCast, Int.reduceToNat, Int.reduceNeg, Int.reduceLT, Int.reduceLE, Int.reduceBEq, Int.reduceBNe, decide_true, decide_false, Bool.false_eq_true, false_imp_iff, Nat.lt_irrefl]
            refine Fin_plain ⟨?_, rfl⟩
            rw [stop false rfl rfl]
      | false =>
        simp only [go_sem, hget, hgk, Nat.reduceMul, Nat.reduceLT, Nat.reduceLeDiff, Nat.reduceEqDiff, Nat.reduceBEq, Int.toNat_natCast, Int.reduceToNat, Int.reduceNeg, Int.reduceLT, Int.reduceLE, Int.reduceBEq, Int.reduceBNe, decide_true, decide_false, Bool.false_eq_true, false_imp_iff, Nat.lt_irrefl]
        rw [h95]
        refine ⟨⟨by omega, by omega⟩, ⟨by omega, by omega⟩, ?_⟩
        refine ACallT.by (rfigure_ok u[k] _) ?_
        rintro r h1 ⟨rfl, rfl⟩
        generalize hfk : figB u[k] = fk at *
        cases fk with
        | true =>
          cases lc with
          | true =>
            simp only [go_sem, Nat.reduceMul, Nat.reduceLT, Nat.reduceLeDiff, Nat.reduceEqDiff, Nat.reduceBEq, Int.toNat_natCast, Int.reduceToNat, Int.reduceNeg, Int.reduceLT, Int.reduceLE, Int.reduceBEq, Int.reduceBNe, decide_true, decide_false, Bool.false_eq_true, false_imp_iff, Nat.lt_irrefl]
            rw [wrap_id (by omega) (by omega)]
            exact ⟨⟨k + 1, by omega, by omega, by congr 1, more true rfl rfl⟩, by omega⟩
          | false =>
            simp only [go_sem, Nat.reduceMul, Nat.reduceLT, Nat.reduceLeDiff, Nat.reduceEqDiff, Nat.reduceBEq, Int.toNat_natCast, Int.reduceToNat, Int.reduceNeg, Int.reduceLT, Int.reduceLE, Int.reduceBEq, Int.reduceBNe, decide_true, decide_false, Bool.false_eq_true, false_imp_iff, Nat.lt_irrefl]
            rw [wrap_id (by omega) (by omega)]
            exact ⟨⟨k + 1, by omega, by omega, by congr 1, more true rfl rfl⟩, by omega⟩
        | false =>
          cases lc with
          | true =>
            cases z95 with
            | true =>
              simp only [go_sem, Nat.reduceMul, Nat.reduceLT, Nat.reduceLeDiff, Nat.reduceEqDiff, Nat.reduceBEq, Int.toNat_natCast, Int.reduceToNat, Int.reduceNeg, Int.reduceLT, Int.reduceLE, Int.reduceBEq, Int.reduceBNe, decide_true, decide_false, Bool.false_eq_true, false_imp_iff, Nat.lt_irrefl]
              rw [wrap_id (by omega) (by omega)]
              exact ⟨⟨k + 1, by omega, by omega, by congr 1, more false rfl rfl⟩, by omega⟩
            | false =>
              simp only [go_sem, Nat.reduceMul, Nat.reduceLT, Nat.reduceLeDiff, Nat.reduceEqDiff, Nat.reduceBEq, Int.toNat_natCast, Int.reduceToNat, Int.reduceNeg, Int.reduceLT, Int.reduceLE, Int.reduceBEq, Int.reduceBNe, decide_true, decide_false, Bool.false_eq_true, false_imp_iff, Nat.lt_irrefl]
              refine Fin_plain ⟨?_, rfl⟩
              rw [stop false rfl rfl]
          | false =>
            simp only [go_sem, Nat.reduceMul, Nat.reduceLT, Nat.reduceLeDiff, Nat.reduceEqDiff, Nat.reduceBEq, Int.toNat_natCast, Int.reduceToNat, Int.reduceNeg, Int.reduceLT, Int.reduceLE, Int.reduceBEq, Int.reduceBNe, decide_true, decide_false, Bool.false_eq_true, false_imp_iff, Nat.lt_irrefl]
            refine Fin_plain ⟨?_, rfl⟩
            rw [stop false rfl rfl]
    · have hge : ¬ k < u.length := by have := of_decide_eq_false hz; omega
      simp only [go_sem, Nat.reduceMul, Nat.reduceLT, Nat.reduceLeDiff, Nat.reduceEqDiff, Nat.reduceBEq, Int.toNat_natCast, Int.reduceToNat, Int.reduceNeg, Int.reduceLT, Int.reduceLE, Int.reduceBEq, Int.reduceBNe, decide_true, decide_false, Bool.false_eq_true, false_imp_iff, Nat.lt_irrefl]
      refine Fin_plain ⟨?_, rfl⟩
      rw [fin (fun q => absurd q hge)]
end Go.Proofs.Vale
