/- YtchboekipfpheaaDoorVLexF: a text of the proof of this claim, by its prover. -/
import Derived.Test.YtchboekipfpheaaDoorVLexC
set_option linter.unusedVariables false
set_option linter.unusedSimpArgs false
set_option maxHeartbeats 4000000
set_option maxRecDepth 100000
namespace Go.Proofs.Vale
open Go.Proofs Go.Proofs.YtchboekipfpheaaDoorT
attribute [local irreducible] acode aopsL aopsT dopsL dopsT dmL dmT pop popG aop ALoop ADraw ACall AWP AFin acondT ALoopT ADrawT ACallT doP doG doGd

/-! ### The program's pieces -/
def letB (b : UInt8) : Bool := bif decide ((97 : Int) ≤ (b.toNat : Int)) then decide ((b.toNat : Int) ≤ 122) else false
def figB (b : UInt8) : Bool := bif decide ((48 : Int) ≤ (b.toNat : Int)) then decide ((b.toNat : Int) ≤ 57) else false
def wordB (b : UInt8) : Bool := bif (bif letB b then true else figB b) then true else ((b.toNat : Int) == 95)
theorem letter_lok (b : UInt8) (h : List AObj) : ACall Tryd.prog 28 [.int .u8 (b.toNat : Int)] h (fun r h' => r = .bool (letB b) ∧ h' = h) := by
  (refine ACall.of_code Tryd.func28 rfl ?_; simp only [Tryd.f28]; simp only [go_sem, Nat.reduceMul, Nat.reduceLT, Nat.reduceLeDiff, Nat.reduceEqDiff, Nat.reduceBEq, Int.toNat_natCast, Int.reduceToNat, Int.reduceNeg, Int.reduceLT, Int.reduceLE, Int.reduceBEq, Int.reduceBNe, decide_true, decide_false, Bool.false_eq_true, false_imp_iff, Nat.lt_irrefl])
  exact Fin_plain ⟨by simp only [letB], rfl⟩
theorem figure_lok (b : UInt8) (h : List AObj) : ACall Tryd.prog 31 [.int .u8 (b.toNat : Int)] h (fun r h' => r = .bool (figB b) ∧ h' = h) := by
  (refine ACall.of_code Tryd.func31 rfl ?_; simp only [Tryd.f31]; simp only [go_sem, Nat.reduceMul, Nat.reduceLT, Nat.reduceLeDiff, Nat.reduceEqDiff, Nat.reduceBEq, Int.toNat_natCast, Int.reduceToNat, Int.reduceNeg, Int.reduceLT, Int.reduceLE, Int.reduceBEq, Int.reduceBNe, decide_true, decide_false, Bool.false_eq_true, false_imp_iff, Nat.lt_irrefl])
  exact Fin_plain ⟨by simp only [figB], rfl⟩
theorem word_lok (b : UInt8) (h : List AObj) : ACall Tryd.prog 30 [.int .u8 (b.toNat : Int)] h (fun r h' => r = .bool (wordB b) ∧ h' = h) := by
  (refine ACall.of_code Tryd.func30 rfl ?_; simp only [Tryd.f30]; simp only [go_sem, Nat.reduceMul, Nat.reduceLT, Nat.reduceLeDiff, Nat.reduceEqDiff, Nat.reduceBEq, Int.toNat_natCast, Int.reduceToNat, Int.reduceNeg, Int.reduceLT, Int.reduceLE, Int.reduceBEq, Int.reduceBNe, decide_true, decide_false, Bool.false_eq_true, false_imp_iff, Nat.lt_irrefl])
  refine ACallT.by (letter_lok b _) ?_
  rintro r h1 ⟨rfl, rfl⟩
  generalize hl : letB b = l
  cases l with
  | true => simp only [go_sem, Nat.reduceMul, Nat.reduceLT, Nat.reduceLeDiff, Nat.reduceEqDiff, Nat.reduceBEq, Int.toNat_natCast, Int.reduceToNat, Int.reduceNeg, Int.reduceLT, Int.reduceLE, Int.reduceBEq, Int.reduceBNe, decide_true, decide_false, Bool.false_eq_true, false_imp_iff, Nat.lt_irrefl]; exact Fin_plain ⟨by rw [wordB, hl]; rfl, rfl⟩
  | false =>
    simp only [go_sem, Nat.reduceMul, Nat.reduceLT, Nat.reduceLeDiff, Nat.reduceEqDiff, Nat.reduceBEq, Int.toNat_natCast, Int.reduceToNat, Int.reduceNeg, Int.reduceLT, Int.reduceLE, Int.reduceBEq, Int.reduceBNe, decide_true, decide_false, Bool.false_eq_true, false_imp_iff, Nat.lt_irrefl]
    refine ACallT.by (figure_lok b _) ?_
    rintro r h1 ⟨rfl, rfl⟩
    generalize hf : figB b = f
    cases f with
    | true => simp only [go_sem, Nat.reduceMul, Nat.reduceLT, Nat.reduceLeDiff, Nat.reduceEqDiff, Nat.reduceBEq, Int.toNat_natCast, Int.reduceToNat, Int.reduceNeg, Int.reduceLT, Int.reduceLE, Int.reduceBEq, Int.reduceBNe, decide_true, decide_false, Bool.false_eq_true, false_imp_iff, Nat.lt_irrefl]; exact Fin_plain ⟨by rw [wordB, hl, hf]; rfl, rfl⟩
    | false => simp only [go_sem, Nat.reduceMul, Nat.reduceLT, Nat.reduceLeDiff, Nat.reduceEqDiff, Nat.reduceBEq, Int.toNat_natCast, Int.reduceToNat, Int.reduceNeg, Int.reduceLT, Int.reduceLE, Int.reduceBEq, Int.reduceBNe, decide_true, decide_false, Bool.false_eq_true, false_imp_iff, Nat.lt_irrefl]; exact Fin_plain ⟨by rw [wordB, hl, hf]; rfl, rfl⟩
theorem str_get (s : Str) (k : Nat) (h : k < s.length) : List.getD s k 0 = s[k] := by rw [List.getD_eq_getElem?_getD, List.getElem?_eq_getElem h]; rfl
/-- How far a text's bytes, behind the first one, are wanted. -/
def uptoN (p : UInt8 → Bool) (s : Str) : Nat := 1 + ((s.drop 1).takeWhile p).length
theorem upto_lok (fn : Nat) (p : UInt8 → Bool) (he : entersB Tryd.prog fn = true) (hf : ∀ b h, ACall Tryd.prog fn [.int .u8 ((b : UInt8).toNat : Int)] h (fun r h' => r = .bool (p b) ∧ h' = h)) (s : Str) (h : List AObj) (h0 : 0 < s.length) (hs : s.length ≤ 9223372036854775807) : ACall Tryd.prog 29 [.str s, .func (.func fn) [] []] h (fun r h' => r = .str (s.take (uptoN p s)) ∧ h' = h) := by
  (refine ACall.of_code Tryd.func29 rfl ?_; simp only [Tryd.f29]; simp only [go_sem, Nat.reduceMul, Nat.reduceLT, Nat.reduceLeDiff, Nat.reduceEqDiff, Nat.reduceBEq, Int.toNat_natCast, Int.reduceToNat, Int.reduceNeg, Int.reduceLT, Int.reduceLE, Int.reduceBEq, Int.reduceBNe, decide_true, decide_false, Bool.false_eq_true, false_imp_iff, Nat.lt_irrefl])
  refine ALoop.over [5, 6, 7, 8, 9, 10, 11, 12, 13, 14, 15, 16, 17, 18] (fun e h' => h' = h ∧ ∃ k : Nat, 1 ≤ k ∧ k ≤ s.length ∧ e.getD 5 .any = .int .i64 k ∧ ((s.take k).drop 1).all p = true) (fun e _ => s.length - natA (e.getD 5 .any)) ⟨rfl, 1, by omega, by omega, rfl, by simp⟩ ?_
  simp only [List.length_cons, List.length_nil, Nat.reduceAdd, allL_succ, allL_zero]
  intro y5 y6 y7 y8 y9 y10 y11 y12 y13 y14 y15 y16 y17 y18 h' hI
  simp only [go_sem] at hI
  obtain ⟨rfl, k, hk1, hk, rfl, hall⟩ := hI
  have fin : ∀ hstop : (∀ hk : k < s.length, p s[k] = false), uptoN p s = k := by
    intro hstop
    have hd : s.drop 1 = (s.take k).drop 1 ++ s.drop k := by
      rw [← List.drop_append_of_le_length (by rw [List.length_take]; omega), List.take_append_drop]
    rw [uptoN, hd, List.takeWhile_append_of_pos (by intro a ha; exact List.all_eq_true.1 hall a ha)]
    have h2 : (s.drop k).takeWhile p = [] := by
      by_cases q : k < s.length
      · rw [List.drop_eq_getElem_cons q, List.takeWhile_cons, hstop q]; rfl
      · rw [List.drop_eq_nil_of_le (by omega)]; rfl
    rw [h2, List.append_nil, List.length_drop, List.length_take]; omega
  simp only [go_sem, Nat.reduceMul, Nat.reduceLT, Nat.reduceLeDiff, Nat.reduceEqDiff, Nat.reduceBEq, Int.toNat_natCast, Int.reduceToNat, Int.reduceNeg, Int.reduceLT, Int.reduceLE, Int.reduceBEq, Int.reduceBNe, decide_true, decide_false, Bool.false_eq_true, false_imp_iff, Nat.lt_irrefl]
  generalize hz : decide ((k : Int) < (s.length : Int)) = z
  cases z with
  | false =>
    have hge : ¬ k < s.length := by have := of_decide_eq_false hz; omega
    simp only [go_sem, Nat.reduceMul, Nat.reduceLT, Nat.reduceLeDiff, Nat.reduceEqDiff, Nat.reduceBEq, Int.toNat_natCast, Int.reduceToNat, Int.reduceNeg, Int.reduceLT, Int.reduceLE, Int.reduceBEq, Int.reduceBNe, decide_true, decide_false, Bool.false_eq_true, false_imp_iff, Nat.lt_irrefl]
    refine ⟨⟨by omega, by omega⟩, Fin_plain ⟨?_, rfl⟩⟩
    rw [fin (fun q => absurd q hge)]
  | true =>
    have hlt : k < s.length := by have := of_decide_eq_true hz; omega
    simp only [go_sem, str_get s k hlt, he, Nat.reduceMul, Nat.reduceLT, Nat.reduceLeDiff, Nat.reduceEqDiff, Nat.reduceBEq, Int.toNat_natCast, Int.reduceToNat, Int.reduceNeg, Int.reduceLT, Int.reduceLE, Int.reduceBEq, Int.reduceBNe, decide_true, decide_false, Bool.false_eq_true, false_imp_iff, Nat.lt_irrefl]
    refine ⟨⟨by omega, by omega⟩, ?_⟩
    refine ACallT.by (hf s[k] _) ?_
    rintro r h1 ⟨rfl, rfl⟩
    generalize hb : p s[k] = b
    cases b with
    | true =>
      simp only [go_sem, Nat.reduceMul, Nat.reduceLT, Nat.reduceLeDiff, Nat.reduceEqDiff, Nat.reduceBEq, Int.toNat_natCast, Int.reduceToNat, Int.reduceNeg, Int.reduceLT, Int.reduceLE, Int.reduceBEq, Int.reduceBNe, decide_true, decide_false, Bool.false_eq_true, false_imp_iff, Nat.lt_irrefl]
      rw [wrap_id (by omega) (by omega)]
      refine ⟨⟨k + 1, by omega, by omega, rfl, ?_⟩, by omega⟩
      rw [List.take_succ_eq_append_getElem hlt, List.drop_append_of_le_length (by rw [List.length_take]; omega), List.all_append, hall]; simp [hb]
    | false =>
      simp only [go_sem, Nat.reduceMul, Nat.reduceLT, Nat.reduceLeDiff, Nat.reduceEqDiff, Nat.reduceBEq, Int.toNat_natCast, Int.reduceToNat, Int.reduceNeg, Int.reduceLT, Int.reduceLE, Int.reduceBEq, Int.reduceBNe, decide_true, decide_false, Bool.false_eq_true, false_imp_iff, Nat.lt_irrefl]
      refine ⟨⟨by omega, by omega⟩, Fin_plain ⟨?_, rfl⟩⟩
      rw [fin (fun q => hb)]
end Go.Proofs.Vale

set_option linter.unusedVariables false
set_option linter.unusedSimpArgs false
set_option maxHeartbeats 4000000
set_option maxRecDepth 100000
namespace Go.Proofs.Vale
open Go.Proofs Go.Proofs.YtchboekipfpheaaDoorT
attribute [local irreducible] acode aopsL aopsT dopsL dopsT dmL dmT pop popG aop ALoop ADraw ACall AWP AFin acondT ALoopT ADrawT ACallT doP doG doGd

/-! ### A quoted text, a number -/
def qB (b : UInt8) : Bool := b != 34
def cutN (s : Str) : Nat := (s.takeWhile qB).length
theorem cutN_le (s : Str) : cutN s ≤ s.length := (List.takeWhile_prefix _).length_le
theorem cut_take (s : Str) : s.take (cutN s) = s.takeWhile qB := (List.prefix_iff_eq_take.1 (List.takeWhile_prefix _)).symm
theorem indexByte_q (s : Str) : Lib.indexByte s 34 = if cutN s < s.length then (cutN s : Int) else -1 := by
  induction s with
  | nil => rfl
  | cons b s ih =>
    rw [Lib.indexByte]
    by_cases e : b = 34
    · subst e
      have : cutN (34 :: s) = 0 := by simp [cutN, qB]
      rw [this, if_pos (by simp), if_pos (by simp)]; rfl
    · have h1 : cutN (b :: s) = cutN s + 1 := by simp [cutN, List.takeWhile_cons, qB, e]
      rw [if_neg (by simpa using e), h1]
      by_cases q : cutN s < s.length
      · have ih' : Lib.indexByte s 34 = (cutN s : Int) := by rw [ih, if_pos q]
        rw [ih', if_neg (by simp), if_pos (by rw [List.length_cons]; omega)]
        try omega
      · have ih' : Lib.indexByte s 34 = -1 := by rw [ih, if_neg q]
        rw [ih', if_pos (show ((-1 : Int) == -1) = true from rfl), if_neg (by rw [List.length_cons]; omega)]
def cutR (s : Str) : AV := if cutN s < s.length then .tup [.str (s.take (cutN s)), .str (s.drop (cutN s + 1)), .bool true] else .tup [.str s, .str [], .bool false]
theorem cut_in_ok (s : Str) (h : List AObj) (hs : s.length ≤ 9223372036854775806) : ACall Tryd.prog 54 [.str s, .str [34]] h (fun r h' => r = cutR s ∧ h' = h) := by
  (refine ACall.of_code Tryd.func54 rfl ?_; simp only [Tryd.f54]; simp only [go_sem, Nat.reduceMul, Nat.reduceLT, Nat.reduceLeDiff, Nat.reduceEqDiff, Nat.reduceBEq, Int.toNat_natCast, Int.reduceToNat, Int.reduceNeg, Int.reduceLT, Int.reduceLE, Int.reduceBEq, Int.reduceBNe, decide_true, decide_false, Bool.false_eq_true, false_imp_iff, Nat.lt_irrefl])
  refine ACallT.by (index1_ok s 34 _) ?_
  rintro r h1 ⟨rfl, rfl⟩
  rw [indexByte_q]
  by_cases q : cutN s < s.length
  · rw [if_pos q, cutR, if_pos q]
    simp only [go_sem, Nat.reduceMul, Nat.reduceLT, Nat.reduceLeDiff, Nat.reduceEqDiff, Nat.reduceBEq, Int.toNat_natCast, Int.reduceToNat, Int.reduceNeg, Int.reduceLT, Int.reduceLE, Int.reduceBEq, Int.reduceBNe, decide_true, decide_false, Bool.false_eq_true, false_imp_iff, Nat.lt_irrefl]
    refine acond_intro (fun _ => ?_) (fun hc => absurd hc (by simp))
    simp only [go_sem, Nat.reduceMul, Nat.reduceLT, Nat.reduceLeDiff, Nat.reduceEqDiff, Nat.reduceBEq, Int.toNat_natCast, Int.reduceToNat, Int.reduceNeg, Int.reduceLT, Int.reduceLE, Int.reduceBEq, Int.reduceBNe, decide_true, decide_false, Bool.false_eq_true, false_imp_iff, Nat.lt_irrefl]
    refine ADrawT.quiet mixedOrdersD (by kernel_rfl) ?_
    simp only [go_sem, Nat.reduceMul, Nat.reduceLT, Nat.reduceLeDiff, Nat.reduceEqDiff, Nat.reduceBEq, Int.toNat_natCast, Int.reduceToNat, Int.reduceNeg, Int.reduceLT, Int.reduceLE, Int.reduceBEq, Int.reduceBNe, decide_true, decide_false, Bool.false_eq_true, false_imp_iff, Nat.lt_irrefl]
    rw [wrap_id (by omega) (by omega)]
    refine ⟨⟨by omega, by omega⟩, ⟨by omega, by omega, by omega⟩, Fin_plain ⟨?_, rfl⟩⟩
    rw [show ((cutN s : Int) + ((1 : Nat) : Int)).toNat = cutN s + 1 by omega]
  · rw [if_neg q, cutR, if_neg q]
    simp only [go_sem, Nat.reduceMul, Nat.reduceLT, Nat.reduceLeDiff, Nat.reduceEqDiff, Nat.reduceBEq, Int.toNat_natCast, Int.reduceToNat, Int.reduceNeg, Int.reduceLT, Int.reduceLE, Int.reduceBEq, Int.reduceBNe, decide_true, decide_false, Bool.false_eq_true, false_imp_iff, Nat.lt_irrefl]
    refine Fin_plain ⟨rfl, rfl⟩
theorem cut_ok (s : Str) (h : List AObj) (hs : s.length ≤ 9223372036854775806) : ACall Tryd.prog 44 [.str s, .str [34]] h (fun r h' => r = cutR s ∧ h' = h) := by
  (refine ACall.of_code Tryd.func44 rfl ?_; simp only [Tryd.f44]; simp only [go_sem, Nat.reduceMul, Nat.reduceLT, Nat.reduceLeDiff, Nat.reduceEqDiff, Nat.reduceBEq, Int.toNat_natCast, Int.reduceToNat, Int.reduceNeg, Int.reduceLT, Int.reduceLE, Int.reduceBEq, Int.reduceBNe, decide_true, decide_false, Bool.false_eq_true, false_imp_iff, Nat.lt_irrefl])
  refine ACallT.by (cut_in_ok s _ hs) ?_
  rintro r h1 ⟨rfl, rfl⟩
  by_cases q : cutN s < s.length
  · rw [cutR, if_pos q]; simp only [go_sem, Nat.reduceMul, Nat.reduceLT, Nat.reduceLeDiff, Nat.reduceEqDiff, Nat.reduceBEq, Int.toNat_natCast, Int.reduceToNat, Int.reduceNeg, Int.reduceLT, Int.reduceLE, Int.reduceBEq, Int.reduceBNe, decide_true, decide_false, Bool.false_eq_true, false_imp_iff, Nat.lt_irrefl]; exact Fin_plain ⟨rfl, rfl⟩
  · rw [cutR, if_neg q]; simp only [go_sem, Nat.reduceMul, Nat.reduceLT, Nat.reduceLeDiff, Nat.reduceEqDiff, Nat.reduceBEq, Int.toNat_natCast, Int.reduceToNat, Int.reduceNeg, Int.reduceLT, Int.reduceLE, Int.reduceBEq, Int.reduceBNe, decide_true, decide_false, Bool.false_eq_true, false_imp_iff, Nat.lt_irrefl]; exact Fin_plain ⟨rfl, rfl⟩
abbrev Tok := Int × Str × Int
def tokA (t : Tok) : AV := .agg [.int .i64 t.1, .str t.2.1, .int .i64 t.2.2]
def quotedS (s : Str) : Option (Tok × Nat) :=
  if cutN (s.drop 1) < (s.drop 1).length ∧ valueS ((s.drop 1).take (cutN (s.drop 1))) = true then some ((2, (s.drop 1).take (cutN (s.drop 1)), 0), cutN (s.drop 1) + 2) else none
/-- What a function tells that may find a token. -/
def tokK (o : Option (Tok × Nat)) (r : AV) : Prop :=
  match o with
  | some (t, n) => r = .tup [tokA t, .int .i64 (n : Int), .bool true]
  | none => ∃ (t : Tok) (n : Int), r = .tup [tokA t, .int .i64 n, .bool false]
theorem quoted_ok (s : Str) (h : List AObj) (h0 : 0 < s.length) (hs : s.length ≤ 9223372036854775000) : ACall Tryd.prog 33 [.str s] h (fun r _ => tokK (quotedS s) r) := by
  (refine ACall.of_code Tryd.func33 rfl ?_; simp only [Tryd.f33]; simp only [go_sem, Nat.reduceMul, Nat.reduceLT, Nat.reduceLeDiff, Nat.reduceEqDiff, Nat.reduceBEq, Int.toNat_natCast, Int.reduceToNat, Int.reduceNeg, Int.reduceLT, Int.reduceLE, Int.reduceBEq, Int.reduceBNe, decide_true, decide_false, Bool.false_eq_true, false_imp_iff, Nat.lt_irrefl])
  refine ⟨⟨by omega, by omega⟩, ?_⟩
  have hl : (s.drop 1).length = s.length - 1 := List.length_drop
  have hn := cutN_le (s.drop 1)
  refine ACallT.by (cut_ok (s.drop 1) _ (by omega)) ?_
  rintro r h1 ⟨rfl, rfl⟩
  rw [quotedS]
  generalize s.drop 1 = u at *
  by_cases q : cutN u < u.length
  · rw [cutR, if_pos q]
    have hv : (u.take (cutN u)).length = cutN u := by rw [List.length_take]; omega
    generalize hvv : u.take (cutN u) = v at *
    simp only [go_sem, Nat.reduceMul, Nat.reduceLT, Nat.reduceLeDiff, Nat.reduceEqDiff, Nat.reduceBEq, Int.toNat_natCast, Int.reduceToNat, Int.reduceNeg, Int.reduceLT, Int.reduceLE, Int.reduceBEq, Int.reduceBNe, decide_true, decide_false, Bool.false_eq_true, false_imp_iff, Nat.lt_irrefl]
    (refine ACallT.frame (value_all v _ (by omega)) ?_; refine fun _ _ e => ?_; subst e; refine ⟨by (first | rfl | (simp only [AV.low, lowL, low_strs, low_bytes, Bool.and_true, Bool.and_self])), ?_⟩; simp only [go_sem, Nat.reduceMul, Nat.reduceLT, Nat.reduceLeDiff, Nat.reduceEqDiff, Nat.reduceBEq, Int.toNat_natCast, Int.reduceToNat, Int.reduceNeg, Int.reduceLT, Int.reduceLE, Int.reduceBEq, Int.reduceBNe, decide_true, decide_false, Bool.false_eq_true, false_imp_iff, Nat.lt_irrefl])
    generalize hvs : valueS v = z
    rw [wrap_id (by omega) (by omega)]
    have hw : ((v.length : Nat) : Int) + 2 = ((cutN u + 2 : Nat) : Int) := by omega
    rw [hw]
    cases z with
    | true => exact Fin_plain (by rw [if_pos ⟨q, rfl⟩]; rfl)
    | false => exact Fin_plain (by rw [if_neg (by simp)]; exact ⟨(2, v, 0), _, rfl⟩)
  · rw [cutR, if_neg q]
    simp only [go_sem, Nat.reduceMul, Nat.reduceLT, Nat.reduceLeDiff, Nat.reduceEqDiff, Nat.reduceBEq, Int.toNat_natCast, Int.reduceToNat, Int.reduceNeg, Int.reduceLT, Int.reduceLE, Int.reduceBEq, Int.reduceBNe, decide_true, decide_false, Bool.false_eq_true, false_imp_iff, Nat.lt_irrefl]
    exact Fin_plain (by rw [if_neg (fun z => q z.1)]; exact ⟨(2, u, 0), _, rfl⟩)
/-- The number that a text is, as the program has it. -/
def numS (s : Str) : Option Int :=
  match Lib.atoiAll s with
  | .ok v => if v < -4611686018427387904 ∨ 4611686018427387904 < v ∨ (Lib.hasPrefix (Lib.trimPrefix s [45]) [48] = true ∧ Lib.trimPrefix s [45] ≠ [48]) then none else some v
  | _ => none
theorem number_ok (s : Str) (h : List AObj) (hs : s.length ≤ 281474976710656) : ACall Tryd.prog 34 [.str s] h (fun r _ => match numS s with | some v => r = .tup [tokA (1, s, v), .bool true] | none => ∃ t : Tok, r = .tup [tokA t, .bool false]) := by
  (refine ACall.of_code Tryd.func34 rfl ?_; simp only [Tryd.f34]; simp only [go_sem, Nat.reduceMul, Nat.reduceLT, Nat.reduceLeDiff, Nat.reduceEqDiff, Nat.reduceBEq, Int.toNat_natCast, Int.reduceToNat, Int.reduceNeg, Int.reduceLT, Int.reduceLE, Int.reduceBEq, Int.reduceBNe, decide_true, decide_false, Bool.false_eq_true, false_imp_iff, Nat.lt_irrefl])
  refine ACallT.by (atoi_ok s _ hs) ?_
  rintro r h1 ⟨hr, rfl⟩
  unfold atoiK at hr
  have hout : ∀ n, ((n : Int) < -4611686018427387904 ∨ 4611686018427387904 < n ∨ (Lib.hasPrefix (Lib.trimPrefix s [45]) [48] = true ∧ Lib.trimPrefix s [45] ≠ [48])) → Lib.atoiAll s = .ok n → numS s = none := fun n q ha => by simp only [numS, ha, if_pos q]
  rcases ha : Lib.atoiAll s with v | _ | _
  · rw [ha] at hr
    simp only at hr
    subst hr
    simp only [go_sem, Nat.reduceMul, Nat.reduceLT, Nat.reduceLeDiff, Nat.reduceEqDiff, Nat.reduceBEq, Int.toNat_natCast, Int.reduceToNat, Int.reduceNeg, Int.reduceLT, Int.reduceLE, Int.reduceBEq, Int.reduceBNe, decide_true, decide_false, Bool.false_eq_true, false_imp_iff, Nat.lt_irrefl]
    refine ACallT.by (trimPrefix_ok s [45] _) ?_
    rintro r h1 ⟨rfl, rfl⟩
    simp only [go_sem, Nat.reduceMul, Nat.reduceLT, Nat.reduceLeDiff, Nat.reduceEqDiff, Nat.reduceBEq, Int.toNat_natCast, Int.reduceToNat, Int.reduceNeg, Int.reduceLT, Int.reduceLE, Int.reduceBEq, Int.reduceBNe, decide_true, decide_false, Bool.false_eq_true, false_imp_iff, Nat.lt_irrefl]
    generalize hz1 : (decide (v < -4611686018427387904)) = z1
    cases z1 with
    | true =>
      simp only [go_sem, Nat.reduceMul, Nat.reduceLT, Nat.reduceLeDiff, Nat.reduceEqDiff, Nat.reduceBEq, Int.toNat_natCast, Int.reduceToNat, Int.reduceNeg, Int.reduceLT, Int.reduceLE, Int.reduceBEq, Int.reduceBNe, decide_true, decide_false, Bool.false_eq_true, false_imp_iff, Nat.lt_irrefl]
      refine Fin_plain ?_
      rw [hout v (.inl (of_decide_eq_true hz1)) ha]
      exact ⟨(0, [], 0), rfl⟩
    | false =>
      simp only [go_sem, Nat.reduceMul, Nat.reduceLT, Nat.reduceLeDiff, Nat.reduceEqDiff, Nat.reduceBEq, Int.toNat_natCast, Int.reduceToNat, Int.reduceNeg, Int.reduceLT, Int.reduceLE, Int.reduceBEq, Int.reduceBNe, decide_true, decide_false, Bool.false_eq_true, false_imp_iff, Nat.lt_irrefl]
      generalize hz2 : (decide ((4611686018427387904 : Int) < v)) = z2
      cases z2 with
      | true =>
        simp only [go_sem, Nat.reduceMul, Nat.reduceLT, Nat.reduceLeDiff, Nat.reduceEqDiff, Nat.reduceBEq, Int.toNat_natCast, Int.reduceToNat, Int.reduceNeg, Int.reduceLT, Int.reduceLE, Int.reduceBEq, Int.reduceBNe, decide_true, decide_false, Bool.false_eq_true, false_imp_iff, Nat.lt_irrefl]
        refine Fin_plain ?_
        rw [hout v (.inr (.inl (of_decide_eq_true hz2))) ha]
        exact ⟨(0, [], 0), rfl⟩
      | false =>
        simp only [go_sem, Nat.reduceMul, Nat.reduceLT, Nat.reduceLeDiff, Nat.reduceEqDiff, Nat.reduceBEq, Int.toNat_natCast, Int.reduceToNat, Int.reduceNeg, Int.reduceLT, Int.reduceLE, Int.reduceBEq, Int.reduceBNe, decide_true, decide_false, Bool.false_eq_true, false_imp_iff, Nat.lt_irrefl]
        refine ACallT.by (hasPrefix_ok _ [48] _) ?_
        rintro r h1 ⟨rfl, rfl⟩
        generalize hz3 : Lib.hasPrefix (Lib.trimPrefix s [45]) [48] = z3
        cases z3 with
        | true =>
          simp only [go_sem, Nat.reduceMul, Nat.reduceLT, Nat.reduceLeDiff, Nat.reduceEqDiff, Nat.reduceBEq, Int.toNat_natCast, Int.reduceToNat, Int.reduceNeg, Int.reduceLT, Int.reduceLE, Int.reduceBEq, Int.reduceBNe, decide_true, decide_false, Bool.false_eq_true, false_imp_iff, Nat.lt_irrefl]
          generalize hz4 : (Lib.trimPrefix s [45] != [48]) = z4
          cases z4 with
          | true =>
            simp only [go_sem, Nat.reduceMul, Nat.reduceLT, Nat.reduceLeDiff, Nat.reduceEqDiff, Nat.reduceBEq, Int.toNat_natCast, Int.reduceToNat, Int.reduceNeg, Int.reduceLT, Int.reduceLE, Int.reduceBEq, Int.reduceBNe, decide_true, decide_false, Bool.false_eq_true, false_imp_iff, Nat.lt_irrefl]
            refine Fin_plain ?_
            rw [hout v (.inr (.inr ⟨hz3, by simpa using hz4⟩)) ha]
            exact ⟨(0, [], 0), rfl⟩
          | false =>
            simp only [go_sem, Nat.reduceMul, Nat.reduceLT, Nat.reduceLeDiff, Nat.reduceEqDiff, Nat.reduceBEq, Int.toNat_natCast, Int.reduceToNat, Int.reduceNeg, Int.reduceLT, Int.reduceLE, Int.reduceBEq, Int.reduceBNe, decide_true, decide_false, Bool.false_eq_true, false_imp_iff, Nat.lt_irrefl]
            refine Fin_plain ?_
            have hn : numS s = some v := by
              simp only [numS, ha]
              rw [if_neg]
              rintro (q | q | ⟨_, q⟩)
              · exact of_decide_eq_false hz1 q
              · exact of_decide_eq_false hz2 q
              · exact q (by simpa using hz4)
            rw [hn]; rfl
        | false =>
          simp only [go_sem, Nat.reduceMul, Nat.reduceLT, Nat.reduceLeDiff, Nat.reduceEqDiff, Nat.reduceBEq, Int.toNat_natCast, Int.reduceToNat, Int.reduceNeg, Int.reduceLT, Int.reduceLE, Int.reduceBEq, Int.reduceBNe, decide_true, decide_false, Bool.false_eq_true, false_imp_iff, Nat.lt_irrefl]
          refine Fin_plain ?_
          have hn : numS s = some v := by
            simp only [numS, ha]
            rw [if_neg]
            rintro (q | q | ⟨q, _⟩)
            · exact of_decide_eq_false hz1 q
            · exact of_decide_eq_false hz2 q
            · rw [hz3] at q; cases q
          rw [hn]; rfl
  · rw [ha] at hr
    simp only at hr
    obtain ⟨n, rfl⟩ := hr
    simp only [go_sem, Nat.reduceMul, Nat.reduceLT, Nat.reduceLeDiff, Nat.reduceEqDiff, Nat.reduceBEq, Int.toNat_natCast, Int.reduceToNat, Int.reduceNeg, Int.reduceLT, Int.reduceLE, Int.reduceBEq, Int.reduceBNe, decide_true, decide_false, Bool.false_eq_true, false_imp_iff, Nat.lt_irrefl]
    refine ACallT.by (trimPrefix_ok s [45] _) ?_
    rintro r h1 ⟨rfl, rfl⟩
    simp only [go_sem, Nat.reduceMul, Nat.reduceLT, Nat.reduceLeDiff, Nat.reduceEqDiff, Nat.reduceBEq, Int.toNat_natCast, Int.reduceToNat, Int.reduceNeg, Int.reduceLT, Int.reduceLE, Int.reduceBEq, Int.reduceBNe, decide_true, decide_false, Bool.false_eq_true, false_imp_iff, Nat.lt_irrefl]
    refine Fin_plain ?_
    have hn : numS s = none := by simp only [numS, ha]
    rw [hn]
    exact ⟨(0, [], 0), rfl⟩
  · rw [ha] at hr
    simp only at hr
    obtain ⟨n, rfl⟩ := hr
    simp only [go_sem, Nat.reduceMul, Nat.reduceLT, Nat.reduceLeDiff, Nat.reduceEqDiff, Nat.reduceBEq, Int.toNat_natCast, Int.reduceToNat, Int.reduceNeg, Int.reduceLT, Int.reduceLE, Int.reduceBEq, Int.reduceBNe, decide_true, decide_false, Bool.false_eq_true, false_imp_iff, Nat.lt_irrefl]
    refine ACallT.by (trimPrefix_ok s [45] _) ?_
    rintro r h1 ⟨rfl, rfl⟩
    simp only [go_sem, Nat.reduceMul, Nat.reduceLT, Nat.reduceLeDiff, Nat.reduceEqDiff, Nat.reduceBEq, Int.toNat_natCast, Int.reduceToNat, Int.reduceNeg, Int.reduceLT, Int.reduceLE, Int.reduceBEq, Int.reduceBNe, decide_true, decide_false, Bool.false_eq_true, false_imp_iff, Nat.lt_irrefl]
    refine Fin_plain ?_
    have hn : numS s = none := by simp only [numS, ha]
    rw [hn]
    exact ⟨(0, [], 0), rfl⟩
end Go.Proofs.Vale

set_option linter.unusedVariables false
set_option linter.unusedSimpArgs false
set_option maxHeartbeats 4000000
set_option maxRecDepth 100000
namespace Go.Proofs.Vale
open Go.Proofs Go.Proofs.YtchboekipfpheaaDoorT
attribute [local irreducible] acode aopsL aopsT dopsL dopsT dmL dmT pop popG aop ALoop ADraw ACall AWP AFin acondT ALoopT ADrawT ACallT doP doG doGd

/-! ### The token at a beginning -/
def signS : Str := [44, 40, 41, 61, 60, 62]
def signB (b : UInt8) : Bool := signS.contains b
theorem sign_index (b : UInt8) : decide ((0 : Int) ≤ Lib.indexByte signS b) = signB b := by
  have : ∀ l : Str, decide ((0 : Int) ≤ Lib.indexByte l b) = l.contains b := by
    intro l
    induction l with
    | nil => rfl
    | cons a l ih =>
      rw [Lib.indexByte, List.contains_cons]
      by_cases e : a = b
      · subst e; simp
      · have e1 : (a == b) = false := by simpa using e
        have e2 : (b == a) = false := by simpa using fun q : b = a => e q.symm
        rw [e1, e2, Bool.false_or, ← ih, if_neg (by simp)]
        have := Lib.indexByte_ge l b
        split
        · rename_i q; have : Lib.indexByte l b = -1 := by simpa using q
          rw [this]
        · rename_i q; have q2 : Lib.indexByte l b ≠ -1 := by simpa using q
          congr 1; simp; omega
  exact this _
theorem indexB_ok (s : Str) (c : UInt8) (h : List AObj) : ACall Tryd.prog 32 [.str s, .int .u8 (c.toNat : Int)] h (fun r h' => r = .int .i64 (Lib.indexByte s c) ∧ h' = h) := by
  have := indexByte_ok s (c.toNat : Int) h
  rw [show ((c.toNat : Nat) : Int).toNat.toUInt8 = c by rw [Int.toNat_natCast]; exact UInt8.ofNat_toNat] at this
  exact this
def nextS (s : Str) : Option (Tok × Nat) :=
  match s with
  | [] => none
  | c :: r =>
    if letB c then some ((0, s.take (uptoN wordB s), 0), (s.take (uptoN wordB s)).length)
    else if signB c then some ((3, s.take 1, 0), 1)
    else if c = 34 then quotedS s
    else if c = 45 ∨ figB c = true then (match numS (s.take (uptoN figB s)) with | some v => some ((1, s.take (uptoN figB s), v), (s.take (uptoN figB s)).length) | none => none)
    else none
theorem byte_eq (b : UInt8) (n : Nat) (hn : n < 256) : (((b.toNat : Nat) : Int) == (n : Int)) = (b == UInt8.ofNat n) := by
  rw [Bool.eq_iff_iff, beq_iff_eq, beq_iff_eq, ← UInt8.toNat_inj, UInt8.toNat_ofNat']; omega
theorem next_ok (s : Str) (h : List AObj) (h0 : 0 < s.length) (hs : s.length ≤ 281474976710656) : ACall Tryd.prog 16 [.str s] h (fun r _ => tokK (nextS s) r) := by
  obtain ⟨c, r, rfl⟩ : ∃ c r, s = c :: r := by
    cases s with
    | nil => simp at h0
    | cons c r => exact ⟨c, r, rfl⟩
  generalize hcs : c :: r = s at *
  have hget : List.getD s 0 0 = c := by rw [← hcs]; rfl
  have hN : nextS s = if letB c then some ((0, s.take (uptoN wordB s), 0), (s.take (uptoN wordB s)).length)
    else if signB c then some ((3, s.take 1, 0), 1)
    else if c = 34 then quotedS s
    else if c = 45 ∨ figB c = true then (match numS (s.take (uptoN figB s)) with | some v => some ((1, s.take (uptoN figB s), v), (s.take (uptoN figB s)).length) | none => none)
    else none := by rw [← hcs]; rfl
  (refine ACall.of_code Tryd.func16 rfl ?_; simp only [Tryd.f16]; simp only [go_sem, Nat.reduceMul, Nat.reduceLT, Nat.reduceLeDiff, Nat.reduceEqDiff, Nat.reduceBEq, Int.toNat_natCast, Int.reduceToNat, Int.reduceNeg, Int.reduceLT, Int.reduceLE, Int.reduceBEq, Int.reduceBNe, decide_true, decide_false, Bool.false_eq_true, false_imp_iff, Nat.lt_irrefl])
  refine ⟨by omega, ?_⟩
  rw [hget]
  refine ACallT.by (letter_lok c _) ?_
  rintro r h1 ⟨rfl, rfl⟩
  generalize hl : letB c = l
  cases l with
  | true =>
    simp only [go_sem, Nat.reduceMul, Nat.reduceLT, Nat.reduceLeDiff, Nat.reduceEqDiff, Nat.reduceBEq, Int.toNat_natCast, Int.reduceToNat, Int.reduceNeg, Int.reduceLT, Int.reduceLE, Int.reduceBEq, Int.reduceBNe, decide_true, decide_false, Bool.false_eq_true, false_imp_iff, Nat.lt_irrefl]
    refine ACallT.by (upto_lok 30 wordB (by kernel_rfl) word_lok s _ h0 (by omega)) ?_
    rintro r h1 ⟨rfl, rfl⟩
    simp only [go_sem, Nat.reduceMul, Nat.reduceLT, Nat.reduceLeDiff, Nat.reduceEqDiff, Nat.reduceBEq, Int.toNat_natCast, Int.reduceToNat, Int.reduceNeg, Int.reduceLT, Int.reduceLE, Int.reduceBEq, Int.reduceBNe, decide_true, decide_false, Bool.false_eq_true, false_imp_iff, Nat.lt_irrefl]
    refine Fin_plain ?_
    rw [hN, if_pos hl]; rfl
  | false =>
    simp only [go_sem, Nat.reduceMul, Nat.reduceLT, Nat.reduceLeDiff, Nat.reduceEqDiff, Nat.reduceBEq, Int.toNat_natCast, Int.reduceToNat, Int.reduceNeg, Int.reduceLT, Int.reduceLE, Int.reduceBEq, Int.reduceBNe, decide_true, decide_false, Bool.false_eq_true, false_imp_iff, Nat.lt_irrefl]
    refine ACallT.by (indexB_ok signS c _) ?_
    rintro r h1 ⟨rfl, rfl⟩
    have hsi := sign_index c
    generalize Lib.indexByte signS c = si at hsi ⊢
    generalize hsg : signB c = sg at *
    simp only [go_sem, Nat.reduceMul, Nat.reduceLT, Nat.reduceLeDiff, Nat.reduceEqDiff, Nat.reduceBEq, Int.toNat_natCast, Int.reduceToNat, Int.reduceNeg, Int.reduceLT, Int.reduceLE, Int.reduceBEq, Int.reduceBNe, decide_true, decide_false, Bool.false_eq_true, false_imp_iff, Nat.lt_irrefl]
    rw [hsi]
    cases sg with
    | true =>
      simp only [go_sem, Nat.reduceMul, Nat.reduceLT, Nat.reduceLeDiff, Nat.reduceEqDiff, Nat.reduceBEq, Int.toNat_natCast, Int.reduceToNat, Int.reduceNeg, Int.reduceLT, Int.reduceLE, Int.reduceBEq, Int.reduceBNe, decide_true, decide_false, Bool.false_eq_true, false_imp_iff, Nat.lt_irrefl]
      refine ⟨by omega, Fin_plain ?_⟩
      rw [hN, if_neg (by rw [hl]; simp), if_pos rfl]; rfl
    | false =>
      simp only [go_sem, Nat.reduceMul, Nat.reduceLT, Nat.reduceLeDiff, Nat.reduceEqDiff, Nat.reduceBEq, Int.toNat_natCast, Int.reduceToNat, Int.reduceNeg, Int.reduceLT, Int.reduceLE, Int.reduceBEq, Int.reduceBNe, decide_true, decide_false, Bool.false_eq_true, false_imp_iff, Nat.lt_irrefl]
      rw [show ((c.toNat : Int) == 34) = (c == 34) from byte_eq c 34 (by omega)]
      generalize hq : (c == 34) = q
      cases q with
      | true =>
        have hc : c = 34 := by simpa using hq
        simp only [go_sem, Nat.reduceMul, Nat.reduceLT, Nat.reduceLeDiff, Nat.reduceEqDiff, Nat.reduceBEq, Int.toNat_natCast, Int.reduceToNat, Int.reduceNeg, Int.reduceLT, Int.reduceLE, Int.reduceBEq, Int.reduceBNe, decide_true, decide_false, Bool.false_eq_true, false_imp_iff, Nat.lt_irrefl]
        refine ACallT.frame (quoted_ok s _ h0 (by omega)) ?_
        intro r h1 hr
        unfold tokK at hr
        rw [hN, if_neg (by rw [hl]; simp), if_neg (by simp), if_pos hc]
        rcases hqs : quotedS s with _ | ⟨t, n⟩
        · rw [hqs] at hr
          obtain ⟨t, n, rfl⟩ := hr
          refine ⟨by simp [AV.low, lowL, tokA], ?_⟩
          simp only [tokA]
          simp only [go_sem, Nat.reduceMul, Nat.reduceLT, Nat.reduceLeDiff, Nat.reduceEqDiff, Nat.reduceBEq, Int.toNat_natCast, Int.reduceToNat, Int.reduceNeg, Int.reduceLT, Int.reduceLE, Int.reduceBEq, Int.reduceBNe, decide_true, decide_false, Bool.false_eq_true, false_imp_iff, Nat.lt_irrefl]
          exact Fin_plain ⟨t, n, rfl⟩
        · rw [hqs] at hr
          simp only at hr
          subst hr
          refine ⟨by simp [AV.low, lowL, tokA], ?_⟩
          simp only [tokA]
          simp only [go_sem, Nat.reduceMul, Nat.reduceLT, Nat.reduceLeDiff, Nat.reduceEqDiff, Nat.reduceBEq, Int.toNat_natCast, Int.reduceToNat, Int.reduceNeg, Int.reduceLT, Int.reduceLE, Int.reduceBEq, Int.reduceBNe, decide_true, decide_false, Bool.false_eq_true, false_imp_iff, Nat.lt_irrefl]
          exact Fin_plain rfl
      | false =>
        have hc : ¬ c = 34 := by simpa using hq
        simp only [go_sem, Nat.reduceMul, Nat.reduceLT, Nat.reduceLeDiff, Nat.reduceEqDiff, Nat.reduceBEq, Int.toNat_natCast, Int.reduceToNat, Int.reduceNeg, Int.reduceLT, Int.reduceLE, Int.reduceBEq, Int.reduceBNe, decide_true, decide_false, Bool.false_eq_true, false_imp_iff, Nat.lt_irrefl]
        rw [show ((c.toNat : Int) == 45) = (c == 45) from byte_eq c 45 (by omega)]
        have hrest : ∀ (o : Option (Tok × Nat)), (c = 45 ∨ figB c = true) → o = (match numS (s.take (uptoN figB s)) with | some v => some ((1, s.take (uptoN figB s), v), (s.take (uptoN figB s)).length) | none => none) → nextS s = o := by
          intro o q e
          rw [hN, if_neg (by rw [hl]; simp), if_neg (by simp), if_neg hc, if_pos q, e]
        have hwl : (s.take (uptoN figB s)).length ≤ 281474976710656 := by rw [List.length_take]; omega
        generalize hm : (c == 45) = m
        cases m with
        | true =>
          simp only [go_sem, Nat.reduceMul, Nat.reduceLT, Nat.reduceLeDiff, Nat.reduceEqDiff, Nat.reduceBEq, Int.toNat_natCast, Int.reduceToNat, Int.reduceNeg, Int.reduceLT, Int.reduceLE, Int.reduceBEq, Int.reduceBNe, decide_true, decide_false, Bool.false_eq_true, false_imp_iff, Nat.lt_irrefl]
          refine ACallT.by (upto_lok 31 figB (by kernel_rfl) figure_lok s _ h0 (by omega)) ?_
          rintro r h1 ⟨rfl, rfl⟩
          simp only [go_sem, Nat.reduceMul, Nat.reduceLT, Nat.reduceLeDiff, Nat.reduceEqDiff, Nat.reduceBEq, Int.toNat_natCast, Int.reduceToNat, Int.reduceNeg, Int.reduceLT, Int.reduceLE, Int.reduceBEq, Int.reduceBNe, decide_true, decide_false, Bool.false_eq_true, false_imp_iff, Nat.lt_irrefl]
          refine ACallT.frame (number_ok (s.take (uptoN figB s)) _ hwl) ?_
          intro r h1 hr
          rcases hns : numS (s.take (uptoN figB s)) with _ | v
          · rw [hns] at hr hrest
            simp only at hr
            obtain ⟨t, rfl⟩ := hr
            refine ⟨by simp [AV.low, lowL, tokA], ?_⟩
            simp only [tokA]
            simp only [go_sem, Nat.reduceMul, Nat.reduceLT, Nat.reduceLeDiff, Nat.reduceEqDiff, Nat.reduceBEq, Int.toNat_natCast, Int.reduceToNat, Int.reduceNeg, Int.reduceLT, Int.reduceLE, Int.reduceBEq, Int.reduceBNe, decide_true, decide_false, Bool.false_eq_true, false_imp_iff, Nat.lt_irrefl]
            refine Fin_plain ?_
            rw [hrest none (.inl (by simpa using hm)) rfl]
            exact ⟨t, _, rfl⟩
          · rw [hns] at hr hrest
            simp only at hr
            subst hr
            refine ⟨by simp [AV.low, lowL, tokA], ?_⟩
            simp only [tokA]
            simp only [go_sem, Nat.reduceMul, Nat.reduceLT, Nat.reduceLeDiff, Nat.reduceEqDiff, Nat.reduceBEq, Int.toNat_natCast, Int.reduceToNat, Int.reduceNeg, Int.reduceLT, Int.reduceLE, Int.reduceBEq, Int.reduceBNe, decide_true, decide_false, Bool.false_eq_true, false_imp_iff, Nat.lt_irrefl]
            refine Fin_plain ?_
            rw [hrest _ (.inl (by simpa using hm)) rfl]
            rfl
        | false =>
          simp only [go_sem, Nat.reduceMul, Nat.reduceLT, Nat.reduceLeDiff, Nat.reduceEqDiff, Nat.reduceBEq, Int.toNat_natCast, Int.reduceToNat, Int.reduceNeg, Int.reduceLT, Int.reduceLE, Int.reduceBEq, Int.reduceBNe, decide_true, decide_false, Bool.false_eq_true, false_imp_iff, Nat.lt_irrefl]
          refine ACallT.by (figure_lok c _) ?_
          rintro r h1 ⟨rfl, rfl⟩
          generalize hf : figB c = f at *
          cases f with
          | true =>
            simp only [go_sem, Nat.reduceMul, Nat.reduceLT, Nat.reduceLeDiff, Nat.reduceEqDiff, Nat.reduceBEq, Int.toNat_natCast, Int.reduceToNat, Int.reduceNeg, Int.reduceLT, Int.reduceLE, Int.reduceBEq, Int.reduceBNe, decide_true, decide_false, Bool.false_eq_true, false_imp_iff, Nat.lt_irrefl]
            refine ACallT.by (upto_lok 31 figB (by kernel_rfl) figure_lok s _ h0 (by omega)) ?_
            rintro r h1 ⟨rfl, rfl⟩
            simp only [go_sem, Nat.reduceMul, Nat.reduceLT, Nat.reduceLeDiff, Nat.reduceEqDiff, Nat.reduceBEq, Int.toNat_natCast, Int.reduceToNat, Int.reduceNeg, Int.reduceLT, Int.reduceLE, Int.reduceBEq, Int.reduceBNe, decide_true, decide_false, Bool.false_eq_true, false_imp_iff, Nat.lt_irrefl]
            refine ACallT.frame (number_ok (s.take (uptoN figB s)) _ hwl) ?_
            intro r h1 hr
            rcases hns : numS (s.take (uptoN figB s)) with _ | v
            · rw [hns] at hr hrest
              simp only at hr
              obtain ⟨t, rfl⟩ := hr
              refine ⟨by simp [AV.low, lowL, tokA], ?_⟩
              simp only [tokA]
              simp only [go_sem, Nat.reduceMul, Nat.reduceLT, Nat.reduceLeDiff, Nat.reduceEqDiff, Nat.reduceBEq, Int.toNat_natCast, Int.reduceToNat, Int.reduceNeg, Int.reduceLT, Int.reduceLE, Int.reduceBEq, Int.reduceBNe, decide_true, decide_false, Bool.false_eq_true, false_imp_iff, Nat.lt_irrefl]
              refine Fin_plain ?_
              rw [hrest none (.inr rfl) rfl]
              exact ⟨t, _, rfl⟩
            · rw [hns] at hr hrest
              simp only at hr
              subst hr
              refine ⟨by simp [AV.low, lowL, tokA], ?_⟩
              simp only [tokA]
              simp only [go_sem, Nat.reduceMul, Nat.reduceLT, Nat.reduceLeDiff, Nat.reduceEqDiff, Nat.reduceBEq, Int.toNat_natCast, Int.reduceToNat, Int.reduceNeg, Int.reduceLT, Int.reduceLE, Int.reduceBEq, Int.reduceBNe, decide_true, decide_false, Bool.false_eq_true, false_imp_iff, Nat.lt_irrefl]
              refine Fin_plain ?_
              rw [hrest _ (.inr rfl) rfl]
              rfl
          | false =>
            simp only [go_sem, Nat.reduceMul, Nat.reduceLT, Nat.reduceLeDiff, Nat.reduceEqDiff, Nat.reduceBEq, Int.toNat_natCast, Int.reduceToNat, Int.reduceNeg, Int.reduceLT, Int.reduceLE, Int.reduceBEq, Int.reduceBNe, decide_true, decide_false, Bool.false_eq_true, false_imp_iff, Nat.lt_irrefl]
            refine Fin_plain ?_
            rw [hN, if_neg (by rw [hl]; simp), if_neg (by simp), if_neg hc, if_neg (by rintro (q | q); · rw [q] at hm; cases hm
                                                                                       · cases q)]
            exact ⟨(0, [], 0), _, rfl⟩
end Go.Proofs.Vale
