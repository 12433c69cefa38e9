/- YtohppebjmfnmdaaGreatDoorVSchC: a text of the proof of this claim, by its prover. -/
import Derived.Test.YtohppebjmfnmdaaGreatDoorVDrw
import Derived.Test.YtohppebjmfnmdaaGreatDoorVTy
import Derived.Test.YtohppebjmfnmdaaGreatDoorVPolS
import Derived.Lib.RowBridge
set_option linter.unusedVariables false
set_option linter.unusedSimpArgs false
set_option maxHeartbeats 4000000
set_option maxRecDepth 100000
namespace Go.Proofs.Vale
open Go.Proofs Go.Proofs.YtohppebjmfnmdaaGreatDoorT
attribute [local irreducible] acode aopsL aopsT dopsL dopsT pop popG aop ALoop ADraw ACall AWP AFin acondT ALoopT ADrawT ACallT doP doG doGd
abbrev Str := List UInt8
def strs (l : List Str) : List AV := l.map .str
theorem strs_len (l : List Str) : (strs l).length = l.length := by simp [strs]
theorem strs_get (l : List Str) (k : Nat) (h : k < l.length) : (strs l).getD k .any = .str l[k] := by simp [strs, List.getD_eq_getElem?_getD, h]
theorem strs_out (l : List Str) (k : Nat) (h : l.length ≤ k) : (strs l).getD k .any = .any := by simp [strs, List.getD_eq_getElem?_getD, h]
theorem strs_cells (l : List Str) : ∀ x, x ∈ strs l → x.cells.length = 1 := by
  intro x hx; simp only [strs, List.mem_map] at hx; obtain ⟨n, _, rfl⟩ := hx; rfl
theorem flatS (l : List Str) : ∀ y ∈ strs l, flatX y = true := flatX_strs l
theorem low_strs (n : Nat) : ∀ l : List Str, lowL n (strs l) = true
  | [] => rfl
  | s :: l => by simp only [strs, List.map_cons, lowL, AV.low, Bool.true_and]; exact low_strs n l
theorem low_bytes (n : Nat) : ∀ l : List UInt8, lowL n (bytesA l) = true
  | [] => rfl
  | s :: l => by simp only [bytesA, List.map_cons, lowL, AV.low, Bool.true_and]; exact low_bytes n l
attribute [go_sem] strs_len
@[go_sem] theorem take_strs (l : List Str) : List.take l.length (strs l) = strs l := by rw [← strs_len l, List.take_length]
@[go_sem] theorem take_bytes (l : Str) : List.take l.length (bytesA l) = bytesA l := by rw [← bytesA_len l, List.take_length]
theorem mixedOrdersD : Tryz.prog.follows .mixedOrders = true := by kernel_rfl
@[go_sem] theorem ofVal_stringA (l : List UInt8) : ofVal (.string ⟨l.toArray⟩) = .str l := nrfl rfl
@[go_sem] theorem ofVal1_stringA (l : List UInt8) : ofVal1 (.string ⟨l.toArray⟩) = .str l := nrfl rfl

/-! ### The words -/
theorem table_at {β : Beta} {fr : Nat → Prop} {w : World} {h : List AObj} (L : Lay β fr w.heap h) : Lib.TabIs Tryz.prog w "strings.asciiSpace" .u8 Lib.asciiSpaceTab := by
  obtain ⟨_, cs, e, f, hH, rfl⟩ := L.tab 3 spaceP (by simp [tabs])
  have hg : Tryz.prog.globalNamed "strings.asciiSpace" = some 3 := by kernel_rfl
  unfold Lib.TabIs World.var?
  rw [hg]
  simp only [Option.bind_some, hH]
theorem new_strs {β : Beta} {fr : Nat → Prop} {w : World} {h : List AObj} (L : Lay β fr w.heap h) (fl : List Str) (ty : Nat) (cs : Array Value) (hcs : cs = (fl.map fun l => Value.string ⟨l.toArray⟩).toArray) :
    ∃ β', Lay β' fr (w.alloc (.cells cs ty)).heap (h ++ [.arr 0 1 (strs fl)]) ∧ Rep β' fr (w.alloc (.cells cs ty)).heap (.sl h.length 0 1 0 fl.length) (.slice (some ⟨w.heap.size, 0, none⟩) fl.length fl.length) ∧ Step1 β fr h w β' fr (h ++ [.arr 0 1 (strs fl)]) (w.alloc (.cells cs ty)) := by
  have hsz : cs.size = fl.length := by rw [hcs]; simp
  have hcell : ∀ i (hi : i < fl.length), cs[i]? = some (.string ⟨fl[i].toArray⟩) := by
    intro i hi; rw [hcs]; simp [hi]
  clear hcs
  have hpush : (w.heap.push (.cells cs ty))[w.heap.size]? = some (.cells cs ty (0, 0)) := by simp
  obtain ⟨L', S'⟩ := L.push (w' := w.alloc (.cells cs ty)) (o := .arr 0 1 (strs fl)) (g := 0) (c := .cells cs ty) rfl rfl rfl rfl rfl
    (.inr ⟨w.heap.size, cs, ty, (0, 0), betaSet_same _ _ _ _, hpush, fun i _ => by simp, strs_cells _, by rw [strs_len, hsz]; omega, fun i hi j hj => by
      have hi' : i < fl.length := by rw [strs_len] at hi; exact hi
      have hj0 : j = 0 := by simp only [strs, List.getElem_map, AV.cells, List.length_singleton] at hj; omega
      subst hj0
      refine ⟨.string ⟨(fl[i]).toArray⟩, ?_, ?_⟩
      · rw [Nat.mul_one, Nat.add_zero]; exact hcell i hi'
      · simp only [strs, List.getElem_map, AV.cells, List.getElem_cons_zero, Rep]
        exact ⟨_, rfl, by simp⟩⟩)
  refine ⟨_, L', ?_, S'⟩
  simp only [Rep]
  exact .inr ⟨w.heap.size, cs, ty, (0, 0), fl.length, betaSet_same _ _ _ _, hpush, by rw [Nat.zero_mul], by rw [hsz]; omega, Nat.le_refl _⟩
theorem fields_call (s : Str) (h : List AObj) (hs : s.length < 4294967281) (ha : s.all (fun b => decide (b.toNat < 128)) = true) : ACall Tryz.prog 73 [.str s] h (fun r h' => r = .sl h.length 0 1 0 (Lib.fields s).length ∧ h' = h ++ [.arr 0 1 (strs (Lib.fields s))]) := by
  unfold ACall; intro w β fr us L Rr
  obtain ⟨hvs, hv⟩ := Rr
  obtain ⟨v, hv1, hv2⟩ := hv 0 (by simp)
  have hvs' : us = #[v] := by
    apply Array.ext_getElem?
    intro i
    rcases i with _ | i
    · rw [hv1]; rfl
    · rw [Array.getElem?_eq_none (by rw [hvs]; simp), Array.getElem?_eq_none (by simp)]
  subst hvs'
  simp only [List.getElem_cons_zero, Rep] at hv2
  obtain ⟨b, rfl, rfl⟩ := hv2
  have hsz : b.size = b.data.toList.length := by show b.data.size = _; rw [Array.length_toList]
  refine (Tryz.strings_Fields_laid b w (by omega) (fun j x hx => ?_) (table_at L)).mono ?_
  · have := List.all_eq_true.1 ha x (List.mem_of_getElem? hx)
    simpa using this
  rintro e w' ⟨rfl, rfl⟩
  obtain ⟨β', L', R', S'⟩ := new_strs L (Lib.fields b.data.toList) 9 _ rfl
  exact ⟨_, _, _, β', fr, rfl, ⟨rfl, rfl⟩, L', R', S'⟩
def bs (s : String) : Str := s.toUTF8.data.toList
def wordsL : List Str := [[99, 111, 117, 110, 116], [115, 117, 109], [109, 105, 110], [109, 97, 120], [102, 114, 111, 109], [116, 111], [98, 121], [101, 118, 101, 114, 121], [119, 104, 101, 114, 101], [104, 97, 118, 105, 110, 103], [111, 114, 100, 101, 114], [108, 105, 109, 105, 116], [97, 110, 100], [111, 114], [110, 111, 116], [105, 115], [110, 117, 108, 108], [97, 115, 99], [100, 101, 115, 99], [115, 101, 108, 101, 99, 116]]
theorem words_ok (h : List AObj) : ACall Tryz.prog 58 [] h (fun r _ => r = .fz false (strs wordsL)) := by
  (refine ACall.of_code Tryz.func58 rfl ?_; simp only [Tryz.f58]; simp only [go_sem, Nat.reduceMul, Nat.reduceLT, Nat.reduceLeDiff, Nat.reduceEqDiff, Nat.reduceBEq, Int.toNat_natCast, Int.reduceToNat, Int.reduceNeg, Int.reduceLT, Int.reduceLE, Int.reduceBEq, Int.reduceBNe, decide_true, decide_false, Bool.false_eq_true, false_imp_iff, Nat.lt_irrefl])
  refine ACallT.by (fields_call _ _ (by decide) (by decide)) ?_
  rintro r h1 ⟨rfl, rfl⟩
  simp only [go_sem, Nat.reduceMul, Nat.reduceLT, Nat.reduceLeDiff, Nat.reduceEqDiff, Nat.reduceBEq, Int.toNat_natCast, Int.reduceToNat, Int.reduceNeg, Int.reduceLT, Int.reduceLE, Int.reduceBEq, Int.reduceBNe, decide_true, decide_false, Bool.false_eq_true, false_imp_iff, Nat.lt_irrefl]
  refine Fin_freeze 4 ?_
  simp only [frz_sl, getElem?_app0]
  have e : Lib.fields (List.append [99, 111, 117, 110, 116, 32, 115, 117, 109, 32, 109, 105, 110, 32, 109, 97, 120, 32, 102, 114, 111, 109, 32, 116, 111, 32, 98, 121, 32, 101, 118, 101, 114, 121, 32, 119, 104, 101, 114, 101, 32, 104, 97, 118, 105, 110, 103] [32, 111, 114, 100, 101, 114, 32, 108, 105, 109, 105, 116, 32, 97, 110, 100, 32, 111, 114, 32, 110, 111, 116, 32, 105, 115, 32, 110, 117, 108, 108, 32, 97, 115, 99, 32, 100, 101, 115, 99, 32, 115, 101, 108, 101, 99, 116]) = wordsL := by decide
  rw [e]
  exact frzO_all (strs_len _).symm (flatS _)
end Go.Proofs.Vale

set_option linter.unusedVariables false
set_option linter.unusedSimpArgs false
set_option maxHeartbeats 4000000
set_option maxRecDepth 100000
namespace Go.Proofs.Vale
open Go.Proofs Go.Proofs.YtohppebjmfnmdaaGreatDoorT
attribute [local irreducible] acode aopsL aopsT dopsL dopsT pop popG aop ALoop ADraw ACall AWP AFin acondT ALoopT ADrawT ACallT doP doG doGd

/-! ### Where a text stands -/
def ix (l : List Str) (s : Str) : Nat := (l.takeWhile fun t => !(s == t)).length
theorem ix_le (l : List Str) (s : Str) : ix l s ≤ l.length := by
  induction l with
  | nil => simp [ix]
  | cons x l ih =>
    simp only [ix, List.takeWhile_cons] at ih ⊢
    split
    · simp only [List.length_cons]; omega
    · simp
theorem ix_eq (l : List Str) (s : Str) : ∀ (i : Nat) (hi : i ≤ l.length) (h1 : ∀ k, (hk : k < l.length) → k < i → (s == l[k]) = false) (h2 : ∀ hk : i < l.length, (s == l[i]) = true), ix l s = i := by
  induction l with
  | nil => intro i hi h1 h2; simp at hi; subst hi; rfl
  | cons x l ih =>
    intro i hi h1 h2
    simp only [ix, List.takeWhile_cons]
    cases i with
    | zero =>
      have := h2 (by simp)
      simp only [List.getElem_cons_zero] at this
      rw [this]; rfl
    | succ i =>
      have := h1 0 (by simp) (by simp)
      simp only [List.getElem_cons_zero] at this
      rw [this]
      have e := ih i (by simp at hi; exact hi) (fun k hk q => h1 (k + 1) (by simp; omega) (by omega)) (fun hk => h2 (by simp; omega))
      simp only [Bool.not_false, if_true, List.length_cons]
      exact congrArg (· + 1) e
theorem ix_lt (l : List Str) (s : Str) : ix l s < l.length ↔ s ∈ l := by
  induction l with
  | nil => simp [ix]
  | cons x l ih =>
    simp only [ix, List.takeWhile_cons] at ih ⊢
    by_cases e : s = x
    · subst e; simp
    · have : (s == x) = false := by simpa using e
      simp only [this, Bool.not_false, if_true, List.length_cons, List.mem_cons, e, false_or]
      rw [← ih]; omega
def ixI (l : List Str) (s : Str) : Int := if ix l s < l.length then (ix l s : Int) else -1
theorem index_ok (l : List Str) (s : Str) (c : Bool) (h : List AObj) (hl : l.length ≤ 9223372036854775807) : ACall Tryz.prog 24 [.fz c (strs l), .str s] h (fun r h' => r = .int .i64 (ixI l s) ∧ h' = h) := by
  (refine ACall.of_code Tryz.func24 rfl ?_; simp only [Tryz.f24]; simp only [go_sem, Nat.reduceMul, Nat.reduceLT, Nat.reduceLeDiff, Nat.reduceEqDiff, Nat.reduceBEq, Int.toNat_natCast, Int.reduceToNat, Int.reduceNeg, Int.reduceLT, Int.reduceLE, Int.reduceBEq, Int.reduceBNe, decide_true, decide_false, Bool.false_eq_true, false_imp_iff, Nat.lt_irrefl])
  refine ALoop.over [4, 5, 8, 9, 10, 11, 12, 13, 14, 15, 16, 17, 18] (fun e h' => h' = h ∧ ∃ k : Nat, k ≤ l.length ∧ e.getD 8 .any = .int .i64 k ∧ ∀ j (hj : j < l.length), j < k → (s == l[j]) = false) (fun e _ => l.length - natA (e.getD 8 .any)) ⟨rfl, 0, by simp, rfl, fun _ _ q => by omega⟩ ?_
  simp only [List.length_cons, List.length_nil, Nat.reduceAdd, allL_succ, allL_zero]
  intro y4 y5 y8 y9 y10 y11 y12 y13 y14 y15 y16 y17 y18 h' hI
  simp only [go_sem] at hI
  obtain ⟨rfl, k, hk, rfl, hall⟩ := hI
  simp only [go_sem, Nat.reduceMul, Nat.reduceLT, Nat.reduceLeDiff, Nat.reduceEqDiff, Nat.reduceBEq, Int.toNat_natCast, Int.reduceToNat, Int.reduceNeg, Int.reduceLT, Int.reduceLE, Int.reduceBEq, Int.reduceBNe, decide_true, decide_false, Bool.false_eq_true, false_imp_iff, Nat.lt_irrefl]
  refine acond_intro (fun hc => ?_) (fun hc => ?_)
  · have hlt : k < l.length := by simpa using hc
    simp only [go_sem, strs_get l _ hlt, Nat.reduceMul, Nat.reduceLT, Nat.reduceLeDiff, Nat.reduceEqDiff, Nat.reduceBEq, Int.toNat_natCast, Int.reduceToNat, Int.reduceNeg, Int.reduceLT, Int.reduceLE, Int.reduceBEq, Int.reduceBNe, decide_true, decide_false, Bool.false_eq_true, false_imp_iff, Nat.lt_irrefl]
    refine ⟨⟨by omega, by omega⟩, ?_⟩
    refine acond_intro (fun hb => ?_) (fun hb => ?_)
    · simp only [go_sem, Nat.reduceMul, Nat.reduceLT, Nat.reduceLeDiff, Nat.reduceEqDiff, Nat.reduceBEq, Int.toNat_natCast, Int.reduceToNat, Int.reduceNeg, Int.reduceLT, Int.reduceLE, Int.reduceBEq, Int.reduceBNe, decide_true, decide_false, Bool.false_eq_true, false_imp_iff, Nat.lt_irrefl]
      refine Fin_plain ⟨?_, rfl⟩
      have := ix_eq l s k hk hall (fun _ => hb)
      rw [ixI, this, if_pos hlt]
    · simp only [go_sem, Nat.reduceMul, Nat.reduceLT, Nat.reduceLeDiff, Nat.reduceEqDiff, Nat.reduceBEq, Int.toNat_natCast, Int.reduceToNat, Int.reduceNeg, Int.reduceLT, Int.reduceLE, Int.reduceBEq, Int.reduceBNe, decide_true, decide_false, Bool.false_eq_true, false_imp_iff, Nat.lt_irrefl]
      rw [wrap_id (by omega) (by omega)]
      refine ⟨⟨k + 1, by omega, rfl, fun j hj q => ?_⟩, by omega⟩
      by_cases e : j = k
      · subst e; exact hb
      · exact hall j hj (by omega)
  · have hge : k = l.length := by have : ¬ k < l.length := by simpa using hc
                                  omega
    simp only [go_sem, Nat.reduceMul, Nat.reduceLT, Nat.reduceLeDiff, Nat.reduceEqDiff, Nat.reduceBEq, Int.toNat_natCast, Int.reduceToNat, Int.reduceNeg, Int.reduceLT, Int.reduceLE, Int.reduceBEq, Int.reduceBNe, decide_true, decide_false, Bool.false_eq_true, false_imp_iff, Nat.lt_irrefl]
    refine Fin_plain ⟨?_, rfl⟩
    have := ix_eq l s k hk hall (fun q => by omega)
    rw [ixI, this, if_neg (by omega)]
theorem contains_ok (l : List Str) (s : Str) (c : Bool) (h : List AObj) (hl : l.length ≤ 9223372036854775807) : ACall Tryz.prog 57 [.fz c (strs l), .str s] h (fun r h' => r = .bool (decide (s ∈ l)) ∧ h' = h) := by
  (refine ACall.of_code Tryz.func57 rfl ?_; simp only [Tryz.f57]; simp only [go_sem, Nat.reduceMul, Nat.reduceLT, Nat.reduceLeDiff, Nat.reduceEqDiff, Nat.reduceBEq, Int.toNat_natCast, Int.reduceToNat, Int.reduceNeg, Int.reduceLT, Int.reduceLE, Int.reduceBEq, Int.reduceBNe, decide_true, decide_false, Bool.false_eq_true, false_imp_iff, Nat.lt_irrefl])
  refine ACallT.by (index_ok l s c _ hl) ?_
  rintro r h1 ⟨rfl, rfl⟩
  simp only [go_sem, Nat.reduceMul, Nat.reduceLT, Nat.reduceLeDiff, Nat.reduceEqDiff, Nat.reduceBEq, Int.toNat_natCast, Int.reduceToNat, Int.reduceNeg, Int.reduceLT, Int.reduceLE, Int.reduceBEq, Int.reduceBNe, decide_true, decide_false, Bool.false_eq_true, false_imp_iff, Nat.lt_irrefl]
  refine Fin_plain ⟨?_, rfl⟩
  congr 1
  rw [ixI]
  split
  · rename_i q; rw [decide_eq_true ((ix_lt l s).1 q)]; simp
  · rename_i q; rw [decide_eq_false (fun w => q ((ix_lt l s).2 w))]; simp
end Go.Proofs.Vale

set_option linter.unusedVariables false
set_option linter.unusedSimpArgs false
set_option maxHeartbeats 4000000
set_option maxRecDepth 100000
namespace Go.Proofs.Vale
open Go.Proofs Go.Proofs.YtohppebjmfnmdaaGreatDoorT
attribute [local irreducible] acode aopsL aopsT dopsL dopsT pop popG aop ALoop ADraw ACall AWP AFin acondT ALoopT ADrawT ACallT doP doG doGd

/-- A schema. -/
def schA (c1 c2 : Bool) (d m : List Str) : AV := .agg [.fz c1 (strs d), .fz c2 (strs m)]
/-- Is a list of texts one that is gone through? -/
def fitS (l : List Str) : Bool := decide (l.length ≤ 20) && l.all fun s => decide (s.length ≤ 80)
theorem fits_ok (l : List Str) (c : Bool) (h : List AObj) (hl : l.length ≤ 9223372036854775807) : ACall Tryz.prog 4 [.fz c (strs l)] h (fun r h' => r = .bool (fitS l) ∧ h' = h) := by
  (refine ACall.of_code Tryz.func4 rfl ?_; simp only [Tryz.f4]; simp only [go_sem, Nat.reduceMul, Nat.reduceLT, Nat.reduceLeDiff, Nat.reduceEqDiff, Nat.reduceBEq, Int.toNat_natCast, Int.reduceToNat, Int.reduceNeg, Int.reduceLT, Int.reduceLE, Int.reduceBEq, Int.reduceBNe, decide_true, decide_false, Bool.false_eq_true, false_imp_iff, Nat.lt_irrefl])
  refine ALoop.over [2, 3, 4, 5, 6, 7, 8, 9, 10, 11, 12, 13, 14, 15, 16, 17, 18, 19] (fun e h' => h' = h ∧ ∃ k : Nat, k ≤ l.length ∧ k ≤ 20 ∧ e.getD 3 .any = .int .i64 k ∧ (l.take k).all (fun s => decide (s.length ≤ 80)) = true) (fun e _ => l.length - natA (e.getD 3 .any)) ⟨rfl, 0, by simp, by simp, rfl, by simp⟩ ?_
  simp only [List.length_cons, List.length_nil, Nat.reduceAdd, allL_succ, allL_zero]
  intro y2 y3 y4 y5 y6 y7 y8 y9 y10 y11 y12 y13 y14 y15 y16 y17 y18 y19 h' hI
  simp only [go_sem] at hI
  obtain ⟨rfl, k, hk, hk2, rfl, hall⟩ := hI
  simp only [go_sem, Nat.reduceMul, Nat.reduceLT, Nat.reduceLeDiff, Nat.reduceEqDiff, Nat.reduceBEq, Int.toNat_natCast, Int.reduceToNat, Int.reduceNeg, Int.reduceLT, Int.reduceLE, Int.reduceBEq, Int.reduceBNe, decide_true, decide_false, Bool.false_eq_true, false_imp_iff, Nat.lt_irrefl]
  refine acond_intro (fun hc => ?_) (fun hc => ?_)
  · have hlt : k < l.length := by simpa using hc
    simp only [go_sem, strs_get l _ hlt, Nat.reduceMul, Nat.reduceLT, Nat.reduceLeDiff, Nat.reduceEqDiff, Nat.reduceBEq, Int.toNat_natCast, Int.reduceToNat, Int.reduceNeg, Int.reduceLT, Int.reduceLE, Int.reduceBEq, Int.reduceBNe, decide_true, decide_false, Bool.false_eq_true, false_imp_iff, Nat.lt_irrefl]
    refine ⟨fun q => ⟨q, by omega, by omega⟩, ?_⟩
    refine acond_intro (fun hb => ?_) (fun hb => ?_)
    · simp only [go_sem, Nat.reduceMul, Nat.reduceLT, Nat.reduceLeDiff, Nat.reduceEqDiff, Nat.reduceBEq, Int.toNat_natCast, Int.reduceToNat, Int.reduceNeg, Int.reduceLT, Int.reduceLE, Int.reduceBEq, Int.reduceBNe, decide_true, decide_false, Bool.false_eq_true, false_imp_iff, Nat.lt_irrefl]
      refine Fin_plain ⟨?_, rfl⟩
      by_cases hz : (k : Int) = 20
      · rw [fitS, decide_eq_false (by omega)]; rfl
      · have hb2 : ¬ (l[k]).length ≤ 80 := by simp [hz] at hb; omega
        have : l.all (fun s => decide (s.length ≤ 80)) = false := by
          rw [List.all_eq_false]; exact ⟨l[k], List.getElem_mem _, by simpa using hb2⟩
        rw [fitS, this, Bool.and_false]
    · simp only [go_sem, Nat.reduceMul, Nat.reduceLT, Nat.reduceLeDiff, Nat.reduceEqDiff, Nat.reduceBEq, Int.toNat_natCast, Int.reduceToNat, Int.reduceNeg, Int.reduceLT, Int.reduceLE, Int.reduceBEq, Int.reduceBNe, decide_true, decide_false, Bool.false_eq_true, false_imp_iff, Nat.lt_irrefl]
      have hz : (k : Int) ≠ 20 := fun q => by simp [q] at hb
      have hb2 : (l[k]).length ≤ 80 := by simp [hz] at hb; omega
      rw [wrap_id (by omega) (by omega)]
      refine ⟨⟨k + 1, by omega, by omega, rfl, ?_⟩, by omega⟩
      rw [List.take_succ_eq_append_getElem hlt, List.all_append, hall]; simp [hb2]
  · have hge : k = l.length := by have : ¬ k < l.length := by simpa using hc
                                  omega
    subst hge
    rw [List.take_length] at hall
    simp only [go_sem, Nat.reduceMul, Nat.reduceLT, Nat.reduceLeDiff, Nat.reduceEqDiff, Nat.reduceBEq, Int.toNat_natCast, Int.reduceToNat, Int.reduceNeg, Int.reduceLT, Int.reduceLE, Int.reduceBEq, Int.reduceBNe, decide_true, decide_false, Bool.false_eq_true, false_imp_iff, Nat.lt_irrefl]
    refine Fin_plain ⟨?_, rfl⟩
    rw [fitS, hall, decide_eq_true hk2]; rfl
/-! ### Some of some -/
def subS : List Str → List Str → Bool
  | [], _ => true
  | a :: l, b => if ix b a < b.length then subS l (b.drop (ix b a + 1)) else false
theorem drop_strs (l : List Str) (n : Nat) : List.drop n (strs l) = strs (l.drop n) := by simp [strs]
theorem subset_ok (a b : List Str) (c1 c2 : Bool) (h : List AObj) (ha : a.length ≤ 9223372036854775807) (hb : b.length ≤ 9223372036854775807) : ACall Tryz.prog 15 [.fz c1 (strs a), .fz c2 (strs b)] h (fun r h' => r = .bool (subS a b) ∧ h' = h) := by
  (refine ACall.of_code Tryz.func15 rfl ?_; simp only [Tryz.f15]; simp only [go_sem, Nat.reduceMul, Nat.reduceLT, Nat.reduceLeDiff, Nat.reduceEqDiff, Nat.reduceBEq, Int.toNat_natCast, Int.reduceToNat, Int.reduceNeg, Int.reduceLT, Int.reduceLE, Int.reduceBEq, Int.reduceBNe, decide_true, decide_false, Bool.false_eq_true, false_imp_iff, Nat.lt_irrefl])
  refine ALoop.over [1, 4, 6, 7, 10, 11, 12, 13, 14, 15, 16, 17, 18, 19, 20, 21, 22, 23] (fun e h' => h' = h ∧ ∃ (k : Nat) (c : Bool) (b' : List Str), k ≤ a.length ∧ b'.length ≤ b.length ∧ e.getD 10 .any = .int .i64 k ∧ e.getD 1 .any = .fz c (strs b') ∧ subS (a.drop k) b' = subS a b) (fun e _ => a.length - natA (e.getD 10 .any)) ⟨rfl, 0, c2, b, by simp, by omega, rfl, rfl, rfl⟩ ?_
  simp only [List.length_cons, List.length_nil, Nat.reduceAdd, allL_succ, allL_zero]
  intro y1 y4 y6 y7 y10 y11 y12 y13 y14 y15 y16 y17 y18 y19 y20 y21 y22 y23 h' hI
  simp only [go_sem] at hI
  obtain ⟨rfl, k, c, b', hk, hbl, rfl, rfl, hs⟩ := hI
  simp only [go_sem, Nat.reduceMul, Nat.reduceLT, Nat.reduceLeDiff, Nat.reduceEqDiff, Nat.reduceBEq, Int.toNat_natCast, Int.reduceToNat, Int.reduceNeg, Int.reduceLT, Int.reduceLE, Int.reduceBEq, Int.reduceBNe, decide_true, decide_false, Bool.false_eq_true, false_imp_iff, Nat.lt_irrefl]
  refine acond_intro (fun hc => ?_) (fun hc => ?_)
  · have hlt : k < a.length := by simpa using hc
    rw [List.drop_eq_getElem_cons hlt, subS] at hs
    simp only [go_sem, strs_get a _ hlt, Nat.reduceMul, Nat.reduceLT, Nat.reduceLeDiff, Nat.reduceEqDiff, Nat.reduceBEq, Int.toNat_natCast, Int.reduceToNat, Int.reduceNeg, Int.reduceLT, Int.reduceLE, Int.reduceBEq, Int.reduceBNe, decide_true, decide_false, Bool.false_eq_true, false_imp_iff, Nat.lt_irrefl]
    refine ⟨⟨by omega, by omega⟩, ?_⟩
    refine ACallT.by (index_ok b' _ c _ (by omega)) ?_
    rintro r h1 ⟨rfl, rfl⟩
    by_cases e : ix b' a[k] < b'.length
    · rw [if_pos e] at hs
      rw [show ixI b' a[k] = (ix b' a[k] : Int) by rw [ixI, if_pos e]]
      simp only [go_sem, Nat.reduceMul, Nat.reduceLT, Nat.reduceLeDiff, Nat.reduceEqDiff, Nat.reduceBEq, Int.toNat_natCast, Int.reduceToNat, Int.reduceNeg, Int.reduceLT, Int.reduceLE, Int.reduceBEq, Int.reduceBNe, decide_true, decide_false, Bool.false_eq_true, false_imp_iff, Nat.lt_irrefl]
      generalize hz : decide ((ix b' a[k] : Int) < 0) = z
      obtain rfl : z = false := by rw [← hz]; simp
      simp only [go_sem, Nat.reduceMul, Nat.reduceLT, Nat.reduceLeDiff, Nat.reduceEqDiff, Nat.reduceBEq, Int.toNat_natCast, Int.reduceToNat, Int.reduceNeg, Int.reduceLT, Int.reduceLE, Int.reduceBEq, Int.reduceBNe, decide_true, decide_false, Bool.false_eq_true, false_imp_iff, Nat.lt_irrefl]
      have hw : IntKind.i64.wrap ((ix b' a[k] : Int) + 1) = ((ix b' a[k] + 1 : Nat) : Int) := by rw [wrap_id (by omega) (by omega)]; omega
      rw [hw]
      simp only [go_sem, Nat.reduceMul, Nat.reduceLT, Nat.reduceLeDiff, Nat.reduceEqDiff, Nat.reduceBEq, Int.toNat_natCast, Int.reduceToNat, Int.reduceNeg, Int.reduceLT, Int.reduceLE, Int.reduceBEq, Int.reduceBNe, decide_true, decide_false, Bool.false_eq_true, false_imp_iff, Nat.lt_irrefl]
      rw [wrap_id (x := (k : Int) + 1) (by omega) (by omega)]
      refine ⟨⟨by omega, by omega, by omega, strs_cells _⟩, ⟨k + 1, c, b'.drop (ix b' a[k] + 1), by omega, by rw [List.length_drop]; omega, rfl, by rw [drop_strs], hs⟩, by omega⟩
    · rw [if_neg e] at hs
      rw [show ixI b' a[k] = -1 by rw [ixI, if_neg e]]
      simp only [go_sem, Nat.reduceMul, Nat.reduceLT, Nat.reduceLeDiff, Nat.reduceEqDiff, Nat.reduceBEq, Int.toNat_natCast, Int.reduceToNat, Int.reduceNeg, Int.reduceLT, Int.reduceLE, Int.reduceBEq, Int.reduceBNe, decide_true, decide_false, Bool.false_eq_true, false_imp_iff, Nat.lt_irrefl]
      refine Fin_plain ⟨?_, rfl⟩
      rw [← hs]
  · have hge : k = a.length := by have : ¬ k < a.length := by simpa using hc
                                  omega
    subst hge
    rw [List.drop_length, subS] at hs
    simp only [go_sem, Nat.reduceMul, Nat.reduceLT, Nat.reduceLeDiff, Nat.reduceEqDiff, Nat.reduceBEq, Int.toNat_natCast, Int.reduceToNat, Int.reduceNeg, Int.reduceLT, Int.reduceLE, Int.reduceBEq, Int.reduceBNe, decide_true, decide_false, Bool.false_eq_true, false_imp_iff, Nat.lt_irrefl]
    refine Fin_plain ⟨?_, rfl⟩
    rw [← hs]
end Go.Proofs.Vale
