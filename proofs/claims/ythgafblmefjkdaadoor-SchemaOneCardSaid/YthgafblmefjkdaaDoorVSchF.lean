/- YthgafblmefjkdaaDoorVSchF: a text of the proof of this claim, by its prover. -/
import Derived.Test.YthgafblmefjkdaaDoorVSchE
import Derived.Test.YthgafblmefjkdaaDoorVTurn
set_option linter.unusedVariables false
set_option linter.unusedSimpArgs false
set_option maxHeartbeats 4000000
set_option maxRecDepth 100000
namespace Go.Proofs.Vale
open Go.Proofs Go.Proofs.YthgafblmefjkdaaDoorT
attribute [local irreducible] acode aopsL aopsT dopsL dopsT pop popG aop ALoop ADraw ACall AWP AFin acondT ALoopT ADrawT ACallT doP doG doGd

/-! ### Right schemas -/
theorem ACall.partArgs {P : Program} {f : FuncId} {xs xs' : List AV} {h h2 : List AObj} {K : AV → List AObj → Prop} (T : Nat → Bool) (k : Nat) (hlen : h2.length = h.length) (hp : ∀ i o, h2[i]? = some o → PartO T h i o) (hl : xs.map (frzT T h k) = xs') (a : ACall P f xs' h2 K) : ACall P f xs h K := by
  unfold ACall at a ⊢
  intro w β fr us L R
  obtain ⟨fr', e1, e2, e3, e4, L2⟩ := step_part (w := w) T L hlen hp
  subst hl
  have R2 : CellsRep β fr' w.heap (xs.map (frzT T h k)) us := by
    refine ⟨by rw [List.length_map]; exact R.1, fun j hj => ?_⟩
    have hj' : j < xs.length := by simpa using hj
    obtain ⟨u, hu, hr⟩ := R.2 j hj'
    refine ⟨u, hu, ?_⟩
    rw [List.getElem_map]
    exact frzT_rep L e1 e2 k _ u hr
  refine (a w β fr' us L2 R2).mono ?_
  rintro e w' ⟨v, x, h', β', fr2, rfl, hk, L', R', S'⟩
  refine ⟨v, x, h', β', fr2, rfl, hk, L', R', ?_⟩
  have hz : ∀ b, fr' b → fr b ∨ Own h β b ∨ w.heap.size ≤ b := by
    intro b e
    rcases e3 b e with q | q
    · exact .inl q
    · exact .inr (.inl q)
  have S0 : Step1 β fr h w β fr' h2 w := ⟨⟨fun _ _ _ e => e, e1, fun _ _ => rfl, fun _ _ _ c _ f _ h => ⟨c, f, h, rfl⟩⟩, rfl, rfl, rfl, Nat.le_refl _, fun _ _ _ => rfl, fun b o => .inl (e4 b o), hz⟩
  exact S0.trans S'
theorem ACallT.lastArg {P : Program} {f : FuncId} {xs : List AV} {h h0 : List AObj} {l : List AV} {s : Nat} {K K' : AV → List AObj → Prop} {t : Tag K} (hf : ∀ y ∈ l, flatX y = true) (eh : h = h0 ++ [.arr 0 s l]) (ea : xs = [.sl h0.length 0 s 0 l.length]) (a : ACall P f [.fz false l] (h0 ++ [.dead]) K') (kk : ∀ r h', K' r h' → K r h') : ACallT P f xs h K t := by
  unfold ACallT
  subst eh ea
  have ht : (h0 ++ [AObj.arr 0 s l])[h0.length]? = some (.arr 0 s l) := by simp
  refine ACall.partArgs (fun i => i == h0.length) 3 (h2 := h0 ++ [.dead]) (by simp) (fun i o ho => ?_) ?_ (a.mono kk)
  · rcases Nat.lt_or_ge i h0.length with q | q
    · refine PartO.same (by simp; omega) ?_
      rw [List.getElem?_append_left q] at ho ⊢; exact ho
    · obtain ⟨j, rfl⟩ : ∃ j, i = h0.length + j := ⟨i - h0.length, by omega⟩
      rw [getElem?_app] at ho
      match j, ho with
      | 0, ho => injection ho with ho; exact .inl ho.symm
      | j + 1, ho => simp at ho
  · simp only [List.map_cons, List.map_nil]
    rw [frzT_all ht (by simp) rfl hf]
theorem okEl_strs (l : List Str) : (strs l).all (okEl 1) = true := by simp [strs, okEl, AV.cells, AV.one]
theorem strs_app (a b : List Str) : strs a ++ strs b = strs (a ++ b) := by simp [strs]
theorem grow_ok (n : Nat) (h : List AObj) (hn : n ≤ 8796093022000) : ACall Tryd.prog 41 [.fz true [], .int .i64 n] h (fun r h' => (n = 0 ∧ r = .fz true [] ∧ h' = h) ∨ (r = .sl h.length 0 1 0 0 ∧ h' = h ++ [.arr 0 1 []])) := by
  (refine ACall.of_code Tryd.func41 rfl ?_; simp only [Tryd.f41]; simp only [go_sem, Nat.reduceMul, Nat.reduceLT, Nat.reduceLeDiff, Nat.reduceEqDiff, Nat.reduceBEq, Int.toNat_natCast, Int.reduceToNat, Int.reduceNeg, Int.reduceLT, Int.reduceLE, Int.reduceBEq, Int.reduceBNe, decide_true, decide_false, Bool.false_eq_true, false_imp_iff, Nat.lt_irrefl])
  generalize hz : decide ((n : Int) < 0) = z
  obtain rfl : z = false := by rw [← hz]; simp
  simp only [go_sem, Nat.reduceMul, Nat.reduceLT, Nat.reduceLeDiff, Nat.reduceEqDiff, Nat.reduceBEq, Int.toNat_natCast, Int.reduceToNat, Int.reduceNeg, Int.reduceLT, Int.reduceLE, Int.reduceBEq, Int.reduceBNe, decide_true, decide_false, Bool.false_eq_true, false_imp_iff, Nat.lt_irrefl]
  have hw : IntKind.i64.wrap ((n : Int) - IntKind.i64.wrap (((0 : Nat) : Int) - ((0 : Nat) : Int))) = (n : Int) := by
    rw [show IntKind.i64.wrap (((0 : Nat) : Int) - ((0 : Nat) : Int)) = 0 by decide, wrap_id (by omega) (by omega)]; omega
  generalize IntKind.i64.wrap ((n : Int) - IntKind.i64.wrap (((0 : Nat) : Int) - ((0 : Nat) : Int))) = w at hw
  subst hw
  refine acond_intro (fun hc => ?_) (fun hc => ?_)
  · have h0 : (0 : Int) < (n : Int) := of_decide_eq_true hc
    simp only [go_sem, Nat.reduceMul, Nat.reduceLT, Nat.reduceLeDiff, Nat.reduceEqDiff, Nat.reduceBEq, Int.toNat_natCast, Int.reduceToNat, Int.reduceNeg, Int.reduceLT, Int.reduceLE, Int.reduceBEq, Int.reduceBNe, decide_true, decide_false, Bool.false_eq_true, false_imp_iff, Nat.lt_irrefl]
    refine ⟨⟨by omega, by omega, by simp⟩, ⟨by omega, by omega, by omega⟩, ⟨by omega, by omega⟩, ?_⟩
    refine Fin_plain ?_
    exact .inr ⟨rfl, rfl⟩
  · have h0 := of_decide_eq_false hc
    simp only [go_sem, Nat.reduceMul, Nat.reduceLT, Nat.reduceLeDiff, Nat.reduceEqDiff, Nat.reduceBEq, Int.toNat_natCast, Int.reduceToNat, Int.reduceNeg, Int.reduceLT, Int.reduceLE, Int.reduceBEq, Int.reduceBNe, decide_true, decide_false, Bool.false_eq_true, false_imp_iff, Nat.lt_irrefl]
    refine Fin_plain ?_
    exact .inl ⟨by omega, rfl, rfl⟩
def fzs (l : List (Bool × List Str)) : List AV := l.map fun p => .fz p.1 (strs p.2)
theorem fzs_get (l : List (Bool × List Str)) (k : Nat) (h : k < l.length) : (fzs l).getD k .any = .fz (l[k]).1 (strs (l[k]).2) := by simp [fzs, List.getD_eq_getElem?_getD, h]
@[go_sem] theorem fzs_len (l : List (Bool × List Str)) : (fzs l).length = l.length := by simp [fzs]
def tot (l : List (Bool × List Str)) : List Str := l.flatMap (·.2)
theorem tot_snoc (l : List (Bool × List Str)) (k : Nat) (h : k < l.length) : tot (l.take (k + 1)) = tot (l.take k) ++ (l[k]).2 := by
  rw [List.take_succ_eq_append_getElem h, tot, List.flatMap_append]; simp [tot]
theorem tot_le (l : List (Bool × List Str)) (k : Nat) : (tot (l.take k)).length ≤ (tot l).length := by
  conv => rhs; rw [← List.take_append_drop k l]
  simp only [tot, List.flatMap_append, List.length_append]; omega
theorem concat_own (c : Bool) (l : List (Bool × List Str)) (h : List AObj) (hl : l.length ≤ 1000000) (ht : (tot l).length ≤ 8796093022000) : ACall Tryd.prog 24 [.fz c (fzs l)] h (fun r h' => ∃ ext, h' = h ++ ext ∧ ((r = .fz true [] ∧ tot l = []) ∨ ∃ t g, h.length ≤ t ∧ r = .sl t g 1 0 (tot l).length ∧ h'[t]? = some (.arr g 1 (strs (tot l))))) := by
  (refine ACall.of_code Tryd.func24 rfl ?_; simp only [Tryd.f24]; simp only [go_sem, Nat.reduceMul, Nat.reduceLT, Nat.reduceLeDiff, Nat.reduceEqDiff, Nat.reduceBEq, Int.toNat_natCast, Int.reduceToNat, Int.reduceNeg, Int.reduceLT, Int.reduceLE, Int.reduceBEq, Int.reduceBNe, decide_true, decide_false, Bool.false_eq_true, false_imp_iff, Nat.lt_irrefl])
  refine ALoop.over [3, 5, 11, 12, 13, 14, 15, 16, 17, 18, 19, 20, 21, 22] (fun e h' => h' = h ∧ ∃ k : Nat, k ≤ l.length ∧ e.getD 11 .any = .int .i64 k ∧ e.getD 3 .any = .int .i64 (tot (l.take k)).length) (fun e _ => l.length - natA (e.getD 11 .any)) ⟨rfl, 0, by simp, rfl, by simp [tot]⟩ ?_
  simp only [List.length_cons, List.length_nil, Nat.reduceAdd, allL_succ, allL_zero]
  intro y3 y5 y11 y12 y13 y14 y15 y16 y17 y18 y19 y20 y21 y22 h' hI
  simp only [go_sem] at hI
  obtain ⟨rfl, k, hk, rfl, rfl⟩ := hI
  simp only [go_sem, Nat.reduceMul, Nat.reduceLT, Nat.reduceLeDiff, Nat.reduceEqDiff, Nat.reduceBEq, Int.toNat_natCast, Int.reduceToNat, Int.reduceNeg, Int.reduceLT, Int.reduceLE, Int.reduceBEq, Int.reduceBNe, decide_true, decide_false, Bool.false_eq_true, false_imp_iff, Nat.lt_irrefl]
  refine acond_intro (fun hc => ?_) (fun hc => ?_)
  · have hlt : k < l.length := by have := of_decide_eq_true hc; omega
    have hsn := tot_snoc l k hlt
    have hle := tot_le l (k + 1)
    rw [hsn, List.length_append] at hle
    simp only [go_sem, fzs_get l k hlt, Nat.reduceMul, Nat.reduceLT, Nat.reduceLeDiff, Nat.reduceEqDiff, Nat.reduceBEq, Int.toNat_natCast, Int.reduceToNat, Int.reduceNeg, Int.reduceLT, Int.reduceLE, Int.reduceBEq, Int.reduceBNe, decide_true, decide_false, Bool.false_eq_true, false_imp_iff, Nat.lt_irrefl]
    refine ⟨⟨by omega, by omega⟩, ?_⟩
    have hw : IntKind.i64.wrap (((tot (l.take k)).length : Int) + ((l[k]).2.length : Int)) = ((tot (l.take (k + 1))).length : Int) := by
      rw [hsn, List.length_append, wrap_id (by omega) (by omega)]; omega
    generalize IntKind.i64.wrap (((tot (l.take k)).length : Int) + ((l[k]).2.length : Int)) = w at hw
    subst hw
    generalize hz : decide (((tot (l.take (k + 1))).length : Int) < 0) = z
    obtain rfl : z = false := by rw [← hz]; simp
    simp only [go_sem, Nat.reduceMul, Nat.reduceLT, Nat.reduceLeDiff, Nat.reduceEqDiff, Nat.reduceBEq, Int.toNat_natCast, Int.reduceToNat, Int.reduceNeg, Int.reduceLT, Int.reduceLE, Int.reduceBEq, Int.reduceBNe, decide_true, decide_false, Bool.false_eq_true, false_imp_iff, Nat.lt_irrefl]
    rw [wrap_id (x := (k : Int) + 1) (by omega) (by omega)]
    exact ⟨⟨k + 1, by omega, rfl, rfl⟩, by omega⟩
  · have hge : k = l.length := by have := of_decide_eq_false hc; omega
    subst hge
    rw [List.take_length] at *
    simp only [go_sem, Nat.reduceMul, Nat.reduceLT, Nat.reduceLeDiff, Nat.reduceEqDiff, Nat.reduceBEq, Int.toNat_natCast, Int.reduceToNat, Int.reduceNeg, Int.reduceLT, Int.reduceLE, Int.reduceBEq, Int.reduceBNe, decide_true, decide_false, Bool.false_eq_true, false_imp_iff, Nat.lt_irrefl]
    refine ACallT.by (grow_ok (tot l).length _ (by omega)) ?_
    intro r h1 hr
    have hr2 : (∃ ext, h1 = h' ++ ext) ∧ (r = .fz true [] ∨ ∃ t g, h'.length ≤ t ∧ r = .sl t g 1 0 0 ∧ h1[t]? = some (.arr g 1 [])) := by
      rcases hr with ⟨-, rfl, rfl⟩ | ⟨rfl, rfl⟩
      · exact ⟨⟨[], by simp⟩, .inl rfl⟩
      · exact ⟨⟨_, rfl⟩, .inr ⟨h'.length, 0, Nat.le_refl _, rfl, by rw [getElem?_app0]; rfl⟩⟩
    clear hr
    have h0 : (∃ ext, h1 = h' ++ ext) ∧ ((r = .fz true [] ∧ tot (l.take 0) = []) ∨ ∃ t g, h'.length ≤ t ∧ r = .sl t g 1 0 (tot (l.take 0)).length ∧ h1[t]? = some (.arr g 1 (strs (tot (l.take 0))))) := by
      obtain ⟨hx, hr2⟩ := hr2
      refine ⟨hx, ?_⟩
      rcases hr2 with rfl | ⟨t, g, hle, rfl, hg⟩
      · exact .inl ⟨rfl, rfl⟩
      · exact .inr ⟨t, g, hle, rfl, hg⟩
    simp only [go_sem, Nat.reduceMul, Nat.reduceLT, Nat.reduceLeDiff, Nat.reduceEqDiff, Nat.reduceBEq, Int.toNat_natCast, Int.reduceToNat, Int.reduceNeg, Int.reduceLT, Int.reduceLE, Int.reduceBEq, Int.reduceBNe, decide_true, decide_false, Bool.false_eq_true, false_imp_iff, Nat.lt_irrefl]
    refine ALoop.over [6, 8, 27, 28, 29, 30, 31, 32, 33, 34] (fun e h2 => ∃ k : Nat, k ≤ l.length ∧ e.getD 27 .any = .int .i64 k ∧ (∃ ext, h2 = h' ++ ext) ∧ ((e.getD 6 .any = .fz true [] ∧ tot (l.take k) = []) ∨ ∃ t g, h'.length ≤ t ∧ e.getD 6 .any = .sl t g 1 0 (tot (l.take k)).length ∧ h2[t]? = some (.arr g 1 (strs (tot (l.take k)))))) (fun e _ => l.length - natA (e.getD 27 .any)) ⟨0, by simp, rfl, h0⟩ ?_
    simp only [List.length_cons, List.length_nil, Nat.reduceAdd, allL_succ, allL_zero]
    intro y6 y8 y27 y28 y29 y30 y31 y32 y33 y34 h2 hI
    simp only [go_sem] at hI
    obtain ⟨k, hk, rfl, ⟨ext, rfl⟩, hX⟩ := hI
    simp only [go_sem, Nat.reduceMul, Nat.reduceLT, Nat.reduceLeDiff, Nat.reduceEqDiff, Nat.reduceBEq, Int.toNat_natCast, Int.reduceToNat, Int.reduceNeg, Int.reduceLT, Int.reduceLE, Int.reduceBEq, Int.reduceBNe, decide_true, decide_false, Bool.false_eq_true, false_imp_iff, Nat.lt_irrefl]
    refine acond_intro (fun hc => ?_) (fun hc => ?_)
    · have hlt : k < l.length := by have := of_decide_eq_true hc; omega
      have hsn := tot_snoc l k hlt
      have hle := tot_le l (k + 1)
      rw [hsn, List.length_append] at hle
      have hw : IntKind.i64.wrap ((k : Int) + 1) = ((k + 1 : Nat) : Int) := by rw [wrap_id (by omega) (by omega)]; omega
      simp only [go_sem, fzs_get l k hlt, Nat.reduceMul, Nat.reduceLT, Nat.reduceLeDiff, Nat.reduceEqDiff, Nat.reduceBEq, Int.toNat_natCast, Int.reduceToNat, Int.reduceNeg, Int.reduceLT, Int.reduceLE, Int.reduceBEq, Int.reduceBNe, decide_true, decide_false, Bool.false_eq_true, false_imp_iff, Nat.lt_irrefl]
      refine ⟨⟨by omega, by omega⟩, ?_⟩
      rcases hX with ⟨rfl, h0⟩ | ⟨t, g, htl, rfl, hg⟩
      · rw [h0, List.nil_append] at hsn
        simp only [go_sem, Nat.reduceMul, Nat.reduceLT, Nat.reduceLeDiff, Nat.reduceEqDiff, Nat.reduceBEq, Int.toNat_natCast, Int.reduceToNat, Int.reduceNeg, Int.reduceLT, Int.reduceLE, Int.reduceBEq, Int.reduceBNe, decide_true, decide_false, Bool.false_eq_true, false_imp_iff, Nat.lt_irrefl]
        refine ⟨⟨by omega, by omega, okEl_strs _⟩, fun q => ⟨⟨k + 1, by omega, by rw [hw], ⟨_, rfl⟩, .inl ?_⟩, by rw [hw]; omega⟩, fun _ => ⟨⟨k + 1, by omega, by rw [hw], ⟨_, rfl⟩, .inr ⟨h'.length + ext.length, 0, by omega, by rw [hsn], ?_⟩⟩, by rw [hw]; omega⟩⟩
        · rw [hsn]
          have := congrArg List.length q
          rw [strs_len] at this
          exact List.length_eq_zero_iff.1 this
        · rw [getElem?_app, getElem?_app0, hsn]; rfl
      · simp only [go_sem, hg, Nat.reduceMul, Nat.reduceLT, Nat.reduceLeDiff, Nat.reduceEqDiff, Nat.reduceBEq, Int.toNat_natCast, Int.reduceToNat, Int.reduceNeg, Int.reduceLT, Int.reduceLE, Int.reduceBEq, Int.reduceBNe, decide_true, decide_false, Bool.false_eq_true, false_imp_iff, Nat.lt_irrefl]
        refine ⟨⟨by omega, by omega, okEl_strs _⟩, ⟨k + 1, by omega, by rw [hw], ⟨_, List.set_append_right _ _ htl⟩, .inr ⟨t, g + 1, htl, by rw [hsn, List.length_append], ?_⟩⟩, by rw [hw]; omega⟩
        rw [List.getElem?_set_self (List.getElem?_eq_some_iff.1 hg).1, hsn, strs_app]
    · have hge : k = l.length := by have := of_decide_eq_false hc; omega
      subst hge
      rw [List.take_length] at hX
      simp only [go_sem, Nat.reduceMul, Nat.reduceLT, Nat.reduceLeDiff, Nat.reduceEqDiff, Nat.reduceBEq, Int.toNat_natCast, Int.reduceToNat, Int.reduceNeg, Int.reduceLT, Int.reduceLE, Int.reduceBEq, Int.reduceBNe, decide_true, decide_false, Bool.false_eq_true, false_imp_iff, Nat.lt_irrefl]
      refine Fin_plain ⟨ext, rfl, ?_⟩
      rcases hX with ⟨rfl, h0⟩ | ⟨t, g, htl, rfl, hg⟩
      · exact .inl ⟨rfl, h0⟩
      · exact .inr ⟨t, g, htl, rfl, hg⟩
theorem clone_own (l : List Str) (t g : Nat) (h : List AObj) (hl : l.length ≤ 8796093022000) (ht : h[t]? = some (.arr g 1 (strs l))) : ACall Tryd.prog 27 [.sl t g 1 0 l.length] h (fun r h' => (l = [] ∧ r = .fz true [] ∧ h' = h) ∨ ∃ g', r = .sl h.length g' 1 0 l.length ∧ h' = h ++ [.arr g' 1 (strs l)]) := by
  (refine ACall.of_code Tryd.func27 rfl ?_; simp only [Tryd.f27]; simp only [go_sem, Nat.reduceMul, Nat.reduceLT, Nat.reduceLeDiff, Nat.reduceEqDiff, Nat.reduceBEq, Int.toNat_natCast, Int.reduceToNat, Int.reduceNeg, Int.reduceLT, Int.reduceLE, Int.reduceBEq, Int.reduceBNe, decide_true, decide_false, Bool.false_eq_true, false_imp_iff, Nat.lt_irrefl])
  intro b hb
  cases b with
  | true =>
    simp only [go_sem, Nat.reduceMul, Nat.reduceLT, Nat.reduceLeDiff, Nat.reduceEqDiff, Nat.reduceBEq, Int.toNat_natCast, Int.reduceToNat, Int.reduceNeg, Int.reduceLT, Int.reduceLE, Int.reduceBEq, Int.reduceBNe, decide_true, decide_false, Bool.false_eq_true, false_imp_iff, Nat.lt_irrefl]
    have : l = [] := List.length_eq_zero_iff.1 (hb rfl)
    refine Fin_plain (.inl ⟨this, rfl, rfl⟩)
  | false =>
    have htl := (List.getElem?_eq_some_iff.1 ht).1
    have ht2 : (h ++ [AObj.arr 0 1 []])[t]? = some (.arr g 1 (strs l)) := by rw [List.getElem?_append_left htl]; exact ht
    simp only [go_sem, ht2, ht, Nat.reduceMul, Nat.reduceLT, Nat.reduceLeDiff, Nat.reduceEqDiff, Nat.reduceBEq, Int.toNat_natCast, Int.reduceToNat, Int.reduceNeg, Int.reduceLT, Int.reduceLE, Int.reduceBEq, Int.reduceBNe, decide_true, decide_false, Bool.false_eq_true, false_imp_iff, Nat.lt_irrefl]
    exact ⟨⟨by omega, by omega, okEl_strs _⟩, Fin_plain (.inr ⟨1, rfl, rfl⟩)⟩
end Go.Proofs.Vale
