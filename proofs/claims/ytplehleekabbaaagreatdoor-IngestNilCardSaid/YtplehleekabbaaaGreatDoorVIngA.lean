/- YtplehleekabbaaaGreatDoorVIngA: a text of the proof of this claim, by its prover. -/
import Derived.Test.YtplehleekabbaaaGreatDoorVIngV
import Derived.Test.YtplehleekabbaaaGreatDoorVRk
set_option linter.unusedVariables false
set_option linter.unusedSimpArgs false
set_option maxHeartbeats 4000000
set_option maxRecDepth 100000
namespace Go.Proofs.Vale
open Go.Proofs Go.Proofs.YtplehleekabbaaaGreatDoorT
attribute [local irreducible] acode aopsL aopsT dopsL dopsT pop popG aop ALoop ADraw ACall AWP AFin acondT ALoopT ADrawT ACallT doP doG doGd

theorem clone_fz (l : List Str) (c : Bool) (h : List AObj) (hl : l.length ≤ 8796093022000) : ACall Tryz.prog 36 [.fz c (strs l)] h (fun r _ => r = .fz false (strs l)) := by
  refine ACall.any (by simp [lowL, AV.low, low_strs]) ?_
  refine (ACall.freeze 3 (clone_ok l c [] hl) (K2 := fun r _ => r = .fz true (strs l) ∨ r = .fz false (strs l)) ?_).weak ?_
  · rintro r h' (⟨rfl, rfl, rfl⟩ | ⟨g, rfl, rfl⟩)
    · exact .inl rfl
    · right
      simp only [frz_sl]
      rw [← strs_len]
      exact frzO_all (l := strs l) rfl (flatS _)
  · rintro r h' (rfl | rfl)
    · exact ⟨.fz false (strs l), fun β fr H v q => rep_cut q, by simp [AV.low, low_strs], rfl⟩
    · exact ⟨.fz false (strs l), fun β fr H v q => q, by simp [AV.low, low_strs], rfl⟩
theorem new_ok (c1 c2 : Bool) (d m : List Str) (g : Int) (h : List AObj) (hd : d.length + m.length ≤ 8796093022000) (hL : ∀ s ∈ d ++ m, s.length ≤ 9223372036854775807) (hr : rightS d m = true) (hg : gr g = true) : ACall Tryz.prog 14 [schA c1 c2 d m, .int .i64 g] h (fun r h' => r = .tup [.ref (h.length + 2) 0 5 0 0, .int .i64 0] ∧ h' = h ++ [.arr 0 2 [schA c1 c2 d m], .map [], .arr 0 5 [.agg [.fz false (strs d), .fz false (strs m), .int .i64 g, .mp (h.length + 1), .int .i64 0]]]) := by
  simp only [schA]
  (refine ACall.of_code Tryz.func14 rfl ?_; simp only [Tryz.f14]; simp only [go_sem, Nat.reduceMul, Nat.reduceLT, Nat.reduceLeDiff, Nat.reduceEqDiff, Nat.reduceBEq, Int.toNat_natCast, Int.reduceToNat, Int.reduceNeg, Int.reduceLT, Int.reduceLE, Int.reduceBEq, Int.reduceBNe, decide_true, decide_false, Bool.false_eq_true, false_imp_iff, Nat.lt_irrefl])
  (refine ACallT.frame (right_ok c1 c2 d m _ hd hL) ?_; refine fun _ _ e => ?_; subst e; refine ⟨by (first | rfl | (simp only [AV.low, lowL, low_strs, low_bytes, Bool.and_true, Bool.and_self])), ?_⟩; simp only [go_sem, Nat.reduceMul, Nat.reduceLT, Nat.reduceLeDiff, Nat.reduceEqDiff, Nat.reduceBEq, Int.toNat_natCast, Int.reduceToNat, Int.reduceNeg, Int.reduceLT, Int.reduceLE, Int.reduceBEq, Int.reduceBNe, decide_true, decide_false, Bool.false_eq_true, false_imp_iff, Nat.lt_irrefl])
  rw [hr]
  simp only [go_sem, Nat.reduceMul, Nat.reduceLT, Nat.reduceLeDiff, Nat.reduceEqDiff, Nat.reduceBEq, Int.toNat_natCast, Int.reduceToNat, Int.reduceNeg, Int.reduceLT, Int.reduceLE, Int.reduceBEq, Int.reduceBNe, decide_true, decide_false, Bool.false_eq_true, false_imp_iff, Nat.lt_irrefl]
  (refine ACallT.frame ((gr_ok g _).mono fun _ _ q => q.1) ?_; refine fun _ _ e => ?_; subst e; refine ⟨by (first | rfl | (simp only [AV.low, lowL, low_strs, low_bytes, Bool.and_true, Bool.and_self])), ?_⟩; simp only [go_sem, Nat.reduceMul, Nat.reduceLT, Nat.reduceLeDiff, Nat.reduceEqDiff, Nat.reduceBEq, Int.toNat_natCast, Int.reduceToNat, Int.reduceNeg, Int.reduceLT, Int.reduceLE, Int.reduceBEq, Int.reduceBNe, decide_true, decide_false, Bool.false_eq_true, false_imp_iff, Nat.lt_irrefl])
  rw [hg]
  simp only [go_sem, Nat.reduceMul, Nat.reduceLT, Nat.reduceLeDiff, Nat.reduceEqDiff, Nat.reduceBEq, Int.toNat_natCast, Int.reduceToNat, Int.reduceNeg, Int.reduceLT, Int.reduceLE, Int.reduceBEq, Int.reduceBNe, decide_true, decide_false, Bool.false_eq_true, false_imp_iff, Nat.lt_irrefl]
  (refine ADrawT.mem [(10, 1), (10, 4)] mixedOrdersD (by kernel_rfl) (by kernel_rfl) ?_; simp only [go_sem, Nat.reduceMul, Nat.reduceLT, Nat.reduceLeDiff, Nat.reduceEqDiff, Nat.reduceBEq, Int.toNat_natCast, Int.reduceToNat, Int.reduceNeg, Int.reduceLT, Int.reduceLE, Int.reduceBEq, Int.reduceBNe, decide_true, decide_false, Bool.false_eq_true, false_imp_iff, Nat.lt_irrefl])
  refine doX_intro (.fz false (strs d)) ⟨by simp [AV.low, low_strs], fun mm => ?_⟩ ?_
  · simp only [go_sem, Nat.reduceMul, Nat.reduceLT, Nat.reduceLeDiff, Nat.reduceEqDiff, Nat.reduceBEq, Int.toNat_natCast, Int.reduceToNat, Int.reduceNeg, Int.reduceLT, Int.reduceLE, Int.reduceBEq, Int.reduceBNe, decide_true, decide_false, Bool.false_eq_true, false_imp_iff, Nat.lt_irrefl]
    exact ACallT.by (clone_fz d c1 mm (by omega)) fun r h' e => e
  simp only [go_sem, Nat.reduceMul, Nat.reduceLT, Nat.reduceLeDiff, Nat.reduceEqDiff, Nat.reduceBEq, Int.toNat_natCast, Int.reduceToNat, Int.reduceNeg, Int.reduceLT, Int.reduceLE, Int.reduceBEq, Int.reduceBNe, decide_true, decide_false, Bool.false_eq_true, false_imp_iff, Nat.lt_irrefl]
  refine doX_intro (.fz false (strs m)) ⟨by simp [AV.low, low_strs], fun mm => ?_⟩ ?_
  · simp only [go_sem, Nat.reduceMul, Nat.reduceLT, Nat.reduceLeDiff, Nat.reduceEqDiff, Nat.reduceBEq, Int.toNat_natCast, Int.reduceToNat, Int.reduceNeg, Int.reduceLT, Int.reduceLE, Int.reduceBEq, Int.reduceBNe, decide_true, decide_false, Bool.false_eq_true, false_imp_iff, Nat.lt_irrefl]
    exact ACallT.by (clone_fz m c2 mm (by omega)) fun r h' e => e
  simp only [go_sem, Nat.reduceMul, Nat.reduceLT, Nat.reduceLeDiff, Nat.reduceEqDiff, Nat.reduceBEq, Int.toNat_natCast, Int.reduceToNat, Int.reduceNeg, Int.reduceLT, Int.reduceLE, Int.reduceBEq, Int.reduceBNe, decide_true, decide_false, Bool.false_eq_true, false_imp_iff, Nat.lt_irrefl]
  exact ⟨by simp [okAcc], Fin_plain ⟨rfl, rfl⟩⟩
def memOk (m : Mem) (k : Nat) : Bool := Nat.blt (m.n + k) Mem.lim
theorem push3 {m : Mem} (a b c : AObj) (h : memOk m 3 = true) : (((m.push a).push b).push c).L = m.L ++ [a, b, c] := by
  unfold memOk at h
  rw [blt_iff] at h
  have h1 : m.ok = true := blt_iff.2 (by omega)
  have h2 : (m.push a).ok = true := blt_iff.2 (show m.n + 1 < Mem.lim by omega)
  have h3 : ((m.push a).push b).ok = true := blt_iff.2 (show m.n + 1 + 1 < Mem.lim by omega)
  rw [Mem.push_L _ h3, Mem.push_L _ h2, Mem.push_L _ h1]
  simp
def xNew (args : List AV) (m : Mem) : OV :=
  match args with
  | [.agg [.fz c1 l1, .fz c2 l2], .int .i64 g] => (match unstr l1, unstr l2 with
    | some d, some e => bif Nat.ble (lenB d) 1000 && Nat.ble (lenB e) 1000 && shortB (d ++ e) && (decide (d ++ e).Nodup && sizesS d e && (d ++ e).all nameS) && gr g && memOk m 3 then
        .val (.tup [.ref (m.n + 2) 0 5 0 0, .int .i64 0]) (((m.push (.arr 0 2 [schA c1 c2 d e])).push (.map [])).push (.arr 0 5 [.agg [.fz false (strs d), .fz false (strs e), .int .i64 g, .mp (m.n + 1), .int .i64 0]])) else .none
    | _, _ => .none)
  | _ => .none
theorem xNew_ok (args : List AV) (m m' : Mem) (x : AV) (h : xNew args m = .val x m') : ACall Tryz.prog 14 args m.L fun y g => y = x ∧ g = m'.L := by
  unfold xNew at h
  split at h
  · rename_i c1 l1 c2 l2 g
    split at h
    · rename_i d e e1 e2
      obtain ⟨hb, h⟩ := bifv h
      simp only [OV.val.injEq] at h
      obtain ⟨rfl, rfl⟩ := h
      rw [Bool.and_eq_true, Bool.and_eq_true, Bool.and_eq_true, Bool.and_eq_true, Bool.and_eq_true, ble_iff, ble_iff, lenB_eq, lenB_eq, ← right_eq] at hb
      obtain ⟨⟨⟨⟨⟨h1, h2⟩, h3⟩, h4⟩, h5⟩, h6⟩ := hb
      rw [unstr_ok e1, unstr_ok e2, push3 _ _ _ h6]
      refine (new_ok c1 c2 d e g m.L (by omega) (fun s hs => by have := shortB_ok h3 s hs; omega) h4 h5).mono ?_
      rintro r h' ⟨rfl, rfl⟩
      exact ⟨by rw [m.L_len], by rw [m.L_len]⟩
    · cases h
  · cases h
def ingY (g : FuncId) : XS :=
  match g with
  | 14 => .some xNew
  | g => ingX g
theorem ingY_ok : XOk Tryz.prog ingY := by
  intro g q hq args m x m' h
  unfold ingY at hq
  split at hq
  · injection hq with hq; subst hq; exact xNew_ok _ _ _ _ h
  · exact ingX_ok _ _ hq _ _ _ _ h
end Go.Proofs.Vale
