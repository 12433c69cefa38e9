/- YtplehleekabbaaaGreatDoorVIngA: a text of the proof of this claim, by its prover. -/
import Derived.Test.YtplehleekabbaaaGreatDoorVSchI
import Derived.Test.YtplehleekabbaaaGreatDoorVSchP
import Derived.Test.YtplehleekabbaaaGreatDoorVPolH
import Derived.Test.YtplehleekabbaaaGreatDoorVRk
open Nat renaming reduceMul → uA, reduceLT → uB, reduceLeDiff → uC, reduceEqDiff → uD, reduceBEq → uE, lt_irrefl → uQ
open Int renaming toNat_natCast → uF, reduceToNat → uG, reduceNeg → uH, reduceLT → uI, reduceLE → uJ, reduceBEq → uK, reduceBNe → uL
open Bool renaming false_eq_true → uO
set_option linter.unusedVariables false
set_option linter.unusedSimpArgs false
set_option maxHeartbeats 4000000
set_option maxRecDepth 100000
namespace Go.Proofs.Vale
open Go.Proofs Go.Proofs.YtplehleekabbaaaGreatDoorT
attribute [local irreducible] acode aopsL aopsT dopsL dopsT pop popG aop ALoop ADraw ACall AWP AFin acondT ALoopT ADrawT ACallT doP doG doGd
theorem clone_fz (l:List Str) (c:Bool) (h:List AObj) (hl:l.length≤8796093022000):ACall Tryz.prog 36 [.fz c (strs l)] h (fun r _=>r=.fz false (strs l)):=by
 refine ACall.any (by simp [lowL,AV.low,low_strs]) ?_
 refine (ACall.freeze 3 (clone_ok l c [] hl) (K2:=fun r _=>r=.fz true (strs l)∨r=.fz false (strs l)) ?_).weak ?_
 ·rintro r h' (⟨rfl,rfl,rfl⟩ | ⟨g,rfl,rfl⟩)
  ·exact .inl rfl
  ·right
   simp only [frz_sl]
   rw [← strs_len]
   exact frzO_all (l:=strs l) rfl (flatS _)
 ·rintro r h' (rfl | rfl)
  ·exact ⟨.fz false (strs l),fun β fr H v q=>rep_cut q,by simp [AV.low,low_strs],rfl⟩
  ·exact ⟨.fz false (strs l),fun β fr H v q=>q,by simp [AV.low,low_strs],rfl⟩
theorem new_ok (c1 c2:Bool) (d m:List Str) (g:Int) (h:List AObj) (hd:d.length+m.length≤8796093022000) (hL:∀ s∈d++m,s.length≤9223372036854775807) (hr:rightS d m=true) (hg:gr g=true):ACall Tryz.prog 14 [schA c1 c2 d m,.int .i64 g] h (fun r h'=>r=.tup [.ref (h.length+2) 0 5 0 0,.int .i64 0]∧h'=h++[.arr 0 2 [schA c1 c2 d m],.map [],.arr 0 5 [.agg [.fz false (strs d),.fz false (strs m),.int .i64 g,.mp (h.length+1),.int .i64 0]]]):=by
 simp only [schA]
 (refine ACall.of_code Tryz.func14 rfl ?_; simp only [Tryz.f14]; simp only [go_sem,uA,uB,uC,uD,uE,uF,uG,uH,uI,uJ,uK,uL,uM,uN,uO,uP,uQ])
 (refine ACallT.frame (right_ok c1 c2 d m _ hd hL) ?_; refine fun _ _ e=>?_; subst e; refine ⟨by (first | rfl | (simp only [AV.low,lowL,low_strs,Bool.and_true,Bool.and_self])), ?_⟩; simp only [go_sem,uA,uB,uC,uD,uE,uF,uG,uH,uI,uJ,uK,uL,uM,uN,uO,uP,uQ])
 rw [hr]
 simp only [go_sem,uA,uB,uC,uD,uE,uF,uG,uH,uI,uJ,uK,uL,uM,uN,uO,uP,uQ]
 (refine ACallT.frame ((gr_ok g _).mono fun _ _ q=>q.1) ?_; refine fun _ _ e=>?_; subst e; refine ⟨by (first | rfl | (simp only [AV.low,lowL,low_strs,Bool.and_true,Bool.and_self])), ?_⟩; simp only [go_sem,uA,uB,uC,uD,uE,uF,uG,uH,uI,uJ,uK,uL,uM,uN,uO,uP,uQ])
 rw [hg]
 simp only [go_sem,uA,uB,uC,uD,uE,uF,uG,uH,uI,uJ,uK,uL,uM,uN,uO,uP,uQ]
 (refine ADrawT.mem [(10,1),(10,4)] mixedOrdersD (by kernel_rfl) (by kernel_rfl) ?_; simp only [go_sem,uA,uB,uC,uD,uE,uF,uG,uH,uI,uJ,uK,uL,uM,uN,uO,uP,uQ])
 refine doX_intro (.fz false (strs d)) ⟨by simp [AV.low,low_strs],fun mm=>?_⟩ ?_
 ·simp only [go_sem,uA,uB,uC,uD,uE,uF,uG,uH,uI,uJ,uK,uL,uM,uN,uO,uP,uQ]
  exact ACallT.by (clone_fz d c1 mm (by omega)) fun r h' e=>e
 simp only [go_sem,uA,uB,uC,uD,uE,uF,uG,uH,uI,uJ,uK,uL,uM,uN,uO,uP,uQ]
 refine doX_intro (.fz false (strs m)) ⟨by simp [AV.low,low_strs],fun mm=>?_⟩ ?_
 ·simp only [go_sem,uA,uB,uC,uD,uE,uF,uG,uH,uI,uJ,uK,uL,uM,uN,uO,uP,uQ]
  exact ACallT.by (clone_fz m c2 mm (by omega)) fun r h' e=>e
 simp only [go_sem,uA,uB,uC,uD,uE,uF,uG,uH,uI,uJ,uK,uL,uM,uN,uO,uP,uQ]
 exact ⟨by simp [okAcc],Fin_plain ⟨rfl,rfl⟩⟩
end Go.Proofs.Vale
