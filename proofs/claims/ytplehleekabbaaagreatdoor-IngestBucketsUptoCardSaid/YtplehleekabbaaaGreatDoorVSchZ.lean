/- YtplehleekabbaaaGreatDoorVSchZ: a text of the proof of this claim, by its prover. -/
import Derived.Test.YtplehleekabbaaaGreatDoorVSchO
open Nat renaming reduceMul → uA, reduceLT → uB, reduceLeDiff → uC, reduceEqDiff → uD, reduceBEq → uE, lt_irrefl → uQ
open Int renaming toNat_natCast → uF, reduceToNat → uG, reduceNeg → uH, reduceLT → uI, reduceLE → uJ, reduceBEq → uK, reduceBNe → uL
open Bool renaming false_eq_true → uO
set_option linter.unusedVariables false
set_option linter.unusedSimpArgs false
set_option maxHeartbeats 4000000
set_option maxRecDepth 100000
namespace Go.Proofs.Vale
open Go.Proofs Go.Proofs.YtplehleekabbaaaGreatDoorT
attribute [local irreducible] acode aopsL aopsT dopsL dopsT pop popG aop ALoop ADraw ACall AWP AFin acondT ALoopT ADrawT ACallT doP doG doGd
theorem rfind_ok (l:List Str) (s:Str) (c:Bool) (h:List AObj) (hl:l.length≤9223372036854775807):ACall Tryz.prog 81 [.fz c (strs l),.str s] h (fun r h'=>r=findV l s∧h'=h):=by
 (refine ACall.of_code Tryz.func81 rfl ?_; simp only [Tryz.f81]; simp only [go_sem,uA,uB,uC,uD,uE,uF,uG,uH,uI,uJ,uK,uL,uM,uN,uO,uP,uQ])
 refine ALoop.over [4,5,6,7,8,9,10,11,12,13,14,15,16,17,18,19] (fun e h'=>h'=h∧∃ k:Nat,k≤l.length∧e.getD 6 .any=.int .i64 k∧∀ j (hj:j < l.length),j < k→(s==l[j])=false) (fun e _=>l.length - natA (e.getD 6 .any)) ⟨rfl,0,by simp,rfl,fun _ _ q=>by omega⟩ ?_
 simp only [List.length_cons,List.length_nil,Nat.reduceAdd,allL_succ,allL_zero]
 intro y4 y5 y6 y7 y8 y9 y10 y11 y12 y13 y14 y15 y16 y17 y18 y19 h' hI
 simp only [go_sem] at hI
 obtain ⟨rfl,k,hk,rfl,hall⟩:=hI
 simp only [go_sem,uA,uB,uC,uD,uE,uF,uG,uH,uI,uJ,uK,uL,uM,uN,uO,uP,uQ]
 refine acond_intro (fun hc=>?_) (fun hc=>?_)
 ·have hlt:k < l.length:=by simpa using hc
  simp only [go_sem,strs_get l _ hlt,uA,uB,uC,uD,uE,uF,uG,uH,uI,uJ,uK,uL,uM,uN,uO,uP,uQ]
  refine ⟨⟨by omega,by omega⟩, ?_⟩
  refine acond_intro (fun hb=>?_) (fun hb=>?_)
  ·simp only [go_sem,uA,uB,uC,uD,uE,uF,uG,uH,uI,uJ,uK,uL,uM,uN,uO,uP,uQ]
   refine Fin_plain ⟨?_,rfl⟩
   have hb2:(s==l[k])=true:=by rw [BEq.comm]; exact hb
   have:=ix_eq l s k hk hall (fun _=>hb2)
   have hm:s∈l:=(ix_lt l s).1 (by omega)
   rw [findV,if_pos hm,this]
  ·simp only [go_sem,uA,uB,uC,uD,uE,uF,uG,uH,uI,uJ,uK,uL,uM,uN,uO,uP,uQ]
   rw [wrap_id (by omega) (by omega)]
   refine ⟨⟨k+1,by omega,rfl,fun j hj q=>?_⟩,by omega⟩
   by_cases e:j=k
   ·subst e; rw [BEq.comm]; exact hb
   ·exact hall j hj (by omega)
 ·have hge : k = l.length := by have : ¬ k < l.length := by simpa using hc
                                omega
  simp only [go_sem,uA,uB,uC,uD,uE,uF,uG,uH,uI,uJ,uK,uL,uM,uN,uO,uP,uQ]
  refine Fin_plain ⟨?_,rfl⟩
  have:=ix_eq l s k hk hall (fun q=>by omega)
  have hm:s ∉ l:=fun q=>by have:=(ix_lt l s).2 q; omega
  rw [findV,if_neg hm]
end Go.Proofs.Vale
namespace Go.Proofs.Vale
open Go.Proofs Go.Proofs.YtplehleekabbaaaGreatDoorT
attribute [local irreducible] acode aopsL aopsT dopsL dopsT pop popG aop ALoop ADraw ACall AWP AFin acondT ALoopT ADrawT ACallT doP doG doGd
end Go.Proofs.Vale
namespace Go.Proofs.Vale
open Go.Proofs Go.Proofs.YtplehleekabbaaaGreatDoorT
attribute [local irreducible] acode aopsL aopsT dopsL dopsT pop popG aop ALoop ADraw ACall AWP AFin acondT ALoopT ADrawT ACallT doP doG doGd
end Go.Proofs.Vale
namespace Go.Proofs.Vale
open Go.Proofs Go.Proofs.YtplehleekabbaaaGreatDoorT
attribute [local irreducible] acode aopsL aopsT dopsL dopsT pop popG aop ALoop ADraw ACall AWP AFin acondT ALoopT ADrawT ACallT doP doG doGd
def rsub (b:List Str):Int→List Str→Bool
 | _,[]=>true
 | last,x::a=>if x∈b∧last < (ix b x:Int) then rsub b (ix b x) a else false
theorem rsubset_ok (a b:List Str) (c1 c2:Bool) (h:List AObj) (ha:a.length≤9223372036854775807) (hb:b.length≤9223372036854775807):ACall Tryz.prog 45 [.fz c1 (strs a),.fz c2 (strs b)] h (fun r h'=>r=.bool (rsub b (-1) a)∧h'=h):=by
 (refine ACall.of_code Tryz.func45 rfl ?_; simp only [Tryz.f45]; simp only [go_sem,uA,uB,uC,uD,uE,uF,uG,uH,uI,uJ,uK,uL,uM,uN,uO,uP,uQ])
 refine ALoop.over [4,5,6,7,8,9,10,11,12,13,14,15,16,17,18,19,20,21,22,23,24,25,26,27,28,29,30,31] (fun e h'=>h'=h∧∃ (k:Nat) (last:Int),k≤a.length∧e.getD 6 .any=.int .i64 k∧e.getD 5 .any=.int .i64 last∧rsub b last (a.drop k)=rsub b (-1) a) (fun e _=>a.length - natA (e.getD 6 .any)) ⟨rfl,0,-1,by simp,rfl,rfl,rfl⟩ ?_
 simp only [List.length_cons,List.length_nil,Nat.reduceAdd,allL_succ,allL_zero]
 intro y4 y5 y6 y7 y8 y9 y10 y11 y12 y13 y14 y15 y16 y17 y18 y19 y20 y21 y22 y23 y24 y25 y26 y27 y28 y29 y30 y31 h' hI
 simp only [go_sem] at hI
 obtain ⟨rfl,k,last,hk,rfl,rfl,hs⟩:=hI
 simp only [go_sem,uA,uB,uC,uD,uE,uF,uG,uH,uI,uJ,uK,uL,uM,uN,uO,uP,uQ]
 refine acond_intro (fun hc=>?_) (fun hc=>?_)
 ·have hlt:k < a.length:=by simpa using hc
  rw [List.drop_eq_getElem_cons hlt,rsub] at hs
  simp only [go_sem,strs_get a _ hlt,uA,uB,uC,uD,uE,uF,uG,uH,uI,uJ,uK,uL,uM,uN,uO,uP,uQ]
  refine ⟨⟨by omega,by omega⟩, ?_⟩
  refine ACallT.by (rfind_ok b _ c2 _ hb) ?_
  rintro r h1 ⟨rfl,rfl⟩
  by_cases e:a[k]∈b
  ·rw [show findV b a[k]=.tup [.int .i64 (ix b a[k]:Int),.bool true] by rw [findV,if_pos e]]
   generalize hz:decide ((ix b a[k]:Int)≤last)=z
   cases z with
   | true =>
    have:=of_decide_eq_true hz
    rw [if_neg (fun q=>by omega)] at hs
    simp only [go_sem,hz,uA,uB,uC,uD,uE,uF,uG,uH,uI,uJ,uK,uL,uM,uN,uO,uP,uQ]
    refine Fin_plain ⟨?_,rfl⟩
    rw [← hs]
   | false =>
    have:=of_decide_eq_false hz
    rw [if_pos ⟨e,by omega⟩] at hs
    simp only [go_sem,hz,uA,uB,uC,uD,uE,uF,uG,uH,uI,uJ,uK,uL,uM,uN,uO,uP,uQ]
    rw [wrap_id (by omega) (by omega)]
    exact ⟨⟨k+1,_,by omega,rfl,rfl,hs⟩,by omega⟩
  ·rw [show findV b a[k]=.tup [.int .i64 0,.bool false] by rw [findV,if_neg e]]
   rw [if_neg (fun q=>e q.1)] at hs
   simp only [go_sem,uA,uB,uC,uD,uE,uF,uG,uH,uI,uJ,uK,uL,uM,uN,uO,uP,uQ]
   refine Fin_plain ⟨?_,rfl⟩
   rw [← hs]
 ·have hge : k = a.length := by have : ¬ k < a.length := by simpa using hc
                                omega
  subst hge
  rw [List.drop_length,rsub] at hs
  simp only [go_sem,uA,uB,uC,uD,uE,uF,uG,uH,uI,uJ,uK,uL,uM,uN,uO,uP,uQ]
  refine Fin_plain ⟨?_,rfl⟩
  rw [← hs]
end Go.Proofs.Vale
