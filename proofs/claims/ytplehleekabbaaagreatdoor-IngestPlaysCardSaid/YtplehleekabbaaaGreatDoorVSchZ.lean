/- YtplehleekabbaaaGreatDoorVSchZ: a text of the proof of this claim, by its prover. -/
import Derived.Test.YtplehleekabbaaaGreatDoorVSchO
open Nat renaming reduceMul → uA, reduceLT → uB, reduceLeDiff → uC, reduceEqDiff → uD, reduceBEq → uE, lt_irrefl → uQ
open Int renaming toNat_natCast → uF, reduceToNat → uG, reduceNeg → uH, reduceLT → uI, reduceLE → uJ, reduceBEq → uK, reduceBNe → uL
open Bool renaming false_eq_true → uO
set_option linter.unusedVariables false
set_option linter.unusedSimpArgs false
set_option maxHeartbeats 4000000
set_option maxRecDepth 100000
namespace Go.Proofs.Vale
open Go.Proofs Go.Proofs.YtplehleekabbaaaGreatDoorT
attribute [local irreducible] acode aopsL aopsT dopsL dopsT pop popG aop ALoop ADraw ACall AWP AFin acondT ALoopT ADrawT ACallT doP doG doGd
end Go.Proofs.Vale
namespace Go.Proofs.Vale
open Go.Proofs Go.Proofs.YtplehleekabbaaaGreatDoorT
attribute [local irreducible] acode aopsL aopsT dopsL dopsT pop popG aop ALoop ADraw ACall AWP AFin acondT ALoopT ADrawT ACallT doP doG doGd
def badV (b:UInt8):Bool:=[(34:UInt8),92].contains b || badB b
theorem value_any (s:Str):valueS s=(decide (s.length≤24) && !(s.any badV)):=by
 have:s.any badV=((s.any fun b=>[(34:UInt8),92].contains b) || s.any badB):=by
  induction s with
  | nil=>rfl
  | cons b s ih=>simp only [List.any_cons,ih,badV]; cases [(34:UInt8),92].contains b <;> cases badB b <;> simp
 rw [valueS,this]; cases decide (s.length≤24) <;> cases (s.any fun b=>[(34:UInt8),92].contains b) <;> simp
theorem badV_eq (b:UInt8):(bif bif bif decide (((b.toNat:Nat):Int) < 32) then true else decide ((126:Int) < ((b.toNat:Nat):Int)) then true else ((b.toNat:Nat):Int)==34 then true else ((b.toNat:Nat):Int)==92)=badV b:=by
 have e1:(((b.toNat:Nat):Int)==34)=(b==34):=by
  rw [Bool.eq_iff_iff,beq_iff_eq,beq_iff_eq,← UInt8.toNat_inj]; simp; omega
 have e2:(((b.toNat:Nat):Int)==92)=(b==92):=by
  rw [Bool.eq_iff_iff,beq_iff_eq,beq_iff_eq,← UInt8.toNat_inj]; simp; omega
 rw [e1,e2]
 simp only [badV,badB,badR,List.contains_cons,List.contains_nil,Bool.or_false]
 cases decide (((b.toNat:Nat):Int) < 32) <;> cases decide ((126:Int) < ((b.toNat:Nat):Int)) <;> cases (b==34) <;> cases (b==92) <;> rfl
theorem rvalue_ok (s:Str) (h:List AObj) (hs:s.length≤9223372036854775807):ACall Tryz.prog 61 [.str s] h (fun r h'=>r=.bool (valueS s)∧h'=h):=by
 (refine ACall.of_code Tryz.func61 rfl ?_; simp only [Tryz.f61]; simp only [go_sem,uA,uB,uC,uD,uE,uF,uG,uH,uI,uJ,uK,uL,uM,uN,uO,uP,uQ])
 refine ALoop.over [2,3,4,5,6,7,8,9,10,11,12,13,14,15,16,17,18,19,20,21,22,23,24,25,26,27,28,29,30,31] (fun e h'=>h'=h∧∃ k:Nat,k≤s.length∧e.getD 3 .any=.int .i64 k∧(s.take k).any badV=false) (fun e _=>s.length - natA (e.getD 3 .any)) ⟨rfl,0,by simp,rfl,by simp⟩ ?_
 simp only [List.length_cons,List.length_nil,Nat.reduceAdd,allL_succ,allL_zero]
 intro y2 y3 y4 y5 y6 y7 y8 y9 y10 y11 y12 y13 y14 y15 y16 y17 y18 y19 y20 y21 y22 y23 y24 y25 y26 y27 y28 y29 y30 y31 h' hI
 simp only [go_sem] at hI
 obtain ⟨rfl,k,hk,rfl,hall⟩:=hI
 simp only [go_sem,uA,uB,uC,uD,uE,uF,uG,uH,uI,uJ,uK,uL,uM,uN,uO,uP,uQ]
 refine acond_intro (fun hc=>?_) (fun hc=>?_)
 ·have hlt:k < s.length:=by have:=of_decide_eq_true hc; omega
  simp only [go_sem,uA,uB,uC,uD,uE,uF,uG,uH,uI,uJ,uK,uL,uM,uN,uO,uP,uQ]
  have hget:List.getD s k 0=s[k]:=by rw [List.getD_eq_getElem?_getD,List.getElem?_eq_getElem hlt]; rfl
  rw [hget]
  refine ⟨⟨by omega,by omega⟩,fun q=>⟨q,by omega,by omega⟩,fun q=>⟨q,by omega,by omega⟩,fun q=>⟨q,by omega,by omega⟩, ?_⟩
  rw [badV_eq]
  generalize hv:badV s[k]=v
  cases v with
  | true =>
   simp only [go_sem,uA,uB,uC,uD,uE,uF,uG,uH,uI,uJ,uK,uL,uM,uN,uO,uP,uQ]
   refine Fin_plain ⟨?_,rfl⟩
   have:s.any badV=true:=by rw [List.any_eq_true]; exact ⟨s[k],List.getElem_mem _,hv⟩
   rw [value_any,this]; simp
  | false =>
   simp only [go_sem,uA,uB,uC,uD,uE,uF,uG,uH,uI,uJ,uK,uL,uM,uN,uO,uP,uQ]
   rw [wrap_id (by omega) (by omega)]
   refine ⟨⟨k+1,by omega,rfl, ?_⟩,by omega⟩
   rw [List.take_succ_eq_append_getElem hlt,List.any_append,hall]; simp [hv]
 ·have hge:k=s.length:=by have:=of_decide_eq_false hc; omega
  subst hge
  rw [List.take_length] at hall
  simp only [go_sem,uA,uB,uC,uD,uE,uF,uG,uH,uI,uJ,uK,uL,uM,uN,uO,uP,uQ]
  refine Fin_plain ⟨?_,rfl⟩
  rw [value_any,hall]; simp; omega
end Go.Proofs.Vale
namespace Go.Proofs.Vale
open Go.Proofs Go.Proofs.YtplehleekabbaaaGreatDoorT
attribute [local irreducible] acode aopsL aopsT dopsL dopsT pop popG aop ALoop ADraw ACall AWP AFin acondT ALoopT ADrawT ACallT doP doG doGd
theorem rcheck_ok (a1 a2 c1 c2:Bool) (d m dims:List Str) (t:Int) (ms:List Int) (h:List AObj) (hd:dims.length≤9223372036854775807) (hm:ms.length≤9223372036854775807) (hv:∀ s∈dims,s.length≤9223372036854775807):ACall Tryz.prog 31 [schA a1 a2 d m,evA' t c1 c2 dims ms] h (fun r _=>r=.int .i64 (checkS d m t dims ms)):=by
 simp only [schA,evA']
 (refine ACall.of_code Tryz.func31 rfl ?_; simp only [Tryz.f31]; simp only [go_sem,uA,uB,uC,uD,uE,uF,uG,uH,uI,uJ,uK,uL,uM,uN,uO,uP,uQ])
 generalize hz:(bif (((dims.length:Int)) != (d.length:Int)) then true else ((ms.length:Int) != (m.length:Int)))=z
 cases z with
 | true=>simp only [go_sem,uA,uB,uC,uD,uE,uF,uG,uH,uI,uJ,uK,uL,uM,uN,uO,uP,uQ]; refine Fin_plain ?_; rw [checkS,hz]; rfl
 | false =>
  simp only [go_sem,uA,uB,uC,uD,uE,uF,uG,uH,uI,uJ,uK,uL,uM,uN,uO,uP,uQ]
  refine ALoop.over [4,5,6,24,25,26,27,28,29,30,31,32,33,34,35,36,37,38] (fun e h'=>h'=h++[.arr 0 2 [.agg [.fz a1 (strs d),.fz a2 (strs m)]],.arr 0 3 [.agg [.int .i64 t,.fz c1 (strs dims),.fz c2 (intsA ms)]]]∧∃ k:Nat,k≤dims.length∧e.getD 5 .any=.int .i64 k∧(dims.take k).any (fun s=>!valueS s)=false) (fun e _=>dims.length - natA (e.getD 5 .any)) ⟨rfl,0,by simp,rfl,by simp⟩ ?_
  simp only [List.length_cons,List.length_nil,Nat.reduceAdd,allL_succ,allL_zero]
  intro y4 y5 y6 y24 y25 y26 y27 y28 y29 y30 y31 y32 y33 y34 y35 y36 y37 y38 h' hI
  simp only [go_sem] at hI
  obtain ⟨rfl,k,hk,rfl,hall⟩:=hI
  simp only [go_sem,uA,uB,uC,uD,uE,uF,uG,uH,uI,uJ,uK,uL,uM,uN,uO,uP,uQ]
  refine acond_intro (fun hc=>?_) (fun hc=>?_)
  ·have hlt:k < dims.length:=by simpa using hc
   simp only [go_sem,strs_get dims _ hlt,uA,uB,uC,uD,uE,uF,uG,uH,uI,uJ,uK,uL,uM,uN,uO,uP,uQ]
   refine ⟨⟨by omega,by omega⟩, ?_⟩
   refine ACallT.by (rvalue_ok dims[k] _ (hv _ (List.getElem_mem _))) ?_
   rintro r h1 ⟨rfl,rfl⟩
   generalize hb:valueS dims[k]=b
   cases b with
   | false =>
    simp only [go_sem,uA,uB,uC,uD,uE,uF,uG,uH,uI,uJ,uK,uL,uM,uN,uO,uP,uQ]
    refine Fin_plain ?_
    have:dims.any (fun s=>!valueS s)=true:=by rw [List.any_eq_true]; exact ⟨dims[k],List.getElem_mem _,by simp [hb]⟩
    rw [checkS,hz,this]; rfl
   | true =>
    simp only [go_sem,uA,uB,uC,uD,uE,uF,uG,uH,uI,uJ,uK,uL,uM,uN,uO,uP,uQ]
    rw [wrap_id (by omega) (by omega)]
    refine ⟨⟨k+1,by omega,rfl, ?_⟩,by omega⟩
    rw [List.take_succ_eq_append_getElem hlt,List.any_append,hall]; simp [hb]
  ·have hge : k = dims.length := by have : ¬ k < dims.length := by simpa using hc
                                    omega
   subst hge
   rw [List.take_length] at hall
   simp only [go_sem,uA,uB,uC,uD,uE,uF,uG,uH,uI,uJ,uK,uL,uM,uN,uO,uP,uQ]
   refine ALoop.over [4,7,39,40,41,42,43,44,45,46,47,48,49,50,51,52,53,54,55,56,57,58,59] (fun e h'=>h'=h++[.arr 0 2 [.agg [.fz a1 (strs d),.fz a2 (strs m)]],.arr 0 3 [.agg [.int .i64 t,.fz c1 (strs dims),.fz c2 (intsA ms)]]]∧∃ k:Nat,k≤ms.length∧e.getD 7 .any=.int .i64 k∧(ms.take k).any badI=false) (fun e _=>ms.length - natA (e.getD 7 .any)) ⟨rfl,0,by simp,rfl,by simp⟩ ?_
   simp only [List.length_cons,List.length_nil,Nat.reduceAdd,allL_succ,allL_zero]
   intro y4 y7 y39 y40 y41 y42 y43 y44 y45 y46 y47 y48 y49 y50 y51 y52 y53 y54 y55 y56 y57 y58 y59 h' hI
   simp only [go_sem] at hI
   obtain ⟨rfl,k,hk,rfl,hall2⟩:=hI
   simp only [go_sem,uA,uB,uC,uD,uE,uF,uG,uH,uI,uJ,uK,uL,uM,uN,uO,uP,uQ]
   refine acond_intro (fun hc=>?_) (fun hc=>?_)
   ·have hlt:k < ms.length:=by simpa using hc
    simp only [go_sem,ints_get ms _ hlt,uA,uB,uC,uD,uE,uF,uG,uH,uI,uJ,uK,uL,uM,uN,uO,uP,uQ]
    refine ⟨⟨by omega,by omega⟩,fun q=>⟨q,by omega,by omega⟩, ?_⟩
    have hbe:(bif decide (ms[k] < -4611686018427387904) then true else decide (4611686018427387904 < ms[k]))=badI ms[k]:=rfl
    rw [hbe]
    generalize hb:badI ms[k]=b
    cases b with
    | true =>
     simp only [go_sem,uA,uB,uC,uD,uE,uF,uG,uH,uI,uJ,uK,uL,uM,uN,uO,uP,uQ]
     refine Fin_plain ?_
     have:ms.any badI=true:=by rw [List.any_eq_true]; exact ⟨ms[k],List.getElem_mem _,hb⟩
     rw [checkS,hz,hall,this]; rfl
    | false =>
     simp only [go_sem,uA,uB,uC,uD,uE,uF,uG,uH,uI,uJ,uK,uL,uM,uN,uO,uP,uQ]
     rw [wrap_id (by omega) (by omega)]
     refine ⟨⟨k+1,by omega,rfl, ?_⟩,by omega⟩
     rw [List.take_succ_eq_append_getElem hlt,List.any_append,hall2]; simp [hb]
   ·have hge : k = ms.length := by have : ¬ k < ms.length := by simpa using hc
                                   omega
    subst hge
    rw [List.take_length] at hall2
    simp only [go_sem,uA,uB,uC,uD,uE,uF,uG,uH,uI,uJ,uK,uL,uM,uN,uO,uP,uQ]
    generalize hz4:(bif decide (t < 0) then true else decide (1099511627776 < t))=z4
    cases z4 with
    | true=>simp only [go_sem,uA,uB,uC,uD,uE,uF,uG,uH,uI,uJ,uK,uL,uM,uN,uO,uP,uQ]; refine Fin_plain ?_; rw [checkS,hz,hall,hall2,hz4]; rfl
    | false=>simp only [go_sem,uA,uB,uC,uD,uE,uF,uG,uH,uI,uJ,uK,uL,uM,uN,uO,uP,uQ]; refine Fin_plain ?_; rw [checkS,hz,hall,hall2,hz4]; rfl
end Go.Proofs.Vale
namespace Go.Proofs.Vale
open Go.Proofs Go.Proofs.YtplehleekabbaaaGreatDoorT
attribute [local irreducible] acode aopsL aopsT dopsL dopsT pop popG aop ALoop ADraw ACall AWP AFin acondT ALoopT ADrawT ACallT doP doG doGd
end Go.Proofs.Vale
