/- YtplehleekabbaaaGreatDoorVRowC: a text of the proof of this claim, by its prover. -/
import Derived.Test.YtplehleekabbaaaGreatDoorVIngC
open Nat renaming reduceMul → uA, reduceLT → uB, reduceLeDiff → uC, reduceEqDiff → uD, reduceBEq → uE, lt_irrefl → uQ
open Int renaming toNat_natCast → uF, reduceToNat → uG, reduceNeg → uH, reduceLT → uI, reduceLE → uJ, reduceBEq → uK, reduceBNe → uL
open Bool renaming false_eq_true → uO
set_option linter.unusedVariables false
set_option linter.unusedSimpArgs false
set_option maxHeartbeats 4000000
set_option maxRecDepth 100000
namespace Go.Proofs.Vale
open Go.Proofs Go.Proofs.YtplehleekabbaaaGreatDoorT
attribute [local irreducible] acode aopsL aopsT dopsL dopsT pop popG aop ALoop ADraw ACall AWP AFin acondT ALoopT ADrawT ACallT doP doG doGd frL frT frX
def cmpI (a b:Int):Int:=bif decide (a < b) then -1 else bif decide (b < a) then 1 else 0
theorem cmpI_ok (a b:Int) (h:List AObj):ACall Tryz.prog 79 [.int .i64 a,.int .i64 b] h (fun r _=>r=.int .i64 (cmpI a b)):=by
 (refine ACall.of_code Tryz.func79 rfl ?_; simp only [Tryz.f79]; simp only [go_sem,uA,uB,uC,uD,uE,uF,uG,uH,uI,uJ,uK,uL,uM,uN,uO,uP,uQ])
 have nan:∀ (a:Int) (h:List AObj),ACall Tryz.prog 109 [.int .i64 a] h (fun r _=>r=.bool false):=by
  intro a h
  (refine ACall.of_code Tryz.func109 rfl ?_; simp only [Tryz.f109]; simp only [go_sem,uA,uB,uC,uD,uE,uF,uG,uH,uI,uJ,uK,uL,uM,uN,uO,uP,uQ])
  exact Fin_plain rfl
 (refine ACallT.frame (nan a _) ?_; refine fun _ _ e=>?_; subst e; refine ⟨by (first | rfl | (simp only [AV.low,lowL,low_strs,Bool.and_true,Bool.and_self])), ?_⟩; simp only [go_sem,uA,uB,uC,uD,uE,uF,uG,uH,uI,uJ,uK,uL,uM,uN,uO,uP,uQ])
 (refine ACallT.frame (nan b _) ?_; refine fun _ _ e=>?_; subst e; refine ⟨by (first | rfl | (simp only [AV.low,lowL,low_strs,Bool.and_true,Bool.and_self])), ?_⟩; simp only [go_sem,uA,uB,uC,uD,uE,uF,uG,uH,uI,uJ,uK,uL,uM,uN,uO,uP,uQ])
 refine acond_intro (fun hc=>?_) (fun hc=>?_)
 ·simp only [go_sem,uA,uB,uC,uD,uE,uF,uG,uH,uI,uJ,uK,uL,uM,uN,uO,uP,uQ]
  exact Fin_plain (by rw [cmpI,hc]; rfl)
 ·simp only [go_sem,uA,uB,uC,uD,uE,uF,uG,uH,uI,uJ,uK,uL,uM,uN,uO,uP,uQ]
  refine acond_intro (fun hd=>?_) (fun hd=>?_)
  ·simp only [go_sem,uA,uB,uC,uD,uE,uF,uG,uH,uI,uJ,uK,uL,uM,uN,uO,uP,uQ]
   exact Fin_plain (by rw [cmpI,hc,hd]; rfl)
  ·simp only [go_sem,uA,uB,uC,uD,uE,uF,uG,uH,uI,uJ,uK,uL,uM,uN,uO,uP,uQ]
   exact Fin_plain (by rw [cmpI,hc,hd]; rfl)
def cmpT (a b:Str):Int:=bif Op.bytesLess a b then -1 else bif Op.bytesLess b a then 1 else 0
theorem cmpT_ok (a b:Str) (h:List AObj):ACall Tryz.prog 110 [.str a,.str b] h (fun r _=>r=.int .i64 (cmpT a b)):=by
 (refine ACall.of_code Tryz.func110 rfl ?_; simp only [Tryz.f110]; simp only [go_sem,uA,uB,uC,uD,uE,uF,uG,uH,uI,uJ,uK,uL,uM,uN,uO,uP,uQ])
 have nan:∀ (a:Str) (h:List AObj),ACall Tryz.prog 141 [.str a] h (fun r _=>r=.bool false):=by
  intro a h
  (refine ACall.of_code Tryz.func141 rfl ?_; simp only [Tryz.f141]; simp only [go_sem,uA,uB,uC,uD,uE,uF,uG,uH,uI,uJ,uK,uL,uM,uN,uO,uP,uQ])
  exact Fin_plain (by simp)
 (refine ACallT.frame (nan a _) ?_; refine fun _ _ e=>?_; subst e; refine ⟨by (first | rfl | (simp only [AV.low,lowL,low_strs,Bool.and_true,Bool.and_self])), ?_⟩; simp only [go_sem,uA,uB,uC,uD,uE,uF,uG,uH,uI,uJ,uK,uL,uM,uN,uO,uP,uQ])
 (refine ACallT.frame (nan b _) ?_; refine fun _ _ e=>?_; subst e; refine ⟨by (first | rfl | (simp only [AV.low,lowL,low_strs,Bool.and_true,Bool.and_self])), ?_⟩; simp only [go_sem,uA,uB,uC,uD,uE,uF,uG,uH,uI,uJ,uK,uL,uM,uN,uO,uP,uQ])
 refine acond_intro (fun hc=>?_) (fun hc=>?_)
 ·simp only [go_sem,uA,uB,uC,uD,uE,uF,uG,uH,uI,uJ,uK,uL,uM,uN,uO,uP,uQ]
  exact Fin_plain (by rw [cmpT,hc]; rfl)
 ·simp only [go_sem,uA,uB,uC,uD,uE,uF,uG,uH,uI,uJ,uK,uL,uM,uN,uO,uP,uQ]
  refine acond_intro (fun hd=>?_) (fun hd=>?_)
  ·simp only [go_sem,uA,uB,uC,uD,uE,uF,uG,uH,uI,uJ,uK,uL,uM,uN,uO,uP,uQ]
   exact Fin_plain (by rw [cmpT,hc,hd]; rfl)
  ·simp only [go_sem,uA,uB,uC,uD,uE,uF,uG,uH,uI,uJ,uK,uL,uM,uN,uO,uP,uQ]
   exact Fin_plain (by rw [cmpT,hc,hd]; rfl)
def cmpTs:List Str→List Str→Int
 | [],[]=>0
 | [],_::_=>-1
 | _::_,[]=>1
 | a::l,b::m=>bif cmpT a b != 0 then cmpT a b else cmpTs l m
theorem cmpTs_nil (b:List Str):cmpTs [] b=bif decide ((0:Int) < b.length) then -1 else 0:=by
 cases b with
 | nil=>rfl
 | cons a l =>
  have:decide ((0:Int) < ((a::l).length:Int))=true:=by simp
  rw [this]; rfl
theorem cmpTs_ok (a b:List Str) (c1 c2:Bool) (h:List AObj) (ha:a.length≤4611686018427387904) (hb:b.length≤4611686018427387904):ACall Tryz.prog 80 [.fz c1 (strs a),.fz c2 (strs b)] h (fun r _=>r=.int .i64 (cmpTs a b)):=by
 (refine ACall.of_code Tryz.func80 rfl ?_; simp only [Tryz.f80]; simp only [go_sem,uA,uB,uC,uD,uE,uF,uG,uH,uI,uJ,uK,uL,uM,uN,uO,uP,uQ])
 refine ALoop.over [4,5,6,7,8,11,12,13,14,15,16,17,18,19,20,21,22,23,24,25,26,27,28,29,30] (fun e h'=>∃ k:Nat,k≤a.length∧k≤b.length∧e.getD 11 .any=.int .i64 k∧cmpTs a b=cmpTs (a.drop k) (b.drop k)) (fun e _=>a.length - natA (e.getD 11 .any)) ⟨0,by omega,by omega,rfl,rfl⟩ ?_
 simp only [List.length_cons,List.length_nil,Nat.reduceAdd,allL_succ,allL_zero]
 intro y4 y5 y6 y7 y8 y11 y12 y13 y14 y15 y16 y17 y18 y19 y20 y21 y22 y23 y24 y25 y26 y27 y28 y29 y30 h1 hI
 simp only [go_sem] at hI
 obtain ⟨k,hk,hkb,rfl,hall⟩:=hI
 simp only [go_sem,uA,uB,uC,uD,uE,uF,uG,uH,uI,uJ,uK,uL,uM,uN,uO,uP,uQ]
 refine acond_intro (fun hc=>?_) (fun hc=>?_)
 ·have hlt:k < a.length:=by have:=of_decide_eq_true hc; omega
  have hda:a.drop k=a[k]::a.drop (k+1):=(List.getElem_cons_drop hlt).symm
  simp only [go_sem,strs_get a k hlt,uA,uB,uC,uD,uE,uF,uG,uH,uI,uJ,uK,uL,uM,uN,uO,uP,uQ]
  refine ⟨⟨by omega,by omega⟩, ?_⟩
  refine acond_intro (fun hd=>?_) (fun hd=>?_)
  ·simp only [go_sem,uA,uB,uC,uD,uE,uF,uG,uH,uI,uJ,uK,uL,uM,uN,uO,uP,uQ]
   refine Fin_plain ?_
   have:b.drop k=[]:=by rw [List.drop_eq_nil_iff]; have:=of_decide_eq_true hd; omega
   rw [hall,hda,this]; rfl
  ·have hltb:k < b.length:=by have:=of_decide_eq_false hd; omega
   have hdb:b.drop k=b[k]::b.drop (k+1):=(List.getElem_cons_drop hltb).symm
   simp only [go_sem,strs_get b k hltb,uA,uB,uC,uD,uE,uF,uG,uH,uI,uJ,uK,uL,uM,uN,uO,uP,uQ]
   refine ⟨⟨by omega,by omega⟩, ?_⟩
   (refine ACallT.frame (cmpT_ok a[k] b[k] _) ?_; refine fun _ _ e=>?_; subst e; refine ⟨by (first | rfl | (simp only [AV.low,lowL,low_strs,Bool.and_true,Bool.and_self])), ?_⟩; simp only [go_sem,uA,uB,uC,uD,uE,uF,uG,uH,uI,uJ,uK,uL,uM,uN,uO,uP,uQ])
   have hst:cmpTs a b=bif cmpT a[k] b[k] != 0 then cmpT a[k] b[k] else cmpTs (a.drop (k+1)) (b.drop (k+1)):=by rw [hall,hda,hdb]; rfl
   refine acond_intro (fun he=>?_) (fun he=>?_)
   ·simp only [go_sem,uA,uB,uC,uD,uE,uF,uG,uH,uI,uJ,uK,uL,uM,uN,uO,uP,uQ]
    refine Fin_plain ?_
    rw [hst,he]; rfl
   ·simp only [go_sem,uA,uB,uC,uD,uE,uF,uG,uH,uI,uJ,uK,uL,uM,uN,uO,uP,uQ]
    rw [wrap_id (by omega) (by omega)]
    refine ⟨⟨k+1,by omega,by omega,rfl, ?_⟩,by omega⟩
    rw [hst,he]; rfl
 ·have:k=a.length:=by have:=of_decide_eq_false hc; omega
  subst this
  simp only [go_sem,uA,uB,uC,uD,uE,uF,uG,uH,uI,uJ,uK,uL,uM,uN,uO,uP,uQ]
  have hda:a.drop a.length=[]:=List.drop_length
  rw [hda,cmpTs_nil,List.length_drop] at hall
  have e1:decide ((0:Int) < ((b.length - a.length:Nat):Int))=decide ((a.length:Int) < (b.length:Int)):=by congr 1; simp; omega
  rw [e1] at hall
  refine acond_intro (fun hd=>?_) (fun hd=>?_)
  ·simp only [go_sem,uA,uB,uC,uD,uE,uF,uG,uH,uI,uJ,uK,uL,uM,uN,uO,uP,uQ]
   exact Fin_plain (by rw [hall,hd]; rfl)
  ·simp only [go_sem,uA,uB,uC,uD,uE,uF,uG,uH,uI,uJ,uK,uL,uM,uN,uO,uP,uQ]
   exact Fin_plain (by rw [hall,hd]; rfl)
theorem cmpOr_ok (a b:Int) (c:Bool) (h:List AObj):ACall Tryz.prog 78 [.fz c [.int .i64 a,.int .i64 b]] h (fun r _=>r=.int .i64 (bif a != 0 then a else b)):=by
 (refine ACall.of_code Tryz.func78 rfl ?_; simp only [Tryz.f78]; simp only [go_sem,uA,uB,uC,uD,uE,uF,uG,uH,uI,uJ,uK,uL,uM,uN,uO,uP,uQ])
 refine ALoop.over [2,5,8,9,10,11,12,13,14,15,16] (fun e h'=>∃ k:Nat,k≤2∧e.getD 8 .any=.int .i64 k∧(0 < k→a=0)∧(1 < k→b=0)) (fun e _=>2 - natA (e.getD 8 .any)) ⟨0,by omega,rfl,by simp,by simp⟩ ?_
 simp only [List.length_cons,List.length_nil,Nat.reduceAdd,allL_succ,allL_zero]
 intro y2 y5 y8 y9 y10 y11 y12 y13 y14 y15 y16 h1 hI
 simp only [go_sem] at hI
 obtain ⟨k,hk,rfl,h0,h1'⟩:=hI
 obtain rfl | rfl | rfl:k=0∨k=1∨k=2:=by omega
 ·simp only [go_sem,show ((0:Nat):Int)=0 from rfl,show ((1:Nat):Int)=1 from rfl,show ((2:Nat):Int)=2 from rfl,List.getD_cons_zero,List.getD_cons_succ,uA,uB,uC,uD,uE,uF,uG,uH,uI,uJ,uK,uL,uM,uN,uO,uP,uQ]
  refine acond_intro (fun he=>?_) (fun he=>?_)
  ·simp only [go_sem,uA,uB,uC,uD,uE,uF,uG,uH,uI,uJ,uK,uL,uM,uN,uO,uP,uQ]
   exact Fin_plain (by rw [he]; rfl)
  ·simp only [go_sem,uA,uB,uC,uD,uE,uF,uG,uH,uI,uJ,uK,uL,uM,uN,uO,uP,uQ]
   refine ⟨by first | rfl | trivial,⟨1,by omega,rfl,fun _=>by simpa using he,fun q=>by omega⟩,by decide⟩
 ·have ha:=h0 (by omega)
  subst ha
  simp only [go_sem,show ((0:Nat):Int)=0 from rfl,show ((1:Nat):Int)=1 from rfl,show ((2:Nat):Int)=2 from rfl,List.getD_cons_zero,List.getD_cons_succ,uA,uB,uC,uD,uE,uF,uG,uH,uI,uJ,uK,uL,uM,uN,uO,uP,uQ]
  refine acond_intro (fun he=>?_) (fun he=>?_)
  ·simp only [go_sem,uA,uB,uC,uD,uE,uF,uG,uH,uI,uJ,uK,uL,uM,uN,uO,uP,uQ]
   exact Fin_plain rfl
  ·simp only [go_sem,uA,uB,uC,uD,uE,uF,uG,uH,uI,uJ,uK,uL,uM,uN,uO,uP,uQ]
   refine ⟨by first | rfl | trivial,⟨2,by omega,rfl,fun q=>by simpa using he⟩,by decide⟩
 ·have ha:=h0 (by omega)
  have hb:=h1' (by omega)
  subst ha hb
  simp only [go_sem,show ((0:Nat):Int)=0 from rfl,show ((1:Nat):Int)=1 from rfl,show ((2:Nat):Int)=2 from rfl,List.getD_cons_zero,List.getD_cons_succ,uA,uB,uC,uD,uE,uF,uG,uH,uI,uJ,uK,uL,uM,uN,uO,uP,uQ]
  exact Fin_plain rfl
abbrev Rw:=Int × List Str × Int × List A3
def a3s (l:List A3):List AV:=l.map a3A
def rowA (r:Rw):AV:=.agg [.int .i64 r.1,.fz false (strs r.2.1),.int .i64 r.2.2.1,.fz false (a3s r.2.2.2)]
def cmpR (a b:Rw):Int:=bif cmpI a.1 b.1 != 0 then cmpI a.1 b.1 else cmpTs a.2.1 b.2.1
theorem cmpR_ok (a b:Rw) (h:List AObj) (ha:a.2.1.length≤4611686018427387904) (hb:b.2.1.length≤4611686018427387904):ACall Tryz.prog 44 [rowA a,rowA b] h (fun r _=>r=.int .i64 (cmpR a b)):=by
 simp only [rowA]
 (refine ACall.of_code Tryz.func44 rfl ?_; simp only [Tryz.f44]; simp only [go_sem,uA,uB,uC,uD,uE,uF,uG,uH,uI,uJ,uK,uL,uM,uN,uO,uP,uQ])
 (refine ADrawT.walk [[0],[0],[0],[0],[0,5],[0,5],[0,5],[0,5],[0,5],[5,10],[10,11],[11,12],[12]] mixedOrdersD (by kernel_rfl) (by kernel_rfl) ?_; simp only [go_sem,uA,uB,uC,uD,uE,uF,uG,uH,uI,uJ,uK,uL,uM,uN,uO,uP,uQ])
 refine frX_same (.int .i64 (cmpI a.1 b.1)) ?_ ?_
 ·simp only [go_sem,uA,uB,uC,uD,uE,uF,uG,uH,uI,uJ,uK,uL,uM,uN,uO,uP,uQ]
  exact ACallT.frame (cmpI_ok a.1 b.1 _) fun r h' e=>⟨by rw [e]; rfl,e,rfl⟩
 simp only [go_sem,uA,uB,uC,uD,uE,uF,uG,uH,uI,uJ,uK,uL,uM,uN,uO,uP,uQ]
 refine frX_same (.int .i64 (cmpTs a.2.1 b.2.1)) ?_ ?_
 ·simp only [go_sem,uA,uB,uC,uD,uE,uF,uG,uH,uI,uJ,uK,uL,uM,uN,uO,uP,uQ]
  exact ACallT.frame (cmpTs_ok a.2.1 b.2.1 _ _ _ ha hb) fun r h' e=>⟨by rw [e]; rfl,e,rfl⟩
 simp only [go_sem,uA,uB,uC,uD,uE,uF,uG,uH,uI,uJ,uK,uL,uM,uN,uO,uP,uQ]
 refine frX_same (.int .i64 (cmpR a b)) ?_ ?_
 ·simp only [go_sem,uA,uB,uC,uD,uE,uF,uG,uH,uI,uJ,uK,uL,uM,uN,uO,uP,uQ]
  refine ACallT.pure (by simp only [go_sem,uA,uB,uC,uD,uE,uF,uG,uH,uI,uJ,uK,uL,uM,uN,uO,uP,uQ]; rfl) (by first | trivial | assumption | (simp only [go_sem,uA,uB,uC,uD,uE,uF,uG,uH,uI,uJ,uK,uL,uM,uN,uO,uP,uQ]; done) | (simp only [go_sem,uA,uB,uC,uD,uE,uF,uG,uH,uI,uJ,uK,uL,uM,uN,uO,uP,uQ]; first | trivial | assumption | omega | decide | (refine ⟨?_, ?_⟩ <;> first | trivial | assumption | omega | decide))) (cmpOr_ok _ _ _ _) fun r h' e=>⟨by rw [e]; rfl,e,rfl⟩
 simp only [go_sem,uA,uB,uC,uD,uE,uF,uG,uH,uI,uJ,uK,uL,uM,uN,uO,uP,uQ]
 refine ⟨by simp [fmem,Agree], ?_⟩
 exact Fin_plain rfl
theorem rtexts_ok (a b:List Str) (c1 c2:Bool) (h:List AObj) (ha:a.length≤4611686018427387904) (hb:b.length≤4611686018427387904):ACall Tryz.prog 111 [.fz c1 (strs a),.fz c2 (strs b)] h (fun r _=>r=.bool (decide (a=b))):=by
 (refine ACall.of_code Tryz.func111 rfl ?_; simp only [Tryz.f111]; simp only [go_sem,uA,uB,uC,uD,uE,uF,uG,uH,uI,uJ,uK,uL,uM,uN,uO,uP,uQ])
 refine acond_intro (fun hc=>?_) (fun hc=>?_)
 ·simp only [go_sem,uA,uB,uC,uD,uE,uF,uG,uH,uI,uJ,uK,uL,uM,uN,uO,uP,uQ]
  refine Fin_plain ?_
  have:a.length≠b.length:=by intro e; rw [e] at hc; simp at hc
  rw [decide_eq_false]; rintro rfl; exact this rfl
 ·have hab:a.length=b.length:=by simp at hc; omega
  simp only [go_sem,uA,uB,uC,uD,uE,uF,uG,uH,uI,uJ,uK,uL,uM,uN,uO,uP,uQ]
  refine ALoop.over [4,5,11,12,13,14,15,16,17,18,19,20,21,22,23,24,25] (fun e h'=>∃ k:Nat,k≤a.length∧e.getD 5 .any=.int .i64 k∧a.take k=b.take k) (fun e _=>a.length - natA (e.getD 5 .any)) ⟨0,by omega,rfl,by simp⟩ ?_
  simp only [List.length_cons,List.length_nil,Nat.reduceAdd,allL_succ,allL_zero]
  intro y4 y5 y11 y12 y13 y14 y15 y16 y17 y18 y19 y20 y21 y22 y23 y24 y25 h1 hI
  simp only [go_sem] at hI
  obtain ⟨k,hk,rfl,hall⟩:=hI
  simp only [go_sem,uA,uB,uC,uD,uE,uF,uG,uH,uI,uJ,uK,uL,uM,uN,uO,uP,uQ]
  refine acond_intro (fun hc=>?_) (fun hc=>?_)
  ·have hlt:k < a.length:=by have:=of_decide_eq_true hc; omega
   have hltb:k < b.length:=by omega
   simp only [go_sem,uA,uB,uC,uD,uE,uF,uG,uH,uI,uJ,uK,uL,uM,uN,uO,uP,uQ]
   (refine ADrawT.mem [] mixedOrdersD (by kernel_rfl) (by kernel_rfl) ?_; simp only [go_sem,uA,uB,uC,uD,uE,uF,uG,uH,uI,uJ,uK,uL,uM,uN,uO,uP,uQ])
   simp only [go_sem,strs_get a k hlt,strs_get b k hltb,uA,uB,uC,uD,uE,uF,uG,uH,uI,uJ,uK,uL,uM,uN,uO,uP,uQ]
   refine ⟨⟨by omega,by omega⟩,⟨by omega,by omega⟩,by simp [okAcc], ?_⟩
   refine acond_intro (fun hd=>?_) (fun hd=>?_)
   ·simp only [go_sem,uA,uB,uC,uD,uE,uF,uG,uH,uI,uJ,uK,uL,uM,uN,uO,uP,uQ]
    refine Fin_plain ?_
    rw [decide_eq_false]; rintro rfl
    simp at hd
   ·simp only [go_sem,uA,uB,uC,uD,uE,uF,uG,uH,uI,uJ,uK,uL,uM,uN,uO,uP,uQ]
    rw [wrap_id (by omega) (by omega)]
    have e:a[k]=b[k]:=by simpa using hd
    refine ⟨⟨k+1,by omega,rfl, ?_⟩,by omega⟩
    rw [List.take_succ_eq_append_getElem hlt,List.take_succ_eq_append_getElem hltb,hall,e]
  ·have:k=a.length:=by have:=of_decide_eq_false hc; omega
   subst this
   simp only [go_sem,uA,uB,uC,uD,uE,uF,uG,uH,uI,uJ,uK,uL,uM,uN,uO,uP,uQ]
   refine Fin_plain ?_
   rw [List.take_length,hab,List.take_length] at hall
   rw [hall]; simp
@[go_sem] theorem a3s_len (l:List A3):(a3s l).length=l.length:=by simp [a3s]
theorem a3s_get (l:List A3) (k:Nat) (h:k < l.length):(a3s l).getD k .any=.agg [.int .i64 l[k].s,.int .i64 l[k].mn,.int .i64 l[k].mx]:=by simp [a3s,a3A,List.getD_eq_getElem?_getD,h]
instance:DecidableEq A3:=fun a b=>by
 cases a with | mk a1 a2 a3 =>
 cases b with | mk b1 b2 b3 =>
 rw [A3.mk.injEq]; exact inferInstance
theorem a3_eq (a b:A3):(a.s==b.s && (a.mn==b.mn && a.mx==b.mx))=decide (a=b):=by
 cases a with | mk a1 a2 a3 =>
 cases b with | mk b1 b2 b3 =>
 by_cases e1:a1=b1 <;> by_cases e2:a2=b2 <;> by_cases e3:a3=b3 <;> simp [e1,e2,e3]
theorem rsameA_ok (a b:List A3) (c1 c2:Bool) (h:List AObj) (ha:a.length≤4611686018427387904) (hb:b.length≤4611686018427387904):ACall Tryz.prog 85 [.fz c1 (a3s a),.fz c2 (a3s b)] h (fun r _=>r=.bool (decide (a=b))):=by
 (refine ACall.of_code Tryz.func85 rfl ?_; simp only [Tryz.f85]; simp only [go_sem,uA,uB,uC,uD,uE,uF,uG,uH,uI,uJ,uK,uL,uM,uN,uO,uP,uQ])
 refine acond_intro (fun hc=>?_) (fun hc=>?_)
 ·simp only [go_sem,uA,uB,uC,uD,uE,uF,uG,uH,uI,uJ,uK,uL,uM,uN,uO,uP,uQ]
  refine Fin_plain ?_
  have:a.length≠b.length:=by intro e; rw [e] at hc; simp at hc
  rw [decide_eq_false]; rintro rfl; exact this rfl
 ·have hab:a.length=b.length:=by simp at hc; omega
  simp only [go_sem,uA,uB,uC,uD,uE,uF,uG,uH,uI,uJ,uK,uL,uM,uN,uO,uP,uQ]
  refine ALoop.over [4,5,11,12,13,14,15,16,17,18,19,20,21,22,23,24,25] (fun e h'=>∃ k:Nat,k≤a.length∧e.getD 5 .any=.int .i64 k∧a.take k=b.take k) (fun e _=>a.length - natA (e.getD 5 .any)) ⟨0,by omega,rfl,by simp⟩ ?_
  simp only [List.length_cons,List.length_nil,Nat.reduceAdd,allL_succ,allL_zero]
  intro y4 y5 y11 y12 y13 y14 y15 y16 y17 y18 y19 y20 y21 y22 y23 y24 y25 h1 hI
  simp only [go_sem] at hI
  obtain ⟨k,hk,rfl,hall⟩:=hI
  simp only [go_sem,uA,uB,uC,uD,uE,uF,uG,uH,uI,uJ,uK,uL,uM,uN,uO,uP,uQ]
  refine acond_intro (fun hc=>?_) (fun hc=>?_)
  ·have hlt:k < a.length:=by have:=of_decide_eq_true hc; omega
   have hltb:k < b.length:=by omega
   simp only [go_sem,uA,uB,uC,uD,uE,uF,uG,uH,uI,uJ,uK,uL,uM,uN,uO,uP,uQ]
   (refine ADrawT.mem [] mixedOrdersD (by kernel_rfl) (by kernel_rfl) ?_; simp only [go_sem,uA,uB,uC,uD,uE,uF,uG,uH,uI,uJ,uK,uL,uM,uN,uO,uP,uQ])
   simp only [go_sem,a3s_get a k hlt,a3s_get b k hltb,uA,uB,uC,uD,uE,uF,uG,uH,uI,uJ,uK,uL,uM,uN,uO,uP,uQ]
   refine ⟨⟨by omega,by omega⟩,⟨by omega,by omega⟩,by simp [okAcc], ?_⟩
   have heq:(a[k].s==b[k].s && (a[k].mn==b[k].mn && a[k].mx==b[k].mx))=decide (a[k]=b[k]):=a3_eq _ _
   rw [heq]
   refine acond_intro (fun hd=>?_) (fun hd=>?_)
   ·simp only [go_sem,uA,uB,uC,uD,uE,uF,uG,uH,uI,uJ,uK,uL,uM,uN,uO,uP,uQ]
    refine Fin_plain ?_
    rw [decide_eq_false]; rintro rfl
    simp at hd
   ·simp only [go_sem,uA,uB,uC,uD,uE,uF,uG,uH,uI,uJ,uK,uL,uM,uN,uO,uP,uQ]
    rw [wrap_id (by omega) (by omega)]
    have e:a[k]=b[k]:=by simpa using hd
    refine ⟨⟨k+1,by omega,rfl, ?_⟩,by omega⟩
    rw [List.take_succ_eq_append_getElem hlt,List.take_succ_eq_append_getElem hltb,hall,e]
  ·have:k=a.length:=by have:=of_decide_eq_false hc; omega
   subst this
   simp only [go_sem,uA,uB,uC,uD,uE,uF,uG,uH,uI,uJ,uK,uL,uM,uN,uO,uP,uQ]
   refine Fin_plain ?_
   rw [List.take_length,hab,List.take_length] at hall
   rw [hall]; simp
def keyB (a b:Rw):Bool:=decide (a.2.1=b.2.1) && (a.1==b.1)
theorem roneKey_ok (a b:Rw) (h:List AObj) (ha:a.2.1.length≤4611686018427387904) (hb:b.2.1.length≤4611686018427387904):ACall Tryz.prog 83 [rowA a,rowA b] h (fun r _=>r=.bool (keyB a b)):=by
 simp only [rowA]
 (refine ACall.of_code Tryz.func83 rfl ?_; simp only [Tryz.f83]; simp only [go_sem,uA,uB,uC,uD,uE,uF,uG,uH,uI,uJ,uK,uL,uM,uN,uO,uP,uQ])
 (refine ACallT.frame (rtexts_ok a.2.1 b.2.1 _ _ _ ha hb) ?_; refine fun _ _ e=>?_; subst e; refine ⟨by (first | rfl | (simp only [AV.low,lowL,low_strs,Bool.and_true,Bool.and_self])), ?_⟩; simp only [go_sem,uA,uB,uC,uD,uE,uF,uG,uH,uI,uJ,uK,uL,uM,uN,uO,uP,uQ])
 have e:keyB a b=(decide (a.2.1=b.2.1) && (a.1==b.1)):=rfl
 generalize decide (a.2.1=b.2.1)=z at *
 cases z with
 | false=>simp only [go_sem,uA,uB,uC,uD,uE,uF,uG,uH,uI,uJ,uK,uL,uM,uN,uO,uP,uQ]; exact Fin_plain (by rw [e]; rfl)
 | true=>simp only [go_sem,uA,uB,uC,uD,uE,uF,uG,uH,uI,uJ,uK,uL,uM,uN,uO,uP,uQ]; exact Fin_plain (by rw [e]; rfl)
def oneB (a b:Rw):Bool:=keyB a b && decide (a.2.2.2=b.2.2.2) && (a.2.2.1==b.2.2.1)
theorem oneB_eq (a b:Rw):oneB a b=decide (a=b):=by
 obtain ⟨a1,a2,a3,a4⟩:=a
 obtain ⟨b1,b2,b3,b4⟩:=b
 simp only [oneB,keyB]
 by_cases e1:a1=b1 <;> by_cases e2:a2=b2 <;> by_cases e3:a3=b3 <;> by_cases e4:a4=b4 <;> simp [e1,e2,e3,e4]
theorem rone_ok (a b:Rw) (h:List AObj) (ha:a.2.1.length≤4611686018427387904) (hb:b.2.1.length≤4611686018427387904) (ha2:a.2.2.2.length≤4611686018427387904) (hb2:b.2.2.2.length≤4611686018427387904):ACall Tryz.prog 49 [rowA a,rowA b] h (fun r _=>r=.bool (decide (a=b))):=by
 rw [← oneB_eq]
 simp only [rowA]
 (refine ACall.of_code Tryz.func49 rfl ?_; simp only [Tryz.f49]; simp only [go_sem,uA,uB,uC,uD,uE,uF,uG,uH,uI,uJ,uK,uL,uM,uN,uO,uP,uQ])
 have hk:=fun h=>roneKey_ok a b h ha hb
 simp only [rowA] at hk
 (refine ACallT.frame (hk _) ?_; refine fun _ _ e=>?_; subst e; refine ⟨by (first | rfl | (simp only [AV.low,lowL,low_strs,Bool.and_true,Bool.and_self])), ?_⟩; simp only [go_sem,uA,uB,uC,uD,uE,uF,uG,uH,uI,uJ,uK,uL,uM,uN,uO,uP,uQ])
 (refine ACallT.frame (rsameA_ok a.2.2.2 b.2.2.2 _ _ _ ha2 hb2) ?_; refine fun _ _ e=>?_; subst e; refine ⟨by (first | rfl | (simp only [AV.low,lowL,low_strs,Bool.and_true,Bool.and_self])), ?_⟩; simp only [go_sem,uA,uB,uC,uD,uE,uF,uG,uH,uI,uJ,uK,uL,uM,uN,uO,uP,uQ])
 have e:oneB a b=(keyB a b && decide (a.2.2.2=b.2.2.2) && (a.2.2.1==b.2.2.1)):=rfl
 generalize decide (a.2.2.2=b.2.2.2)=z at *
 generalize keyB a b=y at *
 cases y with
 | false=>simp only [go_sem,uA,uB,uC,uD,uE,uF,uG,uH,uI,uJ,uK,uL,uM,uN,uO,uP,uQ]; exact Fin_plain (by rw [e]; rfl)
 | true =>
  cases z with
  | false=>simp only [go_sem,uA,uB,uC,uD,uE,uF,uG,uH,uI,uJ,uK,uL,uM,uN,uO,uP,uQ]; exact Fin_plain (by rw [e]; rfl)
  | true=>simp only [go_sem,uA,uB,uC,uD,uE,uF,uG,uH,uI,uJ,uK,uL,uM,uN,uO,uP,uQ]; exact Fin_plain (by rw [e]; rfl)
def rowsA (l:List Rw):List AV:=l.map rowA
@[go_sem] theorem rowsA_len (l:List Rw):(rowsA l).length=l.length:=by simp [rowsA]
theorem rowsA_get (l:List Rw) (k:Nat) (h:k < l.length):(rowsA l).getD k .any=.agg [.int .i64 l[k].1,.fz false (strs l[k].2.1),.int .i64 l[k].2.2.1,.fz false (a3s l[k].2.2.2)]:=by simp [rowsA,rowA,List.getD_eq_getElem?_getD,h]
def RwOk (r:Rw):Prop:=r.2.1.length≤4611686018427387904∧r.2.2.2.length≤4611686018427387904
theorem rsame_ok (a b:List Rw) (c1 c2:Bool) (h:List AObj) (ha:a.length≤4611686018427387904) (hb:b.length≤4611686018427387904) (hra:∀ r∈a,RwOk r) (hrb:∀ r∈b,RwOk r):ACall Tryz.prog 18 [.fz c1 (rowsA a),.fz c2 (rowsA b)] h (fun r _=>r=.bool (decide (a=b))):=by
 (refine ACall.of_code Tryz.func18 rfl ?_; simp only [Tryz.f18]; simp only [go_sem,uA,uB,uC,uD,uE,uF,uG,uH,uI,uJ,uK,uL,uM,uN,uO,uP,uQ])
 refine acond_intro (fun hc=>?_) (fun hc=>?_)
 ·simp only [go_sem,uA,uB,uC,uD,uE,uF,uG,uH,uI,uJ,uK,uL,uM,uN,uO,uP,uQ]
  refine Fin_plain ?_
  have:a.length≠b.length:=by intro e; rw [e] at hc; simp at hc
  rw [decide_eq_false]; rintro rfl; exact this rfl
 ·have hab:a.length=b.length:=by simp at hc; omega
  simp only [go_sem,uA,uB,uC,uD,uE,uF,uG,uH,uI,uJ,uK,uL,uM,uN,uO,uP,uQ]
  refine ALoop.over [4,5,6,12,13,14,15,16,17,18,19,20,21,22,23,24,25,26,27,28] (fun e h'=>∃ k:Nat,k≤a.length∧e.getD 5 .any=.int .i64 k∧a.take k=b.take k) (fun e _=>a.length - natA (e.getD 5 .any)) ⟨0,by omega,rfl,by simp⟩ ?_
  simp only [List.length_cons,List.length_nil,Nat.reduceAdd,allL_succ,allL_zero]
  intro y4 y5 y6 y12 y13 y14 y15 y16 y17 y18 y19 y20 y21 y22 y23 y24 y25 y26 y27 y28 h1 hI
  simp only [go_sem] at hI
  obtain ⟨k,hk,rfl,hall⟩:=hI
  simp only [go_sem,uA,uB,uC,uD,uE,uF,uG,uH,uI,uJ,uK,uL,uM,uN,uO,uP,uQ]
  refine acond_intro (fun hc=>?_) (fun hc=>?_)
  ·have hlt:k < a.length:=by have:=of_decide_eq_true hc; omega
   have hltb:k < b.length:=by omega
   have q1:=hra _ (List.getElem_mem hlt)
   have q2:=hrb _ (List.getElem_mem hltb)
   simp only [go_sem,uA,uB,uC,uD,uE,uF,uG,uH,uI,uJ,uK,uL,uM,uN,uO,uP,uQ]
   (refine ADrawT.walk [[0],[0],[0],[0],[0],[0],[0],[0],[0,9],[9]] mixedOrdersD (by kernel_rfl) (by kernel_rfl) ?_; simp only [go_sem,uA,uB,uC,uD,uE,uF,uG,uH,uI,uJ,uK,uL,uM,uN,uO,uP,uQ])
   simp only [go_sem,rowsA_get a k hlt,rowsA_get b k hltb,uA,uB,uC,uD,uE,uF,uG,uH,uI,uJ,uK,uL,uM,uN,uO,uP,uQ]
   refine ⟨⟨by omega,by omega⟩,⟨by omega,by omega⟩, ?_⟩
   refine frX_same (.bool (decide (a[k]=b[k]))) ?_ ?_
   ·simp only [go_sem,rowsA_get a k hlt,rowsA_get b k hltb,uA,uB,uC,uD,uE,uF,uG,uH,uI,uJ,uK,uL,uM,uN,uO,uP,uQ]
    exact ACallT.frame (rone_ok a[k] b[k] _ q1.1 q2.1 q1.2 q2.2) fun r h' e=>⟨by rw [e]; rfl,e,rfl⟩
   simp only [go_sem,uA,uB,uC,uD,uE,uF,uG,uH,uI,uJ,uK,uL,uM,uN,uO,uP,uQ]
   refine ⟨by simp [fmem,Agree], ?_⟩
   refine acond_intro (fun hd=>?_) (fun hd=>?_)
   ·simp only [go_sem,uA,uB,uC,uD,uE,uF,uG,uH,uI,uJ,uK,uL,uM,uN,uO,uP,uQ]
    refine Fin_plain ?_
    rw [decide_eq_false]; rintro rfl
    simp at hd
   ·simp only [go_sem,uA,uB,uC,uD,uE,uF,uG,uH,uI,uJ,uK,uL,uM,uN,uO,uP,uQ]
    rw [wrap_id (by omega) (by omega)]
    have e:a[k]=b[k]:=by simpa using hd
    refine ⟨⟨k+1,by omega,rfl, ?_⟩,by omega⟩
    rw [List.take_succ_eq_append_getElem hlt,List.take_succ_eq_append_getElem hltb,hall,e]
  ·have:k=a.length:=by have:=of_decide_eq_false hc; omega
   subst this
   simp only [go_sem,uA,uB,uC,uD,uE,uF,uG,uH,uI,uJ,uK,uL,uM,uN,uO,uP,uQ]
   refine Fin_plain ?_
   rw [List.take_length,hab,List.take_length] at hall
   rw [hall]; simp
end Go.Proofs.Vale
namespace Go.Proofs.Vale
open Go.Proofs Go.Proofs.YtplehleekabbaaaGreatDoorT
attribute [local irreducible] acode aopsL aopsT dopsL dopsT pop popG aop ALoop ADraw ACall AWP AFin acondT ALoopT ADrawT ACallT doP doG doGd frL frT frX
abbrev rowC (c1 c2:Bool) (t:Int) (d:List Str) (n:Int) (g:List A3):AV:=.agg [.int .i64 t,.fz c1 (strs d),.int .i64 n,.fz c2 (a3s g)]
theorem rep_row {β:Beta} {fr:Nat→Prop} {H:Array Obj} {v:Value} {c1 c2:Bool} {t n:Int} {d:List Str} {g:List A3} (q:Rep β fr H (rowC c1 c2 t d n g) v):Rep β fr H (rowC false false t d n g) v:=by
 simp only [Rep] at q ⊢
 obtain ⟨us,h1,h2,h3⟩:=q
 refine ⟨us,h1,h2,fun j hj=>?_⟩
 obtain ⟨u,hu,hr⟩:=h3 j hj
 refine ⟨u,hu, ?_⟩
 match j,hj with
 | 0,_=>exact hr
 | 1,_=>exact rep_cut hr
 | 2,_=>exact hr
 | 3,_=>exact rep_cut hr
def zeroR:Rw:=(0,[],0,[])
def joinB (p:A3 × A3):Bool:=(joinF p.1 p.2).2 != 0
def joinG (x y:List A3):List A3:=List.zipWith (fun p q=>(joinF p q).1) x y
def joinC (a b:Rw):Int :=
 bif (bif cmpR a b != 0 then true else ((a.2.2.2.length:Int) != (b.2.2.2.length:Int))) then 131
 else bif decide (1048576 < IntKind.i64.wrap (a.2.2.1+b.2.2.1)) then 121
 else bif (a.2.2.2.zip b.2.2.2).any joinB then 121 else 0
def joinR (a b:Rw):Rw:=bif joinC a b==0 then (a.1,a.2.1,IntKind.i64.wrap (a.2.2.1+b.2.2.1),joinG a.2.2.2 b.2.2.2) else zeroR
theorem joinR_err {a b:Rw} {k:Int} (h:joinC a b=k) (hk:k≠0):joinR a b=zeroR:=by
 have:(joinC a b==0)=false:=by rw [h]; simpa using hk
 simp [joinR,this]
theorem joinR_ok {a b:Rw} (h:joinC a b=0):joinR a b=(a.1,a.2.1,IntKind.i64.wrap (a.2.2.1+b.2.2.1),joinG a.2.2.2 b.2.2.2):=by
 simp [joinR,h]
theorem joinG_len {x y:List A3} (h:x.length=y.length):(joinG x y).length=x.length:=by simp [joinG,h]
theorem joinG_snoc {ss ms:List A3} {k:Nat} (hk:k < ss.length) (hm:k < ms.length):joinG (ss.take (k+1)) ms=joinG (ss.take k) ms++[(joinF ss[k] ms[k]).1]:=by
 refine List.ext_getElem (by simp [joinG]; omega) fun i h1 h2=>?_
 have hi:i < k+1:=by simp [joinG] at h1; omega
 by_cases e:i < k
 ·rw [List.getElem_append_left (by simp [joinG]; omega)]
  simp [joinG]
 ·obtain rfl:i=k:=by omega
  rw [List.getElem_append_right (by simp [joinG]; omega)]
  simp [joinG]
theorem joinG_tlen {ss ms:List A3} {k:Nat} (hk:k≤ss.length) (hm:k≤ms.length):(joinG (ss.take k) ms).length=k:=by simp [joinG]; omega
theorem zipJ_bad {ss ms:List A3} {k:Nat} (hk:k < ss.length) (hm:k < ms.length) (h:((ss.zip ms).take k).any joinB=false):((ss.zip ms).take (k+1)).any joinB=joinB (ss[k],ms[k]):=by
 rw [List.take_succ_eq_append_getElem (by simp; omega),List.any_append,h]
 simp
theorem frzO_same {h:List AObj} {k g s:Nat} {l:List AV} (hf:∀ y∈l,frzA h k y=y):frzO (some (.arr g s l)) h k g s 0 l.length=.fz false l:=by
 have e:l.map (frzA h k)=l:=by
  have:∀ m:List AV,(∀ y∈m,frzA h k y=y)→m.map (frzA h k)=m:=by
   intro m hm
   induction m with
   | nil=>rfl
   | cons a m ih=>rw [List.map_cons,hm a (by simp),ih fun y hy=>hm y (by simp [hy])]
  exact this _ hf
 simp only [frzO]
 rw [if_pos ⟨trivial,trivial,by omega,fun y hy=>by rw [hf y hy]⟩,List.drop_zero,List.take_length,e]
theorem frz_a3s {h:List AObj} {k g:Nat} {L:List A3} {n:Nat} (hn:n=L.length):frzO (some (.arr g 3 (a3s L))) h (k+2) g 3 0 n=.fz false (a3s L):=by
 subst hn
 have:=frzO_same (h:=h) (k:=k+2) (g:=g) (s:=3) (l:=a3s L) (by
  intro y hy
  simp only [a3s,List.mem_map] at hy
  obtain ⟨t,_,rfl⟩:=hy
  rfl)
 rw [a3s_len] at this; exact this
def Grows (H:List AObj) (k:Nat) (L:List A3) (G:AV):Prop:=(k=0∧G=.fz true [])∨(0 < k∧∃ t g,G=.sl t g 3 0 k∧H[t]? = some (.arr g 3 (a3s L)))
def tupW (r:Rw) (k:Int) (x:AV):Prop:=∃ c1 c2,x=.tup [rowC c1 c2 r.1 r.2.1 r.2.2.1 r.2.2.2,.int .i64 k]
theorem ACall.tupW {f:FuncId} {ar:List AV} {h:List AObj} {r:Rw} {k:Int} (q:ACall Tryz.prog f ar h (fun x _=>tupW r k x)):ACall Tryz.prog f ar h (fun x _=>x=.tup [rowA r,.int .i64 k]):=by
 refine q.weak ?_
 rintro x h' ⟨c1,c2,rfl⟩
 exact ⟨.tup [rowA r,.int .i64 k],fun β fr H v z=>rep_tup2 (fun u z=>rep_row z) z,rfl⟩
theorem rwjoin_ok (a b:Rw) (h:List AObj) (ha:a.2.1.length≤8796093022000) (hb:b.2.1.length≤8796093022000) (ha2:a.2.2.2.length≤4398046511104) (hb2:b.2.2.2.length≤4398046511104):ACall Tryz.prog 40 [rowA a,rowA b] h (fun r _=>r=.tup [rowA (joinR a b),.int .i64 (joinC a b)]):=by
 refine ACall.tupW ?_
 have hcmp:=fun h=>cmpR_ok a b h (by omega) (by omega)
 have hjoin:=fun (x y:A3) h=>ajoin_ok x y h
 simp only [rowA] at hcmp ⊢
 simp only [a3A] at hjoin
 (refine ACall.of_code Tryz.func40 rfl ?_; simp only [Tryz.f40]; simp only [go_sem,uA,uB,uC,uD,uE,uF,uG,uH,uI,uJ,uK,uL,uM,uN,uO,uP,uQ])
 (refine ACallT.frame (hcmp _) ?_; refine fun _ _ e=>?_; subst e; refine ⟨by (first | rfl | (simp only [AV.low,lowL,low_strs,Bool.and_true,Bool.and_self])), ?_⟩; simp only [go_sem,uA,uB,uC,uD,uE,uF,uG,uH,uI,uJ,uK,uL,uM,uN,uO,uP,uQ])
 generalize hk:(bif cmpR a b != 0 then true else ((a.2.2.2.length:Int) != (b.2.2.2.length:Int)))=z
 cases z with
 | true =>
  have hC:joinC a b=131:=by unfold joinC; rw [hk]; rfl
  simp only [go_sem,uA,uB,uC,uD,uE,uF,uG,uH,uI,uJ,uK,uL,uM,uN,uO,uP,uQ]
  refine Fin_plain ?_
  rw [joinR_err hC (by decide),hC]
  exact ⟨true,true,rfl⟩
 | false =>
 simp only [go_sem,uA,uB,uC,uD,uE,uF,uG,uH,uI,uJ,uK,uL,uM,uN,uO,uP,uQ]
 refine acond_intro (fun hc=>?_) (fun hc=>?_)
 ·have hC:joinC a b=121:=by unfold joinC; rw [hk,hc]; rfl
  simp only [go_sem,uA,uB,uC,uD,uE,uF,uG,uH,uI,uJ,uK,uL,uM,uN,uO,uP,uQ]
  refine Fin_plain ?_
  rw [joinR_err hC (by decide),hC]
  exact ⟨true,true,rfl⟩
 have hC:joinC a b=bif (a.2.2.2.zip b.2.2.2).any joinB then 121 else 0:=by unfold joinC; rw [hk,hc]; rfl
 have hlab:a.2.2.2.length=b.2.2.2.length:=by
  cases e1:(cmpR a b != 0) with
  | true=>rw [e1] at hk; cases hk
  | false=>rw [e1] at hk; simp at hk; omega
 simp only [go_sem,uA,uB,uC,uD,uE,uF,uG,uH,uI,uJ,uK,uL,uM,uN,uO,uP,uQ]
 (refine ADrawT.walk [[0,5,12],[0,5,12],[0],[0],[0,5,12],[0,5,12],[0,5,12],[0,5,12],[0,5,12],[0,5,12],[5,12],[0,5,12],[12,13]] mixedOrdersD (by kernel_rfl) (by kernel_rfl) ?_; simp only [go_sem,uA,uB,uC,uD,uE,uF,uG,uH,uI,uJ,uK,uL,uM,uN,uO,uP,uQ])
 refine frX_same (.fz false (strs a.2.1)) ?_ ?_
 ·simp only [go_sem,uA,uB,uC,uD,uE,uF,uG,uH,uI,uJ,uK,uL,uM,uN,uO,uP,uQ]
  exact ACallT.frame (clone_fz a.2.1 _ _ ha) fun r h' e=>⟨by rw [e]; simp [AV.low,low_strs],e,rfl⟩
 simp only [go_sem,uA,uB,uC,uD,uE,uF,uG,uH,uI,uJ,uK,uL,uM,uN,uO,uP,uQ]
 refine ⟨by simp [fmem,Agree], ?_⟩
 refine ALoop.over [5,7,8,9,10,48,49,50,51,52,53,54,55,56,57,58,59,60,61,62,63,64,65,66,67,68,69,70,71,72] (fun e H=>∃ (k:Nat) (G:AV),k≤a.2.2.2.length∧e.getD 48 .any=.int .i64 k∧h.length+4≤H.length∧H[h.length]? = some (.arr 0 4 [rowA a])∧H[h.length+1]? = some (.arr 0 4 [rowA b])∧H[h.length+2]? = some (.arr 0 4 [rowC true true 0 [] 0 []])∧H[h.length+3]? = some (.arr 0 4 [.agg [.int .i64 a.1,.fz false (strs a.2.1),.int .i64 (IntKind.i64.wrap (a.2.2.1+b.2.2.1)),G]])∧Grows H k (joinG (a.2.2.2.take k) b.2.2.2) G∧((a.2.2.2.zip b.2.2.2).take k).any joinB=false) (fun e _=>a.2.2.2.length - natA (e.getD 48 .any)) ⟨0,.fz true [],by omega,rfl,by simp,by simp [rowA],by simp [rowA],by simp [a3s,strs],by simp,.inl ⟨rfl,rfl⟩,by simp⟩ ?_
 simp only [List.length_cons,List.length_nil,Nat.reduceAdd,allL_succ,allL_zero]
 intro y5 y7 y8 y9 y10 y48 y49 y50 y51 y52 y53 y54 y55 y56 y57 y58 y59 y60 y61 y62 y63 y64 y65 y66 y67 y68 y69 y70 y71 y72 H hI
 simp only [go_sem] at hI
 obtain ⟨k,G,hk,rfl,hHl,hA,hB,hZ,hR,hG,hall⟩:=hI
 simp only [rowA] at hA hB
 have hA':∀ x,(H++x)[h.length]? = _:=fun x=>(List.getElem?_append_left (by omega)).trans hA
 have hB':∀ x,(H++x)[h.length+1]? = _:=fun x=>(List.getElem?_append_left (by omega)).trans hB
 have hZ':∀ x,(H++x)[h.length+2]? = _:=fun x=>(List.getElem?_append_left (by omega)).trans hZ
 have hR':∀ x,(H++x)[h.length+3]? = _:=fun x=>(List.getElem?_append_left (by omega)).trans hR
 simp only [go_sem,uA,uB,uC,uD,uE,uF,uG,uH,uI,uJ,uK,uL,uM,uN,uO,uP,uQ]
 refine acond_intro (fun hc=>?_) (fun hc=>?_)
 ·have hlt:k < a.2.2.2.length:=by have:=of_decide_eq_true hc; omega
  have hltb:k < b.2.2.2.length:=by omega
  simp only [go_sem,a3s_get _ k hlt,hA,hB,hZ,hR,uA,uB,uC,uD,uE,uF,uG,uH,uI,uJ,uK,uL,uM,uN,uO,uP,uQ]
  refine ⟨⟨by omega,by omega⟩, ?_⟩
  (refine ADrawT.walk [[0],[0],[0],[0],[0],[0],[0,7,11],[7,11],[7,11],[7,11,12],[0,7,11],[11,12],[12]] mixedOrdersD (by kernel_rfl) (by kernel_rfl) ?_; simp only [go_sem,uA,uB,uC,uD,uE,uF,uG,uH,uI,uJ,uK,uL,uM,uN,uO,uP,uQ])
  simp only [go_sem,a3s_get _ k hltb,hA',hB',hZ',hR',uA,uB,uC,uD,uE,uF,uG,uH,uI,uJ,uK,uL,uM,uN,uO,uP,uQ]
  refine ⟨⟨by omega,by omega⟩, ?_⟩
  refine frX_same (.tup [a3A (joinF a.2.2.2[k] b.2.2.2[k]).1,.int .i64 (joinF a.2.2.2[k] b.2.2.2[k]).2]) ?_ ?_
  ·simp only [go_sem,a3s_get _ k hltb,a3s_get _ k hlt,uA,uB,uC,uD,uE,uF,uG,uH,uI,uJ,uK,uL,uM,uN,uO,uP,uQ]
   exact ACallT.frame (hjoin a.2.2.2[k] b.2.2.2[k] _) fun r h' e=>⟨by rw [e]; rfl,e,rfl⟩
  have hjb:joinB (a.2.2.2[k],b.2.2.2[k])=((joinF a.2.2.2[k] b.2.2.2[k]).2 != 0):=rfl
  have hsn:=joinG_snoc hlt hltb
  have htl:=joinG_tlen (ss:=a.2.2.2) (ms:=b.2.2.2) hk (by omega)
  have hz1:joinB (a.2.2.2[k],b.2.2.2[k])=true→(a.2.2.2.zip b.2.2.2).any joinB=true:=by
   intro q
   rw [List.any_eq_true]
   refine ⟨(a.2.2.2[k],b.2.2.2[k]), ?_,q⟩
   have:(a.2.2.2.zip b.2.2.2)[k]'(by simp; omega)=(a.2.2.2[k],b.2.2.2[k]):=List.getElem_zip
   rw [← this]; exact List.getElem_mem _
  generalize joinF a.2.2.2[k] b.2.2.2[k]=J at *
  simp only [go_sem,hA',hB',hZ',hR',uA,uB,uC,uD,uE,uF,uG,uH,uI,uJ,uK,uL,uM,uN,uO,uP,uQ]
  refine ⟨by simp [fmem,Agree,hB'], ?_⟩
  refine acond_intro (fun hd=>?_) (fun hd=>?_)
  ·have hs2:∀ l v,((H++l).set (h.length+2) v)[h.length+2]? = some v:=fun l v=>List.getElem?_set_self (by simp; omega)
   have hC2:joinC a b=121:=by rw [hC,hz1 (hjb.trans hd)]; rfl
   simp only [go_sem,hA',hB',hZ',hR',hs2,uA,uB,uC,uD,uE,uF,uG,uH,uI,uJ,uK,uL,uM,uN,uO,uP,uQ]
   refine Fin_plain ?_
   rw [joinR_err hC2 (by decide),hC2]
   exact ⟨true,true,rfl⟩
  ·simp only [go_sem,hA',hB',hZ',hR',uA,uB,uC,uD,uE,uF,uG,uH,uI,uJ,uK,uL,uM,uN,uO,uP,uQ]
   rcases hG with ⟨hk0,rfl⟩ | ⟨hk0,t,g,rfl,hg⟩
   ·simp only [go_sem,uA,uB,uC,uD,uE,uF,uG,uH,uI,uJ,uK,uL,uM,uN,uO,uP,uQ]
    refine ⟨fun q=>absurd q (by simp),fun _=>?_⟩
    simp only [go_sem,hA',hB',hZ',hR',uA,uB,uC,uD,uE,uF,uG,uH,uI,uJ,uK,uL,uM,uN,uO,uP,uQ]
    refine ⟨⟨k+1,.sl (H.length+3) 0 3 0 1,by omega, ?_,by omega, ?_, ?_, ?_, ?_,.inr ⟨by omega,H.length+3,0, ?_, ?_⟩,(zipJ_bad hlt hltb hall).trans (hjb.trans hd)⟩, ?_⟩
    ·rw [wrap_id (by omega) (by omega)]; rfl
    ·rw [List.getElem?_set_ne (by omega)]; exact hA' _
    ·rw [List.getElem?_set_ne (by omega)]; exact hB' _
    ·rw [List.getElem?_set_ne (by omega)]; exact hZ' _
    ·exact List.getElem?_set_self (by simp; omega)
    ·subst hk0; rfl
    ·rw [List.getElem?_set_ne (by omega),getElem?_app,hsn]; subst hk0; rfl
    ·rw [wrap_id (by omega) (by omega)]; omega
   ·have hg':∀ x,(H++x)[t]? = _:=fun x=>(List.getElem?_append_left (List.getElem?_eq_some_iff.1 hg).1).trans hg
    have htH:=(List.getElem?_eq_some_iff.1 hg).1
    have n0:t≠h.length:=by rintro rfl; rw [hA] at hg; simp at hg
    have n1:t≠h.length+1:=by rintro rfl; rw [hB] at hg; simp at hg
    have n2:t≠h.length+2:=by rintro rfl; rw [hZ] at hg; simp at hg
    have n3:t≠h.length+3:=by rintro rfl; rw [hR] at hg; simp at hg
    have hR2:∀ l v,((H++l).set t v)[h.length+3]? = _:=fun l v=>(List.getElem?_set_ne n3).trans (hR' l)
    simp only [go_sem,hg',hA',hB',hZ',hR',hR2,uA,uB,uC,uD,uE,uF,uG,uH,uI,uJ,uK,uL,uM,uN,uO,uP,uQ]
    refine ⟨⟨by omega,by omega,by omega⟩,⟨k+1,.sl t (g+1) 3 0 (k+1),by omega, ?_,by omega, ?_, ?_, ?_, ?_,.inr ⟨by omega,t,g+1,rfl, ?_⟩,(zipJ_bad hlt hltb hall).trans (hjb.trans hd)⟩, ?_⟩
    ·rw [wrap_id (by omega) (by omega)]; rfl
    ·rw [List.getElem?_set_ne (by omega),List.getElem?_set_ne (by omega)]; exact hA' _
    ·rw [List.getElem?_set_ne (by omega),List.getElem?_set_ne (by omega)]; exact hB' _
    ·rw [List.getElem?_set_ne (by omega),List.getElem?_set_ne (by omega)]; exact hZ' _
    ·rw [List.getElem?_set_self (by simp; omega),htl]
    ·rw [List.getElem?_set_ne (by omega),List.getElem?_set_self (by simp; omega),hsn]
     simp [a3s,a3A]
    ·rw [wrap_id (by omega) (by omega)]; omega
 ·obtain rfl:k=a.2.2.2.length:=by have:=of_decide_eq_false hc; omega
  have hs2:∀ v,(H.set (h.length+2) v)[h.length+2]? = some v:=fun v=>List.getElem?_set_self (by omega)
  have hz:(a.2.2.2.zip b.2.2.2).any joinB=false:=by
   rw [List.take_of_length_le (by simp; omega)] at hall; exact hall
  have hC2:joinC a b=0:=by rw [hC,hz]; rfl
  rw [joinR_ok hC2,hC2]
  rw [List.take_length] at hG
  simp only [go_sem,hA,hB,hZ,hR,hs2,uA,uB,uC,uD,uE,uF,uG,uH,uI,uJ,uK,uL,uM,uN,uO,uP,uQ]
  rcases hG with ⟨hk0,rfl⟩ | ⟨hk0,t,g,rfl,hg⟩
  ·refine ⟨rfl, ?_⟩
   try simp only [go_sem,uA,uB,uC,uD,uE,uF,uG,uH,uI,uJ,uK,uL,uM,uN,uO,uP,uQ]
   refine Fin_plain ⟨false,true, ?_⟩
   have:joinG a.2.2.2 b.2.2.2=[]:=by simp [joinG,List.length_eq_zero_iff.1 hk0]
   rw [this]; rfl
  ·have ht2:t≠h.length+2:=by rintro rfl; rw [hZ] at hg; simp at hg
   have hg':∀ v,(H.set (h.length+2) v)[t]? = _:=fun v=>(List.getElem?_set_ne (by omega)).trans hg
   refine ⟨rfl, ?_⟩
   try simp only [go_sem,uA,uB,uC,uD,uE,uF,uG,uH,uI,uJ,uK,uL,uM,uN,uO,uP,uQ]
   refine Fin_freeze 5 ⟨false,false, ?_⟩
   simp only [go_sem,hg',uA,uB,uC,uD,uE,uF,uG,uH,uI,uJ,uK,uL,uM,uN,uO,uP,uQ]
   rw [frz_a3s (joinG_len hlab).symm]
theorem rrjoin_ok (a b:Rw) (h:List AObj) (ha:a.2.1.length≤8796093022000) (hb:b.2.1.length≤8796093022000) (ha2:a.2.2.2.length≤4398046511104) (hb2:b.2.2.2.length≤4398046511104) (hlab:a.2.2.2.length=b.2.2.2.length) (hkey:keyB a b=!(cmpR a b != 0)):ACall Tryz.prog 84 [rowA a,rowA b] h (fun r _=>r=.tup [rowA (joinR a b),.int .i64 (joinC a b)]):=by
 refine ACall.tupW ?_
 have hcmp:=fun h=>roneKey_ok a b h (by omega) (by omega)
 have hjoin:=fun (x y:A3) h=>rajoin_ok x y h
 simp only [rowA] at hcmp ⊢
 simp only [a3A] at hjoin
 (refine ACall.of_code Tryz.func84 rfl ?_; simp only [Tryz.f84]; simp only [go_sem,uA,uB,uC,uD,uE,uF,uG,uH,uI,uJ,uK,uL,uM,uN,uO,uP,uQ])
 (refine ACallT.frame (hcmp _) ?_; refine fun _ _ e=>?_; subst e; refine ⟨by (first | rfl | (simp only [AV.low,lowL,low_strs,Bool.and_true,Bool.and_self])), ?_⟩; simp only [go_sem,uA,uB,uC,uD,uE,uF,uG,uH,uI,uJ,uK,uL,uM,uN,uO,uP,uQ])
 rw [hkey]
 cases hkz:(cmpR a b != 0) with
 | true =>
  have hC:joinC a b=131:=by unfold joinC; rw [hkz]; rfl
  simp only [go_sem,uA,uB,uC,uD,uE,uF,uG,uH,uI,uJ,uK,uL,uM,uN,uO,uP,uQ]
  refine Fin_plain ?_
  rw [joinR_err hC (by decide),hC]
  exact ⟨true,true,rfl⟩
 | false =>
 have hk:(bif cmpR a b != 0 then true else ((a.2.2.2.length:Int) != (b.2.2.2.length:Int)))=false:=by rw [hkz,hlab]; simp
 simp only [go_sem,uA,uB,uC,uD,uE,uF,uG,uH,uI,uJ,uK,uL,uM,uN,uO,uP,uQ]
 refine acond_intro (fun hc=>?_) (fun hc=>?_)
 ·have hC:joinC a b=121:=by unfold joinC; rw [hk,hc]; rfl
  simp only [go_sem,uA,uB,uC,uD,uE,uF,uG,uH,uI,uJ,uK,uL,uM,uN,uO,uP,uQ]
  refine Fin_plain ?_
  rw [joinR_err hC (by decide),hC]
  exact ⟨true,true,rfl⟩
 have hC:joinC a b=bif (a.2.2.2.zip b.2.2.2).any joinB then 121 else 0:=by unfold joinC; rw [hk,hc]; rfl
 simp only [go_sem,uA,uB,uC,uD,uE,uF,uG,uH,uI,uJ,uK,uL,uM,uN,uO,uP,uQ]
 (refine ADrawT.walk [[0,3,6,13],[0,3,6,13],[0,3],[0,3],[0,3],[3,6,13],[0,3,6,13],[0,3,6,13],[0,3,6,13],[0,3,6,13],[0,3,6,13],[6,13],[0,3,6,13],[13,14]] mixedOrdersD (by kernel_rfl) (by kernel_rfl) ?_; simp only [go_sem,uA,uB,uC,uD,uE,uF,uG,uH,uI,uJ,uK,uL,uM,uN,uO,uP,uQ])
 have hall:(strs a.2.1).all (okEl 1)=true:=by simp [strs,okEl,AV.cells,AV.one]
 refine ⟨⟨by omega,by omega,hall⟩,by simp [fmem,Agree], ?_⟩
 refine ALoop.over [5,8,9,10,36,37,38,39,40,41,42,43,44,45,46,47,48,49,50,51,52,53,54,55,56,57,58,59,60,61,62,63,64,65] (fun e H=>∃ (k:Nat) (G:AV),k≤a.2.2.2.length∧e.getD 8 .any=.int .i64 k∧h.length+5≤H.length∧H[h.length]? = some (.arr 0 4 [rowA a])∧H[h.length+1]? = some (.arr 0 4 [rowA b])∧H[h.length+2]? = some (.arr 0 4 [rowC true true 0 [] 0 []])∧H[h.length+3]? = some (.arr 1 1 (strs a.2.1))∧H[h.length+4]? = some (.arr 0 4 [.agg [.int .i64 a.1,.sl (h.length+3) 1 1 0 a.2.1.length,.int .i64 (IntKind.i64.wrap (a.2.2.1+b.2.2.1)),G]])∧Grows H k (joinG (a.2.2.2.take k) b.2.2.2) G∧((a.2.2.2.zip b.2.2.2).take k).any joinB=false) (fun e _=>a.2.2.2.length - natA (e.getD 8 .any)) ⟨0,.fz true [],by omega,rfl,by simp,by simp [rowA],by simp [rowA],by simp [a3s,strs],by simp,by simp,.inl ⟨rfl,rfl⟩,by simp⟩ ?_
 simp only [List.length_cons,List.length_nil,Nat.reduceAdd,allL_succ,allL_zero]
 intro y5 y8 y9 y10 y36 y37 y38 y39 y40 y41 y42 y43 y44 y45 y46 y47 y48 y49 y50 y51 y52 y53 y54 y55 y56 y57 y58 y59 y60 y61 y62 y63 y64 y65 H hI
 simp only [go_sem] at hI
 obtain ⟨k,G,hk,rfl,hHl,hA,hB,hZ,hD,hR,hG,hall⟩:=hI
 simp only [rowA] at hA hB
 have hA':∀ x,(H++x)[h.length]? = _:=fun x=>(List.getElem?_append_left (by omega)).trans hA
 have hB':∀ x,(H++x)[h.length+1]? = _:=fun x=>(List.getElem?_append_left (by omega)).trans hB
 have hZ':∀ x,(H++x)[h.length+2]? = _:=fun x=>(List.getElem?_append_left (by omega)).trans hZ
 have hD':∀ x,(H++x)[h.length+3]? = _:=fun x=>(List.getElem?_append_left (by omega)).trans hD
 have hR':∀ x,(H++x)[h.length+4]? = _:=fun x=>(List.getElem?_append_left (by omega)).trans hR
 simp only [go_sem,hA,hB,hZ,hR,uA,uB,uC,uD,uE,uF,uG,uH,uI,uJ,uK,uL,uM,uN,uO,uP,uQ]
 refine acond_intro (fun hc=>?_) (fun hc=>?_)
 ·have hlt:k < a.2.2.2.length:=by have:=of_decide_eq_true hc; omega
  have hltb:k < b.2.2.2.length:=by omega
  simp only [go_sem,uA,uB,uC,uD,uE,uF,uG,uH,uI,uJ,uK,uL,uM,uN,uO,uP,uQ]
  (refine ADrawT.walk [[0],[0],[0],[0],[0],[0],[0],[0],[0],[0],[0,11,15],[11,15],[11,15],[11,15,16],[0,11,15],[15,16],[16]] mixedOrdersD (by kernel_rfl) (by kernel_rfl) ?_; simp only [go_sem,uA,uB,uC,uD,uE,uF,uG,uH,uI,uJ,uK,uL,uM,uN,uO,uP,uQ])
  simp only [go_sem,a3s_get _ k hlt,a3s_get _ k hltb,hA,hB,hZ,hR,uA,uB,uC,uD,uE,uF,uG,uH,uI,uJ,uK,uL,uM,uN,uO,uP,uQ]
  refine ⟨⟨by omega,by omega⟩,⟨by omega,by omega⟩, ?_⟩
  refine frX_same (.tup [a3A (joinF a.2.2.2[k] b.2.2.2[k]).1,.int .i64 (joinF a.2.2.2[k] b.2.2.2[k]).2]) ?_ ?_
  ·simp only [go_sem,a3s_get _ k hltb,a3s_get _ k hlt,uA,uB,uC,uD,uE,uF,uG,uH,uI,uJ,uK,uL,uM,uN,uO,uP,uQ]
   exact ACallT.frame (hjoin a.2.2.2[k] b.2.2.2[k] _) fun r h' e=>⟨by rw [e]; rfl,e,rfl⟩
  have hjb:joinB (a.2.2.2[k],b.2.2.2[k])=((joinF a.2.2.2[k] b.2.2.2[k]).2 != 0):=rfl
  have hsn:=joinG_snoc hlt hltb
  have htl:=joinG_tlen (ss:=a.2.2.2) (ms:=b.2.2.2) hk (by omega)
  have hz1:joinB (a.2.2.2[k],b.2.2.2[k])=true→(a.2.2.2.zip b.2.2.2).any joinB=true:=by
   intro q
   rw [List.any_eq_true]
   refine ⟨(a.2.2.2[k],b.2.2.2[k]), ?_,q⟩
   have:(a.2.2.2.zip b.2.2.2)[k]'(by simp; omega)=(a.2.2.2[k],b.2.2.2[k]):=List.getElem_zip
   rw [← this]; exact List.getElem_mem _
  generalize joinF a.2.2.2[k] b.2.2.2[k]=J at *
  simp only [go_sem,hA',hB',hZ',hR',uA,uB,uC,uD,uE,uF,uG,uH,uI,uJ,uK,uL,uM,uN,uO,uP,uQ]
  refine ⟨by simp [fmem,Agree,hA,hB,hA',hB'], ?_⟩
  refine acond_intro (fun hd=>?_) (fun hd=>?_)
  ·have hs2:∀ l v,((H++l).set (h.length+2) v)[h.length+2]? = some v:=fun l v=>List.getElem?_set_self (by simp; omega)
   have hC2:joinC a b=121:=by rw [hC,hz1 (hjb.trans hd)]; rfl
   simp only [go_sem,hA',hB',hZ',hR',hs2,uA,uB,uC,uD,uE,uF,uG,uH,uI,uJ,uK,uL,uM,uN,uO,uP,uQ]
   refine Fin_plain ?_
   rw [joinR_err hC2 (by decide),hC2]
   exact ⟨true,true,rfl⟩
  ·simp only [go_sem,hA',hB',hZ',hR',uA,uB,uC,uD,uE,uF,uG,uH,uI,uJ,uK,uL,uM,uN,uO,uP,uQ]
   rcases hG with ⟨hk0,rfl⟩ | ⟨hk0,t,g,rfl,hg⟩
   ·simp only [go_sem,uA,uB,uC,uD,uE,uF,uG,uH,uI,uJ,uK,uL,uM,uN,uO,uP,uQ]
    refine ⟨fun q=>absurd q (by simp),fun _=>?_⟩
    simp only [go_sem,hA',hB',hZ',hR',uA,uB,uC,uD,uE,uF,uG,uH,uI,uJ,uK,uL,uM,uN,uO,uP,uQ]
    refine ⟨⟨k+1,.sl (H.length+2) 0 3 0 1,by omega, ?_,by omega, ?_, ?_, ?_, ?_, ?_,.inr ⟨by omega,H.length+2,0, ?_, ?_⟩,(zipJ_bad hlt hltb hall).trans (hjb.trans hd)⟩, ?_⟩
    ·rw [wrap_id (by omega) (by omega)]; rfl
    ·rw [List.getElem?_set_ne (by omega)]; exact hA' _
    ·rw [List.getElem?_set_ne (by omega)]; exact hB' _
    ·rw [List.getElem?_set_ne (by omega)]; exact hZ' _
    ·rw [List.getElem?_set_ne (by omega)]; exact hD' _
    ·exact List.getElem?_set_self (by rw [List.length_append]; simp only [List.length_cons,List.length_nil]; omega)
    ·subst hk0; rfl
    ·rw [List.getElem?_set_ne (by omega),getElem?_app,hsn]; subst hk0; rfl
    ·rw [wrap_id (by omega) (by omega)]; omega
   ·have hg':∀ x,(H++x)[t]? = _:=fun x=>(List.getElem?_append_left (List.getElem?_eq_some_iff.1 hg).1).trans hg
    have htH:=(List.getElem?_eq_some_iff.1 hg).1
    have n0:t≠h.length:=by rintro rfl; rw [hA] at hg; simp at hg
    have n1:t≠h.length+1:=by rintro rfl; rw [hB] at hg; simp at hg
    have n2:t≠h.length+2:=by rintro rfl; rw [hZ] at hg; simp at hg
    have n3:t≠h.length+3:=by rintro rfl; rw [hD] at hg; simp at hg
    have n4:t≠h.length+4:=by rintro rfl; rw [hR] at hg; simp at hg
    have hR2:∀ l v,((H++l).set t v)[h.length+4]? = _:=fun l v=>(List.getElem?_set_ne n4).trans (hR' l)
    simp only [go_sem,hg',hA',hB',hZ',hR',hR2,uA,uB,uC,uD,uE,uF,uG,uH,uI,uJ,uK,uL,uM,uN,uO,uP,uQ]
    refine ⟨⟨by omega,by omega,by omega⟩,⟨k+1,.sl t (g+1) 3 0 (k+1),by omega, ?_,by omega, ?_, ?_, ?_, ?_, ?_,.inr ⟨by omega,t,g+1,rfl, ?_⟩,(zipJ_bad hlt hltb hall).trans (hjb.trans hd)⟩, ?_⟩
    ·rw [wrap_id (by omega) (by omega)]; rfl
    ·rw [List.getElem?_set_ne (by omega),List.getElem?_set_ne (by omega)]; exact hA' _
    ·rw [List.getElem?_set_ne (by omega),List.getElem?_set_ne (by omega)]; exact hB' _
    ·rw [List.getElem?_set_ne (by omega),List.getElem?_set_ne (by omega)]; exact hZ' _
    ·rw [List.getElem?_set_ne (by omega),List.getElem?_set_ne (by omega)]; exact hD' _
    ·rw [List.getElem?_set_self (by simp; omega),htl]
    ·rw [List.getElem?_set_ne (by omega),List.getElem?_set_self (by simp; omega),hsn]
     simp [a3s,a3A]
    ·rw [wrap_id (by omega) (by omega)]; omega
 ·obtain rfl:k=a.2.2.2.length:=by have:=of_decide_eq_false hc; omega
  have hs2:∀ v,(H.set (h.length+2) v)[h.length+2]? = some v:=fun v=>List.getElem?_set_self (by omega)
  have hz:(a.2.2.2.zip b.2.2.2).any joinB=false:=by
   rw [List.take_of_length_le (by simp; omega)] at hall; exact hall
  have hC2:joinC a b=0:=by rw [hC,hz]; rfl
  rw [joinR_ok hC2,hC2]
  rw [List.take_length] at hG
  simp only [go_sem,hA,hB,hZ,hR,hs2,uA,uB,uC,uD,uE,uF,uG,uH,uI,uJ,uK,uL,uM,uN,uO,uP,uQ]
  have hD2:∀ v,(H.set (h.length+2) v)[h.length+3]? = _:=fun v=>(List.getElem?_set_ne (by omega)).trans hD
  rcases hG with ⟨hk0,rfl⟩ | ⟨hk0,t,g,rfl,hg⟩
  ·refine ⟨rfl, ?_⟩
   refine Fin_freeze 5 ⟨false,true, ?_⟩
   have:joinG a.2.2.2 b.2.2.2=[]:=by simp [joinG,List.length_eq_zero_iff.1 hk0]
   rw [this]
   simp only [go_sem,hD2,uA,uB,uC,uD,uE,uF,uG,uH,uI,uJ,uK,uL,uM,uN,uO,uP,uQ]
   rw [frzO_all (strs_len _).symm (flatS _)]
   rfl
  ·have ht2:t≠h.length+2:=by rintro rfl; rw [hZ] at hg; simp at hg
   have hg':∀ v,(H.set (h.length+2) v)[t]? = _:=fun v=>(List.getElem?_set_ne (by omega)).trans hg
   refine ⟨rfl, ?_⟩
   refine Fin_freeze 5 ⟨false,false, ?_⟩
   simp only [go_sem,hg',hD2,uA,uB,uC,uD,uE,uF,uG,uH,uI,uJ,uK,uL,uM,uN,uO,uP,uQ]
   rw [frz_a3s (joinG_len hlab).symm,frzO_all (strs_len _).symm (flatS _)]
end Go.Proofs.Vale
namespace Go.Proofs.Vale
open Go.Proofs Go.Proofs.YtplehleekabbaaaGreatDoorT
attribute [local irreducible] acode aopsL aopsT dopsL dopsT pop popG aop ALoop ADraw ACall AWP AFin acondT ALoopT ADrawT ACallT doP doG doGd frL frT frX
def onesG (ms:List Int):List A3:=ms.map fun n=>(oneF n).1
def ofR (k t:Int) (dims:List Str) (ms:List Int):Rw:=bif k==0 then (t,dims,1,onesG ms) else zeroR
theorem ofR_err {k:Int} (t:Int) (dims:List Str) (ms:List Int) (hk:k≠0):ofR k t dims ms=zeroR:=by
 have:(k==0)=false:=by simpa using hk
 simp [ofR,this]
theorem onesG_snoc {ms:List Int} {k:Nat} (hm:k < ms.length):onesG (ms.take (k+1))=onesG (ms.take k)++[(oneF ms[k]).1]:=by
 rw [onesG,List.take_succ_eq_append_getElem hm,List.map_append]; rfl
theorem onesG_tlen {ms:List Int} {k:Nat} (hm:k≤ms.length):(onesG (ms.take k)).length=k:=by simp [onesG]; omega
theorem rwof_ok (a1 a2 c1 c2:Bool) (d m dims:List Str) (t:Int) (ms:List Int) (h:List AObj) (hd:dims.length≤8796093022000) (hm:ms.length≤4398046511104) (hv:∀ s∈dims,ValOk s):ACall Tryz.prog 37 [schA a1 a2 d m,evA' t c1 c2 dims ms] h (fun r _=>r=.tup [rowA (ofR (checkS d m t dims ms) t dims ms),.int .i64 (checkS d m t dims ms)]):=by
 refine ACall.tupW ?_
 have hone:=fun (n:Int) h=>aone_ok n h
 simp only [schA,evA']
 simp only [a3A] at hone
 (refine ACall.of_code Tryz.func37 rfl ?_; simp only [Tryz.f37]; simp only [go_sem,uA,uB,uC,uD,uE,uF,uG,uH,uI,uJ,uK,uL,uM,uN,uO,uP,uQ])
 (refine ACallT.frame (check_ok a1 a2 c1 c2 d m dims t ms _ (by omega) (by omega) hv) ?_; refine fun _ _ e=>?_; subst e; refine ⟨by (first | rfl | (simp only [AV.low,lowL,low_strs,Bool.and_true,Bool.and_self])), ?_⟩; simp only [go_sem,uA,uB,uC,uD,uE,uF,uG,uH,uI,uJ,uK,uL,uM,uN,uO,uP,uQ])
 generalize hk:checkS d m t dims ms=kk
 refine acond_intro (fun hc=>?_) (fun hc=>?_)
 ·have hk0:kk≠0:=by simpa using hc
  simp only [go_sem,uA,uB,uC,uD,uE,uF,uG,uH,uI,uJ,uK,uL,uM,uN,uO,uP,uQ]
  refine Fin_plain ?_
  rw [ofR_err t dims ms hk0]
  exact ⟨true,true,rfl⟩
 have hk0:kk=0:=by simpa using hc
 subst hk0
 simp only [go_sem,uA,uB,uC,uD,uE,uF,uG,uH,uI,uJ,uK,uL,uM,uN,uO,uP,uQ]
 (refine ADrawT.walk [[0,5,7],[0,5,7],[0],[0],[0,5,7],[5,7],[0,5,7],[7,8]] mixedOrdersD (by kernel_rfl) (by kernel_rfl) ?_; simp only [go_sem,uA,uB,uC,uD,uE,uF,uG,uH,uI,uJ,uK,uL,uM,uN,uO,uP,uQ])
 refine frX_same (.fz false (strs dims)) ?_ ?_
 ·simp only [go_sem,uA,uB,uC,uD,uE,uF,uG,uH,uI,uJ,uK,uL,uM,uN,uO,uP,uQ]
  exact ACallT.frame (clone_fz dims _ _ hd) fun r h' e=>⟨by rw [e]; simp [AV.low,low_strs],e,rfl⟩
 simp only [go_sem,uA,uB,uC,uD,uE,uF,uG,uH,uI,uJ,uK,uL,uM,uN,uO,uP,uQ]
 refine ⟨by simp [fmem,Agree], ?_⟩
 refine ALoop.over [9,10,11,28,29,30,31,32,33,34,35,36,37,38,39,40,41,42,43] (fun e H=>∃ (k:Nat) (G:AV),k≤ms.length∧e.getD 28 .any=.int .i64 k∧h.length+4≤H.length∧H[h.length]? = some (.arr 0 2 [schA a1 a2 d m])∧H[h.length+1]? = some (.arr 0 3 [evA' t c1 c2 dims ms])∧H[h.length+2]? = some (.arr 0 4 [rowC true true 0 [] 0 []])∧H[h.length+3]? = some (.arr 0 4 [.agg [.int .i64 t,.fz false (strs dims),.int .i64 1,G]])∧Grows H k (onesG (ms.take k)) G) (fun e _=>ms.length - natA (e.getD 28 .any)) ⟨0,.fz true [],by omega,rfl,by simp,by simp [schA],by simp [evA'],by simp [a3s,strs],by simp,.inl ⟨rfl,rfl⟩⟩ ?_
 simp only [List.length_cons,List.length_nil,Nat.reduceAdd,allL_succ,allL_zero]
 intro y9 y10 y11 y28 y29 y30 y31 y32 y33 y34 y35 y36 y37 y38 y39 y40 y41 y42 y43 H hI
 simp only [go_sem] at hI
 obtain ⟨k,G,hk,rfl,hHl,hA,hB,hZ,hR,hG⟩:=hI
 simp only [schA] at hA
 simp only [evA'] at hB
 have hA':∀ x,(H++x)[h.length]? = _:=fun x=>(List.getElem?_append_left (by omega)).trans hA
 have hB':∀ x,(H++x)[h.length+1]? = _:=fun x=>(List.getElem?_append_left (by omega)).trans hB
 have hZ':∀ x,(H++x)[h.length+2]? = _:=fun x=>(List.getElem?_append_left (by omega)).trans hZ
 have hR':∀ x,(H++x)[h.length+3]? = _:=fun x=>(List.getElem?_append_left (by omega)).trans hR
 simp only [go_sem,uA,uB,uC,uD,uE,uF,uG,uH,uI,uJ,uK,uL,uM,uN,uO,uP,uQ]
 refine acond_intro (fun hc=>?_) (fun hc=>?_)
 ·have hlt:k < ms.length:=by have:=of_decide_eq_true hc; omega
  simp only [go_sem,intsA_get _ k hlt,hA,hB,hZ,hR,uA,uB,uC,uD,uE,uF,uG,uH,uI,uJ,uK,uL,uM,uN,uO,uP,uQ]
  refine ⟨⟨by omega,by omega⟩, ?_⟩
  refine ACallT.frame (hone ms[k] _) ?_
  rintro _ _ rfl
  refine ⟨rfl, ?_⟩
  have hsn:=onesG_snoc hlt
  have htl:=onesG_tlen hk
  generalize oneF ms[k]=J at *
  simp only [go_sem,hA',hB',hZ',hR',uA,uB,uC,uD,uE,uF,uG,uH,uI,uJ,uK,uL,uM,uN,uO,uP,uQ]
  rcases hG with ⟨hk0,rfl⟩ | ⟨hk0,t',g,rfl,hg⟩
  ·simp only [go_sem,uA,uB,uC,uD,uE,uF,uG,uH,uI,uJ,uK,uL,uM,uN,uO,uP,uQ]
   refine ⟨fun q=>absurd q (by simp),fun _=>?_⟩
   simp only [go_sem,hA',hB',hZ',hR',uA,uB,uC,uD,uE,uF,uG,uH,uI,uJ,uK,uL,uM,uN,uO,uP,uQ]
   refine ⟨⟨k+1,.sl (H.length+2) 0 3 0 1,by omega, ?_,by omega, ?_, ?_, ?_, ?_,.inr ⟨by omega,H.length+2,0, ?_, ?_⟩⟩, ?_⟩
   ·rw [wrap_id (by omega) (by omega)]; rfl
   ·rw [List.getElem?_set_ne (by omega)]; exact hA' _
   ·rw [List.getElem?_set_ne (by omega)]; exact hB' _
   ·rw [List.getElem?_set_ne (by omega)]; exact hZ' _
   ·exact List.getElem?_set_self (by rw [List.length_append]; simp only [List.length_cons,List.length_nil]; omega)
   ·subst hk0; rfl
   ·rw [List.getElem?_set_ne (by omega),getElem?_app,hsn]; subst hk0; rfl
   ·rw [wrap_id (by omega) (by omega)]; omega
  ·have hg':∀ x,(H++x)[t']? = _:=fun x=>(List.getElem?_append_left (List.getElem?_eq_some_iff.1 hg).1).trans hg
   have htH:=(List.getElem?_eq_some_iff.1 hg).1
   have n0:t'≠h.length:=by rintro rfl; rw [hA] at hg; simp at hg
   have n1:t'≠h.length+1:=by
    rintro rfl; rw [hB] at hg
    simp only [Option.some.injEq,AObj.arr.injEq,a3s] at hg
    obtain ⟨-,-,hg⟩:=hg
    have hl3:=congrArg List.length hg
    simp at hl3
    rw [htl] at hl3
    cases hon:onesG (ms.take k) with
    | nil=>rw [hon] at htl; simp at htl; omega
    | cons x l=>rw [hon] at hg; simp [a3A] at hg
   have n2:t'≠h.length+2:=by rintro rfl; rw [hZ] at hg; simp at hg
   have nR:t'≠h.length+3:=by rintro rfl; rw [hR] at hg; simp at hg
   have hR2:∀ l v,((H++l).set t' v)[h.length+3]? = _:=fun l v=>(List.getElem?_set_ne nR).trans (hR' l)
   simp only [go_sem,hg',hA',hB',hZ',hR',hR2,uA,uB,uC,uD,uE,uF,uG,uH,uI,uJ,uK,uL,uM,uN,uO,uP,uQ]
   refine ⟨⟨by omega,by omega,by omega⟩,⟨k+1,.sl t' (g+1) 3 0 (k+1),by omega, ?_,by omega, ?_, ?_, ?_, ?_,.inr ⟨by omega,t',g+1,rfl, ?_⟩⟩, ?_⟩
   ·rw [wrap_id (by omega) (by omega)]; rfl
   ·rw [List.getElem?_set_ne (by omega),List.getElem?_set_ne (by omega)]; exact hA' _
   ·rw [List.getElem?_set_ne (by omega),List.getElem?_set_ne (by omega)]; exact hB' _
   ·rw [List.getElem?_set_ne (by omega),List.getElem?_set_ne (by omega)]; exact hZ' _
   ·rw [List.getElem?_set_self (by simp; omega),htl]
   ·rw [List.getElem?_set_ne (by omega),List.getElem?_set_self (by simp; omega),hsn]
    simp [a3s,a3A]
   ·rw [wrap_id (by omega) (by omega)]; omega
 ·obtain rfl:k=ms.length:=by have:=of_decide_eq_false hc; omega
  have hs2:∀ v,(H.set (h.length+2) v)[h.length+2]? = some v:=fun v=>List.getElem?_set_self (by omega)
  rw [List.take_length] at hG
  have hO:ofR 0 t dims ms=(t,dims,1,onesG ms):=rfl
  rw [hO]
  simp only [go_sem,hA,hB,hZ,hR,hs2,uA,uB,uC,uD,uE,uF,uG,uH,uI,uJ,uK,uL,uM,uN,uO,uP,uQ]
  rcases hG with ⟨hk0,rfl⟩ | ⟨hk0,t',g,rfl,hg⟩
  ·refine ⟨rfl, ?_⟩
   refine Fin_freeze 5 ⟨false,true, ?_⟩
   have:onesG ms=[]:=by simp [onesG,List.length_eq_zero_iff.1 hk0]
   rw [this]
   simp only [go_sem,List.length_nil,uA,uB,uC,uD,uE,uF,uG,uH,uI,uJ,uK,uL,uM,uN,uO,uP,uQ]
   try rfl
  ·have ht2:t'≠h.length+2:=by rintro rfl; rw [hZ] at hg; simp at hg
   have hg':∀ v,(H.set (h.length+2) v)[t']? = _:=fun v=>(List.getElem?_set_ne (by omega)).trans hg
   refine ⟨rfl, ?_⟩
   refine Fin_freeze 5 ⟨false,false, ?_⟩
   simp only [go_sem,hg',uA,uB,uC,uD,uE,uF,uG,uH,uI,uJ,uK,uL,uM,uN,uO,uP,uQ]
   rw [frz_a3s (by simp [onesG])]
end Go.Proofs.Vale
