/- YtplehleekabbaaaGreatDoorVRowA: a text of the proof of this claim, by its prover. -/
import Derived.Test.YtplehleekabbaaaGreatDoorVIngC
open Nat renaming reduceMul → uA, reduceLT → uB, reduceLeDiff → uC, reduceEqDiff → uD, reduceBEq → uE, lt_irrefl → uQ
open Int renaming toNat_natCast → uF, reduceToNat → uG, reduceNeg → uH, reduceLT → uI, reduceLE → uJ, reduceBEq → uK, reduceBNe → uL
open Bool renaming false_eq_true → uO
set_option linter.unusedVariables false
set_option linter.unusedSimpArgs false
set_option maxHeartbeats 4000000
set_option maxRecDepth 100000
namespace Go.Proofs.Vale
open Go.Proofs Go.Proofs.YtplehleekabbaaaGreatDoorT
attribute [local irreducible] acode aopsL aopsT dopsL dopsT pop popG aop ALoop ADraw ACall AWP AFin acondT ALoopT ADrawT ACallT doP doG doGd frL frT frX
def cmpI (a b:Int):Int:=bif decide (a < b) then -1 else bif decide (b < a) then 1 else 0
theorem cmpI_ok (a b:Int) (h:List AObj):ACall Tryz.prog 79 [.int .i64 a,.int .i64 b] h (fun r _=>r=.int .i64 (cmpI a b)):=by
 (refine ACall.of_code Tryz.func79 rfl ?_; simp only [Tryz.f79]; simp only [go_sem,uA,uB,uC,uD,uE,uF,uG,uH,uI,uJ,uK,uL,uM,uN,uO,uP,uQ])
 have nan:∀ (a:Int) (h:List AObj),ACall Tryz.prog 109 [.int .i64 a] h (fun r _=>r=.bool false):=by
  intro a h
  (refine ACall.of_code Tryz.func109 rfl ?_; simp only [Tryz.f109]; simp only [go_sem,uA,uB,uC,uD,uE,uF,uG,uH,uI,uJ,uK,uL,uM,uN,uO,uP,uQ])
  exact Fin_plain rfl
 (refine ACallT.frame (nan a _) ?_; refine fun _ _ e=>?_; subst e; refine ⟨by (first | rfl | (simp only [AV.low,lowL,low_strs,Bool.and_true,Bool.and_self])), ?_⟩; simp only [go_sem,uA,uB,uC,uD,uE,uF,uG,uH,uI,uJ,uK,uL,uM,uN,uO,uP,uQ])
 (refine ACallT.frame (nan b _) ?_; refine fun _ _ e=>?_; subst e; refine ⟨by (first | rfl | (simp only [AV.low,lowL,low_strs,Bool.and_true,Bool.and_self])), ?_⟩; simp only [go_sem,uA,uB,uC,uD,uE,uF,uG,uH,uI,uJ,uK,uL,uM,uN,uO,uP,uQ])
 refine acond_intro (fun hc=>?_) (fun hc=>?_)
 ·simp only [go_sem,uA,uB,uC,uD,uE,uF,uG,uH,uI,uJ,uK,uL,uM,uN,uO,uP,uQ]
  exact Fin_plain (by rw [cmpI,hc]; rfl)
 ·simp only [go_sem,uA,uB,uC,uD,uE,uF,uG,uH,uI,uJ,uK,uL,uM,uN,uO,uP,uQ]
  refine acond_intro (fun hd=>?_) (fun hd=>?_)
  ·simp only [go_sem,uA,uB,uC,uD,uE,uF,uG,uH,uI,uJ,uK,uL,uM,uN,uO,uP,uQ]
   exact Fin_plain (by rw [cmpI,hc,hd]; rfl)
  ·simp only [go_sem,uA,uB,uC,uD,uE,uF,uG,uH,uI,uJ,uK,uL,uM,uN,uO,uP,uQ]
   exact Fin_plain (by rw [cmpI,hc,hd]; rfl)
def cmpT (a b:Str):Int:=bif Op.bytesLess a b then -1 else bif Op.bytesLess b a then 1 else 0
theorem cmpT_ok (a b:Str) (h:List AObj):ACall Tryz.prog 110 [.str a,.str b] h (fun r _=>r=.int .i64 (cmpT a b)):=by
 (refine ACall.of_code Tryz.func110 rfl ?_; simp only [Tryz.f110]; simp only [go_sem,uA,uB,uC,uD,uE,uF,uG,uH,uI,uJ,uK,uL,uM,uN,uO,uP,uQ])
 have nan:∀ (a:Str) (h:List AObj),ACall Tryz.prog 141 [.str a] h (fun r _=>r=.bool false):=by
  intro a h
  (refine ACall.of_code Tryz.func141 rfl ?_; simp only [Tryz.f141]; simp only [go_sem,uA,uB,uC,uD,uE,uF,uG,uH,uI,uJ,uK,uL,uM,uN,uO,uP,uQ])
  exact Fin_plain (by simp)
 (refine ACallT.frame (nan a _) ?_; refine fun _ _ e=>?_; subst e; refine ⟨by (first | rfl | (simp only [AV.low,lowL,low_strs,Bool.and_true,Bool.and_self])), ?_⟩; simp only [go_sem,uA,uB,uC,uD,uE,uF,uG,uH,uI,uJ,uK,uL,uM,uN,uO,uP,uQ])
 (refine ACallT.frame (nan b _) ?_; refine fun _ _ e=>?_; subst e; refine ⟨by (first | rfl | (simp only [AV.low,lowL,low_strs,Bool.and_true,Bool.and_self])), ?_⟩; simp only [go_sem,uA,uB,uC,uD,uE,uF,uG,uH,uI,uJ,uK,uL,uM,uN,uO,uP,uQ])
 refine acond_intro (fun hc=>?_) (fun hc=>?_)
 ·simp only [go_sem,uA,uB,uC,uD,uE,uF,uG,uH,uI,uJ,uK,uL,uM,uN,uO,uP,uQ]
  exact Fin_plain (by rw [cmpT,hc]; rfl)
 ·simp only [go_sem,uA,uB,uC,uD,uE,uF,uG,uH,uI,uJ,uK,uL,uM,uN,uO,uP,uQ]
  refine acond_intro (fun hd=>?_) (fun hd=>?_)
  ·simp only [go_sem,uA,uB,uC,uD,uE,uF,uG,uH,uI,uJ,uK,uL,uM,uN,uO,uP,uQ]
   exact Fin_plain (by rw [cmpT,hc,hd]; rfl)
  ·simp only [go_sem,uA,uB,uC,uD,uE,uF,uG,uH,uI,uJ,uK,uL,uM,uN,uO,uP,uQ]
   exact Fin_plain (by rw [cmpT,hc,hd]; rfl)
def cmpTs:List Str→List Str→Int
 | [],[]=>0
 | [],_::_=>-1
 | _::_,[]=>1
 | a::l,b::m=>bif cmpT a b != 0 then cmpT a b else cmpTs l m
theorem cmpTs_nil (b:List Str):cmpTs [] b=bif decide ((0:Int) < b.length) then -1 else 0:=by
 cases b with
 | nil=>rfl
 | cons a l =>
  have:decide ((0:Int) < ((a::l).length:Int))=true:=by simp
  rw [this]; rfl
theorem cmpTs_ok (a b:List Str) (c1 c2:Bool) (h:List AObj) (ha:a.length≤4611686018427387904) (hb:b.length≤4611686018427387904):ACall Tryz.prog 80 [.fz c1 (strs a),.fz c2 (strs b)] h (fun r _=>r=.int .i64 (cmpTs a b)):=by
 (refine ACall.of_code Tryz.func80 rfl ?_; simp only [Tryz.f80]; simp only [go_sem,uA,uB,uC,uD,uE,uF,uG,uH,uI,uJ,uK,uL,uM,uN,uO,uP,uQ])
 refine ALoop.over [4,5,6,7,8,11,12,13,14,15,16,17,18,19,20,21,22,23,24,25,26,27,28,29,30] (fun e h'=>∃ k:Nat,k≤a.length∧k≤b.length∧e.getD 11 .any=.int .i64 k∧cmpTs a b=cmpTs (a.drop k) (b.drop k)) (fun e _=>a.length - natA (e.getD 11 .any)) ⟨0,by omega,by omega,rfl,rfl⟩ ?_
 simp only [List.length_cons,List.length_nil,Nat.reduceAdd,allL_succ,allL_zero]
 intro y4 y5 y6 y7 y8 y11 y12 y13 y14 y15 y16 y17 y18 y19 y20 y21 y22 y23 y24 y25 y26 y27 y28 y29 y30 h1 hI
 simp only [go_sem] at hI
 obtain ⟨k,hk,hkb,rfl,hall⟩:=hI
 simp only [go_sem,uA,uB,uC,uD,uE,uF,uG,uH,uI,uJ,uK,uL,uM,uN,uO,uP,uQ]
 refine acond_intro (fun hc=>?_) (fun hc=>?_)
 ·have hlt:k < a.length:=by have:=of_decide_eq_true hc; omega
  have hda:a.drop k=a[k]::a.drop (k+1):=(List.getElem_cons_drop hlt).symm
  simp only [go_sem,strs_get a k hlt,uA,uB,uC,uD,uE,uF,uG,uH,uI,uJ,uK,uL,uM,uN,uO,uP,uQ]
  refine ⟨⟨by omega,by omega⟩, ?_⟩
  refine acond_intro (fun hd=>?_) (fun hd=>?_)
  ·simp only [go_sem,uA,uB,uC,uD,uE,uF,uG,uH,uI,uJ,uK,uL,uM,uN,uO,uP,uQ]
   refine Fin_plain ?_
   have:b.drop k=[]:=by rw [List.drop_eq_nil_iff]; have:=of_decide_eq_true hd; omega
   rw [hall,hda,this]; rfl
  ·have hltb:k < b.length:=by have:=of_decide_eq_false hd; omega
   have hdb:b.drop k=b[k]::b.drop (k+1):=(List.getElem_cons_drop hltb).symm
   simp only [go_sem,strs_get b k hltb,uA,uB,uC,uD,uE,uF,uG,uH,uI,uJ,uK,uL,uM,uN,uO,uP,uQ]
   refine ⟨⟨by omega,by omega⟩, ?_⟩
   (refine ACallT.frame (cmpT_ok a[k] b[k] _) ?_; refine fun _ _ e=>?_; subst e; refine ⟨by (first | rfl | (simp only [AV.low,lowL,low_strs,Bool.and_true,Bool.and_self])), ?_⟩; simp only [go_sem,uA,uB,uC,uD,uE,uF,uG,uH,uI,uJ,uK,uL,uM,uN,uO,uP,uQ])
   have hst:cmpTs a b=bif cmpT a[k] b[k] != 0 then cmpT a[k] b[k] else cmpTs (a.drop (k+1)) (b.drop (k+1)):=by rw [hall,hda,hdb]; rfl
   refine acond_intro (fun he=>?_) (fun he=>?_)
   ·simp only [go_sem,uA,uB,uC,uD,uE,uF,uG,uH,uI,uJ,uK,uL,uM,uN,uO,uP,uQ]
    refine Fin_plain ?_
    rw [hst,he]; rfl
   ·simp only [go_sem,uA,uB,uC,uD,uE,uF,uG,uH,uI,uJ,uK,uL,uM,uN,uO,uP,uQ]
    rw [wrap_id (by omega) (by omega)]
    refine ⟨⟨k+1,by omega,by omega,rfl, ?_⟩,by omega⟩
    rw [hst,he]; rfl
 ·have:k=a.length:=by have:=of_decide_eq_false hc; omega
  subst this
  simp only [go_sem,uA,uB,uC,uD,uE,uF,uG,uH,uI,uJ,uK,uL,uM,uN,uO,uP,uQ]
  have hda:a.drop a.length=[]:=List.drop_length
  rw [hda,cmpTs_nil,List.length_drop] at hall
  have e1:decide ((0:Int) < ((b.length - a.length:Nat):Int))=decide ((a.length:Int) < (b.length:Int)):=by congr 1; simp; omega
  rw [e1] at hall
  refine acond_intro (fun hd=>?_) (fun hd=>?_)
  ·simp only [go_sem,uA,uB,uC,uD,uE,uF,uG,uH,uI,uJ,uK,uL,uM,uN,uO,uP,uQ]
   exact Fin_plain (by rw [hall,hd]; rfl)
  ·simp only [go_sem,uA,uB,uC,uD,uE,uF,uG,uH,uI,uJ,uK,uL,uM,uN,uO,uP,uQ]
   exact Fin_plain (by rw [hall,hd]; rfl)
theorem cmpOr_ok (a b:Int) (c:Bool) (h:List AObj):ACall Tryz.prog 78 [.fz c [.int .i64 a,.int .i64 b]] h (fun r _=>r=.int .i64 (bif a != 0 then a else b)):=by
 (refine ACall.of_code Tryz.func78 rfl ?_; simp only [Tryz.f78]; simp only [go_sem,uA,uB,uC,uD,uE,uF,uG,uH,uI,uJ,uK,uL,uM,uN,uO,uP,uQ])
 refine ALoop.over [2,5,8,9,10,11,12,13,14,15,16] (fun e h'=>∃ k:Nat,k≤2∧e.getD 8 .any=.int .i64 k∧(0 < k→a=0)∧(1 < k→b=0)) (fun e _=>2 - natA (e.getD 8 .any)) ⟨0,by omega,rfl,by simp,by simp⟩ ?_
 simp only [List.length_cons,List.length_nil,Nat.reduceAdd,allL_succ,allL_zero]
 intro y2 y5 y8 y9 y10 y11 y12 y13 y14 y15 y16 h1 hI
 simp only [go_sem] at hI
 obtain ⟨k,hk,rfl,h0,h1'⟩:=hI
 obtain rfl | rfl | rfl:k=0∨k=1∨k=2:=by omega
 ·simp only [go_sem,show ((0:Nat):Int)=0 from rfl,show ((1:Nat):Int)=1 from rfl,show ((2:Nat):Int)=2 from rfl,List.getD_cons_zero,List.getD_cons_succ,uA,uB,uC,uD,uE,uF,uG,uH,uI,uJ,uK,uL,uM,uN,uO,uP,uQ]
  refine acond_intro (fun he=>?_) (fun he=>?_)
  ·simp only [go_sem,uA,uB,uC,uD,uE,uF,uG,uH,uI,uJ,uK,uL,uM,uN,uO,uP,uQ]
   exact Fin_plain (by rw [he]; rfl)
  ·simp only [go_sem,uA,uB,uC,uD,uE,uF,uG,uH,uI,uJ,uK,uL,uM,uN,uO,uP,uQ]
   refine ⟨by first | rfl | trivial,⟨1,by omega,rfl,fun _=>by simpa using he,fun q=>by omega⟩,by decide⟩
 ·have ha:=h0 (by omega)
  subst ha
  simp only [go_sem,show ((0:Nat):Int)=0 from rfl,show ((1:Nat):Int)=1 from rfl,show ((2:Nat):Int)=2 from rfl,List.getD_cons_zero,List.getD_cons_succ,uA,uB,uC,uD,uE,uF,uG,uH,uI,uJ,uK,uL,uM,uN,uO,uP,uQ]
  refine acond_intro (fun he=>?_) (fun he=>?_)
  ·simp only [go_sem,uA,uB,uC,uD,uE,uF,uG,uH,uI,uJ,uK,uL,uM,uN,uO,uP,uQ]
   exact Fin_plain rfl
  ·simp only [go_sem,uA,uB,uC,uD,uE,uF,uG,uH,uI,uJ,uK,uL,uM,uN,uO,uP,uQ]
   refine ⟨by first | rfl | trivial,⟨2,by omega,rfl,fun q=>by simpa using he⟩,by decide⟩
 ·have ha:=h0 (by omega)
  have hb:=h1' (by omega)
  subst ha hb
  simp only [go_sem,show ((0:Nat):Int)=0 from rfl,show ((1:Nat):Int)=1 from rfl,show ((2:Nat):Int)=2 from rfl,List.getD_cons_zero,List.getD_cons_succ,uA,uB,uC,uD,uE,uF,uG,uH,uI,uJ,uK,uL,uM,uN,uO,uP,uQ]
  exact Fin_plain rfl
abbrev Rw:=Int × List Str × Int × List A3
def a3s (l:List A3):List AV:=l.map a3A
def rowA (r:Rw):AV:=.agg [.int .i64 r.1,.fz false (strs r.2.1),.int .i64 r.2.2.1,.fz false (a3s r.2.2.2)]
def cmpR (a b:Rw):Int:=bif cmpI a.1 b.1 != 0 then cmpI a.1 b.1 else cmpTs a.2.1 b.2.1
theorem cmpR_ok (a b:Rw) (h:List AObj) (ha:a.2.1.length≤4611686018427387904) (hb:b.2.1.length≤4611686018427387904):ACall Tryz.prog 44 [rowA a,rowA b] h (fun r _=>r=.int .i64 (cmpR a b)):=by
 simp only [rowA]
 (refine ACall.of_code Tryz.func44 rfl ?_; simp only [Tryz.f44]; simp only [go_sem,uA,uB,uC,uD,uE,uF,uG,uH,uI,uJ,uK,uL,uM,uN,uO,uP,uQ])
 (refine ADrawT.walk [[0],[0],[0],[0],[0,5],[0,5],[0,5],[0,5],[0,5],[5,10],[10,11],[11,12],[12]] mixedOrdersD (by kernel_rfl) (by kernel_rfl) ?_; simp only [go_sem,uA,uB,uC,uD,uE,uF,uG,uH,uI,uJ,uK,uL,uM,uN,uO,uP,uQ])
 refine frX_same (.int .i64 (cmpI a.1 b.1)) ?_ ?_
 ·simp only [go_sem,uA,uB,uC,uD,uE,uF,uG,uH,uI,uJ,uK,uL,uM,uN,uO,uP,uQ]
  exact ACallT.frame (cmpI_ok a.1 b.1 _) fun r h' e=>⟨by rw [e]; rfl,e,rfl⟩
 simp only [go_sem,uA,uB,uC,uD,uE,uF,uG,uH,uI,uJ,uK,uL,uM,uN,uO,uP,uQ]
 refine frX_same (.int .i64 (cmpTs a.2.1 b.2.1)) ?_ ?_
 ·simp only [go_sem,uA,uB,uC,uD,uE,uF,uG,uH,uI,uJ,uK,uL,uM,uN,uO,uP,uQ]
  exact ACallT.frame (cmpTs_ok a.2.1 b.2.1 _ _ _ ha hb) fun r h' e=>⟨by rw [e]; rfl,e,rfl⟩
 simp only [go_sem,uA,uB,uC,uD,uE,uF,uG,uH,uI,uJ,uK,uL,uM,uN,uO,uP,uQ]
 refine frX_same (.int .i64 (cmpR a b)) ?_ ?_
 ·simp only [go_sem,uA,uB,uC,uD,uE,uF,uG,uH,uI,uJ,uK,uL,uM,uN,uO,uP,uQ]
  refine ACallT.pure (by simp only [go_sem,uA,uB,uC,uD,uE,uF,uG,uH,uI,uJ,uK,uL,uM,uN,uO,uP,uQ]; rfl) (by first | trivial | assumption | (simp only [go_sem,uA,uB,uC,uD,uE,uF,uG,uH,uI,uJ,uK,uL,uM,uN,uO,uP,uQ]; done) | (simp only [go_sem,uA,uB,uC,uD,uE,uF,uG,uH,uI,uJ,uK,uL,uM,uN,uO,uP,uQ]; first | trivial | assumption | omega | decide | (refine ⟨?_, ?_⟩ <;> first | trivial | assumption | omega | decide))) (cmpOr_ok _ _ _ _) fun r h' e=>⟨by rw [e]; rfl,e,rfl⟩
 simp only [go_sem,uA,uB,uC,uD,uE,uF,uG,uH,uI,uJ,uK,uL,uM,uN,uO,uP,uQ]
 refine ⟨by simp [fmem,Agree], ?_⟩
 exact Fin_plain rfl
theorem rtexts_ok (a b:List Str) (c1 c2:Bool) (h:List AObj) (ha:a.length≤4611686018427387904) (hb:b.length≤4611686018427387904):ACall Tryz.prog 111 [.fz c1 (strs a),.fz c2 (strs b)] h (fun r _=>r=.bool (decide (a=b))):=by
 (refine ACall.of_code Tryz.func111 rfl ?_; simp only [Tryz.f111]; simp only [go_sem,uA,uB,uC,uD,uE,uF,uG,uH,uI,uJ,uK,uL,uM,uN,uO,uP,uQ])
 refine acond_intro (fun hc=>?_) (fun hc=>?_)
 ·simp only [go_sem,uA,uB,uC,uD,uE,uF,uG,uH,uI,uJ,uK,uL,uM,uN,uO,uP,uQ]
  refine Fin_plain ?_
  have:a.length≠b.length:=by intro e; rw [e] at hc; simp at hc
  rw [decide_eq_false]; rintro rfl; exact this rfl
 ·have hab:a.length=b.length:=by simp at hc; omega
  simp only [go_sem,uA,uB,uC,uD,uE,uF,uG,uH,uI,uJ,uK,uL,uM,uN,uO,uP,uQ]
  refine ALoop.over [4,5,11,12,13,14,15,16,17,18,19,20,21,22,23,24,25] (fun e h'=>∃ k:Nat,k≤a.length∧e.getD 5 .any=.int .i64 k∧a.take k=b.take k) (fun e _=>a.length - natA (e.getD 5 .any)) ⟨0,by omega,rfl,by simp⟩ ?_
  simp only [List.length_cons,List.length_nil,Nat.reduceAdd,allL_succ,allL_zero]
  intro y4 y5 y11 y12 y13 y14 y15 y16 y17 y18 y19 y20 y21 y22 y23 y24 y25 h1 hI
  simp only [go_sem] at hI
  obtain ⟨k,hk,rfl,hall⟩:=hI
  simp only [go_sem,uA,uB,uC,uD,uE,uF,uG,uH,uI,uJ,uK,uL,uM,uN,uO,uP,uQ]
  refine acond_intro (fun hc=>?_) (fun hc=>?_)
  ·have hlt:k < a.length:=by have:=of_decide_eq_true hc; omega
   have hltb:k < b.length:=by omega
   simp only [go_sem,uA,uB,uC,uD,uE,uF,uG,uH,uI,uJ,uK,uL,uM,uN,uO,uP,uQ]
   (refine ADrawT.mem [] mixedOrdersD (by kernel_rfl) (by kernel_rfl) ?_; simp only [go_sem,uA,uB,uC,uD,uE,uF,uG,uH,uI,uJ,uK,uL,uM,uN,uO,uP,uQ])
   simp only [go_sem,strs_get a k hlt,strs_get b k hltb,uA,uB,uC,uD,uE,uF,uG,uH,uI,uJ,uK,uL,uM,uN,uO,uP,uQ]
   refine ⟨⟨by omega,by omega⟩,⟨by omega,by omega⟩,by simp [okAcc], ?_⟩
   refine acond_intro (fun hd=>?_) (fun hd=>?_)
   ·simp only [go_sem,uA,uB,uC,uD,uE,uF,uG,uH,uI,uJ,uK,uL,uM,uN,uO,uP,uQ]
    refine Fin_plain ?_
    rw [decide_eq_false]; rintro rfl
    simp at hd
   ·simp only [go_sem,uA,uB,uC,uD,uE,uF,uG,uH,uI,uJ,uK,uL,uM,uN,uO,uP,uQ]
    rw [wrap_id (by omega) (by omega)]
    have e:a[k]=b[k]:=by simpa using hd
    refine ⟨⟨k+1,by omega,rfl, ?_⟩,by omega⟩
    rw [List.take_succ_eq_append_getElem hlt,List.take_succ_eq_append_getElem hltb,hall,e]
  ·have:k=a.length:=by have:=of_decide_eq_false hc; omega
   subst this
   simp only [go_sem,uA,uB,uC,uD,uE,uF,uG,uH,uI,uJ,uK,uL,uM,uN,uO,uP,uQ]
   refine Fin_plain ?_
   rw [List.take_length,hab,List.take_length] at hall
   rw [hall]; simp
@[go_sem] theorem a3s_len (l:List A3):(a3s l).length=l.length:=by simp [a3s]
theorem a3s_get (l:List A3) (k:Nat) (h:k < l.length):(a3s l).getD k .any=.agg [.int .i64 l[k].s,.int .i64 l[k].mn,.int .i64 l[k].mx]:=by simp [a3s,a3A,List.getD_eq_getElem?_getD,h]
instance:DecidableEq A3:=fun a b=>by
 cases a with | mk a1 a2 a3 =>
 cases b with | mk b1 b2 b3 =>
 rw [A3.mk.injEq]; exact inferInstance
theorem a3_eq (a b:A3):(a.s==b.s && (a.mn==b.mn && a.mx==b.mx))=decide (a=b):=by
 cases a with | mk a1 a2 a3 =>
 cases b with | mk b1 b2 b3 =>
 by_cases e1:a1=b1 <;> by_cases e2:a2=b2 <;> by_cases e3:a3=b3 <;> simp [e1,e2,e3]
theorem rsameA_ok (a b:List A3) (c1 c2:Bool) (h:List AObj) (ha:a.length≤4611686018427387904) (hb:b.length≤4611686018427387904):ACall Tryz.prog 85 [.fz c1 (a3s a),.fz c2 (a3s b)] h (fun r _=>r=.bool (decide (a=b))):=by
 (refine ACall.of_code Tryz.func85 rfl ?_; simp only [Tryz.f85]; simp only [go_sem,uA,uB,uC,uD,uE,uF,uG,uH,uI,uJ,uK,uL,uM,uN,uO,uP,uQ])
 refine acond_intro (fun hc=>?_) (fun hc=>?_)
 ·simp only [go_sem,uA,uB,uC,uD,uE,uF,uG,uH,uI,uJ,uK,uL,uM,uN,uO,uP,uQ]
  refine Fin_plain ?_
  have:a.length≠b.length:=by intro e; rw [e] at hc; simp at hc
  rw [decide_eq_false]; rintro rfl; exact this rfl
 ·have hab:a.length=b.length:=by simp at hc; omega
  simp only [go_sem,uA,uB,uC,uD,uE,uF,uG,uH,uI,uJ,uK,uL,uM,uN,uO,uP,uQ]
  refine ALoop.over [4,5,11,12,13,14,15,16,17,18,19,20,21,22,23,24,25] (fun e h'=>∃ k:Nat,k≤a.length∧e.getD 5 .any=.int .i64 k∧a.take k=b.take k) (fun e _=>a.length - natA (e.getD 5 .any)) ⟨0,by omega,rfl,by simp⟩ ?_
  simp only [List.length_cons,List.length_nil,Nat.reduceAdd,allL_succ,allL_zero]
  intro y4 y5 y11 y12 y13 y14 y15 y16 y17 y18 y19 y20 y21 y22 y23 y24 y25 h1 hI
  simp only [go_sem] at hI
  obtain ⟨k,hk,rfl,hall⟩:=hI
  simp only [go_sem,uA,uB,uC,uD,uE,uF,uG,uH,uI,uJ,uK,uL,uM,uN,uO,uP,uQ]
  refine acond_intro (fun hc=>?_) (fun hc=>?_)
  ·have hlt:k < a.length:=by have:=of_decide_eq_true hc; omega
   have hltb:k < b.length:=by omega
   simp only [go_sem,uA,uB,uC,uD,uE,uF,uG,uH,uI,uJ,uK,uL,uM,uN,uO,uP,uQ]
   (refine ADrawT.mem [] mixedOrdersD (by kernel_rfl) (by kernel_rfl) ?_; simp only [go_sem,uA,uB,uC,uD,uE,uF,uG,uH,uI,uJ,uK,uL,uM,uN,uO,uP,uQ])
   simp only [go_sem,a3s_get a k hlt,a3s_get b k hltb,uA,uB,uC,uD,uE,uF,uG,uH,uI,uJ,uK,uL,uM,uN,uO,uP,uQ]
   refine ⟨⟨by omega,by omega⟩,⟨by omega,by omega⟩,by simp [okAcc], ?_⟩
   have heq:(a[k].s==b[k].s && (a[k].mn==b[k].mn && a[k].mx==b[k].mx))=decide (a[k]=b[k]):=a3_eq _ _
   rw [heq]
   refine acond_intro (fun hd=>?_) (fun hd=>?_)
   ·simp only [go_sem,uA,uB,uC,uD,uE,uF,uG,uH,uI,uJ,uK,uL,uM,uN,uO,uP,uQ]
    refine Fin_plain ?_
    rw [decide_eq_false]; rintro rfl
    simp at hd
   ·simp only [go_sem,uA,uB,uC,uD,uE,uF,uG,uH,uI,uJ,uK,uL,uM,uN,uO,uP,uQ]
    rw [wrap_id (by omega) (by omega)]
    have e:a[k]=b[k]:=by simpa using hd
    refine ⟨⟨k+1,by omega,rfl, ?_⟩,by omega⟩
    rw [List.take_succ_eq_append_getElem hlt,List.take_succ_eq_append_getElem hltb,hall,e]
  ·have:k=a.length:=by have:=of_decide_eq_false hc; omega
   subst this
   simp only [go_sem,uA,uB,uC,uD,uE,uF,uG,uH,uI,uJ,uK,uL,uM,uN,uO,uP,uQ]
   refine Fin_plain ?_
   rw [List.take_length,hab,List.take_length] at hall
   rw [hall]; simp
def keyB (a b:Rw):Bool:=decide (a.2.1=b.2.1) && (a.1==b.1)
theorem roneKey_ok (a b:Rw) (h:List AObj) (ha:a.2.1.length≤4611686018427387904) (hb:b.2.1.length≤4611686018427387904):ACall Tryz.prog 83 [rowA a,rowA b] h (fun r _=>r=.bool (keyB a b)):=by
 simp only [rowA]
 (refine ACall.of_code Tryz.func83 rfl ?_; simp only [Tryz.f83]; simp only [go_sem,uA,uB,uC,uD,uE,uF,uG,uH,uI,uJ,uK,uL,uM,uN,uO,uP,uQ])
 (refine ACallT.frame (rtexts_ok a.2.1 b.2.1 _ _ _ ha hb) ?_; refine fun _ _ e=>?_; subst e; refine ⟨by (first | rfl | (simp only [AV.low,lowL,low_strs,Bool.and_true,Bool.and_self])), ?_⟩; simp only [go_sem,uA,uB,uC,uD,uE,uF,uG,uH,uI,uJ,uK,uL,uM,uN,uO,uP,uQ])
 have e:keyB a b=(decide (a.2.1=b.2.1) && (a.1==b.1)):=rfl
 generalize decide (a.2.1=b.2.1)=z at *
 cases z with
 | false=>simp only [go_sem,uA,uB,uC,uD,uE,uF,uG,uH,uI,uJ,uK,uL,uM,uN,uO,uP,uQ]; exact Fin_plain (by rw [e]; rfl)
 | true=>simp only [go_sem,uA,uB,uC,uD,uE,uF,uG,uH,uI,uJ,uK,uL,uM,uN,uO,uP,uQ]; exact Fin_plain (by rw [e]; rfl)
def oneB (a b:Rw):Bool:=keyB a b && decide (a.2.2.2=b.2.2.2) && (a.2.2.1==b.2.2.1)
theorem oneB_eq (a b:Rw):oneB a b=decide (a=b):=by
 obtain ⟨a1,a2,a3,a4⟩:=a
 obtain ⟨b1,b2,b3,b4⟩:=b
 simp only [oneB,keyB]
 by_cases e1:a1=b1 <;> by_cases e2:a2=b2 <;> by_cases e3:a3=b3 <;> by_cases e4:a4=b4 <;> simp [e1,e2,e3,e4]
theorem rone_ok (a b:Rw) (h:List AObj) (ha:a.2.1.length≤4611686018427387904) (hb:b.2.1.length≤4611686018427387904) (ha2:a.2.2.2.length≤4611686018427387904) (hb2:b.2.2.2.length≤4611686018427387904):ACall Tryz.prog 49 [rowA a,rowA b] h (fun r _=>r=.bool (decide (a=b))):=by
 rw [← oneB_eq]
 simp only [rowA]
 (refine ACall.of_code Tryz.func49 rfl ?_; simp only [Tryz.f49]; simp only [go_sem,uA,uB,uC,uD,uE,uF,uG,uH,uI,uJ,uK,uL,uM,uN,uO,uP,uQ])
 have hk:=fun h=>roneKey_ok a b h ha hb
 simp only [rowA] at hk
 (refine ACallT.frame (hk _) ?_; refine fun _ _ e=>?_; subst e; refine ⟨by (first | rfl | (simp only [AV.low,lowL,low_strs,Bool.and_true,Bool.and_self])), ?_⟩; simp only [go_sem,uA,uB,uC,uD,uE,uF,uG,uH,uI,uJ,uK,uL,uM,uN,uO,uP,uQ])
 (refine ACallT.frame (rsameA_ok a.2.2.2 b.2.2.2 _ _ _ ha2 hb2) ?_; refine fun _ _ e=>?_; subst e; refine ⟨by (first | rfl | (simp only [AV.low,lowL,low_strs,Bool.and_true,Bool.and_self])), ?_⟩; simp only [go_sem,uA,uB,uC,uD,uE,uF,uG,uH,uI,uJ,uK,uL,uM,uN,uO,uP,uQ])
 have e:oneB a b=(keyB a b && decide (a.2.2.2=b.2.2.2) && (a.2.2.1==b.2.2.1)):=rfl
 generalize decide (a.2.2.2=b.2.2.2)=z at *
 generalize keyB a b=y at *
 cases y with
 | false=>simp only [go_sem,uA,uB,uC,uD,uE,uF,uG,uH,uI,uJ,uK,uL,uM,uN,uO,uP,uQ]; exact Fin_plain (by rw [e]; rfl)
 | true =>
  cases z with
  | false=>simp only [go_sem,uA,uB,uC,uD,uE,uF,uG,uH,uI,uJ,uK,uL,uM,uN,uO,uP,uQ]; exact Fin_plain (by rw [e]; rfl)
  | true=>simp only [go_sem,uA,uB,uC,uD,uE,uF,uG,uH,uI,uJ,uK,uL,uM,uN,uO,uP,uQ]; exact Fin_plain (by rw [e]; rfl)
def rowsA (l:List Rw):List AV:=l.map rowA
@[go_sem] theorem rowsA_len (l:List Rw):(rowsA l).length=l.length:=by simp [rowsA]
theorem rowsA_get (l:List Rw) (k:Nat) (h:k < l.length):(rowsA l).getD k .any=.agg [.int .i64 l[k].1,.fz false (strs l[k].2.1),.int .i64 l[k].2.2.1,.fz false (a3s l[k].2.2.2)]:=by simp [rowsA,rowA,List.getD_eq_getElem?_getD,h]
def RwOk (r:Rw):Prop:=r.2.1.length≤4611686018427387904∧r.2.2.2.length≤4611686018427387904
theorem rsame_ok (a b:List Rw) (c1 c2:Bool) (h:List AObj) (ha:a.length≤4611686018427387904) (hb:b.length≤4611686018427387904) (hra:∀ r∈a,RwOk r) (hrb:∀ r∈b,RwOk r):ACall Tryz.prog 18 [.fz c1 (rowsA a),.fz c2 (rowsA b)] h (fun r _=>r=.bool (decide (a=b))):=by
 (refine ACall.of_code Tryz.func18 rfl ?_; simp only [Tryz.f18]; simp only [go_sem,uA,uB,uC,uD,uE,uF,uG,uH,uI,uJ,uK,uL,uM,uN,uO,uP,uQ])
 refine acond_intro (fun hc=>?_) (fun hc=>?_)
 ·simp only [go_sem,uA,uB,uC,uD,uE,uF,uG,uH,uI,uJ,uK,uL,uM,uN,uO,uP,uQ]
  refine Fin_plain ?_
  have:a.length≠b.length:=by intro e; rw [e] at hc; simp at hc
  rw [decide_eq_false]; rintro rfl; exact this rfl
 ·have hab:a.length=b.length:=by simp at hc; omega
  simp only [go_sem,uA,uB,uC,uD,uE,uF,uG,uH,uI,uJ,uK,uL,uM,uN,uO,uP,uQ]
  refine ALoop.over [4,5,6,12,13,14,15,16,17,18,19,20,21,22,23,24,25,26,27,28] (fun e h'=>∃ k:Nat,k≤a.length∧e.getD 5 .any=.int .i64 k∧a.take k=b.take k) (fun e _=>a.length - natA (e.getD 5 .any)) ⟨0,by omega,rfl,by simp⟩ ?_
  simp only [List.length_cons,List.length_nil,Nat.reduceAdd,allL_succ,allL_zero]
  intro y4 y5 y6 y12 y13 y14 y15 y16 y17 y18 y19 y20 y21 y22 y23 y24 y25 y26 y27 y28 h1 hI
  simp only [go_sem] at hI
  obtain ⟨k,hk,rfl,hall⟩:=hI
  simp only [go_sem,uA,uB,uC,uD,uE,uF,uG,uH,uI,uJ,uK,uL,uM,uN,uO,uP,uQ]
  refine acond_intro (fun hc=>?_) (fun hc=>?_)
  ·have hlt:k < a.length:=by have:=of_decide_eq_true hc; omega
   have hltb:k < b.length:=by omega
   have q1:=hra _ (List.getElem_mem hlt)
   have q2:=hrb _ (List.getElem_mem hltb)
   simp only [go_sem,uA,uB,uC,uD,uE,uF,uG,uH,uI,uJ,uK,uL,uM,uN,uO,uP,uQ]
   (refine ADrawT.walk [[0],[0],[0],[0],[0],[0],[0],[0],[0,9],[9]] mixedOrdersD (by kernel_rfl) (by kernel_rfl) ?_; simp only [go_sem,uA,uB,uC,uD,uE,uF,uG,uH,uI,uJ,uK,uL,uM,uN,uO,uP,uQ])
   simp only [go_sem,rowsA_get a k hlt,rowsA_get b k hltb,uA,uB,uC,uD,uE,uF,uG,uH,uI,uJ,uK,uL,uM,uN,uO,uP,uQ]
   refine ⟨⟨by omega,by omega⟩,⟨by omega,by omega⟩, ?_⟩
   refine frX_same (.bool (decide (a[k]=b[k]))) ?_ ?_
   ·simp only [go_sem,rowsA_get a k hlt,rowsA_get b k hltb,uA,uB,uC,uD,uE,uF,uG,uH,uI,uJ,uK,uL,uM,uN,uO,uP,uQ]
    exact ACallT.frame (rone_ok a[k] b[k] _ q1.1 q2.1 q1.2 q2.2) fun r h' e=>⟨by rw [e]; rfl,e,rfl⟩
   simp only [go_sem,uA,uB,uC,uD,uE,uF,uG,uH,uI,uJ,uK,uL,uM,uN,uO,uP,uQ]
   refine ⟨by simp [fmem,Agree], ?_⟩
   refine acond_intro (fun hd=>?_) (fun hd=>?_)
   ·simp only [go_sem,uA,uB,uC,uD,uE,uF,uG,uH,uI,uJ,uK,uL,uM,uN,uO,uP,uQ]
    refine Fin_plain ?_
    rw [decide_eq_false]; rintro rfl
    simp at hd
   ·simp only [go_sem,uA,uB,uC,uD,uE,uF,uG,uH,uI,uJ,uK,uL,uM,uN,uO,uP,uQ]
    rw [wrap_id (by omega) (by omega)]
    have e:a[k]=b[k]:=by simpa using hd
    refine ⟨⟨k+1,by omega,rfl, ?_⟩,by omega⟩
    rw [List.take_succ_eq_append_getElem hlt,List.take_succ_eq_append_getElem hltb,hall,e]
  ·have:k=a.length:=by have:=of_decide_eq_false hc; omega
   subst this
   simp only [go_sem,uA,uB,uC,uD,uE,uF,uG,uH,uI,uJ,uK,uL,uM,uN,uO,uP,uQ]
   refine Fin_plain ?_
   rw [List.take_length,hab,List.take_length] at hall
   rw [hall]; simp
end Go.Proofs.Vale
