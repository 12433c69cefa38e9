/- YtplehleekabbaaaGreatDoorVSchI: a text of the proof of this claim, by its prover. -/
import Derived.Test.YtplehleekabbaaaGreatDoorVSchZ
import Derived.Test.YtplehleekabbaaaGreatDoorVDrw
open Nat renaming reduceMul → uA, reduceLT → uB, reduceLeDiff → uC, reduceEqDiff → uD, reduceBEq → uE, lt_irrefl → uQ
open Int renaming toNat_natCast → uF, reduceToNat → uG, reduceNeg → uH, reduceLT → uI, reduceLE → uJ, reduceBEq → uK, reduceBNe → uL
open Bool renaming false_eq_true → uO
set_option linter.unusedVariables false
set_option linter.unusedSimpArgs false
set_option maxHeartbeats 4000000
set_option maxRecDepth 100000
namespace Go.Proofs.Vale
open Go.Proofs Go.Proofs.YtplehleekabbaaaGreatDoorT
attribute [local irreducible] acode aopsL aopsT dopsL dopsT pop popG aop ALoop ADraw ACall AWP AFin acondT ALoopT ADrawT ACallT doP doG doGd
theorem rwords_ok (h:List AObj):ACall Tryz.prog 54 [] h (fun r _=>r=.fz false (strs wordsL)):=by
 (refine ACall.of_code Tryz.func54 rfl ?_; simp only [Tryz.f54]; simp only [go_sem,uA,uB,uC,uD,uE,uF,uG,uH,uI,uJ,uK,uL,uM,uN,uO,uP,uQ])
 refine Fin_freeze 4 ?_
 simp only [frz_sl,getElem?_app0]
 exact frzO_all (l:=strs wordsL) rfl (flatS _)
theorem rname_ok (s:Str) (h:List AObj) (hs:s.length≤9223372036854775807):ACall Tryz.prog 27 [.str s] h (fun r _=>r=.bool (nameS s)):=by
 (refine ACall.of_code Tryz.func27 rfl ?_; simp only [Tryz.f27]; simp only [go_sem,uA,uB,uC,uD,uE,uF,uG,uH,uI,uJ,uK,uL,uM,uN,uO,uP,uQ])
 (refine ACallT.frame (rwords_ok _) ?_; refine fun _ _ e=>?_; subst e; refine ⟨by (first | rfl | (simp only [AV.low,lowL,low_strs,Bool.and_true,Bool.and_self])), ?_⟩; simp only [go_sem,uA,uB,uC,uD,uE,uF,uG,uH,uI,uJ,uK,uL,uM,uN,uO,uP,uQ])
 have hw20:wordsL.length=20:=rfl
 refine ALoop.over [2,4,9,10,11,12,13,14,15,16,17,18,19,20] (fun e h'=>∃ k:Nat,k≤wordsL.length∧e.getD 4 .any=.int .i64 k∧∀ j (hj:j < wordsL.length),j < k→(s==wordsL[j])=false) (fun e _=>wordsL.length - natA (e.getD 4 .any)) ⟨0,by simp,rfl,fun _ _ q=>by omega⟩ ?_
 simp only [List.length_cons,List.length_nil,Nat.reduceAdd,allL_succ,allL_zero]
 intro y2 y4 y9 y10 y11 y12 y13 y14 y15 y16 y17 y18 y19 y20 h1 hI
 simp only [go_sem] at hI
 obtain ⟨k,hk,rfl,hall⟩:=hI
 simp only [go_sem,uA,uB,uC,uD,uE,uF,uG,uH,uI,uJ,uK,uL,uM,uN,uO,uP,uQ]
 refine acond_intro (fun hc=>?_) (fun hc=>?_)
 ·have hlt:k < wordsL.length:=by simpa using hc
  simp only [go_sem,strs_get wordsL _ hlt,uA,uB,uC,uD,uE,uF,uG,uH,uI,uJ,uK,uL,uM,uN,uO,uP,uQ]
  refine ⟨⟨by omega,by omega⟩, ?_⟩
  refine acond_intro (fun hb=>?_) (fun hb=>?_)
  ·simp only [go_sem,uA,uB,uC,uD,uE,uF,uG,uH,uI,uJ,uK,uL,uM,uN,uO,uP,uQ]
   refine Fin_plain ?_
   have hm:s∈wordsL:=by
    have:wordsL[k]=s:=by simpa using hb
    rw [← this]; exact List.getElem_mem _
   simp [nameS,hm]
  ·simp only [go_sem,uA,uB,uC,uD,uE,uF,uG,uH,uI,uJ,uK,uL,uM,uN,uO,uP,uQ]
   rw [wrap_id (by omega) (by omega)]
   refine ⟨⟨k+1,by omega,rfl,fun j hj q=>?_⟩,by omega⟩
   by_cases e:j=k
   ·subst e; rw [BEq.comm]; exact hb
   ·exact hall j hj (by omega)
 ·have hge : k = wordsL.length := by have : ¬ k < wordsL.length := by simpa using hc
                                     omega
  subst hge
  have hm:decide (s∈wordsL)=false:=by
   rw [decide_eq_false_iff_not]
   intro q
   obtain ⟨j,hj,e⟩:=List.getElem_of_mem q
   have:=hall j hj hj
   rw [e] at this; simp at this
  simp only [go_sem,uA,uB,uC,uD,uE,uF,uG,uH,uI,uJ,uK,uL,uM,uN,uO,uP,uQ]
  refine ALoop.over [2,5,6,7,21,22,23,24,25,26,27,28,29,30,31,32,33,34,35,36,37,38,39,40,41,42,43,44,45,46,47,48,49,50,51,52,53,54,55,56,57,58,59,60,61,62] (fun e h'=>∃ k:Nat,k≤s.length∧e.getD 5 .any=.int .i64 k∧lettersFrom s k=lettersFrom s 0) (fun e _=>s.length - natA (e.getD 5 .any)) ⟨0,by omega,rfl,rfl⟩ ?_
  simp only [List.length_cons,List.length_nil,Nat.reduceAdd,allL_succ,allL_zero]
  intro y2 y5 y6 y7 y21 y22 y23 y24 y25 y26 y27 y28 y29 y30 y31 y32 y33 y34 y35 y36 y37 y38 y39 y40 y41 y42 y43 y44 y45 y46 y47 y48 y49 y50 y51 y52 y53 y54 y55 y56 y57 y58 y59 y60 y61 y62 h2 hI
  simp only [go_sem] at hI
  obtain ⟨k,hk,rfl,hA⟩:=hI
  simp only [go_sem,uA,uB,uC,uD,uE,uF,uG,uH,uI,uJ,uK,uL,uM,uN,uO,uP,uQ]
  refine acond_intro (fun hc=>?_) (fun hc=>?_)
  ·have hlt:k < s.length:=by have:=of_decide_eq_true hc; omega
   simp only [go_sem,uA,uB,uC,uD,uE,uF,uG,uH,uI,uJ,uK,uL,uM,uN,uO,uP,uQ]
   have hget:List.getD s k 0=s[k]:=by rw [List.getD_eq_getElem?_getD,List.getElem?_eq_getElem hlt]; rfl
   rw [hget]
   refine ⟨⟨by omega,by omega⟩,fun q=>⟨q,by omega,by omega⟩,⟨by omega,by omega⟩,fun q=>⟨q,by omega,by omega⟩,fun q=>⟨q,by omega,by omega⟩,fun q=>⟨q,fun q2=>by rw [q,q2]; rfl⟩, ?_⟩
   have hst:=letters_step s k hlt
   have hk0:((k:Int)==0)=(k==0):=by rw [Bool.eq_iff_iff]; simp
   have e1:(((s[k]).toNat:Int)==95)=((s[k]).toNat==95):=by rw [Bool.eq_iff_iff]; simp; omega
   have e2:decide ((97:Int)≤((s[k]).toNat:Int))=decide (97≤(s[k]).toNat):=by congr 1; simp; omega
   have e3:decide (((s[k]).toNat:Int)≤122)=decide ((s[k]).toNat≤122):=by congr 1; simp; omega
   have e4:decide ((48:Int)≤((s[k]).toNat:Int))=decide (48≤(s[k]).toNat):=by congr 1; simp; omega
   have e5:decide (((s[k]).toNat:Int)≤57)=decide ((s[k]).toNat≤57):=by congr 1; simp; omega
   refine acond_intro (fun hb=>?_) (fun hb=>?_)
   ·have hl:letter (k==0) s[k]=false:=by
     rw [hk0,e1,e2,e3,e4,e5] at hb
     simp only [letter]
     revert hb
     cases decide (97≤(s[k]).toNat) <;> cases decide ((s[k]).toNat≤122) <;> cases decide (48≤(s[k]).toNat) <;> cases decide ((s[k]).toNat≤57) <;> cases ((s[k]).toNat==95) <;> cases (k==0) <;> simp
    simp only [go_sem,uA,uB,uC,uD,uE,uF,uG,uH,uI,uJ,uK,uL,uM,uN,uO,uP,uQ]
    refine Fin_plain ?_
    rw [hl,Bool.false_and] at hst
    rw [nameS,← hA,hst,Bool.and_false]
   ·have hl:letter (k==0) s[k]=true:=by
     rw [hk0,e1,e2,e3,e4,e5] at hb
     simp only [letter]
     revert hb
     cases decide (97≤(s[k]).toNat) <;> cases decide ((s[k]).toNat≤122) <;> cases decide (48≤(s[k]).toNat) <;> cases decide ((s[k]).toNat≤57) <;> cases ((s[k]).toNat==95) <;> cases (k==0) <;> simp
    simp only [go_sem,uA,uB,uC,uD,uE,uF,uG,uH,uI,uJ,uK,uL,uM,uN,uO,uP,uQ]
    rw [hl,Bool.true_and] at hst
    rw [wrap_id (by omega) (by omega)]
    exact ⟨⟨k+1,by omega,rfl,by rw [← hst,hA]⟩,by omega⟩
  ·have hge:k=s.length:=by have:=of_decide_eq_false hc; omega
   subst hge
   rw [letters_end] at hA
   simp only [go_sem,uA,uB,uC,uD,uE,uF,uG,uH,uI,uJ,uK,uL,uM,uN,uO,uP,uQ]
   refine Fin_plain ?_
   have e1:decide ((1:Int)≤(s.length:Int))=!(s==([]:Str)):=by
    cases s with
    | nil=>rfl
    | cons a s=>simp; omega
   have e2:decide ((s.length:Int)≤12)=decide (s.length≤12):=by congr 1; simp; omega
   rw [nameS,hm,← hA,e1,e2]
   cases (!(s==([]:Str))) <;> simp
end Go.Proofs.Vale
namespace Go.Proofs.Vale
open Go.Proofs
end Go.Proofs.Vale
namespace Go.Proofs.Vale
open Go.Proofs Go.Proofs.YtplehleekabbaaaGreatDoorT
attribute [local irreducible] acode aopsL aopsT dopsL dopsT dmL dmT pop popG aop ALoop ADraw ACall AWP AFin acondT ALoopT ADrawT ACallT doP doG doGd
theorem rright_ok (c1 c2:Bool) (d m:List Str) (h:List AObj) (hd:d.length+m.length≤8796093022000) (hL:∀ s∈d++m,s.length≤9223372036854775807):ACall Tryz.prog 9 [schA c1 c2 d m] h (fun r _=>r=.bool (rightS d m)):=by
 simp only [schA]
 (refine ACall.of_code Tryz.func9 rfl ?_; simp only [Tryz.f9]; simp only [go_sem,uA,uB,uC,uD,uE,uF,uG,uH,uI,uJ,uK,uL,uM,uN,uO,uP,uQ])
 (refine ADrawT.mem [(3,0),(3,2),(6,0),(6,2),(6,3),(6,5)] mixedOrdersD (by kernel_rfl) (by kernel_rfl) ?_; simp only [go_sem,uA,uB,uC,uD,uE,uF,uG,uH,uI,uJ,uK,uL,uM,uN,uO,uP,uQ])
 refine ⟨⟨by omega,by omega,okEl_strs _⟩,⟨by omega,by omega,okEl_strs _⟩,by simp [okAcc], ?_⟩
 rw [strs_app]
 have hla:(d++m).length=d.length+m.length:=List.length_append
 rw [right_eq]
 rw [← hla]
 generalize ha:d++m=a at *
 refine ALoop.over [2,4,5,6,14,15,16,17,18,19,20,21,22,23,24,25,26,27,28,29,30,31,32,33,34,35,36,37,38,39,40] (fun e h'=>h'=h++[AObj.arr 0 2 [.agg [.fz c1 (strs d),.fz c2 (strs m)]],AObj.arr 2 1 (strs a)]∧∃ k:Nat,k≤a.length∧e.getD 4 .any=.int .i64 k∧(a.take k).Nodup∧(a.take k).all nameS=true) (fun e _=>a.length - natA (e.getD 4 .any)) ⟨rfl,0,by simp,rfl,by simp,by simp⟩ ?_
 simp only [List.length_cons,List.length_nil,Nat.reduceAdd,allL_succ,allL_zero]
 intro y2 y4 y5 y6 y14 y15 y16 y17 y18 y19 y20 y21 y22 y23 y24 y25 y26 y27 y28 y29 y30 y31 y32 y33 y34 y35 y36 y37 y38 y39 y40 h' hI
 simp only [go_sem] at hI
 obtain ⟨rfl,k,hk,rfl,hnd,hnm⟩:=hI
 simp only [go_sem,uA,uB,uC,uD,uE,uF,uG,uH,uI,uJ,uK,uL,uM,uN,uO,uP,uQ]
 refine acond_intro (fun hc=>?_) (fun hc=>?_)
 ·have hlt:k < a.length:=by have:=of_decide_eq_true hc; omega
  simp only [go_sem,strs_get a _ hlt,uA,uB,uC,uD,uE,uF,uG,uH,uI,uJ,uK,uL,uM,uN,uO,uP,uQ]
  refine ⟨⟨by omega,by omega⟩,hlt, ?_⟩
  have hin:a[k]∈a:=List.getElem_mem _
  (refine ACallT.frame (rname_ok a[k] _ (hL _ hin)) ?_; refine fun _ _ e=>?_; subst e; refine ⟨by (first | rfl | (simp only [AV.low,lowL,low_strs,Bool.and_true,Bool.and_self])), ?_⟩; simp only [go_sem,uA,uB,uC,uD,uE,uF,uG,uH,uI,uJ,uK,uL,uM,uN,uO,uP,uQ])
  generalize hn:nameS a[k]=nk
  cases nk with
  | false =>
   simp only [go_sem,uA,uB,uC,uD,uE,uF,uG,uH,uI,uJ,uK,uL,uM,uN,uO,uP,uQ]
   refine Fin_plain ?_
   have:a.all nameS=false:=by rw [List.all_eq_false]; exact ⟨_,hin,by simp [hn]⟩
   rw [this,Bool.and_false]
  | true =>
   simp only [go_sem,uA,uB,uC,uD,uE,uF,uG,uH,uI,uJ,uK,uL,uM,uN,uO,uP,uQ]
   refine ALoop.over [2,6,27,28,29,30,31,32,33,34,35,36,37,38,39,40] (fun e h'=>h'=h++[AObj.arr 0 2 [.agg [.fz c1 (strs d),.fz c2 (strs m)]],AObj.arr 2 1 (strs a)]∧∃ j:Nat,j≤k∧e.getD 6 .any=.int .i64 j∧∀ i (hi:i < a.length),i < j→a[i]≠a[k]) (fun e _=>k - natA (e.getD 6 .any)) ⟨rfl,0,by simp,rfl,fun _ _ q=>by omega⟩ ?_
   simp only [List.length_cons,List.length_nil,Nat.reduceAdd,allL_succ,allL_zero]
   intro y2 y6 y27 y28 y29 y30 y31 y32 y33 y34 y35 y36 y37 y38 y39 y40 h' hI
   simp only [go_sem] at hI
   obtain ⟨rfl,j,hj,rfl,hall⟩:=hI
   simp only [go_sem,uA,uB,uC,uD,uE,uF,uG,uH,uI,uJ,uK,uL,uM,uN,uO,uP,uQ]
   refine acond_intro (fun hc2=>?_) (fun hc2=>?_)
   ·have hlt2:j < k:=by have:=of_decide_eq_true hc2; omega
    simp only [go_sem,uA,uB,uC,uD,uE,uF,uG,uH,uI,uJ,uK,uL,uM,uN,uO,uP,uQ]
    refine ADrawT.quiet mixedOrdersD (by kernel_rfl) ?_
    simp only [go_sem,strs_get a _ hlt,strs_get a j (by omega),uA,uB,uC,uD,uE,uF,uG,uH,uI,uJ,uK,uL,uM,uN,uO,uP,uQ]
    refine ⟨⟨by omega,by omega⟩,by omega,⟨by omega,by omega⟩,hlt, ?_⟩
    refine acond_intro (fun hb=>?_) (fun hb=>?_)
    ·simp only [go_sem,uA,uB,uC,uD,uE,uF,uG,uH,uI,uJ,uK,uL,uM,uN,uO,uP,uQ]
     refine Fin_plain ?_
     have:¬ a.Nodup:=fun q=>(List.pairwise_iff_getElem.1 q) j k (by omega) hlt hlt2 (by simpa using hb)
     rw [decide_eq_false this,Bool.false_and,Bool.false_and]
    ·simp only [go_sem,uA,uB,uC,uD,uE,uF,uG,uH,uI,uJ,uK,uL,uM,uN,uO,uP,uQ]
     rw [wrap_id (by omega) (by omega)]
     refine ⟨⟨j+1,by omega,rfl,fun i hi q=>?_⟩,by omega⟩
     by_cases e:i=j
     ·subst e; simpa using hb
     ·exact hall i hi (by omega)
   ·have hge:j=k:=by have:=of_decide_eq_false hc2; omega
    subst hge
    simp only [go_sem,uA,uB,uC,uD,uE,uF,uG,uH,uI,uJ,uK,uL,uM,uN,uO,uP,uQ]
    rw [wrap_id (by omega) (by omega)]
    refine ⟨⟨j+1,by omega,rfl, ?_, ?_⟩,by omega⟩
    ·rw [List.take_succ_eq_append_getElem hlt,List.nodup_append]
     refine ⟨hnd,by simp,fun x hx y hy=>?_⟩
     simp only [List.mem_singleton] at hy
     subst hy
     obtain ⟨i,hi,rfl⟩:=List.getElem_of_mem hx
     rw [List.getElem_take]
     exact hall i (by simp at hi; omega) (by simp at hi; omega)
    ·rw [List.take_succ_eq_append_getElem hlt,List.all_append,hnm]; simp [hn]
 ·have hge:k=a.length:=by have:=of_decide_eq_false hc; omega
  subst hge
  rw [List.take_length] at hnd hnm
  simp only [go_sem,uA,uB,uC,uD,uE,uF,uG,uH,uI,uJ,uK,uL,uM,uN,uO,uP,uQ]
  refine Fin_plain ?_
  have e1:decide ((1:Int)≤(d.length:Int))=decide (0 < d.length):=by congr 1; simp; omega
  have e2:decide ((d.length:Int)≤6)=decide (d.length≤6):=by congr 1; simp; omega
  have e3:decide ((m.length:Int)≤4)=decide (m.length≤4):=by congr 1; simp; omega
  rw [hnm,decide_eq_true hnd,sizesS,e1,e2,e3]
  cases decide (0 < d.length) <;> cases decide (d.length≤6) <;> simp
end Go.Proofs.Vale
