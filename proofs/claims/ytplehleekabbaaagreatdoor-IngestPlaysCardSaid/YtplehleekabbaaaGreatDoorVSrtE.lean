/- YtplehleekabbaaaGreatDoorVSrtE: a text of the proof of this claim, by its prover. -/
import Derived.Test.YtplehleekabbaaaGreatDoorVSrtD
open Nat renaming reduceMul → uA, reduceLT → uB, reduceLeDiff → uC, reduceEqDiff → uD, reduceBEq → uE, lt_irrefl → uQ
open Int renaming toNat_natCast → uF, reduceToNat → uG, reduceNeg → uH, reduceLT → uI, reduceLE → uJ, reduceBEq → uK, reduceBNe → uL
open Bool renaming false_eq_true → uO
set_option linter.unusedVariables false
set_option linter.unusedSimpArgs false
set_option maxHeartbeats 4000000
set_option maxRecDepth 100000
namespace Go.Proofs.Vale
open Go.Proofs Go.Proofs.YtplehleekabbaaaGreatDoorT
attribute [local irreducible] acode aopsL aopsT dopsL dopsT pop popG aop ALoop ADraw ACall AWP AFin acondT ALoopT ADrawT ACallT doP doG doGd frL frT frX
theorem heapSort_ok (P M S : List Rw) (t g N : Nat) (H : List AObj) (hN : (P ++ (M ++ S)).length = N) (hn : N ≤ 1152921504606846976) (hok : ∀ r ∈ M, RwOk r) (ht : H[t]? = some (.arr g 4 (rowsA (P ++ (M ++ S))))) :
  ACall Tryz.prog 134 [.sl t g 4 0 N,.int .i64 P.length,.int .i64 (P.length+M.length:Nat),cmpF] H (fun r H'=>r=.tup []∧∃ M',M'.Perm M∧SrtR M'∧H'=H.set t (.arr g 4 (rowsA (P++(M'++S))))):=by
 have hPM:P.length+M.length≤N:=by rw [← hN]; simp
 have htl:t < H.length:=(List.getElem?_eq_some_iff.1 ht).1
 have hset:∀ v:AObj,(H.set t v)[t]? = some v:=fun v=>List.getElem?_set_self htl
 have w0:IntKind.i64.wrap (((P.length+M.length:Nat):Int) - (P.length:Int))=(M.length:Int):=by rw [wrap_id (by omega) (by omega)]; omega
 have w1:IntKind.i64.wrap ((M.length:Int) - 1)=(M.length:Int) - 1:=wrap_id (by omega) (by omega)
 (refine ACall.of_code Tryz.func134 rfl ?_; simp only [Tryz.f134]; simp only [go_sem,uA,uB,uC,uD,uE,uF,uG,uH,uI,uJ,uK,uL,uM,uN,uO,uP,uQ])
 simp only [w0,w1]
 refine ⟨by decide, ?_⟩
 refine ALoop.over [11,20,21,22,23,24,25,26,27,28,29] (fun e H'=>∃ (z:Nat) (M':List Rw),e.getD 11 .any=.int .i64 ((z:Int) - 1)∧z≤M.length+1∧M'.Perm M∧Heap z M.length M'∧H'=H.set t (.arr g 4 (rowsA (P++(M'++S))))) (fun e _=>(match e.getD 11 .any with | .int _ z=>(z+1).toNat | _=>0)) ?_ ?_
 ·by_cases e0:M.length=0
  ·refine ⟨1,M, ?_,by omega,.refl _,fun j c h1 h2 h3=>by omega,(heap_same ht).symm⟩
   have e1:((M.length:Int) - 1).tdiv 2=0:=by rw [e0]; rfl
   simp only [go_sem,e1,uA,uB,uC,uD,uE,uF,uG,uH,uI,uJ,uK,uL,uM,uN,uO,uP,uQ]
   rfl
  ·refine ⟨(M.length - 1) / 2+1,M, ?_,by omega,.refl _,fun j c h1 h2 h3=>by unfold Child at h3; omega,(heap_same ht).symm⟩
   have e1:((M.length:Int) - 1).tdiv 2=(((M.length - 1) / 2:Nat):Int):=by
    rw [show (M.length:Int) - 1=((M.length - 1:Nat):Int) by omega]; rfl
   simp only [go_sem,e1,uA,uB,uC,uD,uE,uF,uG,uH,uI,uJ,uK,uL,uM,uN,uO,uP,uQ]
   rw [wrap_id (by omega) (by omega)]
   congr 1; omega
 simp only [List.length_cons,List.length_nil,Nat.reduceAdd,allL_succ,allL_zero]
 intro y11 y20 y21 y22 y23 y24 y25 y26 y27 y28 y29 H1 hI
 simp only [go_sem] at hI
 obtain ⟨z,M',rfl,hz,hp,hh,rfl⟩:=hI
 have hl:=hp.length_eq
 have hlN:(P++(M'++S)).length=N:=by rw [← hN]; simp [hl]
 simp only [go_sem,uA,uB,uC,uD,uE,uF,uG,uH,uI,uJ,uK,uL,uM,uN,uO,uP,uQ]
 refine acond_intro (fun hc=>?_) (fun hc=>?_)
 ·have hz0:0 < z:=by have:=of_decide_eq_true hc; omega
  obtain ⟨y,rfl⟩:∃ y,z=y+1:=⟨z - 1,by omega⟩
  rw [show (((y+1:Nat):Int) - 1)=(y:Int) by omega]
  simp only [go_sem,uA,uB,uC,uD,uE,uF,uG,uH,uI,uJ,uK,uL,uM,uN,uO,uP,uQ]
  refine ACallT.by (sift_ok P M' S t g N _ hlN hn (fun r hr=>hok r (hp.subset hr)) y M.length (by omega) (by omega) (hset _)) ?_
  rintro _ _ ⟨rfl,M2,hp2,hd2,hh2,rfl⟩
  simp only [go_sem,List.set_set,uA,uB,uC,uD,uE,uF,uG,uH,uI,uJ,uK,uL,uM,uN,uO,uP,uQ]
  refine ⟨⟨y,M2, ?_,by omega,hp2.trans hp,hh2 hh,rfl⟩, ?_⟩
  ·rw [wrap_id (by omega) (by omega)]
  ·rw [wrap_id (by omega) (by omega)]; omega
 ·obtain rfl:z=0:=by have:=of_decide_eq_false hc; omega
  simp only [go_sem,uA,uB,uC,uD,uE,uF,uG,uH,uI,uJ,uK,uL,uM,uN,uO,uP,uQ]
  simp only [w1]
  refine ALoop.over [12,32,33,34,35,36,37,38,39,40,41,42,43,44,45,46,47,48,49,50,51,52,53,54,55,56,57,58,59] (fun e H'=>∃ (k:Nat) (M2:List Rw),e.getD 12 .any=.int .i64 ((k:Int) - 1)∧k≤M.length∧M2.Perm M∧HS k M2∧H'=H.set t (.arr g 4 (rowsA (P++(M2++S))))) (fun e _=>(match e.getD 12 .any with | .int _ z=>(z+1).toNat | _=>0)) ⟨M.length,M',rfl,by omega,hp, ?_,rfl⟩ ?_
  ·rw [← hl]; exact HS_start (by rw [hl]; exact hh)
  simp only [List.length_cons,List.length_nil,Nat.reduceAdd,allL_succ,allL_zero]
  intro y12 y32 y33 y34 y35 y36 y37 y38 y39 y40 y41 y42 y43 y44 y45 y46 y47 y48 y49 y50 y51 y52 y53 y54 y55 y56 y57 y58 y59 H2 hI2
  simp only [go_sem] at hI2
  obtain ⟨k,M2,rfl,hk,hp2,hs,rfl⟩:=hI2
  have hl2:=hp2.length_eq
  have hlN2:(P++(M2++S)).length=N:=by rw [← hN]; simp [hl2]
  simp only [go_sem,uA,uB,uC,uD,uE,uF,uG,uH,uI,uJ,uK,uL,uM,uN,uO,uP,uQ]
  refine acond_intro (fun hc2=>?_) (fun hc2=>?_)
  ·have hz0:0 < k:=by have:=of_decide_eq_true hc2; omega
   obtain ⟨i,rfl⟩:∃ i,k=i+1:=⟨k - 1,by omega⟩
   rw [show (((i+1:Nat):Int) - 1)=(i:Int) by omega]
   have hiM:i < M2.length:=by omega
   have h0M:0 < M2.length:=by omega
   have wi:IntKind.i64.wrap ((P.length:Int)+(i:Int))=((P.length+i:Nat):Int):=by rw [wrap_id (by omega) (by omega)]; rfl
   have g1:=getM P M2 S i _ rfl hiM
   have g2:=getM P M2 S 0 P.length rfl h0M
   have g3:=getS (P++(M2++S)) P.length (P.length+i) M2[i] (by simp; omega)
   simp only [go_sem,uA,uB,uC,uD,uE,uF,uG,uH,uI,uJ,uK,uL,uM,uN,uO,uP,uQ]
   (refine ADrawT.mem [(17,11),(17,15),(19,11),(19,15),(19,17)] mixedOrdersD (by kernel_rfl) (by kernel_rfl) ?_; simp only [go_sem,uA,uB,uC,uD,uE,uF,uG,uH,uI,uJ,uK,uL,uM,uN,uO,uP,uQ])
   simp only [go_sem,hset,wi,g1,g2,g3,List.set_set,uA,uB,uC,uD,uE,uF,uG,uH,uI,uJ,uK,uL,uM,uN,uO,uP,uQ]
   refine ⟨⟨by omega,by omega⟩,by omega,⟨by omega,by omega⟩,by omega,⟨by omega,by omega⟩,by omega,⟨by omega,by omega⟩,by omega,by simp [okAcc], ?_⟩
   have hsw:=swapM P M2 S 0 i P.length _ rfl rfl h0M hiM
   simp only [rowA] at hsw
   simp only [hsw]
   have hp3:=swap_perm h0M hiM
   have hstep:=fun (M3:List Rw)=>HS_step (M2:=M3) hiM hs
   generalize (M2.set 0 M2[i]).set i M2[0]=M1 at *
   have hl3:=hp3.length_eq
   refine ACallT.by (sift_ok P M1 S t g N _ (by rw [← hlN2]; simp [hl3]) hn (fun r hr=>hok r (hp2.subset (hp3.subset hr))) 0 i (by omega) (by omega) (hset _)) ?_
   rintro _ _ ⟨rfl,M3,hp4,hd4,hh4,rfl⟩
   simp only [go_sem,List.set_set,uA,uB,uC,uD,uE,uF,uG,uH,uI,uJ,uK,uL,uM,uN,uO,uP,uQ]
   refine ⟨⟨i,M3, ?_,by omega,hp4.trans (hp3.trans hp2),hstep M3 hp4 hd4 hh4,rfl⟩, ?_⟩
   ·rw [wrap_id (by omega) (by omega)]
   ·rw [wrap_id (by omega) (by omega)]; omega
  ·obtain rfl:k=0:=by have:=of_decide_eq_false hc2; omega
   simp only [go_sem,uA,uB,uC,uD,uE,uF,uG,uH,uI,uJ,uK,uL,uM,uN,uO,uP,uQ]
   exact Fin_plain ⟨rfl,M2,hp2,HS_end hs,rfl⟩
end Go.Proofs.Vale
