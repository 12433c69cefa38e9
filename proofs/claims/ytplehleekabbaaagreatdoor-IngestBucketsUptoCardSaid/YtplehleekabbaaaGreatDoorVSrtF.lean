/- YtplehleekabbaaaGreatDoorVSrtF: a text of the proof of this claim, by its prover. -/
import Derived.Test.YtplehleekabbaaaGreatDoorVSrtD
open Nat renaming reduceMul → uA, reduceLT → uB, reduceLeDiff → uC, reduceEqDiff → uD, reduceBEq → uE, lt_irrefl → uQ
open Int renaming toNat_natCast → uF, reduceToNat → uG, reduceNeg → uH, reduceLT → uI, reduceLE → uJ, reduceBEq → uK, reduceBNe → uL
open Bool renaming false_eq_true → uO
set_option linter.unusedVariables false
set_option linter.unusedSimpArgs false
set_option maxHeartbeats 4000000
set_option maxRecDepth 100000
namespace Go.Proofs.Vale
open Go.Proofs Go.Proofs.YtplehleekabbaaaGreatDoorT
attribute [local irreducible] acode aopsL aopsT dopsL dopsT pop popG aop ALoop ADraw ACall AWP AFin acondT ALoopT ADrawT ACallT doP doG doGd frL frT frX
theorem heapSort_ok (P M S : List Rw) (t g N : Nat) (H : List AObj) (hN : (P ++ (M ++ S)).length = N) (hn : N ≤ 1152921504606846976) (hok : ∀ r ∈ M, RwOk r) (ht : H[t]? = some (.arr g 4 (rowsA (P ++ (M ++ S))))) :
  ACall Tryz.prog 134 [.sl t g 4 0 N,.int .i64 P.length,.int .i64 (P.length+M.length:Nat),cmpF] H (fun r H'=>r=.tup []∧∃ M',M'.Perm M∧SrtR M'∧H'=H.set t (.arr g 4 (rowsA (P++(M'++S))))):=by
 have hPM:P.length+M.length≤N:=by rw [← hN]; simp
 have htl:t < H.length:=(List.getElem?_eq_some_iff.1 ht).1
 have hset:∀ v:AObj,(H.set t v)[t]? = some v:=fun v=>List.getElem?_set_self htl
 have w0:IntKind.i64.wrap (((P.length+M.length:Nat):Int) - (P.length:Int))=(M.length:Int):=by rw [wrap_id (by omega) (by omega)]; omega
 have w1:IntKind.i64.wrap ((M.length:Int) - 1)=(M.length:Int) - 1:=wrap_id (by omega) (by omega)
 (refine ACall.of_code Tryz.func134 rfl ?_; simp only [Tryz.f134]; simp only [go_sem,uA,uB,uC,uD,uE,uF,uG,uH,uI,uJ,uK,uL,uM,uN,uO,uP,uQ])
 simp only [w0,w1]
 refine ⟨by decide, ?_⟩
 refine ALoop.over [11,20,21,22,23,24,25,26,27,28,29] (fun e H'=>∃ (z:Nat) (M':List Rw),e.getD 11 .any=.int .i64 ((z:Int) - 1)∧z≤M.length+1∧M'.Perm M∧Heap z M.length M'∧H'=H.set t (.arr g 4 (rowsA (P++(M'++S))))) (fun e _=>(match e.getD 11 .any with | .int _ z=>(z+1).toNat | _=>0)) ?_ ?_
 ·by_cases e0:M.length=0
  ·refine ⟨1,M, ?_,by omega,.refl _,fun j c h1 h2 h3=>by omega,(heap_same ht).symm⟩
   have e1:((M.length:Int) - 1).tdiv 2=0:=by rw [e0]; rfl
   simp only [go_sem,e1,uA,uB,uC,uD,uE,uF,uG,uH,uI,uJ,uK,uL,uM,uN,uO,uP,uQ]
   rfl
  ·refine ⟨(M.length - 1) / 2+1,M, ?_,by omega,.refl _,fun j c h1 h2 h3=>by unfold Child at h3; omega,(heap_same ht).symm⟩
   have e1:((M.length:Int) - 1).tdiv 2=(((M.length - 1) / 2:Nat):Int):=by
    rw [show (M.length:Int) - 1=((M.length - 1:Nat):Int) by omega]; rfl
   simp only [go_sem,e1,uA,uB,uC,uD,uE,uF,uG,uH,uI,uJ,uK,uL,uM,uN,uO,uP,uQ]
   rw [wrap_id (by omega) (by omega)]
   congr 1; omega
 simp only [List.length_cons,List.length_nil,Nat.reduceAdd,allL_succ,allL_zero]
 intro y11 y20 y21 y22 y23 y24 y25 y26 y27 y28 y29 H1 hI
 simp only [go_sem] at hI
 obtain ⟨z,M',rfl,hz,hp,hh,rfl⟩:=hI
 have hl:=hp.length_eq
 have hlN:(P++(M'++S)).length=N:=by rw [← hN]; simp [hl]
 simp only [go_sem,uA,uB,uC,uD,uE,uF,uG,uH,uI,uJ,uK,uL,uM,uN,uO,uP,uQ]
 refine acond_intro (fun hc=>?_) (fun hc=>?_)
 ·have hz0:0 < z:=by have:=of_decide_eq_true hc; omega
  obtain ⟨y,rfl⟩:∃ y,z=y+1:=⟨z - 1,by omega⟩
  rw [show (((y+1:Nat):Int) - 1)=(y:Int) by omega]
  simp only [go_sem,uA,uB,uC,uD,uE,uF,uG,uH,uI,uJ,uK,uL,uM,uN,uO,uP,uQ]
  refine ACallT.by (sift_ok P M' S t g N _ hlN hn (fun r hr=>hok r (hp.subset hr)) y M.length (by omega) (by omega) (hset _)) ?_
  rintro _ _ ⟨rfl,M2,hp2,hd2,hh2,rfl⟩
  simp only [go_sem,List.set_set,uA,uB,uC,uD,uE,uF,uG,uH,uI,uJ,uK,uL,uM,uN,uO,uP,uQ]
  refine ⟨⟨y,M2, ?_,by omega,hp2.trans hp,hh2 hh,rfl⟩, ?_⟩
  ·rw [wrap_id (by omega) (by omega)]
  ·rw [wrap_id (by omega) (by omega)]; omega
 ·obtain rfl:z=0:=by have:=of_decide_eq_false hc; omega
  simp only [go_sem,uA,uB,uC,uD,uE,uF,uG,uH,uI,uJ,uK,uL,uM,uN,uO,uP,uQ]
  simp only [w1]
  refine ALoop.over [12,32,33,34,35,36,37,38,39,40,41,42,43,44,45,46,47,48,49,50,51,52,53,54,55,56,57,58,59] (fun e H'=>∃ (k:Nat) (M2:List Rw),e.getD 12 .any=.int .i64 ((k:Int) - 1)∧k≤M.length∧M2.Perm M∧HS k M2∧H'=H.set t (.arr g 4 (rowsA (P++(M2++S))))) (fun e _=>(match e.getD 12 .any with | .int _ z=>(z+1).toNat | _=>0)) ⟨M.length,M',rfl,by omega,hp, ?_,rfl⟩ ?_
  ·rw [← hl]; exact HS_start (by rw [hl]; exact hh)
  simp only [List.length_cons,List.length_nil,Nat.reduceAdd,allL_succ,allL_zero]
  intro y12 y32 y33 y34 y35 y36 y37 y38 y39 y40 y41 y42 y43 y44 y45 y46 y47 y48 y49 y50 y51 y52 y53 y54 y55 y56 y57 y58 y59 H2 hI2
  simp only [go_sem] at hI2
  obtain ⟨k,M2,rfl,hk,hp2,hs,rfl⟩:=hI2
  have hl2:=hp2.length_eq
  have hlN2:(P++(M2++S)).length=N:=by rw [← hN]; simp [hl2]
  simp only [go_sem,uA,uB,uC,uD,uE,uF,uG,uH,uI,uJ,uK,uL,uM,uN,uO,uP,uQ]
  refine acond_intro (fun hc2=>?_) (fun hc2=>?_)
  ·have hz0:0 < k:=by have:=of_decide_eq_true hc2; omega
   obtain ⟨i,rfl⟩:∃ i,k=i+1:=⟨k - 1,by omega⟩
   rw [show (((i+1:Nat):Int) - 1)=(i:Int) by omega]
   have hiM:i < M2.length:=by omega
   have h0M:0 < M2.length:=by omega
   have wi:IntKind.i64.wrap ((P.length:Int)+(i:Int))=((P.length+i:Nat):Int):=by rw [wrap_id (by omega) (by omega)]; rfl
   have g1:=getM P M2 S i _ rfl hiM
   have g2:=getM P M2 S 0 P.length rfl h0M
   have g3:=getS (P++(M2++S)) P.length (P.length+i) M2[i] (by simp; omega)
   simp only [go_sem,uA,uB,uC,uD,uE,uF,uG,uH,uI,uJ,uK,uL,uM,uN,uO,uP,uQ]
   (refine ADrawT.mem [(17,11),(17,15),(19,11),(19,15),(19,17)] mixedOrdersD (by kernel_rfl) (by kernel_rfl) ?_; simp only [go_sem,uA,uB,uC,uD,uE,uF,uG,uH,uI,uJ,uK,uL,uM,uN,uO,uP,uQ])
   simp only [go_sem,hset,wi,g1,g2,g3,List.set_set,uA,uB,uC,uD,uE,uF,uG,uH,uI,uJ,uK,uL,uM,uN,uO,uP,uQ]
   refine ⟨⟨by omega,by omega⟩,by omega,⟨by omega,by omega⟩,by omega,⟨by omega,by omega⟩,by omega,⟨by omega,by omega⟩,by omega,by simp [okAcc], ?_⟩
   have hsw:=swapM P M2 S 0 i P.length _ rfl rfl h0M hiM
   simp only [rowA] at hsw
   simp only [hsw]
   have hp3:=swap_perm h0M hiM
   have hstep:=fun (M3:List Rw)=>HS_step (M2:=M3) hiM hs
   generalize (M2.set 0 M2[i]).set i M2[0]=M1 at *
   have hl3:=hp3.length_eq
   refine ACallT.by (sift_ok P M1 S t g N _ (by rw [← hlN2]; simp [hl3]) hn (fun r hr=>hok r (hp2.subset (hp3.subset hr))) 0 i (by omega) (by omega) (hset _)) ?_
   rintro _ _ ⟨rfl,M3,hp4,hd4,hh4,rfl⟩
   simp only [go_sem,List.set_set,uA,uB,uC,uD,uE,uF,uG,uH,uI,uJ,uK,uL,uM,uN,uO,uP,uQ]
   refine ⟨⟨i,M3, ?_,by omega,hp4.trans (hp3.trans hp2),hstep M3 hp4 hd4 hh4,rfl⟩, ?_⟩
   ·rw [wrap_id (by omega) (by omega)]
   ·rw [wrap_id (by omega) (by omega)]; omega
  ·obtain rfl:k=0:=by have:=of_decide_eq_false hc2; omega
   simp only [go_sem,uA,uB,uC,uD,uE,uF,uG,uH,uI,uJ,uK,uL,uM,uN,uO,uP,uQ]
   exact Fin_plain ⟨rfl,M2,hp2,HS_end hs,rfl⟩
end Go.Proofs.Vale
namespace Go.Proofs.Vale
open Go.Proofs Go.Proofs.YtplehleekabbaaaGreatDoorT
attribute [local irreducible] acode aopsL aopsT dopsL dopsT pop popG aop ALoop ADraw ACall AWP AFin acondT ALoopT ADrawT ACallT doP doG doGd frL frT frX
def PE (v:Rw) (i z:Nat) (M:List Rw):Prop:=0 < i∧i≤z∧z≤M.length∧G M 0=v∧(∀ x,x < i→0≤cmpR v (G M x))∧(∀ x,z≤x→x < M.length→cmpR v (G M x) < 0)
theorem partEq_ok (P M S : List Rw) (t g N : Nat) (H : List AObj) (hN : (P ++ (M ++ S)).length = N) (hn : N ≤ 1152921504606846976) (hok : ∀ r ∈ M, RwOk r) (p : Nat) (hp0 : p < M.length) (ht : H[t]? = some (.arr g 4 (rowsA (P ++ (M ++ S))))) :
  ACall Tryz.prog 139 [.sl t g 4 0 N,.int .i64 P.length,.int .i64 (P.length+M.length:Nat),.int .i64 (P.length+p:Nat),cmpF] H (fun r H'=>∃ (k:Nat) (M':List Rw),r=.int .i64 (P.length+k:Nat)∧M'.Perm M∧PE (G M p) k k M'∧H'=H.set t (.arr g 4 (rowsA (P++(M'++S))))):=by
 have hPM:P.length+M.length≤N:=by rw [← hN]; simp
 have htl:t < H.length:=(List.getElem?_eq_some_iff.1 ht).1
 have hset:∀ v:AObj,(H.set t v)[t]? = some v:=fun v=>List.getElem?_set_self htl
 have h0:0 < M.length:=by omega
 have g1:=getM P M S p _ rfl hp0
 have g2:=getM P M S 0 P.length rfl h0
 have g3:=getS (P++(M++S)) P.length (P.length+p) M[p] (by simp; omega)
 (refine ACall.of_code Tryz.func139 rfl ?_; simp only [Tryz.f139]; simp only [go_sem,uA,uB,uC,uD,uE,uF,uG,uH,uI,uJ,uK,uL,uM,uN,uO,uP,uQ])
 (refine ADrawT.mem [(13,7),(13,11),(15,7),(15,11),(15,13)] mixedOrdersD (by kernel_rfl) (by kernel_rfl) ?_; simp only [go_sem,uA,uB,uC,uD,uE,uF,uG,uH,uI,uJ,uK,uL,uM,uN,uO,uP,uQ])
 simp only [go_sem,ht,hset,g1,g2,g3,List.set_set,uA,uB,uC,uD,uE,uF,uG,uH,uI,uJ,uK,uL,uM,uN,uO,uP,uQ]
 refine ⟨⟨by omega,by omega⟩,by omega,⟨by omega,by omega⟩,by omega,⟨by omega,by omega⟩,by omega,⟨by omega,by omega⟩,by omega,by simp [okAcc], ?_⟩
 have hsw:=swapM P M S 0 p P.length _ rfl rfl h0 hp0
 simp only [rowA] at hsw
 simp only [hsw]
 have hp1:=swap_perm h0 hp0
 have hv:G ((M.set 0 M[p]).set p M[0]) 0=G M p:=by
  by_cases e:p=0
  ·subst e; simp
  ·rw [G_swap h0 hp0 (fun q=>e q.symm)]; simp
 generalize (M.set 0 M[p]).set p M[0]=M0 at *
 have hl0:=hp1.length_eq
 generalize G M p=v at *
 have w1:IntKind.i64.wrap (((P.length+M.length:Nat):Int) - 1)=((P.length+M.length:Nat):Int) - 1:=wrap_id (by omega) (by omega)
 have w2:IntKind.i64.wrap ((P.length:Int)+1)=((P.length+1:Nat):Int):=by rw [wrap_id (by omega) (by omega)]; rfl
 simp only [w1,w2]
 refine ALoop.over [11,12,31,32,33,34,35,36,37,38,39,40,41,42,43,44,45,46,47,48,49,50,51,52,53,54,55,56,57,58,59,60,61,62,63,64,65,66,67,68,69,70,71,72,73,74,75,76,77,78,79,80,81,82,83,84,85,86,87,88] (fun e H'=>∃ (i z:Nat) (M1:List Rw),e.getD 11 .any=.int .i64 (P.length+i:Nat)∧e.getD 12 .any=.int .i64 (((P.length+z:Nat):Int) - 1)∧M1.Perm M∧PE v i z M1∧H'=H.set t (.arr g 4 (rowsA (P++(M1++S))))) (fun e _=>(match e.getD 12 .any,e.getD 11 .any with | .int _ z,.int _ i=>(z+1 - i).toNat | _,_=>0)) ⟨1,M.length,M0,rfl,rfl,hp1,⟨by omega,by omega,by omega,hv,fun x hx=>?_,fun x h1 h2=>by omega⟩,rfl⟩ ?_
 ·obtain rfl:x=0:=by omega
  rw [hv]; exact Int.le_of_eq (cmpR_refl _).symm
 simp only [List.length_cons,List.length_nil,Nat.reduceAdd,allL_succ,allL_zero]
 intro y11 y12 y31 y32 y33 y34 y35 y36 y37 y38 y39 y40 y41 y42 y43 y44 y45 y46 y47 y48 y49 y50 y51 y52 y53 y54 y55 y56 y57 y58 y59 y60 y61 y62 y63 y64 y65 y66 y67 y68 y69 y70 y71 y72 y73 y74 y75 y76 y77 y78 y79 y80 y81 y82 y83 y84 y85 y86 y87 y88 H1 hI
 simp only [go_sem] at hI
 obtain ⟨i0,z0,M1,rfl,rfl,hpm,hpe,rfl⟩:=hI
 have hl1:=hpm.length_eq
 have hlN:(P++(M1++S)).length=N:=by rw [← hN]; simp [hl1]
 simp only [go_sem,uA,uB,uC,uD,uE,uF,uG,uH,uI,uJ,uK,uL,uM,uN,uO,uP,uQ]
 refine ALoop.over [11,31,32,33,34,35,36,37,38,39,40,41,42,43,44,45,46,47,48,49] (fun e H'=>∃ (i:Nat),e.getD 11 .any=.int .i64 (P.length+i:Nat)∧i0≤i∧PE v i z0 M1∧H'=H.set t (.arr g 4 (rowsA (P++(M1++S))))) (fun e _=>(match e.getD 11 .any with | .int _ i=>(((P.length+z0:Nat):Int) - i).toNat | _=>0)) ⟨i0,rfl,by omega,hpe,rfl⟩ ?_
 simp only [List.length_cons,List.length_nil,Nat.reduceAdd,allL_succ,allL_zero]
 intro y11 y31 y32 y33 y34 y35 y36 y37 y38 y39 y40 y41 y42 y43 y44 y45 y46 y47 y48 y49 H2 hI
 simp only [go_sem] at hI
 obtain ⟨i,rfl,hi0,hpe2,rfl⟩:=hI
 obtain ⟨e1,e2,e3,e4,e5,e6⟩:=hpe2
 by_cases hg:i < z0
 ·have hgd:decide (((P.length+i:Nat):Int)≤((P.length+z0:Nat):Int) - 1)=true:=decide_eq_true (by omega)
  have hiM:i < M1.length:=by omega
  have f1:=getM P M1 S i _ rfl hiM
  have f2:=getM P M1 S 0 P.length rfl (by omega)
  have p1:=hok M1[i] (hpm.subset (List.getElem_mem _))
  have p2:=hok M1[0] (hpm.subset (List.getElem_mem _))
  have hv1:M1[0]=v:=by rw [← e4,G_lt (by omega)]
  simp only [go_sem,uA,uB,uC,uD,uE,uF,uG,uH,uI,uJ,uK,uL,uM,uN,uO,uP,uQ]
  (refine ADrawT.mem [] mixedOrdersD (by kernel_rfl) (by kernel_rfl) ?_; simp only [go_sem,uA,uB,uC,uD,uE,uF,uG,uH,uI,uJ,uK,uL,uM,uN,uO,uP,uQ])
  simp only [go_sem,hgd,hset,f1,f2,uA,uB,uC,uD,uE,uF,uG,uH,uI,uJ,uK,uL,uM,uN,uO,uP,uQ]
  refine ⟨⟨by omega,by omega⟩,by omega,⟨by omega,by omega⟩,by omega, ?_⟩
  refine doX_intro (.int .i64 (cmpR M1[0] M1[i])) ⟨rfl,fun mm=>?_⟩ ?_
  ·simp only [go_sem,uA,uB,uC,uD,uE,uF,uG,uH,uI,uJ,uK,uL,uM,uN,uO,uP,uQ]
   refine ACallT.frame (cmpR_ok M1[0] M1[i] _ p2.1 p1.1) ?_
   rintro _ _ rfl
   exact ⟨rfl,rfl⟩
  simp only [go_sem,hgd,hset,f1,f2,uA,uB,uC,uD,uE,uF,uG,uH,uI,uJ,uK,uL,uM,uN,uO,uP,uQ]
  refine ⟨by simp [okAcc], ?_⟩
  rw [hv1]
  refine acond_intro (fun hx=>?_) (fun hx=>?_)
  ·have hx2:¬ cmpR v M1[i] < 0:=by simpa using hx
   simp only [go_sem,uA,uB,uC,uD,uE,uF,uG,uH,uI,uJ,uK,uL,uM,uN,uO,uP,uQ]
   refine ⟨⟨i+1, ?_,by omega,⟨by omega,by omega,e3,e4,fun x h1=>?_,e6⟩⟩, ?_⟩
   ·rw [wrap_id (by omega) (by omega)]; rfl
   ·by_cases ex:x=i
    ·subst ex; rw [G_lt hiM]; omega
    ·exact e5 x (by omega)
   ·rw [wrap_id (by omega) (by omega)]; omega
  ·have hx2:cmpR v M1[i] < 0:=by simpa using hx
   have hF:i < z0→cmpR v (G M1 i) < 0:=fun _=>by rw [G_lt hiM]; exact hx2
   simp only [go_sem,uA,uB,uC,uD,uE,uF,uG,uH,uI,uJ,uK,uL,uM,uN,uO,uP,uQ]
   refine ALoop.over [12,50,51,52,53,54,55,56,57,58,59,60,61,62,63,64,65,66,67] (fun e H'=>∃ (z:Nat),e.getD 12 .any=.int .i64 (((P.length+z:Nat):Int) - 1)∧z≤z0∧PE v i z M1∧H'=H.set t (.arr g 4 (rowsA (P++(M1++S))))) (fun e _=>(match e.getD 12 .any with | .int _ z=>(z+1).toNat | _=>0)) ⟨z0,rfl,by omega,⟨e1,e2,e3,e4,e5,e6⟩,rfl⟩ ?_
   simp only [List.length_cons,List.length_nil,Nat.reduceAdd,allL_succ,allL_zero]
   intro y12 y50 y51 y52 y53 y54 y55 y56 y57 y58 y59 y60 y61 y62 y63 y64 y65 y66 y67 H3 hI
   simp only [go_sem] at hI
   obtain ⟨z,rfl,hz0,hpe3,rfl⟩:=hI
   obtain ⟨d1,d2,d3,d4,d5,d6⟩:=hpe3
   by_cases hg2:i < z
   ·obtain ⟨j,rfl⟩:∃ j,z=j+1:=⟨z - 1,by omega⟩
    rw [show ((P.length+(j+1):Nat):Int) - 1=((P.length+j:Nat):Int) by omega]
    have hgd2:decide (((P.length+i:Nat):Int)≤((P.length+j:Nat):Int))=true:=decide_eq_true (by omega)
    have hjM:j < M1.length:=by omega
    have hiM2:i < M1.length:=by omega
    have k1:=getM P M1 S j _ rfl hjM
    have k2:=getM P M1 S 0 P.length rfl (by omega)
    have q1:=hok M1[j] (hpm.subset (List.getElem_mem _))
    have q2:=hok M1[0] (hpm.subset (List.getElem_mem _))
    have hv2:M1[0]=v:=by rw [← e4,G_lt (by omega)]
    simp only [go_sem,uA,uB,uC,uD,uE,uF,uG,uH,uI,uJ,uK,uL,uM,uN,uO,uP,uQ]
    (refine ADrawT.mem [] mixedOrdersD (by kernel_rfl) (by kernel_rfl) ?_; simp only [go_sem,uA,uB,uC,uD,uE,uF,uG,uH,uI,uJ,uK,uL,uM,uN,uO,uP,uQ])
    simp only [go_sem,hgd2,hset,k1,k2,uA,uB,uC,uD,uE,uF,uG,uH,uI,uJ,uK,uL,uM,uN,uO,uP,uQ]
    refine ⟨⟨by omega,by omega⟩,by omega,⟨by omega,by omega⟩,by omega, ?_⟩
    refine doX_intro (.int .i64 (cmpR M1[0] M1[j])) ⟨rfl,fun mm=>?_⟩ ?_
    ·simp only [go_sem,uA,uB,uC,uD,uE,uF,uG,uH,uI,uJ,uK,uL,uM,uN,uO,uP,uQ]
     refine ACallT.frame (cmpR_ok M1[0] M1[j] _ q2.1 q1.1) ?_
     rintro _ _ rfl
     exact ⟨rfl,rfl⟩
    simp only [go_sem,hgd2,hset,k1,k2,uA,uB,uC,uD,uE,uF,uG,uH,uI,uJ,uK,uL,uM,uN,uO,uP,uQ]
    refine ⟨by simp [okAcc], ?_⟩
    rw [hv2]
    refine acond_intro (fun hx=>?_) (fun hx=>?_)
    ·have hx2:=of_decide_eq_true hx
     simp only [go_sem,uA,uB,uC,uD,uE,uF,uG,uH,uI,uJ,uK,uL,uM,uN,uO,uP,uQ]
     refine ⟨⟨j, ?_,by omega,⟨d1,by omega,by omega,d4,d5,fun x h1 h2=>?_⟩⟩, ?_⟩
     ·rw [wrap_id (by omega) (by omega)]
     ·by_cases ex:x=j
      ·subst ex; rw [G_lt hjM]; exact hx2
      ·exact d6 x (by omega) h2
     ·rw [wrap_id (by omega) (by omega)]; omega
    ·have hx2:=of_decide_eq_false hx
     have hii:i≠j:=by
      rintro rfl
      have:=hF (by omega)
      rw [G_lt hjM] at this; omega
     have hgt:decide (((P.length+j:Nat):Int) < ((P.length+i:Nat):Int))=false:=decide_eq_false (by omega)
     have k3:=getM P M1 S i _ rfl hiM2
     have k4:=getS (P++(M1++S)) (P.length+i) (P.length+j) M1[j] (by simp; omega)
     simp only [go_sem,hgt,uA,uB,uC,uD,uE,uF,uG,uH,uI,uJ,uK,uL,uM,uN,uO,uP,uQ]
     (refine ADrawT.mem [(13,7),(13,11),(15,7),(15,11),(15,13)] mixedOrdersD (by kernel_rfl) (by kernel_rfl) ?_; simp only [go_sem,uA,uB,uC,uD,uE,uF,uG,uH,uI,uJ,uK,uL,uM,uN,uO,uP,uQ])
     simp only [go_sem,hset,k1,k3,k4,List.set_set,uA,uB,uC,uD,uE,uF,uG,uH,uI,uJ,uK,uL,uM,uN,uO,uP,uQ]
     refine ⟨⟨by omega,by omega⟩,by omega,⟨by omega,by omega⟩,by omega,⟨by omega,by omega⟩,by omega,⟨by omega,by omega⟩,by omega,by simp [okAcc],⟨i+1,j,(M1.set i M1[j]).set j M1[i], ?_, ?_,(swap_perm hiM2 hjM).trans hpm,⟨by omega,by omega,by simp; omega, ?_,fun x h1=>?_,fun x h1 h2=>?_⟩, ?_⟩, ?_⟩
     ·rw [wrap_id (by omega) (by omega)]; rfl
     ·rw [wrap_id (by omega) (by omega)]
     ·rw [G_swap hiM2 hjM hii]; simp [show ¬ 0=i by omega,show ¬ 0=j by omega,d4]
     ·rw [G_swap hiM2 hjM hii]
      by_cases ex:x=i
      ·simp only [ex,if_true]; rw [G_lt hjM]; omega
      ·simp only [ex,show ¬ x=j by omega,if_false]; exact d5 x (by omega)
     ·rw [G_swap hiM2 hjM hii]
      by_cases ex:x=j
      ·simp only [ex,show ¬ j=i by omega,if_true,if_false]; exact hF (by omega)
      ·simp only [ex,show ¬ x=i by omega,if_false]; exact d6 x (by omega) (by simpa using h2)
     ·exact congrArg (fun z=>H.set t (.arr g 4 z)) (swapM P M1 S i j _ _ rfl rfl hiM2 hjM)
     ·rw [wrap_id (by omega) (by omega),wrap_id (by omega) (by omega)]; omega
   ·obtain rfl:i=z:=by omega
    have hgd2:decide (((P.length+i:Nat):Int)≤((P.length+i:Nat):Int) - 1)=false:=decide_eq_false (by omega)
    have hgt:decide (((P.length+i:Nat):Int) - 1 < ((P.length+i:Nat):Int))=true:=decide_eq_true (by omega)
    simp only [go_sem,uA,uB,uC,uD,uE,uF,uG,uH,uI,uJ,uK,uL,uM,uN,uO,uP,uQ]
    (refine ADrawT.mem [] mixedOrdersD (by kernel_rfl) (by kernel_rfl) ?_; simp only [go_sem,uA,uB,uC,uD,uE,uF,uG,uH,uI,uJ,uK,uL,uM,uN,uO,uP,uQ])
    simp only [go_sem,hgd2,hset,uA,uB,uC,uD,uE,uF,uG,uH,uI,uJ,uK,uL,uM,uN,uO,uP,uQ]
    refine ⟨by simp [okAcc], ?_⟩
    simp only [go_sem,hgt,uA,uB,uC,uD,uE,uF,uG,uH,uI,uJ,uK,uL,uM,uN,uO,uP,uQ]
    exact Fin_plain ⟨i,M1,rfl,hpm,⟨d1,d2,d3,d4,d5,d6⟩,rfl⟩
 ·obtain rfl:i=z0:=by omega
  have hF:i < i→cmpR v (G M1 i) < 0:=fun q=>by omega
  have hgd:decide (((P.length+i:Nat):Int)≤((P.length+i:Nat):Int) - 1)=false:=decide_eq_false (by omega)
  simp only [go_sem,uA,uB,uC,uD,uE,uF,uG,uH,uI,uJ,uK,uL,uM,uN,uO,uP,uQ]
  (refine ADrawT.mem [] mixedOrdersD (by kernel_rfl) (by kernel_rfl) ?_; simp only [go_sem,uA,uB,uC,uD,uE,uF,uG,uH,uI,uJ,uK,uL,uM,uN,uO,uP,uQ])
  simp only [go_sem,hgd,hset,uA,uB,uC,uD,uE,uF,uG,uH,uI,uJ,uK,uL,uM,uN,uO,uP,uQ]
  refine ⟨by simp [okAcc], ?_⟩
  refine ALoop.over [12,50,51,52,53,54,55,56,57,58,59,60,61,62,63,64,65,66,67] (fun e H'=>∃ (z:Nat),e.getD 12 .any=.int .i64 (((P.length+z:Nat):Int) - 1)∧z≤i∧PE v i z M1∧H'=H.set t (.arr g 4 (rowsA (P++(M1++S))))) (fun e _=>(match e.getD 12 .any with | .int _ z=>(z+1).toNat | _=>0)) ⟨i,rfl,by omega,⟨e1,e2,e3,e4,e5,e6⟩,rfl⟩ ?_
  simp only [List.length_cons,List.length_nil,Nat.reduceAdd,allL_succ,allL_zero]
  intro y12 y50 y51 y52 y53 y54 y55 y56 y57 y58 y59 y60 y61 y62 y63 y64 y65 y66 y67 H3 hI
  simp only [go_sem] at hI
  obtain ⟨z,rfl,hi,hpe3,rfl⟩:=hI
  obtain ⟨d1,d2,d3,d4,d5,d6⟩:=hpe3
  by_cases hg2:i < z
  ·exact absurd hg2 (by omega)
  ·obtain rfl:i=z:=by omega
   have hgd2:decide (((P.length+i:Nat):Int)≤((P.length+i:Nat):Int) - 1)=false:=decide_eq_false (by omega)
   have hgt:decide (((P.length+i:Nat):Int) - 1 < ((P.length+i:Nat):Int))=true:=decide_eq_true (by omega)
   simp only [go_sem,uA,uB,uC,uD,uE,uF,uG,uH,uI,uJ,uK,uL,uM,uN,uO,uP,uQ]
   (refine ADrawT.mem [] mixedOrdersD (by kernel_rfl) (by kernel_rfl) ?_; simp only [go_sem,uA,uB,uC,uD,uE,uF,uG,uH,uI,uJ,uK,uL,uM,uN,uO,uP,uQ])
   simp only [go_sem,hgd2,hset,uA,uB,uC,uD,uE,uF,uG,uH,uI,uJ,uK,uL,uM,uN,uO,uP,uQ]
   refine ⟨by simp [okAcc], ?_⟩
   simp only [go_sem,hgt,uA,uB,uC,uD,uE,uF,uG,uH,uI,uJ,uK,uL,uM,uN,uO,uP,uQ]
   exact Fin_plain ⟨i,M1,rfl,hpm,⟨d1,d2,d3,d4,d5,d6⟩,rfl⟩
end Go.Proofs.Vale
