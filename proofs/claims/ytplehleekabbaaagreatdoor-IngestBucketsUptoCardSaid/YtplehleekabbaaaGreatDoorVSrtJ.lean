/- YtplehleekabbaaaGreatDoorVSrtJ: a text of the proof of this claim, by its prover. -/
import Derived.Test.YtplehleekabbaaaGreatDoorVSrtI
open Nat renaming reduceMul → uA, reduceLT → uB, reduceLeDiff → uC, reduceEqDiff → uD, reduceBEq → uE, lt_irrefl → uQ
open Int renaming toNat_natCast → uF, reduceToNat → uG, reduceNeg → uH, reduceLT → uI, reduceLE → uJ, reduceBEq → uK, reduceBNe → uL
open Bool renaming false_eq_true → uO
set_option linter.unusedVariables false
set_option linter.unusedSimpArgs false
set_option maxHeartbeats 8000000
set_option maxRecDepth 100000
namespace Go.Proofs.Vale
open Go.Proofs Go.Proofs.YtplehleekabbaaaGreatDoorT
attribute [local irreducible] acode aopsL aopsT dopsL dopsT pop popG aop ALoop ADraw ACall AWP AFin acondT ALoopT ADrawT ACallT doP doG doGd frL frT frX
theorem part_ok (P M S : List Rw) (t g N : Nat) (H : List AObj) (hN : (P ++ (M ++ S)).length = N) (hn : N ≤ 1152921504606846976) (hok : ∀ r ∈ M, RwOk r) (p : Nat) (hp0 : p < M.length) (ht : H[t]? = some (.arr g 4 (rowsA (P ++ (M ++ S))))) :
  ACall Tryz.prog 140 [.sl t g 4 0 N,.int .i64 P.length,.int .i64 (P.length+M.length:Nat),.int .i64 (P.length+p:Nat),cmpF] H (fun r H'=>∃ (k:Nat) (c:Bool) (M':List Rw),r=.tup [.int .i64 (P.length+k:Nat),.bool c]∧M'.Perm M∧PDq (G M p) k M'∧H'=H.set t (.arr g 4 (rowsA (P++(M'++S))))):=by
 have hPM:P.length+M.length≤N:=by rw [← hN]; simp
 have htl:t < H.length:=(List.getElem?_eq_some_iff.1 ht).1
 have hset:∀ v:AObj,(H.set t v)[t]? = some v:=fun v=>List.getElem?_set_self htl
 have h0:0 < M.length:=by omega
 have g1:=getM P M S p _ rfl hp0
 have g2:=getM P M S 0 P.length rfl h0
 have g3:=getS (P++(M++S)) P.length (P.length+p) M[p] (by simp; omega)
 (refine ACall.of_code Tryz.func140 rfl ?_; simp only [Tryz.f140]; simp only [go_sem,uA,uB,uC,uD,uE,uF,uG,uH,uI,uJ,uK,uL,uM,uN,uO,uP,uQ])
 (refine ADrawT.mem [(13,7),(13,11),(15,7),(15,11),(15,13)] mixedOrdersD (by kernel_rfl) (by kernel_rfl) ?_; simp only [go_sem,uA,uB,uC,uD,uE,uF,uG,uH,uI,uJ,uK,uL,uM,uN,uO,uP,uQ])
 simp only [go_sem,ht,hset,g1,g2,g3,List.set_set,uA,uB,uC,uD,uE,uF,uG,uH,uI,uJ,uK,uL,uM,uN,uO,uP,uQ]
 refine ⟨⟨by omega,by omega⟩,by omega,⟨by omega,by omega⟩,by omega,⟨by omega,by omega⟩,by omega,⟨by omega,by omega⟩,by omega,by simp [okAcc], ?_⟩
 have hsw:=swapM P M S 0 p P.length _ rfl rfl h0 hp0
 simp only [rowA] at hsw
 simp only [hsw]
 have hp1:=swap_perm h0 hp0
 have hv:G ((M.set 0 M[p]).set p M[0]) 0=G M p:=by
  by_cases e:p=0
  ·subst e; simp
  ·rw [G_swap h0 hp0 (fun q=>e q.symm)]; simp
 generalize (M.set 0 M[p]).set p M[0]=M0 at *
 have hl0:=hp1.length_eq
 generalize G M p=v at *
 have w1:IntKind.i64.wrap (((P.length+M.length:Nat):Int) - 1)=((P.length+M.length:Nat):Int) - 1:=wrap_id (by omega) (by omega)
 obtain ⟨i0,hi0e⟩:∃ i0:Nat,i0=1:=⟨1,rfl⟩
 have w2:IntKind.i64.wrap ((P.length:Int)+1)=((P.length+i0:Nat):Int):=by rw [wrap_id (by omega) (by omega)]; omega
 simp only [w1,w2]
 obtain ⟨z0,hz0e⟩:∃ z0:Nat,z0=M.length:=⟨_,rfl⟩
 have hpe:PTq v i0 z0 M0:=by
  subst hi0e hz0e
  exact ⟨by omega,by omega,by omega,hv,fun x h1 h2=>by omega,fun x h1 h2=>by omega⟩
 rw [← hz0e]
 clear hi0e hz0e hsw g1 g2 g3 w1 w2 hv
 have hpm:M0.Perm M:=hp1
 have hl1:=hpm.length_eq
 have hlN:(P++(M0++S)).length=N:=by rw [← hN]; simp [hl1]
 refine ALoop.over [12,32,33,34,35,36,37,38,39,40,41,42,43,44,45,46,47,48,49] (fun e H'=>∃ (i:Nat),e.getD 12 .any=.int .i64 (P.length+i:Nat)∧i0≤i∧PTq v i z0 M0∧H'=H.set t (.arr g 4 (rowsA (P++(M0++S))))) (fun e _=>(match e.getD 12 .any with | .int _ i=>(((P.length+z0:Nat):Int) - i).toNat | _=>0)) ⟨i0,rfl,by omega,hpe,rfl⟩ ?_
 simp only [List.length_cons,List.length_nil,Nat.reduceAdd,allL_succ,allL_zero]
 intro y12 y32 y33 y34 y35 y36 y37 y38 y39 y40 y41 y42 y43 y44 y45 y46 y47 y48 y49 H2 hI
 simp only [go_sem] at hI
 obtain ⟨i,rfl,hi0,hpe2,rfl⟩:=hI
 obtain ⟨e1,e2,e3,e4,e5,e6⟩:=hpe2
 by_cases hg:i < z0
 ·have hgd:decide (((P.length+i:Nat):Int)≤((P.length+z0:Nat):Int) - 1)=true:=decide_eq_true (by omega)
  have hiM:i < M0.length:=by omega
  have f1:=getM P M0 S i _ rfl hiM
  have f2:=getM P M0 S 0 P.length rfl (by omega)
  have p1:=hok M0[i] (hpm.subset (List.getElem_mem _))
  have p2:=hok M0[0] (hpm.subset (List.getElem_mem _))
  have hv1:M0[0]=v:=by rw [← e4,G_lt (by omega)]
  simp only [go_sem,uA,uB,uC,uD,uE,uF,uG,uH,uI,uJ,uK,uL,uM,uN,uO,uP,uQ]
  (refine ADrawT.mem [] mixedOrdersD (by kernel_rfl) (by kernel_rfl) ?_; simp only [go_sem,uA,uB,uC,uD,uE,uF,uG,uH,uI,uJ,uK,uL,uM,uN,uO,uP,uQ])
  simp only [go_sem,hgd,hset,f1,f2,uA,uB,uC,uD,uE,uF,uG,uH,uI,uJ,uK,uL,uM,uN,uO,uP,uQ]
  refine ⟨⟨by omega,by omega⟩,by omega,⟨by omega,by omega⟩,by omega, ?_⟩
  refine doX_intro (.int .i64 (cmpR M0[i] M0[0])) ⟨rfl,fun mm=>?_⟩ ?_
  ·simp only [go_sem,uA,uB,uC,uD,uE,uF,uG,uH,uI,uJ,uK,uL,uM,uN,uO,uP,uQ]
   refine ACallT.frame (cmpR_ok M0[i] M0[0] _ p1.1 p2.1) ?_
   rintro _ _ rfl
   exact ⟨rfl,rfl⟩
  simp only [go_sem,hgd,hset,f1,f2,uA,uB,uC,uD,uE,uF,uG,uH,uI,uJ,uK,uL,uM,uN,uO,uP,uQ]
  refine ⟨by simp [okAcc], ?_⟩
  rw [hv1]
  refine acond_intro (fun hx=>?_) (fun hx=>?_)
  ·have hx2:cmpR M0[i] v < 0:=of_decide_eq_true hx
   simp only [go_sem,uA,uB,uC,uD,uE,uF,uG,uH,uI,uJ,uK,uL,uM,uN,uO,uP,uQ]
   refine ⟨⟨i+1, ?_,by omega,⟨by omega,by omega,e3,e4,fun x g0 h1=>?_,e6⟩⟩, ?_⟩
   ·rw [wrap_id (by omega) (by omega)]; rfl
   ·by_cases ex:x=i
    ·subst ex; rw [G_lt hiM]; exact hx2
    ·exact e5 x g0 (by omega)
   ·rw [wrap_id (by omega) (by omega)]; omega
  ·have hx2:=of_decide_eq_false hx
   have hF:i < z0→0≤cmpR (G M0 i) v:=fun _=>by rw [G_lt hiM]; omega
   simp only [go_sem,uA,uB,uC,uD,uE,uF,uG,uH,uI,uJ,uK,uL,uM,uN,uO,uP,uQ]
   refine ALoop.over [13,50,51,52,53,54,55,56,57,58,59,60,61,62,63,64,65,66,67,68] (fun e H'=>∃ (z:Nat),e.getD 13 .any=.int .i64 (((P.length+z:Nat):Int) - 1)∧z≤z0∧PTq v i z M0∧H'=H.set t (.arr g 4 (rowsA (P++(M0++S))))) (fun e _=>(match e.getD 13 .any with | .int _ z=>(z+1).toNat | _=>0)) ⟨z0,rfl,by omega,⟨e1,e2,e3,e4,e5,e6⟩,rfl⟩ ?_
   simp only [List.length_cons,List.length_nil,Nat.reduceAdd,allL_succ,allL_zero]
   intro y13 y50 y51 y52 y53 y54 y55 y56 y57 y58 y59 y60 y61 y62 y63 y64 y65 y66 y67 y68 H3 hI
   simp only [go_sem] at hI
   obtain ⟨z,rfl,hz0,hpe3,rfl⟩:=hI
   obtain ⟨d1,d2,d3,d4,d5,d6⟩:=hpe3
   by_cases hg2:i < z
   ·obtain ⟨j,rfl⟩:∃ j,z=j+1:=⟨z - 1,by omega⟩
    rw [show ((P.length+(j+1):Nat):Int) - 1=((P.length+j:Nat):Int) by omega]
    have hgd2:decide (((P.length+i:Nat):Int)≤((P.length+j:Nat):Int))=true:=decide_eq_true (by omega)
    have hjM:j < M0.length:=by omega
    have hiM2:i < M0.length:=by omega
    have k1:=getM P M0 S j _ rfl hjM
    have k2:=getM P M0 S 0 P.length rfl (by omega)
    have q1:=hok M0[j] (hpm.subset (List.getElem_mem _))
    have q2:=hok M0[0] (hpm.subset (List.getElem_mem _))
    have hv2:M0[0]=v:=by rw [← e4,G_lt (by omega)]
    simp only [go_sem,uA,uB,uC,uD,uE,uF,uG,uH,uI,uJ,uK,uL,uM,uN,uO,uP,uQ]
    (refine ADrawT.mem [] mixedOrdersD (by kernel_rfl) (by kernel_rfl) ?_; simp only [go_sem,uA,uB,uC,uD,uE,uF,uG,uH,uI,uJ,uK,uL,uM,uN,uO,uP,uQ])
    simp only [go_sem,hgd2,hset,k1,k2,uA,uB,uC,uD,uE,uF,uG,uH,uI,uJ,uK,uL,uM,uN,uO,uP,uQ]
    refine ⟨⟨by omega,by omega⟩,by omega,⟨by omega,by omega⟩,by omega, ?_⟩
    refine doX_intro (.int .i64 (cmpR M0[j] M0[0])) ⟨rfl,fun mm=>?_⟩ ?_
    ·simp only [go_sem,uA,uB,uC,uD,uE,uF,uG,uH,uI,uJ,uK,uL,uM,uN,uO,uP,uQ]
     refine ACallT.frame (cmpR_ok M0[j] M0[0] _ q1.1 q2.1) ?_
     rintro _ _ rfl
     exact ⟨rfl,rfl⟩
    simp only [go_sem,hgd2,hset,k1,k2,uA,uB,uC,uD,uE,uF,uG,uH,uI,uJ,uK,uL,uM,uN,uO,uP,uQ]
    refine ⟨by simp [okAcc], ?_⟩
    rw [hv2]
    refine acond_intro (fun hx=>?_) (fun hx=>?_)
    ·have hx2:¬ cmpR M0[j] v < 0:=by simpa using hx
     simp only [go_sem,uA,uB,uC,uD,uE,uF,uG,uH,uI,uJ,uK,uL,uM,uN,uO,uP,uQ]
     refine ⟨⟨j, ?_,by omega,⟨d1,by omega,by omega,d4,d5,fun x h1 h2=>?_⟩⟩, ?_⟩
     ·rw [wrap_id (by omega) (by omega)]
     ·by_cases ex:x=j
      ·subst ex; rw [G_lt hjM]; omega
      ·exact d6 x (by omega) h2
     ·rw [wrap_id (by omega) (by omega)]; omega
    ·have hx2:cmpR M0[j] v < 0:=by simpa using hx
     have hii:i≠j:=by
      rintro rfl
      have:=hF (by omega)
      rw [G_lt hjM] at this; omega
     have hij:i < j:=by omega
     have hgt:decide (((P.length+j:Nat):Int) < ((P.length+i:Nat):Int))=false:=decide_eq_false (by omega)
     have k3:=getM P M0 S i _ rfl hiM2
     have k4:=getS (P++(M0++S)) (P.length+i) (P.length+j) M0[j] (by simp; omega)
     have hnew:PTq v (i+1) j ((M0.set i M0[j]).set j M0[i]):=pt_swap ⟨d1,d2,d3,d4,d5,d6⟩ hij hiM2 hjM (hF (by omega)) (by rw [G_lt hjM]; exact hx2)
     simp only [go_sem,hgt,uA,uB,uC,uD,uE,uF,uG,uH,uI,uJ,uK,uL,uM,uN,uO,uP,uQ]
     (refine ADrawT.mem [(13,7),(13,11),(15,7),(15,11),(15,13)] mixedOrdersD (by kernel_rfl) (by kernel_rfl) ?_; simp only [go_sem,uA,uB,uC,uD,uE,uF,uG,uH,uI,uJ,uK,uL,uM,uN,uO,uP,uQ])
     simp only [go_sem,hset,k1,k3,k4,List.set_set,uA,uB,uC,uD,uE,uF,uG,uH,uI,uJ,uK,uL,uM,uN,uO,uP,uQ]
     refine ⟨⟨by omega,by omega⟩,by omega,⟨by omega,by omega⟩,by omega,⟨by omega,by omega⟩,by omega,⟨by omega,by omega⟩,by omega,by simp [okAcc], ?_⟩
     rw [show IntKind.i64.wrap (((P.length+i:Nat):Int)+1)=((P.length+(i+1):Nat):Int) by rw [wrap_id (by omega) (by omega)]; rfl]
     rw [show IntKind.i64.wrap (((P.length+j:Nat):Int) - 1)=((P.length+j:Nat):Int) - 1 by rw [wrap_id (by omega) (by omega)]]
     refine ALoop.over [12,13,105,106,107,108,109,110,111,112,113,114,115,116,117,118,119,120,121,122,123,124,125,126,127,128,129,130,131,132,133,134,135,136,137,138,139,140,141,142,143,144,145,146,147,148,149,150,151,152,153,154,155,156,157,158,159,160,161,162] (fun e H'=>∃ (i z:Nat) (M2:List Rw),e.getD 12 .any=.int .i64 (P.length+i:Nat)∧e.getD 13 .any=.int .i64 (((P.length+z:Nat):Int) - 1)∧M2.Perm M∧PTq v i z M2∧H'=H.set t (.arr g 4 (rowsA (P++(M2++S))))) (fun e _=>(match e.getD 13 .any,e.getD 12 .any with | .int _ z,.int _ i=>(z+1 - i).toNat | _,_=>0)) ⟨i+1,j,(M0.set i M0[j]).set j M0[i],rfl,rfl,(swap_perm hiM2 hjM).trans hpm,hnew,congrArg (fun z=>H.set t (.arr g 4 z)) (swapM P M0 S i j _ _ rfl rfl hiM2 hjM)⟩ ?_
     simp only [List.length_cons,List.length_nil,Nat.reduceAdd,allL_succ,allL_zero]
     intro y12 y13 y105 y106 y107 y108 y109 y110 y111 y112 y113 y114 y115 y116 y117 y118 y119 y120 y121 y122 y123 y124 y125 y126 y127 y128 y129 y130 y131 y132 y133 y134 y135 y136 y137 y138 y139 y140 y141 y142 y143 y144 y145 y146 y147 y148 y149 y150 y151 y152 y153 y154 y155 y156 y157 y158 y159 y160 y161 y162 H4 hI
     simp only [go_sem] at hI
     obtain ⟨i0,z0,M2,rfl,rfl,hpm,hpe,rfl⟩:=hI
     have hl1:=hpm.length_eq
     have hlN:(P++(M2++S)).length=N:=by rw [← hN]; simp [hl1]
     simp only [go_sem,uA,uB,uC,uD,uE,uF,uG,uH,uI,uJ,uK,uL,uM,uN,uO,uP,uQ]
     refine ALoop.over [12,105,106,107,108,109,110,111,112,113,114,115,116,117,118,119,120,121,122] (fun e H'=>∃ (i:Nat),e.getD 12 .any=.int .i64 (P.length+i:Nat)∧i0≤i∧PTq v i z0 M2∧H'=H.set t (.arr g 4 (rowsA (P++(M2++S))))) (fun e _=>(match e.getD 12 .any with | .int _ i=>(((P.length+z0:Nat):Int) - i).toNat | _=>0)) ⟨i0,rfl,by omega,hpe,rfl⟩ ?_
     simp only [List.length_cons,List.length_nil,Nat.reduceAdd,allL_succ,allL_zero]
     intro y12 y105 y106 y107 y108 y109 y110 y111 y112 y113 y114 y115 y116 y117 y118 y119 y120 y121 y122 H2 hI
     simp only [go_sem] at hI
     obtain ⟨i,rfl,hi0,hpe2,rfl⟩:=hI
     obtain ⟨e1,e2,e3,e4,e5,e6⟩:=hpe2
     by_cases hg:i < z0
     ·have hgd:decide (((P.length+i:Nat):Int)≤((P.length+z0:Nat):Int) - 1)=true:=decide_eq_true (by omega)
      have hiM:i < M2.length:=by omega
      have f1:=getM P M2 S i _ rfl hiM
      have f2:=getM P M2 S 0 P.length rfl (by omega)
      have p1:=hok M2[i] (hpm.subset (List.getElem_mem _))
      have p2:=hok M2[0] (hpm.subset (List.getElem_mem _))
      have hv1:M2[0]=v:=by rw [← e4,G_lt (by omega)]
      simp only [go_sem,uA,uB,uC,uD,uE,uF,uG,uH,uI,uJ,uK,uL,uM,uN,uO,uP,uQ]
      (refine ADrawT.mem [] mixedOrdersD (by kernel_rfl) (by kernel_rfl) ?_; simp only [go_sem,uA,uB,uC,uD,uE,uF,uG,uH,uI,uJ,uK,uL,uM,uN,uO,uP,uQ])
      simp only [go_sem,hgd,hset,f1,f2,uA,uB,uC,uD,uE,uF,uG,uH,uI,uJ,uK,uL,uM,uN,uO,uP,uQ]
      refine ⟨⟨by omega,by omega⟩,by omega,⟨by omega,by omega⟩,by omega, ?_⟩
      refine doX_intro (.int .i64 (cmpR M2[i] M2[0])) ⟨rfl,fun mm=>?_⟩ ?_
      ·simp only [go_sem,uA,uB,uC,uD,uE,uF,uG,uH,uI,uJ,uK,uL,uM,uN,uO,uP,uQ]
       refine ACallT.frame (cmpR_ok M2[i] M2[0] _ p1.1 p2.1) ?_
       rintro _ _ rfl
       exact ⟨rfl,rfl⟩
      simp only [go_sem,hgd,hset,f1,f2,uA,uB,uC,uD,uE,uF,uG,uH,uI,uJ,uK,uL,uM,uN,uO,uP,uQ]
      refine ⟨by simp [okAcc], ?_⟩
      rw [hv1]
      refine acond_intro (fun hx=>?_) (fun hx=>?_)
      ·have hx2:cmpR M2[i] v < 0:=of_decide_eq_true hx
       simp only [go_sem,uA,uB,uC,uD,uE,uF,uG,uH,uI,uJ,uK,uL,uM,uN,uO,uP,uQ]
       refine ⟨⟨i+1, ?_,by omega,⟨by omega,by omega,e3,e4,fun x g0 h1=>?_,e6⟩⟩, ?_⟩
       ·rw [wrap_id (by omega) (by omega)]; rfl
       ·by_cases ex:x=i
        ·subst ex; rw [G_lt hiM]; exact hx2
        ·exact e5 x g0 (by omega)
       ·rw [wrap_id (by omega) (by omega)]; omega
      ·have hx2:=of_decide_eq_false hx
       have hF:i < z0→0≤cmpR (G M2 i) v:=fun _=>by rw [G_lt hiM]; omega
       simp only [go_sem,uA,uB,uC,uD,uE,uF,uG,uH,uI,uJ,uK,uL,uM,uN,uO,uP,uQ]
       refine ALoop.over [13,123,124,125,126,127,128,129,130,131,132,133,134,135,136,137,138,139,140,141] (fun e H'=>∃ (z:Nat),e.getD 13 .any=.int .i64 (((P.length+z:Nat):Int) - 1)∧z≤z0∧PTq v i z M2∧H'=H.set t (.arr g 4 (rowsA (P++(M2++S))))) (fun e _=>(match e.getD 13 .any with | .int _ z=>(z+1).toNat | _=>0)) ⟨z0,rfl,by omega,⟨e1,e2,e3,e4,e5,e6⟩,rfl⟩ ?_
       simp only [List.length_cons,List.length_nil,Nat.reduceAdd,allL_succ,allL_zero]
       intro y13 y123 y124 y125 y126 y127 y128 y129 y130 y131 y132 y133 y134 y135 y136 y137 y138 y139 y140 y141 H3 hI
       simp only [go_sem] at hI
       obtain ⟨z,rfl,hz0,hpe3,rfl⟩:=hI
       obtain ⟨d1,d2,d3,d4,d5,d6⟩:=hpe3
       by_cases hg2:i < z
       ·obtain ⟨j,rfl⟩:∃ j,z=j+1:=⟨z - 1,by omega⟩
        rw [show ((P.length+(j+1):Nat):Int) - 1=((P.length+j:Nat):Int) by omega]
        have hgd2:decide (((P.length+i:Nat):Int)≤((P.length+j:Nat):Int))=true:=decide_eq_true (by omega)
        have hjM:j < M2.length:=by omega
        have hiM2:i < M2.length:=by omega
        have k1:=getM P M2 S j _ rfl hjM
        have k2:=getM P M2 S 0 P.length rfl (by omega)
        have q1:=hok M2[j] (hpm.subset (List.getElem_mem _))
        have q2:=hok M2[0] (hpm.subset (List.getElem_mem _))
        have hv2:M2[0]=v:=by rw [← e4,G_lt (by omega)]
        simp only [go_sem,uA,uB,uC,uD,uE,uF,uG,uH,uI,uJ,uK,uL,uM,uN,uO,uP,uQ]
        (refine ADrawT.mem [] mixedOrdersD (by kernel_rfl) (by kernel_rfl) ?_; simp only [go_sem,uA,uB,uC,uD,uE,uF,uG,uH,uI,uJ,uK,uL,uM,uN,uO,uP,uQ])
        simp only [go_sem,hgd2,hset,k1,k2,uA,uB,uC,uD,uE,uF,uG,uH,uI,uJ,uK,uL,uM,uN,uO,uP,uQ]
        refine ⟨⟨by omega,by omega⟩,by omega,⟨by omega,by omega⟩,by omega, ?_⟩
        refine doX_intro (.int .i64 (cmpR M2[j] M2[0])) ⟨rfl,fun mm=>?_⟩ ?_
        ·simp only [go_sem,uA,uB,uC,uD,uE,uF,uG,uH,uI,uJ,uK,uL,uM,uN,uO,uP,uQ]
         refine ACallT.frame (cmpR_ok M2[j] M2[0] _ q1.1 q2.1) ?_
         rintro _ _ rfl
         exact ⟨rfl,rfl⟩
        simp only [go_sem,hgd2,hset,k1,k2,uA,uB,uC,uD,uE,uF,uG,uH,uI,uJ,uK,uL,uM,uN,uO,uP,uQ]
        refine ⟨by simp [okAcc], ?_⟩
        rw [hv2]
        refine acond_intro (fun hx=>?_) (fun hx=>?_)
        ·have hx2:¬ cmpR M2[j] v < 0:=by simpa using hx
         simp only [go_sem,uA,uB,uC,uD,uE,uF,uG,uH,uI,uJ,uK,uL,uM,uN,uO,uP,uQ]
         refine ⟨⟨j, ?_,by omega,⟨d1,by omega,by omega,d4,d5,fun x h1 h2=>?_⟩⟩, ?_⟩
         ·rw [wrap_id (by omega) (by omega)]
         ·by_cases ex:x=j
          ·subst ex; rw [G_lt hjM]; omega
          ·exact d6 x (by omega) h2
         ·rw [wrap_id (by omega) (by omega)]; omega
        ·have hx2:cmpR M2[j] v < 0:=by simpa using hx
         have hii:i≠j:=by
          rintro rfl
          have:=hF (by omega)
          rw [G_lt hjM] at this; omega
         have hij:i < j:=by omega
         have hgt:decide (((P.length+j:Nat):Int) < ((P.length+i:Nat):Int))=false:=decide_eq_false (by omega)
         have k3:=getM P M2 S i _ rfl hiM2
         have k4:=getS (P++(M2++S)) (P.length+i) (P.length+j) M2[j] (by simp; omega)
         have hnew:PTq v (i+1) j ((M2.set i M2[j]).set j M2[i]):=pt_swap ⟨d1,d2,d3,d4,d5,d6⟩ hij hiM2 hjM (hF (by omega)) (by rw [G_lt hjM]; exact hx2)
         simp only [go_sem,hgt,uA,uB,uC,uD,uE,uF,uG,uH,uI,uJ,uK,uL,uM,uN,uO,uP,uQ]
         (refine ADrawT.mem [(13,7),(13,11),(15,7),(15,11),(15,13)] mixedOrdersD (by kernel_rfl) (by kernel_rfl) ?_; simp only [go_sem,uA,uB,uC,uD,uE,uF,uG,uH,uI,uJ,uK,uL,uM,uN,uO,uP,uQ])
         simp only [go_sem,hset,k1,k3,k4,List.set_set,uA,uB,uC,uD,uE,uF,uG,uH,uI,uJ,uK,uL,uM,uN,uO,uP,uQ]
         refine ⟨⟨by omega,by omega⟩,by omega,⟨by omega,by omega⟩,by omega,⟨by omega,by omega⟩,by omega,⟨by omega,by omega⟩,by omega,by simp [okAcc],⟨i+1,j,(M2.set i M2[j]).set j M2[i], ?_, ?_,(swap_perm hiM2 hjM).trans hpm,hnew, ?_⟩, ?_⟩
         ·rw [wrap_id (by omega) (by omega)]; rfl
         ·rw [wrap_id (by omega) (by omega)]
         ·exact congrArg (fun z=>H.set t (.arr g 4 z)) (swapM P M2 S i j _ _ rfl rfl hiM2 hjM)
         ·rw [wrap_id (by omega) (by omega),wrap_id (by omega) (by omega)]; omega
       ·obtain rfl:i=z:=by omega
        obtain ⟨j,rfl⟩:∃ j,i=j+1:=⟨i - 1,by omega⟩
        rw [show ((P.length+(j+1):Nat):Int) - 1=((P.length+j:Nat):Int) by omega]
        have hgd2:decide (((P.length+(j+1):Nat):Int)≤((P.length+j:Nat):Int))=false:=decide_eq_false (by omega)
        have hgt:decide (((P.length+j:Nat):Int) < ((P.length+(j+1):Nat):Int))=true:=decide_eq_true (by omega)
        have hjM:j < M2.length:=by omega
        have h0M:0 < M2.length:=by omega
        have k1:=getM P M2 S j _ rfl hjM
        have k2:=getM P M2 S 0 P.length rfl h0M
        have k3:=getS (P++(M2++S)) (P.length+j) P.length M2[0] (by simp; omega)
        simp only [go_sem,uA,uB,uC,uD,uE,uF,uG,uH,uI,uJ,uK,uL,uM,uN,uO,uP,uQ]
        (refine ADrawT.mem [] mixedOrdersD (by kernel_rfl) (by kernel_rfl) ?_; simp only [go_sem,uA,uB,uC,uD,uE,uF,uG,uH,uI,uJ,uK,uL,uM,uN,uO,uP,uQ])
        simp only [go_sem,hgd2,hset,uA,uB,uC,uD,uE,uF,uG,uH,uI,uJ,uK,uL,uM,uN,uO,uP,uQ]
        refine ⟨by simp [okAcc], ?_⟩
        simp only [go_sem,hgt,uA,uB,uC,uD,uE,uF,uG,uH,uI,uJ,uK,uL,uM,uN,uO,uP,uQ]
        (refine ADrawT.mem [(13,7),(13,11),(15,7),(15,11),(15,13)] mixedOrdersD (by kernel_rfl) (by kernel_rfl) ?_; simp only [go_sem,uA,uB,uC,uD,uE,uF,uG,uH,uI,uJ,uK,uL,uM,uN,uO,uP,uQ])
        simp only [go_sem,hset,k1,k2,k3,List.set_set,uA,uB,uC,uD,uE,uF,uG,uH,uI,uJ,uK,uL,uM,uN,uO,uP,uQ]
        refine ⟨⟨by omega,by omega⟩,by omega,⟨by omega,by omega⟩,by omega,⟨by omega,by omega⟩,by omega,⟨by omega,by omega⟩,by omega,by simp [okAcc], ?_⟩
        exact Fin_plain ⟨j,_,(M2.set j M2[0]).set 0 M2[j],rfl,(swap_perm hjM h0M).trans hpm,pt_end ⟨d1,d2,d3,d4,d5,d6⟩ h0M hjM,congrArg (fun z=>H.set t (.arr g 4 z)) (swapM P M2 S j 0 _ _ rfl rfl hjM h0M)⟩
     ·obtain rfl:i=z0:=by omega
      have hF:i < i→0≤cmpR (G M2 i) v:=fun q=>by omega
      have hgd:decide (((P.length+i:Nat):Int)≤((P.length+i:Nat):Int) - 1)=false:=decide_eq_false (by omega)
      simp only [go_sem,uA,uB,uC,uD,uE,uF,uG,uH,uI,uJ,uK,uL,uM,uN,uO,uP,uQ]
      (refine ADrawT.mem [] mixedOrdersD (by kernel_rfl) (by kernel_rfl) ?_; simp only [go_sem,uA,uB,uC,uD,uE,uF,uG,uH,uI,uJ,uK,uL,uM,uN,uO,uP,uQ])
      simp only [go_sem,hgd,hset,uA,uB,uC,uD,uE,uF,uG,uH,uI,uJ,uK,uL,uM,uN,uO,uP,uQ]
      refine ⟨by simp [okAcc], ?_⟩
      refine ALoop.over [13,123,124,125,126,127,128,129,130,131,132,133,134,135,136,137,138,139,140,141] (fun e H'=>∃ (z:Nat),e.getD 13 .any=.int .i64 (((P.length+z:Nat):Int) - 1)∧z≤i∧PTq v i z M2∧H'=H.set t (.arr g 4 (rowsA (P++(M2++S))))) (fun e _=>(match e.getD 13 .any with | .int _ z=>(z+1).toNat | _=>0)) ⟨i,rfl,by omega,⟨e1,e2,e3,e4,e5,e6⟩,rfl⟩ ?_
      simp only [List.length_cons,List.length_nil,Nat.reduceAdd,allL_succ,allL_zero]
      intro y13 y123 y124 y125 y126 y127 y128 y129 y130 y131 y132 y133 y134 y135 y136 y137 y138 y139 y140 y141 H3 hI
      simp only [go_sem] at hI
      obtain ⟨z,rfl,hi,hpe3,rfl⟩:=hI
      obtain ⟨d1,d2,d3,d4,d5,d6⟩:=hpe3
      obtain rfl:i=z:=by omega
      obtain ⟨j,rfl⟩:∃ j,i=j+1:=⟨i - 1,by omega⟩
      rw [show ((P.length+(j+1):Nat):Int) - 1=((P.length+j:Nat):Int) by omega]
      have hgd2:decide (((P.length+(j+1):Nat):Int)≤((P.length+j:Nat):Int))=false:=decide_eq_false (by omega)
      have hgt:decide (((P.length+j:Nat):Int) < ((P.length+(j+1):Nat):Int))=true:=decide_eq_true (by omega)
      have hjM:j < M2.length:=by omega
      have h0M:0 < M2.length:=by omega
      have k1:=getM P M2 S j _ rfl hjM
      have k2:=getM P M2 S 0 P.length rfl h0M
      have k3:=getS (P++(M2++S)) (P.length+j) P.length M2[0] (by simp; omega)
      simp only [go_sem,uA,uB,uC,uD,uE,uF,uG,uH,uI,uJ,uK,uL,uM,uN,uO,uP,uQ]
      (refine ADrawT.mem [] mixedOrdersD (by kernel_rfl) (by kernel_rfl) ?_; simp only [go_sem,uA,uB,uC,uD,uE,uF,uG,uH,uI,uJ,uK,uL,uM,uN,uO,uP,uQ])
      simp only [go_sem,hgd2,hset,uA,uB,uC,uD,uE,uF,uG,uH,uI,uJ,uK,uL,uM,uN,uO,uP,uQ]
      refine ⟨by simp [okAcc], ?_⟩
      simp only [go_sem,hgt,uA,uB,uC,uD,uE,uF,uG,uH,uI,uJ,uK,uL,uM,uN,uO,uP,uQ]
      (refine ADrawT.mem [(13,7),(13,11),(15,7),(15,11),(15,13)] mixedOrdersD (by kernel_rfl) (by kernel_rfl) ?_; simp only [go_sem,uA,uB,uC,uD,uE,uF,uG,uH,uI,uJ,uK,uL,uM,uN,uO,uP,uQ])
      simp only [go_sem,hset,k1,k2,k3,List.set_set,uA,uB,uC,uD,uE,uF,uG,uH,uI,uJ,uK,uL,uM,uN,uO,uP,uQ]
      refine ⟨⟨by omega,by omega⟩,by omega,⟨by omega,by omega⟩,by omega,⟨by omega,by omega⟩,by omega,⟨by omega,by omega⟩,by omega,by simp [okAcc], ?_⟩
      exact Fin_plain ⟨j,_,(M2.set j M2[0]).set 0 M2[j],rfl,(swap_perm hjM h0M).trans hpm,pt_end ⟨d1,d2,d3,d4,d5,d6⟩ h0M hjM,congrArg (fun z=>H.set t (.arr g 4 z)) (swapM P M2 S j 0 _ _ rfl rfl hjM h0M)⟩
   ·obtain rfl:i=z:=by omega
    obtain ⟨j,rfl⟩:∃ j,i=j+1:=⟨i - 1,by omega⟩
    rw [show ((P.length+(j+1):Nat):Int) - 1=((P.length+j:Nat):Int) by omega]
    have hgd2:decide (((P.length+(j+1):Nat):Int)≤((P.length+j:Nat):Int))=false:=decide_eq_false (by omega)
    have hgt:decide (((P.length+j:Nat):Int) < ((P.length+(j+1):Nat):Int))=true:=decide_eq_true (by omega)
    have hjM:j < M0.length:=by omega
    have h0M:0 < M0.length:=by omega
    have k1:=getM P M0 S j _ rfl hjM
    have k2:=getM P M0 S 0 P.length rfl h0M
    have k3:=getS (P++(M0++S)) (P.length+j) P.length M0[0] (by simp; omega)
    simp only [go_sem,uA,uB,uC,uD,uE,uF,uG,uH,uI,uJ,uK,uL,uM,uN,uO,uP,uQ]
    (refine ADrawT.mem [] mixedOrdersD (by kernel_rfl) (by kernel_rfl) ?_; simp only [go_sem,uA,uB,uC,uD,uE,uF,uG,uH,uI,uJ,uK,uL,uM,uN,uO,uP,uQ])
    simp only [go_sem,hgd2,hset,uA,uB,uC,uD,uE,uF,uG,uH,uI,uJ,uK,uL,uM,uN,uO,uP,uQ]
    refine ⟨by simp [okAcc], ?_⟩
    simp only [go_sem,hgt,uA,uB,uC,uD,uE,uF,uG,uH,uI,uJ,uK,uL,uM,uN,uO,uP,uQ]
    (refine ADrawT.mem [(13,7),(13,11),(15,7),(15,11),(15,13)] mixedOrdersD (by kernel_rfl) (by kernel_rfl) ?_; simp only [go_sem,uA,uB,uC,uD,uE,uF,uG,uH,uI,uJ,uK,uL,uM,uN,uO,uP,uQ])
    simp only [go_sem,hset,k1,k2,k3,List.set_set,uA,uB,uC,uD,uE,uF,uG,uH,uI,uJ,uK,uL,uM,uN,uO,uP,uQ]
    refine ⟨⟨by omega,by omega⟩,by omega,⟨by omega,by omega⟩,by omega,⟨by omega,by omega⟩,by omega,⟨by omega,by omega⟩,by omega,by simp [okAcc], ?_⟩
    exact Fin_plain ⟨j,_,(M0.set j M0[0]).set 0 M0[j],rfl,(swap_perm hjM h0M).trans hpm,pt_end ⟨d1,d2,d3,d4,d5,d6⟩ h0M hjM,congrArg (fun z=>H.set t (.arr g 4 z)) (swapM P M0 S j 0 _ _ rfl rfl hjM h0M)⟩
 ·obtain rfl:i=z0:=by omega
  have hF:i < i→0≤cmpR (G M0 i) v:=fun q=>by omega
  have hgd:decide (((P.length+i:Nat):Int)≤((P.length+i:Nat):Int) - 1)=false:=decide_eq_false (by omega)
  simp only [go_sem,uA,uB,uC,uD,uE,uF,uG,uH,uI,uJ,uK,uL,uM,uN,uO,uP,uQ]
  (refine ADrawT.mem [] mixedOrdersD (by kernel_rfl) (by kernel_rfl) ?_; simp only [go_sem,uA,uB,uC,uD,uE,uF,uG,uH,uI,uJ,uK,uL,uM,uN,uO,uP,uQ])
  simp only [go_sem,hgd,hset,uA,uB,uC,uD,uE,uF,uG,uH,uI,uJ,uK,uL,uM,uN,uO,uP,uQ]
  refine ⟨by simp [okAcc], ?_⟩
  refine ALoop.over [13,50,51,52,53,54,55,56,57,58,59,60,61,62,63,64,65,66,67,68] (fun e H'=>∃ (z:Nat),e.getD 13 .any=.int .i64 (((P.length+z:Nat):Int) - 1)∧z≤i∧PTq v i z M0∧H'=H.set t (.arr g 4 (rowsA (P++(M0++S))))) (fun e _=>(match e.getD 13 .any with | .int _ z=>(z+1).toNat | _=>0)) ⟨i,rfl,by omega,⟨e1,e2,e3,e4,e5,e6⟩,rfl⟩ ?_
  simp only [List.length_cons,List.length_nil,Nat.reduceAdd,allL_succ,allL_zero]
  intro y13 y50 y51 y52 y53 y54 y55 y56 y57 y58 y59 y60 y61 y62 y63 y64 y65 y66 y67 y68 H3 hI
  simp only [go_sem] at hI
  obtain ⟨z,rfl,hi,hpe3,rfl⟩:=hI
  obtain ⟨d1,d2,d3,d4,d5,d6⟩:=hpe3
  obtain rfl:i=z:=by omega
  obtain ⟨j,rfl⟩:∃ j,i=j+1:=⟨i - 1,by omega⟩
  rw [show ((P.length+(j+1):Nat):Int) - 1=((P.length+j:Nat):Int) by omega]
  have hgd2:decide (((P.length+(j+1):Nat):Int)≤((P.length+j:Nat):Int))=false:=decide_eq_false (by omega)
  have hgt:decide (((P.length+j:Nat):Int) < ((P.length+(j+1):Nat):Int))=true:=decide_eq_true (by omega)
  have hjM:j < M0.length:=by omega
  have h0M:0 < M0.length:=by omega
  have k1:=getM P M0 S j _ rfl hjM
  have k2:=getM P M0 S 0 P.length rfl h0M
  have k3:=getS (P++(M0++S)) (P.length+j) P.length M0[0] (by simp; omega)
  simp only [go_sem,uA,uB,uC,uD,uE,uF,uG,uH,uI,uJ,uK,uL,uM,uN,uO,uP,uQ]
  (refine ADrawT.mem [] mixedOrdersD (by kernel_rfl) (by kernel_rfl) ?_; simp only [go_sem,uA,uB,uC,uD,uE,uF,uG,uH,uI,uJ,uK,uL,uM,uN,uO,uP,uQ])
  simp only [go_sem,hgd2,hset,uA,uB,uC,uD,uE,uF,uG,uH,uI,uJ,uK,uL,uM,uN,uO,uP,uQ]
  refine ⟨by simp [okAcc], ?_⟩
  simp only [go_sem,hgt,uA,uB,uC,uD,uE,uF,uG,uH,uI,uJ,uK,uL,uM,uN,uO,uP,uQ]
  (refine ADrawT.mem [(13,7),(13,11),(15,7),(15,11),(15,13)] mixedOrdersD (by kernel_rfl) (by kernel_rfl) ?_; simp only [go_sem,uA,uB,uC,uD,uE,uF,uG,uH,uI,uJ,uK,uL,uM,uN,uO,uP,uQ])
  simp only [go_sem,hset,k1,k2,k3,List.set_set,uA,uB,uC,uD,uE,uF,uG,uH,uI,uJ,uK,uL,uM,uN,uO,uP,uQ]
  refine ⟨⟨by omega,by omega⟩,by omega,⟨by omega,by omega⟩,by omega,⟨by omega,by omega⟩,by omega,⟨by omega,by omega⟩,by omega,by simp [okAcc], ?_⟩
  exact Fin_plain ⟨j,_,(M0.set j M0[0]).set 0 M0[j],rfl,(swap_perm hjM h0M).trans hpm,pt_end ⟨d1,d2,d3,d4,d5,d6⟩ h0M hjM,congrArg (fun z=>H.set t (.arr g 4 z)) (swapM P M0 S j 0 _ _ rfl rfl hjM h0M)⟩
end Go.Proofs.Vale
