/- YtplehleekabbaaaGreatDoorVSrtK: a text of the proof of this claim, by its prover. -/
import Derived.Test.YtplehleekabbaaaGreatDoorVSrtI
open Nat renaming reduceMul → uA, reduceLT → uB, reduceLeDiff → uC, reduceEqDiff → uD, reduceBEq → uE, lt_irrefl → uQ
open Int renaming toNat_natCast → uF, reduceToNat → uG, reduceNeg → uH, reduceLT → uI, reduceLE → uJ, reduceBEq → uK, reduceBNe → uL
open Bool renaming false_eq_true → uO
set_option linter.unusedVariables false
set_option linter.unusedSimpArgs false
set_option maxHeartbeats 8000000
set_option maxRecDepth 100000
namespace Go.Proofs.Vale
open Go.Proofs Go.Proofs.YtplehleekabbaaaGreatDoorT
attribute [local irreducible] acode aopsL aopsT dopsL dopsT pop popG aop ALoop ADraw ACall AWP AFin acondT ALoopT ADrawT ACallT doP doG doGd frL frT frX
def SP (i:Nat) (M:List Rw):Prop:=∀ x y,x < y→y < i→cmpR (G M x) (G M y)≤0
def LI (j i:Nat) (M:List Rw):Prop:=∀ x y,x < y→y < i→y≠j→cmpR (G M x) (G M y)≤0
theorem SP_end {M:List Rw} (h:SP M.length M):SrtR M:=by
 refine List.pairwise_iff_getElem.2 fun i j hi hj hij=>?_
 have:=h i j hij hj
 rwa [G_lt hi,G_lt hj] at this
theorem SP_one (M:List Rw):SP 1 M:=fun x y h1 h2=>by omega
theorem SP_next {i:Nat} {M:List Rw} (h:SP i M) (h0:0 < i) (hn:0≤cmpR (G M i) (G M (i - 1))):SP (i+1) M:=by
 intro x y h1 h2
 by_cases e:y=i
 ·subst e
  by_cases e2:x=y - 1
  ·subst e2; exact cmpR_ge _ _ hn
  ·exact cmpR_le _ _ _ (h x (y - 1) (by omega) (by omega)) (cmpR_ge _ _ hn)
 ·exact h x y h1 (by omega)
theorem SP_high {i j:Nat} {M:List Rw} (h:SP i M) (hij:i < j) (hj:j < M.length):SP i ((M.set j (M[j - 1]'(by omega))).set (j - 1) M[j]):=by
 have sw:=fun k=>G_swap (M:=M) hj (show j - 1 < M.length by omega) (by omega) k
 intro x y h1 h2
 rw [sw,sw]
 simp only [show ¬ x=j by omega,show ¬ x=j - 1 by omega,show ¬ y=j by omega,show ¬ y=j - 1 by omega,if_false]
 exact h x y h1 h2
theorem LI_start {i:Nat} {M:List Rw} (h:SP i M) (h0:0 < i) (hi:i < M.length):LI (i - 1) i ((M.set i (M[i - 1]'(by omega))).set (i - 1) M[i]):=by
 have sw:=fun k=>G_swap (M:=M) hi (show i - 1 < M.length by omega) (by omega) k
 intro x y h1 h2 h3
 rw [sw,sw]
 simp only [show ¬ x=i by omega,show ¬ x=i - 1 by omega,show ¬ y=i by omega,show ¬ y=i - 1 by omega,if_false]
 exact h x y h1 h2
theorem LI_step {i j:Nat} {M:List Rw} (h:LI j i M) (h0:0 < j) (hji:j < i) (hj:j < M.length) (hlt:cmpR (G M j) (G M (j - 1)) < 0):LI (j - 1) i ((M.set j (M[j - 1]'(by omega))).set (j - 1) M[j]):=by
 have sw:=fun k=>G_swap (M:=M) hj (show j - 1 < M.length by omega) (by omega) k
 intro x y h1 h2 h3
 rw [sw,sw]
 by_cases ey:y=j
 ·subst ey
  simp only [if_true,show ¬ x=y by omega,if_false]
  by_cases ex:x=y - 1
  ·simp only [ex,if_true]; omega
  ·simp only [ex,if_false]; exact h x (y - 1) (by omega) (by omega) (by omega)
 ·simp only [ey,h3,if_false]
  by_cases ex:x=j
  ·simp only [ex,if_true]; exact h (j - 1) y (by omega) h2 ey
  ·by_cases ex2:x=j - 1
   ·simp only [ex2,show ¬ j - 1=j by omega,if_true,if_false]
    exact h j y (by omega) h2 ey
   ·simp only [ex,ex2,if_false]; exact h x y h1 h2 ey
theorem LI_end {i j:Nat} {M:List Rw} (h:LI j i M) (hj:0 < j→0≤cmpR (G M j) (G M (j - 1))):SP i M:=by
 intro x y h1 h2
 by_cases e:y=j
 ·subst e
  have:=cmpR_ge _ _ (hj (by omega))
  by_cases e2:x=y - 1
  ·subst e2; exact this
  ·exact cmpR_le _ _ _ (h x (y - 1) (by omega) (by omega) (by omega)) this
 ·exact h x y h1 h2 e
theorem pins_ok (P M S : List Rw) (t g N : Nat) (H : List AObj) (hN : (P ++ (M ++ S)).length = N) (hn : N ≤ 1152921504606846976) (hok : ∀ r ∈ M, RwOk r) (hokP : ∀ r ∈ P, RwOk r) (h0 : 0 < M.length) (hlo : LoR P M) (ht : H[t]? = some (.arr g 4 (rowsA (P ++ (M ++ S))))) :
  ACall Tryz.prog 138 [.sl t g 4 0 N,.int .i64 P.length,.int .i64 (P.length+M.length:Nat),cmpF] H (fun r H'=>∃ (c:Bool) (M':List Rw),r=.bool c∧M'.Perm M∧(c=true→SrtR M')∧H'=H.set t (.arr g 4 (rowsA (P++(M'++S))))):=by
 have hPM:P.length+M.length≤N:=by rw [← hN]; simp
 have htl:t < H.length:=(List.getElem?_eq_some_iff.1 ht).1
 have hset:∀ v:AObj,(H.set t v)[t]? = some v:=fun v=>List.getElem?_set_self htl
 (refine ACall.of_code Tryz.func138 rfl ?_; simp only [Tryz.f138]; simp only [go_sem,uA,uB,uC,uD,uE,uF,uG,uH,uI,uJ,uK,uL,uM,uN,uO,uP,uQ])
 rw [show IntKind.i64.wrap ((P.length:Int)+1)=((P.length+1:Nat):Int) by rw [wrap_id (by omega) (by omega)]; rfl]
 refine ALoop.over [8,9,10,11,12,15,16,17,18,19,20,21,22,23,24,25,26,27,28,29,30,31,32,33,34,35,36,37,38,39,40,41,42,43,44,45,46,47,48,49,50,51,52,53,54,55,56,57,58,59,60,61,62,63,64,65,66,67,68,69,70,71,72,73,74,75,76,77,78,79,80,81,82,83,84,85,86,87,88,89,90,91,92,93,94,95,96,97,98,99,100,101,102,103,104,105,106,107,108,109,110,111,112,113,114,115,116,117,118,119,120,121,122,123,124,125,126,127,128,129,130,131,132,133,134,135,136,137,138,139,140] (fun e H'=>∃ (n i:Nat) (M1:List Rw),e.getD 10 .any=.int .i64 n∧n≤5∧e.getD 9 .any=.int .i64 (P.length+i:Nat)∧0 < i∧i≤M.length∧M1.Perm M∧SP i M1∧H'=H.set t (.arr g 4 (rowsA (P++(M1++S))))) (fun e _=>5 - natA (e.getD 10 .any)) ⟨0,1,M,rfl,by omega,rfl,by omega,by omega,.refl _,SP_one M,(heap_same ht).symm⟩ ?_
 simp only [List.length_cons,List.length_nil,Nat.reduceAdd,allL_succ,allL_zero]
 intro y8 y9 y10 y11 y12 y15 y16 y17 y18 y19 y20 y21 y22 y23 y24 y25 y26 y27 y28 y29 y30 y31 y32 y33 y34 y35 y36 y37 y38 y39 y40 y41 y42 y43 y44 y45 y46 y47 y48 y49 y50 y51 y52 y53 y54 y55 y56 y57 y58 y59 y60 y61 y62 y63 y64 y65 y66 y67 y68 y69 y70 y71 y72 y73 y74 y75 y76 y77 y78 y79 y80 y81 y82 y83 y84 y85 y86 y87 y88 y89 y90 y91 y92 y93 y94 y95 y96 y97 y98 y99 y100 y101 y102 y103 y104 y105 y106 y107 y108 y109 y110 y111 y112 y113 y114 y115 y116 y117 y118 y119 y120 y121 y122 y123 y124 y125 y126 y127 y128 y129 y130 y131 y132 y133 y134 y135 y136 y137 y138 y139 y140 H1 hI
 simp only [go_sem] at hI
 obtain ⟨n,i0,M1,rfl,hn5,rfl,hi00,hi0M,hpm,hsp0,rfl⟩:=hI
 have hl1:=hpm.length_eq
 have hlN:(P++(M1++S)).length=N:=by rw [← hN]; simp [hl1]
 simp only [go_sem,uA,uB,uC,uD,uE,uF,uG,uH,uI,uJ,uK,uL,uM,uN,uO,uP,uQ]
 refine acond_intro (fun hc=>?_) (fun hc=>?_)
 ·have hn4:n < 5:=by have:=of_decide_eq_true hc; omega
  simp only [go_sem,uA,uB,uC,uD,uE,uF,uG,uH,uI,uJ,uK,uL,uM,uN,uO,uP,uQ]
  refine ALoop.over [9,19,20,21,22,23,24,25,26,27,28,29,30,31,32,33,34,35,36,37,38] (fun e H'=>∃ (i:Nat),e.getD 9 .any=.int .i64 (P.length+i:Nat)∧0 < i∧i≤M.length∧SP i M1∧H'=H.set t (.arr g 4 (rowsA (P++(M1++S))))) (fun e _=>P.length+M.length - natA (e.getD 9 .any)) ⟨i0,rfl,hi00,hi0M,hsp0,rfl⟩ ?_
  simp only [List.length_cons,List.length_nil,Nat.reduceAdd,allL_succ,allL_zero]
  intro y9 y19 y20 y21 y22 y23 y24 y25 y26 y27 y28 y29 y30 y31 y32 y33 y34 y35 y36 y37 y38 H2 hI
  simp only [go_sem] at hI
  obtain ⟨i,rfl,hi0,hiM,hsp,rfl⟩:=hI
  by_cases hg:i < M.length
  ·have hgd:decide (((P.length+i:Nat):Int) < ((P.length+M.length:Nat):Int))=true:=decide_eq_true (by omega)
   have hge:((((P.length+i:Nat):Int))==((P.length+M.length:Nat):Int))=false:=beq_eq_false_iff_ne.2 (by omega)
   have hw:IntKind.i64.wrap (((P.length+i:Nat):Int) - 1)=((P.length+(i - 1):Nat):Int):=by rw [wrap_id (by omega) (by omega)]; omega
   have a1:i < M1.length:=by omega
   have a2:i - 1 < M1.length:=by omega
   have f1:=getM P M1 S i _ rfl a1
   have f2:=getM P M1 S (i - 1) _ rfl a2
   have f3:=getS (P++(M1++S)) (P.length+i) (P.length+(i - 1)) M1[i - 1] (by simp; omega)
   have p1:=hok M1[i] (hpm.subset (List.getElem_mem _))
   have p2:=hok M1[i - 1] (hpm.subset (List.getElem_mem _))
   simp only [go_sem,uA,uB,uC,uD,uE,uF,uG,uH,uI,uJ,uK,uL,uM,uN,uO,uP,uQ]
   (refine ADrawT.mem [] mixedOrdersD (by kernel_rfl) (by kernel_rfl) ?_; simp only [go_sem,uA,uB,uC,uD,uE,uF,uG,uH,uI,uJ,uK,uL,uM,uN,uO,uP,uQ])
   simp only [go_sem,hgd,hset,hw,f1,f2,uA,uB,uC,uD,uE,uF,uG,uH,uI,uJ,uK,uL,uM,uN,uO,uP,uQ]
   refine ⟨⟨by omega,by omega⟩,by omega,⟨by omega,by omega⟩,by omega, ?_⟩
   refine doX_intro (.int .i64 (cmpR M1[i] M1[i - 1])) ⟨rfl,fun mm=>?_⟩ ?_
   ·simp only [go_sem,uA,uB,uC,uD,uE,uF,uG,uH,uI,uJ,uK,uL,uM,uN,uO,uP,uQ]
    refine ACallT.frame (cmpR_ok M1[i] M1[i - 1] _ p1.1 p2.1) ?_
    rintro _ _ rfl
    exact ⟨rfl,rfl⟩
   simp only [go_sem,hgd,hset,hw,f1,f2,uA,uB,uC,uD,uE,uF,uG,uH,uI,uJ,uK,uL,uM,uN,uO,uP,uQ]
   refine ⟨by simp [okAcc], ?_⟩
   refine acond_intro (fun hx=>?_) (fun hx=>?_)
   ·have hx2:¬ cmpR M1[i] M1[i - 1] < 0:=by simpa using hx
    simp only [go_sem,uA,uB,uC,uD,uE,uF,uG,uH,uI,uJ,uK,uL,uM,uN,uO,uP,uQ]
    refine ⟨⟨i+1, ?_,by omega,by omega,SP_next hsp hi0 ?_⟩, ?_⟩
    ·rw [wrap_id (by omega) (by omega)]; rfl
    ·rw [G_lt a1,G_lt a2]; omega
    ·rw [wrap_id (by omega) (by omega)]; omega
   ·have hx2:cmpR M1[i] M1[i - 1] < 0:=by simpa using hx
    simp only [go_sem,hge,uA,uB,uC,uD,uE,uF,uG,uH,uI,uJ,uK,uL,uM,uN,uO,uP,uQ]
    have w5:IntKind.i64.wrap (((P.length+M.length:Nat):Int) - (P.length:Int))=(M.length:Int):=by rw [wrap_id (by omega) (by omega)]; omega
    by_cases h50:M.length < 50
    ·have hd5:decide ((M.length:Int) < 50)=true:=decide_eq_true (by omega)
     simp only [go_sem,w5,hd5,uA,uB,uC,uD,uE,uF,uG,uH,uI,uJ,uK,uL,uM,uN,uO,uP,uQ]
     exact Fin_plain ⟨false,M1,rfl,hpm,by simp,rfl⟩
    ·have hd5:decide ((M.length:Int) < 50)=false:=decide_eq_false (by omega)
     simp only [go_sem,w5,hd5,uA,uB,uC,uD,uE,uF,uG,uH,uI,uJ,uK,uL,uM,uN,uO,uP,uQ]
     (refine ADrawT.mem [(15,9),(15,13),(17,9),(17,13),(17,15)] mixedOrdersD (by kernel_rfl) (by kernel_rfl) ?_; simp only [go_sem,uA,uB,uC,uD,uE,uF,uG,uH,uI,uJ,uK,uL,uM,uN,uO,uP,uQ])
     simp only [go_sem,hset,hw,f1,f2,f3,List.set_set,uA,uB,uC,uD,uE,uF,uG,uH,uI,uJ,uK,uL,uM,uN,uO,uP,uQ]
     refine ⟨⟨by omega,by omega⟩,by omega,⟨by omega,by omega⟩,by omega,⟨by omega,by omega⟩,by omega,⟨by omega,by omega⟩,by omega,by simp [okAcc], ?_⟩
     obtain ⟨M2,hM2⟩:∃ M2,M2=(M1.set i M1[i - 1]).set (i - 1) M1[i]:=⟨_,rfl⟩
     have hme:H.set t (.arr g 4 (((rowsA (P++(M1++S))).set (P.length+i) (rowA M1[i - 1])).set (P.length+(i - 1)) (rowA M1[i])))=H.set t (.arr g 4 (rowsA (P++(M2++S)))):=by rw [hM2]; exact congrArg (fun z=>H.set t (.arr g 4 z)) (swapM P M1 S i (i - 1) _ _ rfl rfl a1 a2)
     have hpm2:M2.Perm M:=by rw [hM2]; exact (swap_perm a1 a2).trans hpm
     have hli:LI (i - 1) i M2:=by rw [hM2]; exact LI_start hsp hi0 a1
     have hsp2:i=1→SP i M2:=by rintro rfl; exact SP_one _
     have hl2:=hpm2.length_eq
     have hlN2:(P++(M2++S)).length=N:=by rw [← hN]; simp [hl2]
     have w6:IntKind.i64.wrap (((P.length+i:Nat):Int) - (P.length:Int))=(i:Int):=by rw [wrap_id (by omega) (by omega)]; omega
     by_cases h2:i=1
     ·have hd2:decide (2≤(i:Int))=false:=decide_eq_false (by omega)
      have hs:=hsp2 h2
      simp only [go_sem,w6,hd2,uA,uB,uC,uD,uE,uF,uG,uH,uI,uJ,uK,uL,uM,uN,uO,uP,uQ]
      have w7:IntKind.i64.wrap (((P.length+M.length:Nat):Int) - ((P.length+i:Nat):Int))=((M.length - i:Nat):Int):=by rw [wrap_id (by omega) (by omega)]; omega
      have w8:IntKind.i64.wrap (((P.length+i:Nat):Int)+1)=((P.length+(i+1):Nat):Int):=by rw [wrap_id (by omega) (by omega)]; rfl
      by_cases h8:2≤M.length - i
      ·have hd8:decide (2≤((M.length - i:Nat):Int))=true:=decide_eq_true (by omega)
       simp only [go_sem,w7,w8,hd8,uA,uB,uC,uD,uE,uF,uG,uH,uI,uJ,uK,uL,uM,uN,uO,uP,uQ]
       refine ALoop.over [12,107,108,109,110,111,112,113,114,115,116,117,118,119,120,121,122,123,124,125,126,127,128,129,130,131,132,133,134,135,136,137,138,139,140] (fun e H'=>∃ (j:Nat) (M4:List Rw),e.getD 12 .any=.int .i64 (P.length+j:Nat)∧i < j∧j≤M.length∧M4.Perm M∧SP i M4∧H'=H.set t (.arr g 4 (rowsA (P++(M4++S))))) (fun e _=>P.length+M.length - natA (e.getD 12 .any)) ⟨i+1,M2,rfl,by omega,by omega,hpm2,hs,hme⟩ ?_
       simp only [List.length_cons,List.length_nil,Nat.reduceAdd,allL_succ,allL_zero]
       intro y12 y107 y108 y109 y110 y111 y112 y113 y114 y115 y116 y117 y118 y119 y120 y121 y122 y123 y124 y125 y126 y127 y128 y129 y130 y131 y132 y133 y134 y135 y136 y137 y138 y139 y140 H5 hI
       simp only [go_sem] at hI
       obtain ⟨j4,M4,rfl,hij4,hj4M,hpm4,hs4,rfl⟩:=hI
       have hl4:=hpm4.length_eq
       have hlN4:(P++(M4++S)).length=N:=by rw [← hN]; simp [hl4]
       simp only [go_sem,uA,uB,uC,uD,uE,uF,uG,uH,uI,uJ,uK,uL,uM,uN,uO,uP,uQ]
       refine acond_intro (fun hb4=>?_) (fun hb4=>?_)
       ·have hb5:j4 < M.length:=by have:=of_decide_eq_true hb4; omega
        have r1:j4 < M4.length:=by omega
        have r2:j4 - 1 < M4.length:=by omega
        have hw4:IntKind.i64.wrap (((P.length+j4:Nat):Int) - 1)=((P.length+(j4 - 1):Nat):Int):=by rw [wrap_id (by omega) (by omega)]; omega
        have s1:=getM P M4 S j4 _ rfl r1
        have s2:=getM P M4 S (j4 - 1) _ rfl r2
        have s3:=getS (P++(M4++S)) (P.length+j4) (P.length+(j4 - 1)) M4[j4 - 1] (by rw [hlN4]; omega)
        have t1:=hok M4[j4] (hpm4.subset (List.getElem_mem _))
        have t2:=hok M4[j4 - 1] (hpm4.subset (List.getElem_mem _))
        simp only [go_sem,uA,uB,uC,uD,uE,uF,uG,uH,uI,uJ,uK,uL,uM,uN,uO,uP,uQ]
        (refine ADrawT.mem [] mixedOrdersD (by kernel_rfl) (by kernel_rfl) ?_; simp only [go_sem,uA,uB,uC,uD,uE,uF,uG,uH,uI,uJ,uK,uL,uM,uN,uO,uP,uQ])
        simp only [go_sem,hset,hw4,s1,s2,uA,uB,uC,uD,uE,uF,uG,uH,uI,uJ,uK,uL,uM,uN,uO,uP,uQ]
        refine ⟨⟨by omega,by omega⟩,by omega,⟨by omega,by omega⟩,by omega, ?_⟩
        refine doX_intro (.int .i64 (cmpR M4[j4] M4[j4 - 1])) ⟨rfl,fun mm=>?_⟩ ?_
        ·simp only [go_sem,uA,uB,uC,uD,uE,uF,uG,uH,uI,uJ,uK,uL,uM,uN,uO,uP,uQ]
         refine ACallT.frame (cmpR_ok M4[j4] M4[j4 - 1] _ t1.1 t2.1) ?_
         rintro _ _ rfl
         exact ⟨rfl,rfl⟩
        simp only [go_sem,hset,hw4,s1,s2,uA,uB,uC,uD,uE,uF,uG,uH,uI,uJ,uK,uL,uM,uN,uO,uP,uQ]
        refine ⟨by simp [okAcc], ?_⟩
        refine acond_intro (fun hx5=>?_) (fun hx5=>?_)
        ·simp (config:={ maxSteps:=10000000 }) only [go_sem,uA,uB,uC,uD,uE,uF,uG,uH,uI,uJ,uK,uL,uM,uN,uO,uP,uQ]
         refine ⟨⟨n+1,i,_, ?_,by omega,rfl,hi0,hiM,hpm4,hs4,rfl⟩, ?_⟩
         ·rw [wrap_id (by omega) (by omega)]; rfl
         ·rw [wrap_id (by omega) (by omega)]; omega
        ·simp only [go_sem,uA,uB,uC,uD,uE,uF,uG,uH,uI,uJ,uK,uL,uM,uN,uO,uP,uQ]
         (refine ADrawT.mem [(15,9),(15,13),(17,9),(17,13),(17,15)] mixedOrdersD (by kernel_rfl) (by kernel_rfl) ?_; simp only [go_sem,uA,uB,uC,uD,uE,uF,uG,uH,uI,uJ,uK,uL,uM,uN,uO,uP,uQ])
         simp only [go_sem,hset,hw4,s1,s2,s3,List.set_set,uA,uB,uC,uD,uE,uF,uG,uH,uI,uJ,uK,uL,uM,uN,uO,uP,uQ]
         refine ⟨⟨by omega,by omega⟩,by omega,⟨by omega,by omega⟩,by omega,⟨by omega,by omega⟩,by omega,⟨by omega,by omega⟩,by omega,by simp [okAcc],⟨j4+1,(M4.set j4 M4[j4 - 1]).set (j4 - 1) M4[j4], ?_,by omega,by omega,(swap_perm r1 r2).trans hpm4,SP_high hs4 hij4 r1,congrArg (fun z=>H.set t (.arr g 4 z)) (swapM P M4 S j4 (j4 - 1) _ _ rfl rfl r1 r2)⟩, ?_⟩
         ·rw [wrap_id (by omega) (by omega)]; rfl
         ·rw [wrap_id (by omega) (by omega)]; omega
       ·simp only [go_sem,uA,uB,uC,uD,uE,uF,uG,uH,uI,uJ,uK,uL,uM,uN,uO,uP,uQ]
        refine ⟨⟨n+1,i,_, ?_,by omega,rfl,hi0,hiM,hpm4,hs4,rfl⟩, ?_⟩
        ·rw [wrap_id (by omega) (by omega)]; rfl
        ·rw [wrap_id (by omega) (by omega)]; omega
      ·have hd8:decide (2≤((M.length - i:Nat):Int))=false:=decide_eq_false (by omega)
       simp only [go_sem,w7,hd8,uA,uB,uC,uD,uE,uF,uG,uH,uI,uJ,uK,uL,uM,uN,uO,uP,uQ]
       refine ⟨⟨n+1,i,_, ?_,by omega,rfl,hi0,hiM,hpm2,hs,hme⟩, ?_⟩
       ·rw [wrap_id (by omega) (by omega)]; rfl
       ·rw [wrap_id (by omega) (by omega)]; omega
     ·have hd2:decide (2≤(i:Int))=true:=decide_eq_true (by omega)
      simp only [go_sem,w6,hd2,hw,uA,uB,uC,uD,uE,uF,uG,uH,uI,uJ,uK,uL,uM,uN,uO,uP,uQ]
      refine ALoop.over [11,68,69,70,71,72,73,74,75,76,77,78,79,80,81,82,83,84,85,86,87,88,89,90,91,92,93,94,95,96,97,98,99,100] (fun e H'=>∃ (j:Nat) (M3:List Rw),e.getD 11 .any=.int .i64 (P.length+j:Nat)∧j < i∧M3.Perm M∧LI j i M3∧H'=H.set t (.arr g 4 (rowsA (P++(M3++S))))) (fun e _=>natA (e.getD 11 .any)) ⟨i - 1,M2,rfl,by omega,hpm2,hli,hme⟩ ?_
      clear hli hsp2 f1 f2 f3
      simp only [List.length_cons,List.length_nil,Nat.reduceAdd,allL_succ,allL_zero]
      intro y11 y68 y69 y70 y71 y72 y73 y74 y75 y76 y77 y78 y79 y80 y81 y82 y83 y84 y85 y86 y87 y88 y89 y90 y91 y92 y93 y94 y95 y96 y97 y98 y99 y100 H3 hI
      simp only [go_sem] at hI
      obtain ⟨j,M3,rfl,hji,hpm3,hlj,rfl⟩:=hI
      have hl3:=hpm3.length_eq
      have hlN3:(P++(M3++S)).length=N:=by rw [← hN]; simp [hl3]
      simp only [go_sem,uA,uB,uC,uD,uE,uF,uG,uH,uI,uJ,uK,uL,uM,uN,uO,uP,uQ]
      refine acond_intro (fun hb=>?_) (fun hb=>?_)
      ·have hb2:1≤P.length+j:=by have:=of_decide_eq_true hb; omega
       have b1:j < M3.length:=by omega
       obtain ⟨u,k',hk',e2,c2,hu0,hu1⟩:∃ (u:Rw) (k':Nat),P.length+j=k'+1∧(rowsA (P++(M3++S))).getD k' .any=.agg [.int .i64 u.1,.fz false (strs u.2.1),.int .i64 u.2.2.1,.fz false (a3s u.2.2.2)]∧RwOk u∧(j=0→0≤cmpR M3[j] u)∧(0 < j→u=G M3 (j - 1)):=by
        by_cases hj0:j=0
        ·rcases List.eq_nil_or_concat P with e | ⟨P',q,e⟩
         ·subst e; simp [hj0] at hb2
         ·rw [List.concat_eq_append] at e
          refine ⟨q,P'.length,by rw [e,hj0]; simp, ?_,hokP q (by rw [e]; simp),fun _=>?_,fun h=>absurd h (by omega)⟩
          ·rw [e,show (P'++[q])++(M3++S)=P'++q::(M3++S) by simp]; exact get_mid _ _ _ _ rfl
          ·have:=hlo P' q e M3[j] (hpm3.subset (List.getElem_mem _))
           rw [cmpR_flip]; omega
        ·have b2:j - 1 < M3.length:=by omega
         exact ⟨M3[j - 1],P.length+(j - 1),by omega,getM P M3 S (j - 1) _ rfl b2,hok M3[j - 1] (hpm3.subset (List.getElem_mem _)),fun h=>absurd h hj0,fun _=>(G_lt b2).symm⟩
       have hkN:k'+1 < N+1:=by omega
       have hw3:IntKind.i64.wrap (((P.length+j:Nat):Int) - 1)=(k':Int):=by rw [wrap_id (by omega) (by omega)]; omega
       have e1:=getM P M3 S j _ rfl b1
       have c1:=hok M3[j] (hpm3.subset (List.getElem_mem _))
       simp only [go_sem,uA,uB,uC,uD,uE,uF,uG,uH,uI,uJ,uK,uL,uM,uN,uO,uP,uQ]
       (refine ADrawT.mem [] mixedOrdersD (by kernel_rfl) (by kernel_rfl) ?_; simp only [go_sem,uA,uB,uC,uD,uE,uF,uG,uH,uI,uJ,uK,uL,uM,uN,uO,uP,uQ])
       simp only [go_sem,hset,hw3,e1,e2,uA,uB,uC,uD,uE,uF,uG,uH,uI,uJ,uK,uL,uM,uN,uO,uP,uQ]
       refine ⟨⟨by omega,by omega⟩,by omega,⟨by omega,by omega⟩,by omega, ?_⟩
       refine doX_intro (.int .i64 (cmpR M3[j] u)) ⟨rfl,fun mm=>?_⟩ ?_
       ·simp only [go_sem,uA,uB,uC,uD,uE,uF,uG,uH,uI,uJ,uK,uL,uM,uN,uO,uP,uQ]
        refine ACallT.frame (cmpR_ok M3[j] u _ c1.1 c2.1) ?_
        rintro _ _ rfl
        exact ⟨rfl,rfl⟩
       simp only [go_sem,hset,hw3,e1,e2,uA,uB,uC,uD,uE,uF,uG,uH,uI,uJ,uK,uL,uM,uN,uO,uP,uQ]
       refine ⟨by simp [okAcc], ?_⟩
       refine acond_intro (fun hx3=>?_) (fun hx3=>?_)
       ·have hx4:¬ cmpR M3[j] u < 0:=by simpa using hx3
        have hs:=LI_end hlj (by intro h; rw [← hu1 h,G_lt b1]; omega)
        simp only [go_sem,uA,uB,uC,uD,uE,uF,uG,uH,uI,uJ,uK,uL,uM,uN,uO,uP,uQ]
        have w7:IntKind.i64.wrap (((P.length+M.length:Nat):Int) - ((P.length+i:Nat):Int))=((M.length - i:Nat):Int):=by rw [wrap_id (by omega) (by omega)]; omega
        have w8:IntKind.i64.wrap (((P.length+i:Nat):Int)+1)=((P.length+(i+1):Nat):Int):=by rw [wrap_id (by omega) (by omega)]; rfl
        by_cases h8:2≤M.length - i
        ·have hd8:decide (2≤((M.length - i:Nat):Int))=true:=decide_eq_true (by omega)
         simp only [go_sem,w7,w8,hd8,uA,uB,uC,uD,uE,uF,uG,uH,uI,uJ,uK,uL,uM,uN,uO,uP,uQ]
         refine ALoop.over [12,107,108,109,110,111,112,113,114,115,116,117,118,119,120,121,122,123,124,125,126,127,128,129,130,131,132,133,134,135,136,137,138,139,140] (fun e H'=>∃ (j:Nat) (M4:List Rw),e.getD 12 .any=.int .i64 (P.length+j:Nat)∧i < j∧j≤M.length∧M4.Perm M∧SP i M4∧H'=H.set t (.arr g 4 (rowsA (P++(M4++S))))) (fun e _=>P.length+M.length - natA (e.getD 12 .any)) ⟨i+1,M3,rfl,by omega,by omega,hpm3,hs,rfl⟩ ?_
         simp only [List.length_cons,List.length_nil,Nat.reduceAdd,allL_succ,allL_zero]
         intro y12 y107 y108 y109 y110 y111 y112 y113 y114 y115 y116 y117 y118 y119 y120 y121 y122 y123 y124 y125 y126 y127 y128 y129 y130 y131 y132 y133 y134 y135 y136 y137 y138 y139 y140 H5 hI
         simp only [go_sem] at hI
         obtain ⟨j4,M4,rfl,hij4,hj4M,hpm4,hs4,rfl⟩:=hI
         have hl4:=hpm4.length_eq
         have hlN4:(P++(M4++S)).length=N:=by rw [← hN]; simp [hl4]
         simp only [go_sem,uA,uB,uC,uD,uE,uF,uG,uH,uI,uJ,uK,uL,uM,uN,uO,uP,uQ]
         refine acond_intro (fun hb4=>?_) (fun hb4=>?_)
         ·have hb5:j4 < M.length:=by have:=of_decide_eq_true hb4; omega
          have r1:j4 < M4.length:=by omega
          have r2:j4 - 1 < M4.length:=by omega
          have hw4:IntKind.i64.wrap (((P.length+j4:Nat):Int) - 1)=((P.length+(j4 - 1):Nat):Int):=by rw [wrap_id (by omega) (by omega)]; omega
          have s1:=getM P M4 S j4 _ rfl r1
          have s2:=getM P M4 S (j4 - 1) _ rfl r2
          have s3:=getS (P++(M4++S)) (P.length+j4) (P.length+(j4 - 1)) M4[j4 - 1] (by rw [hlN4]; omega)
          have t1:=hok M4[j4] (hpm4.subset (List.getElem_mem _))
          have t2:=hok M4[j4 - 1] (hpm4.subset (List.getElem_mem _))
          simp only [go_sem,uA,uB,uC,uD,uE,uF,uG,uH,uI,uJ,uK,uL,uM,uN,uO,uP,uQ]
          (refine ADrawT.mem [] mixedOrdersD (by kernel_rfl) (by kernel_rfl) ?_; simp only [go_sem,uA,uB,uC,uD,uE,uF,uG,uH,uI,uJ,uK,uL,uM,uN,uO,uP,uQ])
          simp only [go_sem,hset,hw4,s1,s2,uA,uB,uC,uD,uE,uF,uG,uH,uI,uJ,uK,uL,uM,uN,uO,uP,uQ]
          refine ⟨⟨by omega,by omega⟩,by omega,⟨by omega,by omega⟩,by omega, ?_⟩
          refine doX_intro (.int .i64 (cmpR M4[j4] M4[j4 - 1])) ⟨rfl,fun mm=>?_⟩ ?_
          ·simp only [go_sem,uA,uB,uC,uD,uE,uF,uG,uH,uI,uJ,uK,uL,uM,uN,uO,uP,uQ]
           refine ACallT.frame (cmpR_ok M4[j4] M4[j4 - 1] _ t1.1 t2.1) ?_
           rintro _ _ rfl
           exact ⟨rfl,rfl⟩
          simp only [go_sem,hset,hw4,s1,s2,uA,uB,uC,uD,uE,uF,uG,uH,uI,uJ,uK,uL,uM,uN,uO,uP,uQ]
          refine ⟨by simp [okAcc], ?_⟩
          refine acond_intro (fun hx5=>?_) (fun hx5=>?_)
          ·simp (config:={ maxSteps:=10000000 }) only [go_sem,uA,uB,uC,uD,uE,uF,uG,uH,uI,uJ,uK,uL,uM,uN,uO,uP,uQ]
           refine ⟨⟨n+1,i,_, ?_,by omega,rfl,hi0,hiM,hpm4,hs4,rfl⟩, ?_⟩
           ·rw [wrap_id (by omega) (by omega)]; rfl
           ·rw [wrap_id (by omega) (by omega)]; omega
          ·simp only [go_sem,uA,uB,uC,uD,uE,uF,uG,uH,uI,uJ,uK,uL,uM,uN,uO,uP,uQ]
           (refine ADrawT.mem [(15,9),(15,13),(17,9),(17,13),(17,15)] mixedOrdersD (by kernel_rfl) (by kernel_rfl) ?_; simp only [go_sem,uA,uB,uC,uD,uE,uF,uG,uH,uI,uJ,uK,uL,uM,uN,uO,uP,uQ])
           simp only [go_sem,hset,hw4,s1,s2,s3,List.set_set,uA,uB,uC,uD,uE,uF,uG,uH,uI,uJ,uK,uL,uM,uN,uO,uP,uQ]
           refine ⟨⟨by omega,by omega⟩,by omega,⟨by omega,by omega⟩,by omega,⟨by omega,by omega⟩,by omega,⟨by omega,by omega⟩,by omega,by simp [okAcc],⟨j4+1,(M4.set j4 M4[j4 - 1]).set (j4 - 1) M4[j4], ?_,by omega,by omega,(swap_perm r1 r2).trans hpm4,SP_high hs4 hij4 r1,congrArg (fun z=>H.set t (.arr g 4 z)) (swapM P M4 S j4 (j4 - 1) _ _ rfl rfl r1 r2)⟩, ?_⟩
           ·rw [wrap_id (by omega) (by omega)]; rfl
           ·rw [wrap_id (by omega) (by omega)]; omega
         ·simp only [go_sem,uA,uB,uC,uD,uE,uF,uG,uH,uI,uJ,uK,uL,uM,uN,uO,uP,uQ]
          refine ⟨⟨n+1,i,_, ?_,by omega,rfl,hi0,hiM,hpm4,hs4,rfl⟩, ?_⟩
          ·rw [wrap_id (by omega) (by omega)]; rfl
          ·rw [wrap_id (by omega) (by omega)]; omega
        ·have hd8:decide (2≤((M.length - i:Nat):Int))=false:=decide_eq_false (by omega)
         simp only [go_sem,w7,hd8,uA,uB,uC,uD,uE,uF,uG,uH,uI,uJ,uK,uL,uM,uN,uO,uP,uQ]
         refine ⟨⟨n+1,i,_, ?_,by omega,rfl,hi0,hiM,hpm3,hs,rfl⟩, ?_⟩
         ·rw [wrap_id (by omega) (by omega)]; rfl
         ·rw [wrap_id (by omega) (by omega)]; omega
       ·have hx4:cmpR M3[j] u < 0:=by simpa using hx3
        have hj0:0 < j:=by
         rcases Nat.eq_zero_or_pos j with h | h
         ·have:=hu0 h; omega
         ·exact h
        have b2:j - 1 < M3.length:=by omega
        obtain rfl:k'=P.length+(j - 1):=by omega
        obtain rfl:u=M3[j - 1]:=by rw [hu1 hj0,G_lt b2]
        have e3:=getS (P++(M3++S)) (P.length+j) (P.length+(j - 1)) M3[j - 1] (by simp; omega)
        simp only [go_sem,uA,uB,uC,uD,uE,uF,uG,uH,uI,uJ,uK,uL,uM,uN,uO,uP,uQ]
        (refine ADrawT.mem [(15,9),(15,13),(17,9),(17,13),(17,15)] mixedOrdersD (by kernel_rfl) (by kernel_rfl) ?_; simp only [go_sem,uA,uB,uC,uD,uE,uF,uG,uH,uI,uJ,uK,uL,uM,uN,uO,uP,uQ])
        simp only [go_sem,hset,hw3,e1,e2,e3,List.set_set,uA,uB,uC,uD,uE,uF,uG,uH,uI,uJ,uK,uL,uM,uN,uO,uP,uQ]
        refine ⟨⟨by omega,by omega⟩,by omega,⟨by omega,by omega⟩,by omega,⟨by omega,by omega⟩,by omega,⟨by omega,by omega⟩,by omega,by simp [okAcc],⟨j - 1,(M3.set j M3[j - 1]).set (j - 1) M3[j],rfl,by omega,(swap_perm b1 b2).trans hpm3,LI_step hlj (by omega) hji b1 (by rw [G_lt b1,G_lt b2]; exact hx4),congrArg (fun z=>H.set t (.arr g 4 z)) (swapM P M3 S j (j - 1) _ _ rfl rfl b1 b2)⟩, ?_⟩
        omega
      ·have hb2:¬ 1≤P.length+j:=by have:=of_decide_eq_false hb; omega
       have hs:=LI_end hlj (by intro q; omega)
       simp only [go_sem,uA,uB,uC,uD,uE,uF,uG,uH,uI,uJ,uK,uL,uM,uN,uO,uP,uQ]
       have w7:IntKind.i64.wrap (((P.length+M.length:Nat):Int) - ((P.length+i:Nat):Int))=((M.length - i:Nat):Int):=by rw [wrap_id (by omega) (by omega)]; omega
       have w8:IntKind.i64.wrap (((P.length+i:Nat):Int)+1)=((P.length+(i+1):Nat):Int):=by rw [wrap_id (by omega) (by omega)]; rfl
       by_cases h8:2≤M.length - i
       ·have hd8:decide (2≤((M.length - i:Nat):Int))=true:=decide_eq_true (by omega)
        simp only [go_sem,w7,w8,hd8,uA,uB,uC,uD,uE,uF,uG,uH,uI,uJ,uK,uL,uM,uN,uO,uP,uQ]
        refine ALoop.over [12,107,108,109,110,111,112,113,114,115,116,117,118,119,120,121,122,123,124,125,126,127,128,129,130,131,132,133,134,135,136,137,138,139,140] (fun e H'=>∃ (j:Nat) (M4:List Rw),e.getD 12 .any=.int .i64 (P.length+j:Nat)∧i < j∧j≤M.length∧M4.Perm M∧SP i M4∧H'=H.set t (.arr g 4 (rowsA (P++(M4++S))))) (fun e _=>P.length+M.length - natA (e.getD 12 .any)) ⟨i+1,M3,rfl,by omega,by omega,hpm3,hs,rfl⟩ ?_
        simp only [List.length_cons,List.length_nil,Nat.reduceAdd,allL_succ,allL_zero]
        intro y12 y107 y108 y109 y110 y111 y112 y113 y114 y115 y116 y117 y118 y119 y120 y121 y122 y123 y124 y125 y126 y127 y128 y129 y130 y131 y132 y133 y134 y135 y136 y137 y138 y139 y140 H5 hI
        simp only [go_sem] at hI
        obtain ⟨j4,M4,rfl,hij4,hj4M,hpm4,hs4,rfl⟩:=hI
        have hl4:=hpm4.length_eq
        have hlN4:(P++(M4++S)).length=N:=by rw [← hN]; simp [hl4]
        simp only [go_sem,uA,uB,uC,uD,uE,uF,uG,uH,uI,uJ,uK,uL,uM,uN,uO,uP,uQ]
        refine acond_intro (fun hb4=>?_) (fun hb4=>?_)
        ·have hb5:j4 < M.length:=by have:=of_decide_eq_true hb4; omega
         have r1:j4 < M4.length:=by omega
         have r2:j4 - 1 < M4.length:=by omega
         have hw4:IntKind.i64.wrap (((P.length+j4:Nat):Int) - 1)=((P.length+(j4 - 1):Nat):Int):=by rw [wrap_id (by omega) (by omega)]; omega
         have s1:=getM P M4 S j4 _ rfl r1
         have s2:=getM P M4 S (j4 - 1) _ rfl r2
         have s3:=getS (P++(M4++S)) (P.length+j4) (P.length+(j4 - 1)) M4[j4 - 1] (by rw [hlN4]; omega)
         have t1:=hok M4[j4] (hpm4.subset (List.getElem_mem _))
         have t2:=hok M4[j4 - 1] (hpm4.subset (List.getElem_mem _))
         simp only [go_sem,uA,uB,uC,uD,uE,uF,uG,uH,uI,uJ,uK,uL,uM,uN,uO,uP,uQ]
         (refine ADrawT.mem [] mixedOrdersD (by kernel_rfl) (by kernel_rfl) ?_; simp only [go_sem,uA,uB,uC,uD,uE,uF,uG,uH,uI,uJ,uK,uL,uM,uN,uO,uP,uQ])
         simp only [go_sem,hset,hw4,s1,s2,uA,uB,uC,uD,uE,uF,uG,uH,uI,uJ,uK,uL,uM,uN,uO,uP,uQ]
         refine ⟨⟨by omega,by omega⟩,by omega,⟨by omega,by omega⟩,by omega, ?_⟩
         refine doX_intro (.int .i64 (cmpR M4[j4] M4[j4 - 1])) ⟨rfl,fun mm=>?_⟩ ?_
         ·simp only [go_sem,uA,uB,uC,uD,uE,uF,uG,uH,uI,uJ,uK,uL,uM,uN,uO,uP,uQ]
          refine ACallT.frame (cmpR_ok M4[j4] M4[j4 - 1] _ t1.1 t2.1) ?_
          rintro _ _ rfl
          exact ⟨rfl,rfl⟩
         simp only [go_sem,hset,hw4,s1,s2,uA,uB,uC,uD,uE,uF,uG,uH,uI,uJ,uK,uL,uM,uN,uO,uP,uQ]
         refine ⟨by simp [okAcc], ?_⟩
         refine acond_intro (fun hx5=>?_) (fun hx5=>?_)
         ·simp (config:={ maxSteps:=10000000 }) only [go_sem,uA,uB,uC,uD,uE,uF,uG,uH,uI,uJ,uK,uL,uM,uN,uO,uP,uQ]
          refine ⟨⟨n+1,i,_, ?_,by omega,rfl,hi0,hiM,hpm4,hs4,rfl⟩, ?_⟩
          ·rw [wrap_id (by omega) (by omega)]; rfl
          ·rw [wrap_id (by omega) (by omega)]; omega
         ·simp only [go_sem,uA,uB,uC,uD,uE,uF,uG,uH,uI,uJ,uK,uL,uM,uN,uO,uP,uQ]
          (refine ADrawT.mem [(15,9),(15,13),(17,9),(17,13),(17,15)] mixedOrdersD (by kernel_rfl) (by kernel_rfl) ?_; simp only [go_sem,uA,uB,uC,uD,uE,uF,uG,uH,uI,uJ,uK,uL,uM,uN,uO,uP,uQ])
          simp only [go_sem,hset,hw4,s1,s2,s3,List.set_set,uA,uB,uC,uD,uE,uF,uG,uH,uI,uJ,uK,uL,uM,uN,uO,uP,uQ]
          refine ⟨⟨by omega,by omega⟩,by omega,⟨by omega,by omega⟩,by omega,⟨by omega,by omega⟩,by omega,⟨by omega,by omega⟩,by omega,by simp [okAcc],⟨j4+1,(M4.set j4 M4[j4 - 1]).set (j4 - 1) M4[j4], ?_,by omega,by omega,(swap_perm r1 r2).trans hpm4,SP_high hs4 hij4 r1,congrArg (fun z=>H.set t (.arr g 4 z)) (swapM P M4 S j4 (j4 - 1) _ _ rfl rfl r1 r2)⟩, ?_⟩
          ·rw [wrap_id (by omega) (by omega)]; rfl
          ·rw [wrap_id (by omega) (by omega)]; omega
        ·simp only [go_sem,uA,uB,uC,uD,uE,uF,uG,uH,uI,uJ,uK,uL,uM,uN,uO,uP,uQ]
         refine ⟨⟨n+1,i,_, ?_,by omega,rfl,hi0,hiM,hpm4,hs4,rfl⟩, ?_⟩
         ·rw [wrap_id (by omega) (by omega)]; rfl
         ·rw [wrap_id (by omega) (by omega)]; omega
       ·have hd8:decide (2≤((M.length - i:Nat):Int))=false:=decide_eq_false (by omega)
        simp only [go_sem,w7,hd8,uA,uB,uC,uD,uE,uF,uG,uH,uI,uJ,uK,uL,uM,uN,uO,uP,uQ]
        refine ⟨⟨n+1,i,_, ?_,by omega,rfl,hi0,hiM,hpm3,hs,rfl⟩, ?_⟩
        ·rw [wrap_id (by omega) (by omega)]; rfl
        ·rw [wrap_id (by omega) (by omega)]; omega
  ·have hie:i=M.length:=by omega
   have hgd:decide (((P.length+i:Nat):Int) < ((P.length+M.length:Nat):Int))=false:=decide_eq_false (by omega)
   have hge:((((P.length+i:Nat):Int))==((P.length+M.length:Nat):Int))=true:=by rw [hie]; simp
   simp only [go_sem,uA,uB,uC,uD,uE,uF,uG,uH,uI,uJ,uK,uL,uM,uN,uO,uP,uQ]
   (refine ADrawT.mem [] mixedOrdersD (by kernel_rfl) (by kernel_rfl) ?_; simp only [go_sem,uA,uB,uC,uD,uE,uF,uG,uH,uI,uJ,uK,uL,uM,uN,uO,uP,uQ])
   simp only [go_sem,hgd,hset,uA,uB,uC,uD,uE,uF,uG,uH,uI,uJ,uK,uL,uM,uN,uO,uP,uQ]
   refine ⟨by simp [okAcc], ?_⟩
   simp only [go_sem,hge,uA,uB,uC,uD,uE,uF,uG,uH,uI,uJ,uK,uL,uM,uN,uO,uP,uQ]
   exact Fin_plain ⟨true,M1,rfl,hpm,fun _=>SP_end (by rw [hl1,← hie]; exact hsp),rfl⟩
 ·simp only [go_sem,uA,uB,uC,uD,uE,uF,uG,uH,uI,uJ,uK,uL,uM,uN,uO,uP,uQ]
  exact Fin_plain ⟨false,M1,rfl,hpm,by simp,rfl⟩
end Go.Proofs.Vale
