/- YtplehleekabbaaaGreatDoorVIxJ: a text of the proof of this claim, by its prover. -/
import Derived.Test.YtplehleekabbaaaGreatDoorVIxI
import Derived.Test.YtplehleekabbaaaGreatDoorVIngC
import Derived.Test.YtplehleekabbaaaGreatDoorVTr
open Nat renaming reduceMul → uA, reduceLT → uB, reduceLeDiff → uC, reduceEqDiff → uD, reduceBEq → uE, lt_irrefl → uQ
open Int renaming toNat_natCast → uF, reduceToNat → uG, reduceNeg → uH, reduceLT → uI, reduceLE → uJ, reduceBEq → uK, reduceBNe → uL
open Bool renaming false_eq_true → uO
set_option linter.unusedVariables false
set_option linter.unusedSimpArgs false
set_option maxHeartbeats 8000000
set_option maxRecDepth 100000
namespace Go.Proofs.Vale
open Go.Proofs Go.Proofs.YtplehleekabbaaaGreatDoorT
attribute [local irreducible] grL grT gdQ acode aopsL aopsT dopsL dopsT pop popG aop ALoop ADraw ACall AWP AFin acondT ALoopT ADrawT ACallT doP doG doGd frL frT frX
theorem tail_part (H Z:List AObj):∀ i o,(H++List.replicate Z.length .dead)[i]? = some o→PartO (fun i=>decide (H.length≤i)) (H++Z) i o:=by
 intro i o ho
 rcases Nat.lt_or_ge i H.length with q | q
 ·refine PartO.same (by simp; omega) ?_
  rw [List.getElem?_append_left q] at ho ⊢; exact ho
 ·rw [List.getElem?_append_right q,List.getElem?_replicate] at ho
  split at ho
  ·injection ho with ho; exact .inl ho.symm
  ·cases ho
theorem ACallT.tail {P:Program} {f:FuncId} {xs xs':List AV} {h:List AObj} {K K':AV→List AObj→Prop} {t:Tag K} (H Z:List AObj) (k:Nat) (eh:h=H++Z) (hl:xs.map (frzT (fun i=>decide (H.length≤i)) (H++Z) k)=xs') (a:ACall P f xs' (H++List.replicate Z.length .dead) K') (kk:∀ r h',K' r h'→K r h'):ACallT P f xs h K t:=by
 unfold ACallT
 subst eh
 exact ACall.partArgs _ k (by simp) (tail_part H Z) hl (a.mono kk)
def al0:List AObj:=[.arr 0 1 [.str [97]],.arr 0 1 [.str [109]],.arr 0 2 [.agg [.sl 0 0 1 0 1,.sl 1 0 1 0 1]]]
def al1:List AObj:=[.dead,.dead,.arr 0 2 [schA false false [[97]] [[109]]]]
theorem al_p:∀ i o,al1[i]? = some o→PartO (fun i=>decide (i < 2)) al0 i o:=by
 intro i o ho
 match i,ho with
 | 0,ho=>injection ho with ho; exact .inl ho.symm
 | 1,ho=>injection ho with ho; exact .inl ho.symm
 | 2,ho=>injection ho with ho; exact .inr ⟨rfl,.inr ⟨0,2,[.agg [.sl 0 0 1 0 1,.sl 1 0 1 0 1]],3,rfl,ho.symm,by intro y hy; simp only [List.mem_singleton] at hy; subst hy; rfl⟩⟩
 | j+3,ho=>simp [al1] at ho
def al2 (R:List Rw) (n:Int) (k:Nat):List AObj:=al1++[.arr 0 2 [schA false false [[97]] [[109]]],.map (entR keyT R),ixO [[97]] [[109]] 10 4 n]++List.replicate k .dead
def alR:Rw:=(10,[[118]],1,[⟨4,4,4⟩])
def alR2:Rw:=(10,[[118]],2,[⟨3,-1,4⟩])
theorem alive_hand (h:List AObj):ACall Tryz.prog 10 [] h (fun r _=>r=.bool true):=by
 have hch:=charge_ok false false false false false [[97]] [[109]] [[]] 1 [-4] 0 [3]
 have hnew:=new_ok false false [[97]] [[109]] 10 al1 (by decide) (by decide) (by rw [right_eq]; kernel_rfl) (by kernel_rfl)
 have k1:addK [[97]] [[109]] 10 [] (13,[[118]],[4])=0:=by kernel_rfl
 have l1:addL [[97]] [[109]] 10 [] (13,[[118]],[4])=[alR]:=by kernel_rfl
 have k2:addK [[97]] [[109]] 10 [alR] (18,[[118]],[-1])=0:=by kernel_rfl
 have l2:addL [[97]] [[109]] 10 [alR] (18,[[118]],[-1])=[alR2]:=by kernel_rfl
 have s0:StepS [[97]] [[109]] [] [] 0:=⟨List.Pairwise.nil,.refl _,by simp,by simp,rfl⟩
 obtain ⟨-,s1⟩:=step_same (g:=10) (13,[[118]],[4]) (by kernel_rfl) s0
 have s1':StepS [[97]] [[109]] [alR] [alR] 1:=s1
 obtain ⟨-,s2⟩:=step_same (g:=10) (18,[[118]],[-1]) (by kernel_rfl) s1'
 have s2':StepS [[97]] [[109]] [alR2] [alR2] 2:=s2
 simp only [schA,evA',budA] at hch
 refine ACall.any (by simp [lowL]) ?_
 (refine ACall.of_code Tryz.func10 rfl ?_; simp only [Tryz.f10]; simp only [go_sem,uA,uB,uC,uD,uE,uF,uG,uH,uI,uJ,uK,uL,uM,uN,uO,uP,uQ])
 refine ACallT.part (fun i=>decide (i < 2)) 3 (h2:=al1) rfl al_p rfl ?_
 refine ACallT.by hnew ?_
 rintro _ _ ⟨rfl,rfl⟩
 simp only [go_sem,uA,uB,uC,uD,uE,uF,uG,uH,uI,uJ,uK,uL,uM,uN,uO,uP,uQ]
 refine ACallT.tail (al2 [] 0 0) [_,_] 3 rfl rfl (iaddE [] [[97]] [[109]] 10 0 (13,[[118]],[4]) 5 4 _ (by decide) (by decide) (by decide) (by decide) (by decide) (by kernel_rfl) (by decide) (by decide) (by simp) (by decide) rfl rfl) ?_
 rintro _ _ ⟨rfl,rfl⟩
 rw [k1,l1]
 simp only [go_sem,uA,uB,uC,uD,uE,uF,uG,uH,uI,uJ,uK,uL,uM,uN,uO,uP,uQ]
 obtain ⟨-,-,hI1,-,-⟩:=s1'
 refine ACallT.tail (al2 [alR] 1 2) [_,_] 3 rfl rfl (iaddE [alR] [[97]] [[109]] 10 1 (18,[[118]],[-1]) 5 4 _ (by decide) (by decide) (by decide) (by decide) (by decide) (by kernel_rfl) (by decide) (by decide) hI1 (by decide) rfl rfl) ?_
 rintro _ _ ⟨rfl,rfl⟩
 rw [k2,l2]
 simp only [go_sem,uA,uB,uC,uD,uE,uF,uG,uH,uI,uJ,uK,uL,uM,uN,uO,uP,uQ]
 obtain ⟨hs,hp,-,-,-⟩:=s2'
 refine ACallT.by (irowsE [alR2] [alR2] [[97]] [[109]] 10 2 5 4 (al2 [alR2] 2 4) hs hp (by decide) (by decide) rfl rfl) ?_
 rintro _ _ ⟨rfl,rfl⟩
 have hb2:(al2 [alR2] 2 4)[2]? = some (.arr 0 2 [schA false false [[97]] [[109]]]):=rfl
 have hb5:(al2 [alR2] 2 4)[5]? = some (ixO [[97]] [[109]] 10 4 2):=rfl
 have hval:∀ s∈([[]]:List Str),ValOk s:=fun s hs g=>by
  obtain rfl:s=[]:=by simpa using hs
  exact value_ok [] g (by simp) rfl
 have hchg:chgC [[97]] [[109]] 1 [[]] [-4] 0 [3]=0:=by kernel_rfl
 rw [hchg] at hch
 simp only [go_sem,hb2,uA,uB,uC,uD,uE,uF,uG,uH,uI,uJ,uK,uL,uM,uN,uO,uP,uQ]
 refine ⟨by decide, ?_⟩
 refine ACallT.tail (al2 [alR2] 2 4) [_,_,_] 3 rfl rfl (ACall.frame (K:=fun r g=>(∃ c,r=.tup [.agg [.int .i64 1,.fz c [.int .i64 7]],.int .i64 0])∧g=al2 [alR2] 2 7) ((hch _ (by decide) (by decide) (by decide) (by decide) hval).mono ?_)) ?_
 ·rintro _ _ ⟨c,rfl⟩
  exact ⟨rfl,⟨c,rfl⟩,rfl⟩
 rintro _ _ ⟨⟨c,rfl⟩,rfl⟩
 have hr:rowsA [alR2]=[.agg [.int .i64 10,.fz false [.str [118]],.int .i64 2,.fz false [.agg [.int .i64 3,.int .i64 (-1),.int .i64 4]]]]:=rfl
 have hl:(al2 [alR2] 2 7).length=13:=rfl
 have hb6:∀ x,(al2 [alR2] 2 7++x)[5]? = some (ixO [[97]] [[109]] 10 4 2):=fun x=>rfl
 rw [hr]
 generalize al2 [alR2] 2 7=HH at hl hb6 ⊢
 have h1:((1:Nat):Int)=1:=rfl
 have ht:∀ x:AObj,(HH++[x])[13]? = some x:=fun x=>by rw [← hl]; simp
 have hs13:∀ x y:AObj,(HH++[x]).set 13 y=HH++[y]:=fun x y=>by rw [← hl,List.set_append_right _ _ (Nat.le_refl _)]; simp
 have hic:=icount_ok [[97]] [[109]] 10 2 5 4 _ (hb6 [.arr 0 2 [.agg [.int .i64 1,.fz c [.int .i64 7]]]])
 simp only [go_sem,h1,hl,ht,hs13,uA,uB,uC,uD,uE,uF,uG,uH,uI,uJ,uK,uL,uM,uN,uO,uP,uQ]
 refine ACallT.by hic ?_
 rintro _ _ ⟨rfl,rfl⟩
 simp only [go_sem,h1,hl,ht,hs13,uA,uB,uC,uD,uE,uF,uG,uH,uI,uJ,uK,uL,uM,uN,uO,uP,uQ]
 exact Fin_plain ⟨rfl,rfl⟩
end Go.Proofs.Vale
namespace Go.Proofs.Vale
open Go.Proofs Go.Proofs.YtplehleekabbaaaGreatDoorT
attribute [local irreducible] grL grT gdQ acode aopsL aopsT dopsL dopsT pop popG aop ALoop ADraw ACall AWP AFin acondT ALoopT ADrawT ACallT doP doG doGd frL frT frX
theorem frX_mem {B:AV→List AObj→Prop} {m:List AObj} {K:AV→List AObj→Prop} {s:Tag (fun (x:AV) (m':List AObj)=>m.length≤m'.length∧B x m')} {t:Tag K} (x:AV) (m':List AObj) (hl:m.length≤m'.length) (a:B x m') (k:K x m'):frX (fun x m'=>m.length≤m'.length∧B x m') K s t:=frX_intro x m' ⟨hl,a⟩ k
theorem inew_err (c1 c2:Bool) (d m:List Str) (g:Int) (h:List AObj) (hd:d.length+m.length≤8796093022000) (hL:∀ s∈d++m,s.length≤9223372036854775807) (hb:(rightS d m && gr g)=false):ACall Tryz.prog 14 [schA c1 c2 d m,.int .i64 g] h (fun r h'=>r=.tup [.nilp,.int .i64 (bif rightS d m then 111 else 101)]):=by
 have hright:=right_ok c1 c2 d m
 simp only [schA] at hright ⊢
 (refine ACall.of_code Tryz.func14 rfl ?_; simp only [Tryz.f14]; simp only [go_sem,uA,uB,uC,uD,uE,uF,uG,uH,uI,uJ,uK,uL,uM,uN,uO,uP,uQ])
 (refine ACallT.frame (hright _ hd hL) ?_; refine fun _ _ e=>?_; subst e; refine ⟨by (first | rfl | (simp only [AV.low,lowL,low_strs,Bool.and_true,Bool.and_self])), ?_⟩; simp only [go_sem,uA,uB,uC,uD,uE,uF,uG,uH,uI,uJ,uK,uL,uM,uN,uO,uP,uQ])
 cases hr:rightS d m with
 | false =>
  simp only [go_sem,uA,uB,uC,uD,uE,uF,uG,uH,uI,uJ,uK,uL,uM,uN,uO,uP,uQ]
  exact Fin_plain rfl
 | true =>
  rw [hr] at hb
  simp only [Bool.true_and] at hb
  simp only [go_sem,uA,uB,uC,uD,uE,uF,uG,uH,uI,uJ,uK,uL,uM,uN,uO,uP,uQ]
  (refine ACallT.frame ((gr_ok g _).mono fun _ _ q=>q.1) ?_; refine fun _ _ e=>?_; subst e; refine ⟨by (first | rfl | (simp only [AV.low,lowL,low_strs,Bool.and_true,Bool.and_self])), ?_⟩; simp only [go_sem,uA,uB,uC,uD,uE,uF,uG,uH,uI,uJ,uK,uL,uM,uN,uO,uP,uQ])
  rw [hb]
  simp only [go_sem,uA,uB,uC,uD,uE,uF,uG,uH,uI,uJ,uK,uL,uM,uN,uO,uP,uQ]
  exact Fin_plain rfl
theorem rnew_err (c1 c2:Bool) (d m:List Str) (g:Int) (h:List AObj) (hd:d.length+m.length≤8796093022000) (hL:∀ s∈d++m,s.length≤9223372036854775807) (hb:(rightS d m && gr g)=false):ACall Tryz.prog 20 [schA c1 c2 d m,.int .i64 g] h (fun r h'=>r=.tup [.nilp,.int .i64 (bif rightS d m then 111 else 101)]):=by
 have hright:=rright_ok c1 c2 d m
 simp only [schA] at hright ⊢
 (refine ACall.of_code Tryz.func20 rfl ?_; simp only [Tryz.f20]; simp only [go_sem,uA,uB,uC,uD,uE,uF,uG,uH,uI,uJ,uK,uL,uM,uN,uO,uP,uQ])
 refine ACallT.frame (hright _ hd hL) ?_
 rintro _ _ rfl
 refine ⟨rfl, ?_⟩
 cases hr:rightS d m with
 | false =>
  simp only [go_sem,uA,uB,uC,uD,uE,uF,uG,uH,uI,uJ,uK,uL,uM,uN,uO,uP,uQ]
  exact Fin_plain rfl
 | true =>
  rw [hr] at hb
  simp only [Bool.true_and] at hb
  simp only [go_sem,uA,uB,uC,uD,uE,uF,uG,uH,uI,uJ,uK,uL,uM,uN,uO,uP,uQ]
  refine ACallT.frame (rgr_ok g _) ?_
  rintro _ _ rfl
  refine ⟨rfl, ?_⟩
  rw [hb]
  simp only [go_sem,uA,uB,uC,uD,uE,uF,uG,uH,uI,uJ,uK,uL,uM,uN,uO,uP,uQ]
  exact Fin_plain rfl
theorem fits_split {d m:List Str} {l:List Ev} (h:(fitS d && fitS m && decide (l.length≤60) && l.all evFit)=true):d.length≤20∧m.length≤20∧l.length≤60∧∀ e∈l,e.2.1.length≤20∧(∀ s∈e.2.1,s.length≤80)∧e.2.2.length≤20:=by
 simp only [Bool.and_eq_true,fitS,decide_eq_true_eq,List.all_eq_true,evFit] at h
 obtain ⟨⟨⟨⟨h1,h2⟩,h3,h4⟩,h5⟩,h6⟩:=h
 exact ⟨h1,h3,h5,fun e he=>⟨(h6 e he).1.1,(h6 e he).1.2,(h6 e he).2⟩⟩
theorem plays_law (a1 a2 c:Bool) (d m:List Str) (g:Int) (l:List Ev) (h:List AObj) (hd:d.length≤8796093022000) (hm:m.length≤8796093022000) (hL:∀ s∈d++m,s.length≤9223372036854775807) (hl:l.length≤9223372036854775807) (he:∀ e∈l,e.2.1.length≤9223372036854775807):ACall Tryz.prog 5 [schA a1 a2 d m,.int .i64 g,.fz c (evs l)] h (fun r _=>r=.bool true):=by
 have hfit:=lfits_ok a1 a2 c d m l
 have hne:=inew_err a1 a2 d m g
 have hre:=rnew_err a1 a2 d m g
 have hno:=new_ok a1 a2 d m g
 have hrn:=rnew_ok a1 a2 d m g
 simp only [schA] at hfit hne hre hno hrn ⊢
 (refine ACall.of_code Tryz.func5 rfl ?_; simp only [Tryz.f5]; simp only [go_sem,uA,uB,uC,uD,uE,uF,uG,uH,uI,uJ,uK,uL,uM,uN,uO,uP,uQ])
 refine ACallT.frame (hfit _ (by omega) (by omega) hl he) ?_
 rintro _ _ rfl
 refine ⟨rfl, ?_⟩
 cases hf:(fitS d && fitS m && decide (l.length≤60) && l.all evFit) with
 | false =>
  simp only [go_sem,uA,uB,uC,uD,uE,uF,uG,uH,uI,uJ,uK,uL,uM,uN,uO,uP,uQ]
  refine ACallT.frame (alive_hand _) ?_
  rintro _ _ rfl
  refine ⟨rfl, ?_⟩
  simp only [go_sem,uA,uB,uC,uD,uE,uF,uG,uH,uI,uJ,uK,uL,uM,uN,uO,uP,uQ]
  exact Fin_plain rfl
 | true =>
  obtain ⟨f1,f2,f3,f4⟩:=fits_split hf
  cases hb:(rightS d m && gr g) with
  | false =>
   simp only [go_sem,uA,uB,uC,uD,uE,uF,uG,uH,uI,uJ,uK,uL,uM,uN,uO,uP,uQ]
   refine ACallT.frame (hne _ (by omega) hL hb) ?_
   rintro _ _ rfl
   refine ⟨rfl, ?_⟩
   simp only [go_sem,uA,uB,uC,uD,uE,uF,uG,uH,uI,uJ,uK,uL,uM,uN,uO,uP,uQ]
   refine ACallT.frame (hre _ (by omega) hL hb) ?_
   rintro _ _ rfl
   refine ⟨rfl, ?_⟩
   cases hr:rightS d m with
   | false =>
    simp only [go_sem,uA,uB,uC,uD,uE,uF,uG,uH,uI,uJ,uK,uL,uM,uN,uO,uP,uQ]
    refine ACallT.frame (alive_hand _) ?_
    rintro _ _ rfl
    refine ⟨rfl, ?_⟩
    simp only [go_sem,uA,uB,uC,uD,uE,uF,uG,uH,uI,uJ,uK,uL,uM,uN,uO,uP,uQ]
    exact Fin_plain rfl
   | true =>
    simp only [go_sem,uA,uB,uC,uD,uE,uF,uG,uH,uI,uJ,uK,uL,uM,uN,uO,uP,uQ]
    refine ACallT.frame (alive_hand _) ?_
    rintro _ _ rfl
    refine ⟨rfl, ?_⟩
    simp only [go_sem,uA,uB,uC,uD,uE,uF,uG,uH,uI,uJ,uK,uL,uM,uN,uO,uP,uQ]
    exact Fin_plain rfl
  | true =>
   simp only [Bool.and_eq_true] at hb
   obtain ⟨hr,hg⟩:=hb
   simp only [go_sem,uA,uB,uC,uD,uE,uF,uG,uH,uI,uJ,uK,uL,uM,uN,uO,uP,uQ]
   refine ACallT.by (hno _ (by omega) hL hr hg) ?_
   rintro _ _ ⟨rfl,rfl⟩
   simp only [go_sem,uA,uB,uC,uD,uE,uF,uG,uH,uI,uJ,uK,uL,uM,uN,uO,uP,uQ]
   refine ACallT.by (hrn _ (by omega) hL hr hg) ?_
   rintro _ _ ⟨rfl,rfl⟩
   simp only [go_sem,uA,uB,uC,uD,uE,uF,uG,uH,uI,uJ,uK,uL,uM,uN,uO,uP,uQ]
   obtain ⟨mt,hmt⟩:∃ mt,mt=h.length+2:=⟨_,rfl⟩
   generalize hxt:h.length+1+2=xt
   generalize hyt:h.length+4+1=yt
   refine ALoop.over [6,12,13,14,15,16,52,53,54,55,56,57,58,59,60,61,62,63,64,65,66,67,68,69,70,71,72,73,74,75,76,77,78,79,80,81,82,83,84,85,86,87,88,89,90,91,92,93,94,95,96,97,98,99,100,101,102,103,104,105,106,107,108] (fun e H'=>∃ (i:Nat) (R Lm:List Rw) (n:Int) (cc:Bool),e.getD 12 .any=.int .i64 i∧i≤l.length∧StepS d m Lm R n∧0≤n∧n≤i∧H'[xt]? = some (ixO d m g mt n)∧H'[mt]? = some (.map (entR keyT R))∧H'[yt]? = some (rixO a1 a2 cc d m g Lm)) (fun e _=>l.length - natA (e.getD 12 .any)) ⟨0,[],[],0,true,rfl,by omega,⟨List.Pairwise.nil,.refl _,by simp,by simp,rfl⟩,by omega,by omega, ?_, ?_, ?_⟩ ?_
   ·rw [← hxt,hmt,List.getElem?_append_right (by omega),show h.length+1+2 - h.length=3 by omega]; rfl
   ·rw [hmt,List.getElem?_append_right (by omega),show h.length+2 - h.length=2 by omega]; rfl
   ·rw [← hyt,List.getElem?_append_right (by omega),show h.length+4+1 - h.length=5 by omega]; rfl
   simp (config:={ maxSteps:=10000000 }) only [List.length_cons,List.length_nil,Nat.reduceAdd,allL_succ,allL_zero]
   intro y6 y12 y13 y14 y15 y16 y52 y53 y54 y55 y56 y57 y58 y59 y60 y61 y62 y63 y64 y65 y66 y67 y68 y69 y70 y71 y72 y73 y74 y75 y76 y77 y78 y79 y80 y81 y82 y83 y84 y85 y86 y87 y88 y89 y90 y91 y92 y93 y94 y95 y96 y97 y98 y99 y100 y101 y102 y103 y104 y105 y106 y107 y108 H1 hI
   simp only [go_sem] at hI
   obtain ⟨i,R,Lm,n,cc,rfl,hil,hst,hn0,hni,hx1,hm1,hy1⟩:=hI
   obtain ⟨hs,hp,hI,hcb,hcn⟩:=hst
   have hxl:xt < H1.length:=(List.getElem?_eq_some_iff.1 hx1).1
   have hml:mt < H1.length:=(List.getElem?_eq_some_iff.1 hm1).1
   have hyl:yt < H1.length:=(List.getElem?_eq_some_iff.1 hy1).1
   have cnt_ge:∀ M:List Rw,(∀ r∈M,1≤r.2.2.1∧r.2.2.1≤1048576)→(M.length:Int)≤cntR M:=by
    intro M
    induction M with
    | nil=>intro _; simp [cntR]
    | cons a M ih=>intro q; rw [cnt_cons]; have:=(q a (by simp)).1; have:=ih (fun r hr=>q r (by simp [hr])); simp; omega
   have hLl:Lm.length≤60:=by have:=cnt_ge Lm hcb; omega
   have hRl:R.length=Lm.length:=hp.length_eq.symm
   have hIR:∀ r∈R,RowI d m r:=fun r hr=>hI r (hp.symm.subset hr)
   have hbd:∀ (M:List Rw),(∀ r∈M,RowI d m r)→∀ r∈M,r.2.1.length≤2000000000000∧r.2.2.2.length≤2000000000000:=fun M q r hr=>by
    have:=q r hr; exact ⟨by rw [this.1]; omega,by rw [this.2.2.1]; omega⟩
   have hrk:∀ (M:List Rw),(∀ r∈M,RowI d m r)→∀ r∈M,RwOk r:=fun M q r hr=>by
    have:=q r hr; exact ⟨by rw [this.1]; omega,by rw [this.2.2.1]; omega⟩
   simp only [go_sem,uA,uB,uC,uD,uE,uF,uG,uH,uI,uJ,uK,uL,uM,uN,uO,uP,uQ]
   refine acond_intro (fun hc=>?_) (fun hc=>?_)
   ·have hlt:i < l.length:=by have:=of_decide_eq_true hc; omega
    have hev:=f4 l[i] (List.getElem_mem _)
    have hevg:=evs_get l i hlt
    simp only [go_sem,uA,uB,uC,uD,uE,uF,uG,uH,uI,uJ,uK,uL,uM,uN,uO,uP,uQ]
    refine ACallT.by (icopy_ok R d m g n xt mt H1 hx1 hm1) ?_
    rintro _ _ ⟨rfl,rfl⟩
    simp only [go_sem,uA,uB,uC,uD,uE,uF,uG,uH,uI,uJ,uK,uL,uM,uN,uO,uP,uQ]
    obtain ⟨H2,hH2⟩:∃ H2,H2=H1++[.map (entR keyT R),ixO d m g H1.length n]:=⟨_,rfl⟩
    rw [← hH2]
    have h2l:H2.length=H1.length+2:=by rw [hH2]; simp
    have h2o:∀ j,j < H1.length→H2[j]? = H1[j]? := fun j hj=>by rw [hH2,List.getElem?_append_left hj]
    have h2c:H2[H1.length+1]? = some (ixO d m g H1.length n):=by rw [hH2,List.getElem?_append_right (by omega),show H1.length+1 - H1.length=1 by omega]; rfl
    have h2m:H2[H1.length]? = some (.map (entR keyT R)):=by rw [hH2,List.getElem?_append_right (by omega),Nat.sub_self]; rfl
    refine ACallT.by (irowsE Lm R d m g n (H1.length+1) H1.length H2 hs hp (by omega) (hbd R hIR) h2c h2m) ?_
    rintro _ h3 ⟨rfl,e3⟩
    rw [e3]
    clear e3
    simp only [go_sem,uA,uB,uC,uD,uE,uF,uG,uH,uI,uJ,uK,uL,uM,uN,uO,uP,uQ]
    obtain ⟨hsame,hst2⟩:=step_same l[i] hg ⟨hs,hp,hI,hcb,hcn⟩
    have hia:=iaddE R d m g n l[i] xt mt H2 (by omega) (by omega) (by omega) (by omega) (fun s hs=>by have:=hev.2.1 s hs; omega) hg hn0 (by omega) hIR (by omega) ((h2o xt hxl).trans hx1) ((h2o mt hml).trans hm1)
    simp only [eventA] at hia
    (refine ADrawT.walk3 [[0],[0],[0],[0],[0],[0,6],[0,6],[0,6],[0,6],[0,6],[0,6],[6,12],[12]] mixedOrdersD (by kernel_rfl) (by kernel_rfl) ?_; simp only [go_sem,uA,uB,uC,uD,uE,uF,uG,uH,uI,uJ,uK,uL,uM,uN,uO,uP,uQ])
    simp only [go_sem,hevg,uA,uB,uC,uD,uE,uF,uG,uH,uI,uJ,uK,uL,uM,uN,uO,uP,uQ]
    refine ⟨⟨by omega,by omega⟩, ?_⟩
    obtain ⟨H3,hH3⟩:∃ H3,H3=(H2.set xt (ixO d m g mt (bif addK d m g R l[i] != 0 then n else n+1))).set mt (.map (entR keyT (addL d m g R l[i]))):=⟨_,rfl⟩
    have h3l:H3.length=H2.length:=by rw [hH3]; simp
    have h3o:∀ j,j≠xt→j≠mt→H3[j]? = H2[j]? := fun j q1 q2=>by rw [hH3,List.getElem?_set_ne (fun z=>q2 z.symm),List.getElem?_set_ne (fun z=>q1 z.symm)]
    have h3x:H3[xt]? = some (ixO d m g mt (bif addK d m g R l[i] != 0 then n else n+1)):=by rw [hH3,List.getElem?_set_ne (by omega),List.getElem?_set_self (by omega)]
    have h3m:H3[mt]? = some (.map (entR keyT (addL d m g R l[i]))):=by rw [hH3,List.getElem?_set_self (by simp; omega)]
    have hra:=raddE Lm a1 a2 cc d m g l[i] yt H3 (by omega) (by omega) (by omega) (by omega) (fun s hs=>by have:=hev.2.1 s hs; omega) hg hI (by omega) ((h3o yt (by omega) (by omega)).trans ((h2o yt hyl).trans hy1))
    simp only [eventA] at hra
    rw [hsame] at hra
    refine frX_mem (.int .i64 (addK d m g R l[i])) H3 (by omega) ?_ ?_
    ·simp only [go_sem,hevg,uA,uB,uC,uD,uE,uF,uG,uH,uI,uJ,uK,uL,uM,uN,uO,uP,uQ]
     rw [← hH3] at hia
     exact ACallT.by hia fun _ _ q=>q
    clear hia
    obtain ⟨cc2,hcc2⟩:∃ cc2,cc2=(bif addK d m g R l[i] != 0 then cc else false):=⟨_,rfl⟩
    rw [← hcc2] at hra
    obtain ⟨n2,hn2⟩:∃ n2,n2=(bif addK d m g R l[i] != 0 then n else n+1):=⟨_,rfl⟩
    rw [← hn2] at hst2 h3x
    have hn2b:0≤n2∧n2≤i+1:=by
     rw [hn2]
     cases (addK d m g R l[i] != 0) with
     | true=>simp only [cond_true]; omega
     | false=>simp only [cond_false]; omega
    generalize raddL d m g Lm l[i]=Lm2 at *
    generalize addL d m g R l[i]=R2 at *
    generalize addK d m g R l[i]=kk at *
    obtain ⟨H4,hH4⟩:∃ H4,H4=H3.set yt (rixO a1 a2 cc2 d m g Lm2):=⟨_,rfl⟩
    rw [← hH4] at hra
    have h4l:H4.length=H2.length:=by rw [hH4]; simp; omega
    have h4o:∀ j,j≠yt→H4[j]? = H3[j]? := fun j q1=>by rw [hH4,List.getElem?_set_ne (fun z=>q1 z.symm)]
    have h4x:=(h4o xt (by omega)).trans h3x
    have h4m:=(h4o mt (by omega)).trans h3m
    have h4y:H4[yt]? = some (rixO a1 a2 cc2 d m g Lm2):=by rw [hH4,List.getElem?_set_self (by omega)]
    have h4c:=(h4o (H1.length+1) (by omega)).trans ((h3o (H1.length+1) (by omega) (by omega)).trans h2c)
    have h4cm:=(h4o H1.length (by omega)).trans ((h3o H1.length (by omega) (by omega)).trans h2m)
    simp only [go_sem,hevg,uA,uB,uC,uD,uE,uF,uG,uH,uI,uJ,uK,uL,uM,uN,uO,uP,uQ]
    refine ⟨⟨by omega,by omega⟩, ?_⟩
    refine frX_mem (.int .i64 kk) H4 (by omega) ?_ ?_
    ·simp only [go_sem,hevg,uA,uB,uC,uD,uE,uF,uG,uH,uI,uJ,uK,uL,uM,uN,uO,uP,uQ]
     exact ACallT.by hra fun _ _ q=>q
    have hkb:(kk != kk)=false:=by simp
    simp only [go_sem,hkb,uA,uB,uC,uD,uE,uF,uG,uH,uI,uJ,uK,uL,uM,uN,uO,uP,uQ]
    refine ⟨by simp [fmem,Agree], ?_⟩
    obtain ⟨hs2,hp2,hI2,hcb2,hcn2⟩:=hst2
    have hL2l:Lm2.length≤61:=by have:=cnt_ge Lm2 hcb2; omega
    have hR2l:R2.length=Lm2.length:=hp2.length_eq.symm
    have hIR2:∀ r∈R2,RowI d m r:=fun r hr=>hI2 r (hp2.symm.subset hr)
    have hy4:=h4y
    simp only [rixO] at hy4
    have hro:=irowsE Lm2 R2 d m g n2 xt mt H4 hs2 hp2 (by omega) (hbd R2 hIR2) h4x h4m
    have hrc:=irowsE Lm R d m g n (H1.length+1) H1.length H4 hs hp (by omega) (hbd R hIR) h4c h4cm
    have hsm:=rsame_ok Lm2 Lm2 false cc2 H4 (by omega) (by omega) (hrk Lm2 hI2) (hrk Lm2 hI2)
    have hsm2:=rsame_ok Lm Lm false false (deadH H4) (by omega) (by omega) (hrk Lm hI) (hrk Lm hI)
    have hln:=ilen_ok R2 d m g n2 xt mt H4 h4x h4m
    have hct:=icount_ok d m g n2 xt mt H4 h4x
    have hrct:=rcount_ok Lm2 a1 a2 cc2 d m g yt H4 (by omega) (cnt_part hcb2 hcn2 (by omega)) h4y
    rw [hcn2] at hrct
    rw [hR2l] at hln
    have hsd:decide (Lm2=Lm2)=true:=by simp
    have hsd2:decide (Lm=Lm)=true:=by simp
    rw [hsd] at hsm
    rw [hsd2] at hsm2
    (refine ADrawT.walk3 [[0],[0,2],[0,2],[0,2],[0,2],[0,2],[2,7],[7]] mixedOrdersD (by kernel_rfl) (by kernel_rfl) ?_; simp only [go_sem,uA,uB,uC,uD,uE,uF,uG,uH,uI,uJ,uK,uL,uM,uN,uO,uP,uQ])
    refine frX_same (.fz false (rowsA Lm2)) ?_ ?_
    ·simp only [go_sem,uA,uB,uC,uD,uE,uF,uG,uH,uI,uJ,uK,uL,uM,uN,uO,uP,uQ]
     exact ACallT.by hro fun _ _ q=>q
    simp only [go_sem,hy4,uA,uB,uC,uD,uE,uF,uG,uH,uI,uJ,uK,uL,uM,uN,uO,uP,uQ]
    refine frX_same (.bool true) ?_ ?_
    ·simp only [go_sem,uA,uB,uC,uD,uE,uF,uG,uH,uI,uJ,uK,uL,uM,uN,uO,uP,uQ]
     refine ACallT.frame (rsame_ok Lm2 Lm2 false cc2 (deadH H4) (by omega) (by omega) (hrk Lm2 hI2) (hrk Lm2 hI2)) fun _ _ q=>?_
     rw [q,hsd]; exact ⟨rfl,rfl,rfl⟩
    simp only [go_sem,hy4,uA,uB,uC,uD,uE,uF,uG,uH,uI,uJ,uK,uL,uM,uN,uO,uP,uQ]
    refine ⟨by simp [fmem,Agree,hy4], ?_⟩
    refine ACallT.by hrc ?_
    rintro _ h3 ⟨rfl,e3⟩
    rw [e3]
    clear e3
    simp only [go_sem,uA,uB,uC,uD,uE,uF,uG,uH,uI,uJ,uK,uL,uM,uN,uO,uP,uQ]
    refine ACallT.frame hsm2 ?_
    rintro _ _ rfl
    refine ⟨rfl, ?_⟩
    simp only [go_sem,uA,uB,uC,uD,uE,uF,uG,uH,uI,uJ,uK,uL,uM,uN,uO,uP,uQ]
    (refine ADrawT.walk3 [[0],[0],[0],[0],[0],[0],[0],[0],[0,9],[0,9],[0,9],[0,9],[0,9],[0,9],[9],[9],[9],[9],[9,19],[9,19],[19,21],[21],[21]] mixedOrdersD (by kernel_rfl) (by kernel_rfl) ?_; simp only [go_sem,uA,uB,uC,uD,uE,uF,uG,uH,uI,uJ,uK,uL,uM,uN,uO,uP,uQ])
    have hbl:((Lm2.length:Int) != (Lm2.length:Int))=false:=by simp
    have hbn:(n2 != n2)=false:=by simp
    refine frX_same (.int .i64 Lm2.length) ?_ ?_
    ·simp only [go_sem,uA,uB,uC,uD,uE,uF,uG,uH,uI,uJ,uK,uL,uM,uN,uO,uP,uQ]
     exact ACallT.by hln fun _ _ q=>q
    simp only [go_sem,hy4,rowsA_len,hbl,uA,uB,uC,uD,uE,uF,uG,uH,uI,uJ,uK,uL,uM,uN,uO,uP,uQ]
    refine frX_same (.int .i64 n2) ?_ ?_
    ·simp only [go_sem,uA,uB,uC,uD,uE,uF,uG,uH,uI,uJ,uK,uL,uM,uN,uO,uP,uQ]
     exact ACallT.by hct fun _ _ q=>q
    simp only [go_sem,uA,uB,uC,uD,uE,uF,uG,uH,uI,uJ,uK,uL,uM,uN,uO,uP,uQ]
    refine frX_same (.int .i64 n2) ?_ ?_
    ·simp only [go_sem,uA,uB,uC,uD,uE,uF,uG,uH,uI,uJ,uK,uL,uM,uN,uO,uP,uQ]
     exact ACallT.by hrct fun _ _ q=>q
    simp only [go_sem,hbn,uA,uB,uC,uD,uE,uF,uG,uH,uI,uJ,uK,uL,uM,uN,uO,uP,uQ]
    refine ⟨by simp [fmem,Agree,hy4], ?_⟩
    refine ⟨⟨i+1,R2,Lm2,n2,cc2, ?_,by omega,⟨hs2,hp2,hI2,hcb2,hcn2⟩,hn2b.1,by omega,h4x,h4m,h4y⟩, ?_⟩
    ·rw [wrap_id (by omega) (by omega)]; rfl
    ·rw [wrap_id (by omega) (by omega)]; omega
   ·simp only [go_sem,uA,uB,uC,uD,uE,uF,uG,uH,uI,uJ,uK,uL,uM,uN,uO,uP,uQ]
    refine ACallT.frame (alive_hand _) ?_
    rintro _ _ rfl
    refine ⟨rfl, ?_⟩
    simp only [go_sem,uA,uB,uC,uD,uE,uF,uG,uH,uI,uJ,uK,uL,uM,uN,uO,uP,uQ]
    exact Fin_plain rfl
end Go.Proofs.Vale
