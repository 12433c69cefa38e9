/- YtplehleekabbaaaGreatDoorVIxJ: a text of the proof of this claim, by its prover. -/
import Derived.Test.YtplehleekabbaaaGreatDoorVFldB
import Derived.Test.YtplehleekabbaaaGreatDoorVIngC
import Derived.Test.YtplehleekabbaaaGreatDoorVTr
open Nat renaming reduceMul → uA, reduceLT → uB, reduceLeDiff → uC, reduceEqDiff → uD, reduceBEq → uE, lt_irrefl → uQ
open Int renaming toNat_natCast → uF, reduceToNat → uG, reduceNeg → uH, reduceLT → uI, reduceLE → uJ, reduceBEq → uK, reduceBNe → uL
open Bool renaming false_eq_true → uO
set_option linter.unusedVariables false
set_option linter.unusedSimpArgs false
set_option maxHeartbeats 8000000
set_option maxRecDepth 100000
namespace Go.Proofs.Vale
open Go.Proofs Go.Proofs.YtplehleekabbaaaGreatDoorT
attribute [local irreducible] grL grT acode aopsL aopsT dopsL dopsT pop popG aop ALoop ADraw ACall AWP AFin acondT ALoopT ADrawT ACallT doP doG doGd frL frT frX
theorem tail_part (H Z:List AObj):∀ i o,(H++List.replicate Z.length .dead)[i]? = some o→PartO (fun i=>decide (H.length≤i)) (H++Z) i o:=by
 intro i o ho
 rcases Nat.lt_or_ge i H.length with q | q
 ·refine PartO.same (by simp; omega) ?_
  rw [List.getElem?_append_left q] at ho ⊢; exact ho
 ·rw [List.getElem?_append_right q,List.getElem?_replicate] at ho
  split at ho
  ·injection ho with ho; exact .inl ho.symm
  ·cases ho
theorem ACallT.tail {P:Program} {f:FuncId} {xs xs':List AV} {h:List AObj} {K K':AV→List AObj→Prop} {t:Tag K} (H Z:List AObj) (k:Nat) (eh:h=H++Z) (hl:xs.map (frzT (fun i=>decide (H.length≤i)) (H++Z) k)=xs') (a:ACall P f xs' (H++List.replicate Z.length .dead) K') (kk:∀ r h',K' r h'→K r h'):ACallT P f xs h K t:=by
 unfold ACallT
 subst eh
 exact ACall.partArgs _ k (by simp) (tail_part H Z) hl (a.mono kk)
def al0:List AObj:=[.arr 0 1 [.str [97]],.arr 0 1 [.str [109]],.arr 0 2 [.agg [.sl 0 0 1 0 1,.sl 1 0 1 0 1]]]
def al1:List AObj:=[.dead,.dead,.arr 0 2 [schA false false [[97]] [[109]]]]
theorem al_p:∀ i o,al1[i]? = some o→PartO (fun i=>decide (i < 2)) al0 i o:=by
 intro i o ho
 match i,ho with
 | 0,ho=>injection ho with ho; exact .inl ho.symm
 | 1,ho=>injection ho with ho; exact .inl ho.symm
 | 2,ho=>injection ho with ho; exact .inr ⟨rfl,.inr ⟨0,2,[.agg [.sl 0 0 1 0 1,.sl 1 0 1 0 1]],3,rfl,ho.symm,by intro y hy; simp only [List.mem_singleton] at hy; subst hy; rfl⟩⟩
 | j+3,ho=>simp [al1] at ho
def al2 (R:List Rw) (n:Int) (k:Nat):List AObj:=al1++[.arr 0 2 [schA false false [[97]] [[109]]],.map (entR keyT R),ixO [[97]] [[109]] 10 4 n]++List.replicate k .dead
def alR:Rw:=(10,[[118]],1,[⟨4,4,4⟩])
def alR2:Rw:=(10,[[118]],2,[⟨3,-1,4⟩])
theorem alive_hand (h:List AObj):ACall Tryz.prog 10 [] h (fun r _=>r=.bool true):=by
 have hch:=charge_ok false false false false false [[97]] [[109]] [[]] 1 [-4] 0 [3]
 have hnew:=new_ok false false [[97]] [[109]] 10 al1 (by decide) (by decide) (by rw [right_eq]; kernel_rfl) (by kernel_rfl)
 have k1:addK [[97]] [[109]] 10 [] (13,[[118]],[4])=0:=by kernel_rfl
 have l1:addL [[97]] [[109]] 10 [] (13,[[118]],[4])=[alR]:=by kernel_rfl
 have k2:addK [[97]] [[109]] 10 [alR] (18,[[118]],[-1])=0:=by kernel_rfl
 have l2:addL [[97]] [[109]] 10 [alR] (18,[[118]],[-1])=[alR2]:=by kernel_rfl
 have s0:StepS [[97]] [[109]] [] [] 0:=⟨List.Pairwise.nil,.refl _,by simp,by simp,rfl⟩
 obtain ⟨-,s1⟩:=step_same (g:=10) (13,[[118]],[4]) (by kernel_rfl) s0
 have s1':StepS [[97]] [[109]] [alR] [alR] 1:=s1
 obtain ⟨-,s2⟩:=step_same (g:=10) (18,[[118]],[-1]) (by kernel_rfl) s1'
 have s2':StepS [[97]] [[109]] [alR2] [alR2] 2:=s2
 simp only [schA,evA',budA] at hch
 refine ACall.any (by simp [lowL]) ?_
 (refine ACall.of_code Tryz.func10 rfl ?_; simp only [Tryz.f10]; simp only [go_sem,uA,uB,uC,uD,uE,uF,uG,uH,uI,uJ,uK,uL,uM,uN,uO,uP,uQ])
 refine ACallT.part (fun i=>decide (i < 2)) 3 (h2:=al1) rfl al_p rfl ?_
 refine ACallT.by hnew ?_
 rintro _ _ ⟨rfl,rfl⟩
 simp only [go_sem,uA,uB,uC,uD,uE,uF,uG,uH,uI,uJ,uK,uL,uM,uN,uO,uP,uQ]
 refine ACallT.tail (al2 [] 0 0) [_,_] 3 rfl rfl (iaddE [] [[97]] [[109]] 10 0 (13,[[118]],[4]) 5 4 _ (by decide) (by decide) (by decide) (by decide) (by decide) (by kernel_rfl) (by decide) (by decide) (by simp) (by decide) rfl rfl) ?_
 rintro _ _ ⟨rfl,rfl⟩
 rw [k1,l1]
 simp only [go_sem,uA,uB,uC,uD,uE,uF,uG,uH,uI,uJ,uK,uL,uM,uN,uO,uP,uQ]
 obtain ⟨-,-,hI1,-,-⟩:=s1'
 refine ACallT.tail (al2 [alR] 1 2) [_,_] 3 rfl rfl (iaddE [alR] [[97]] [[109]] 10 1 (18,[[118]],[-1]) 5 4 _ (by decide) (by decide) (by decide) (by decide) (by decide) (by kernel_rfl) (by decide) (by decide) hI1 (by decide) rfl rfl) ?_
 rintro _ _ ⟨rfl,rfl⟩
 rw [k2,l2]
 simp only [go_sem,uA,uB,uC,uD,uE,uF,uG,uH,uI,uJ,uK,uL,uM,uN,uO,uP,uQ]
 obtain ⟨hs,hp,-,-,-⟩:=s2'
 refine ACallT.by (irowsE [alR2] [alR2] [[97]] [[109]] 10 2 5 4 (al2 [alR2] 2 4) hs hp (by decide) (by decide) rfl rfl) ?_
 rintro _ _ ⟨rfl,rfl⟩
 have hb2:(al2 [alR2] 2 4)[2]? = some (.arr 0 2 [schA false false [[97]] [[109]]]):=rfl
 have hb5:(al2 [alR2] 2 4)[5]? = some (ixO [[97]] [[109]] 10 4 2):=rfl
 have hval:∀ s∈([[]]:List Str),ValOk s:=fun s hs g=>by
  obtain rfl:s=[]:=by simpa using hs
  exact value_ok [] g (by simp) rfl
 have hchg:chgC [[97]] [[109]] 1 [[]] [-4] 0 [3]=0:=by kernel_rfl
 rw [hchg] at hch
 simp only [go_sem,hb2,uA,uB,uC,uD,uE,uF,uG,uH,uI,uJ,uK,uL,uM,uN,uO,uP,uQ]
 refine ⟨by decide, ?_⟩
 refine ACallT.tail (al2 [alR2] 2 4) [_,_,_] 3 rfl rfl (ACall.frame (K:=fun r g=>(∃ c,r=.tup [.agg [.int .i64 1,.fz c [.int .i64 7]],.int .i64 0])∧g=al2 [alR2] 2 7) ((hch _ (by decide) (by decide) (by decide) (by decide) hval).mono ?_)) ?_
 ·rintro _ _ ⟨c,rfl⟩
  exact ⟨rfl,⟨c,rfl⟩,rfl⟩
 rintro _ _ ⟨⟨c,rfl⟩,rfl⟩
 have hr:rowsA [alR2]=[.agg [.int .i64 10,.fz false [.str [118]],.int .i64 2,.fz false [.agg [.int .i64 3,.int .i64 (-1),.int .i64 4]]]]:=rfl
 have hl:(al2 [alR2] 2 7).length=13:=rfl
 have hb6:∀ x,(al2 [alR2] 2 7++x)[5]? = some (ixO [[97]] [[109]] 10 4 2):=fun x=>rfl
 rw [hr]
 generalize al2 [alR2] 2 7=HH at hl hb6 ⊢
 have h1:((1:Nat):Int)=1:=rfl
 have ht:∀ x:AObj,(HH++[x])[13]? = some x:=fun x=>by rw [← hl]; simp
 have hs13:∀ x y:AObj,(HH++[x]).set 13 y=HH++[y]:=fun x y=>by rw [← hl,List.set_append_right _ _ (Nat.le_refl _)]; simp
 have hic:=icount_ok [[97]] [[109]] 10 2 5 4 _ (hb6 [.arr 0 2 [.agg [.int .i64 1,.fz c [.int .i64 7]]]])
 simp only [go_sem,h1,hl,ht,hs13,uA,uB,uC,uD,uE,uF,uG,uH,uI,uJ,uK,uL,uM,uN,uO,uP,uQ]
 refine ACallT.by hic ?_
 rintro _ _ ⟨rfl,rfl⟩
 simp only [go_sem,h1,hl,ht,hs13,uA,uB,uC,uD,uE,uF,uG,uH,uI,uJ,uK,uL,uM,uN,uO,uP,uQ]
 exact Fin_plain ⟨rfl,rfl⟩
end Go.Proofs.Vale
namespace Go.Proofs.Vale
open Go.Proofs Go.Proofs.YtplehleekabbaaaGreatDoorT
attribute [local irreducible] grL grT acode aopsL aopsT dopsL dopsT pop popG aop ALoop ADraw ACall AWP AFin acondT ALoopT ADrawT ACallT doP doG doGd frL frT frX
theorem inew_err (c1 c2:Bool) (d m:List Str) (g:Int) (h:List AObj) (hd:d.length+m.length≤8796093022000) (hL:∀ s∈d++m,s.length≤9223372036854775807) (hb:(rightS d m && gr g)=false):ACall Tryz.prog 14 [schA c1 c2 d m,.int .i64 g] h (fun r h'=>r=.tup [.nilp,.int .i64 (bif rightS d m then 111 else 101)]):=by
 have hright:=right_ok c1 c2 d m
 simp only [schA] at hright ⊢
 (refine ACall.of_code Tryz.func14 rfl ?_; simp only [Tryz.f14]; simp only [go_sem,uA,uB,uC,uD,uE,uF,uG,uH,uI,uJ,uK,uL,uM,uN,uO,uP,uQ])
 (refine ACallT.frame (hright _ hd hL) ?_; refine fun _ _ e=>?_; subst e; refine ⟨by (first | rfl | (simp only [AV.low,lowL,low_strs,Bool.and_true,Bool.and_self])), ?_⟩; simp only [go_sem,uA,uB,uC,uD,uE,uF,uG,uH,uI,uJ,uK,uL,uM,uN,uO,uP,uQ])
 cases hr:rightS d m with
 | false =>
  simp only [go_sem,uA,uB,uC,uD,uE,uF,uG,uH,uI,uJ,uK,uL,uM,uN,uO,uP,uQ]
  exact Fin_plain rfl
 | true =>
  rw [hr] at hb
  simp only [Bool.true_and] at hb
  simp only [go_sem,uA,uB,uC,uD,uE,uF,uG,uH,uI,uJ,uK,uL,uM,uN,uO,uP,uQ]
  (refine ACallT.frame ((gr_ok g _).mono fun _ _ q=>q.1) ?_; refine fun _ _ e=>?_; subst e; refine ⟨by (first | rfl | (simp only [AV.low,lowL,low_strs,Bool.and_true,Bool.and_self])), ?_⟩; simp only [go_sem,uA,uB,uC,uD,uE,uF,uG,uH,uI,uJ,uK,uL,uM,uN,uO,uP,uQ])
  rw [hb]
  simp only [go_sem,uA,uB,uC,uD,uE,uF,uG,uH,uI,uJ,uK,uL,uM,uN,uO,uP,uQ]
  exact Fin_plain rfl
theorem fits_split {d m:List Str} {l:List Ev} (h:(fitS d && fitS m && decide (l.length≤60) && l.all evFit)=true):d.length≤20∧m.length≤20∧l.length≤60∧∀ e∈l,e.2.1.length≤20∧(∀ s∈e.2.1,s.length≤80)∧e.2.2.length≤20:=by
 simp only [Bool.and_eq_true,fitS,decide_eq_true_eq,List.all_eq_true,evFit] at h
 obtain ⟨⟨⟨⟨h1,h2⟩,h3,h4⟩,h5⟩,h6⟩:=h
 exact ⟨h1,h3,h5,fun e he=>⟨(h6 e he).1.1,(h6 e he).1.2,(h6 e he).2⟩⟩
end Go.Proofs.Vale
