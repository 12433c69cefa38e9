/- YtplehleekabbaaaGreatDoorVBkD: a text of the proof of this claim, by its prover. -/
import Derived.Test.YtplehleekabbaaaGreatDoorVBkC
open Nat renaming reduceMul → uA, reduceLT → uB, reduceLeDiff → uC, reduceEqDiff → uD, reduceBEq → uE, lt_irrefl → uQ
open Int renaming toNat_natCast → uF, reduceToNat → uG, reduceNeg → uH, reduceLT → uI, reduceLE → uJ, reduceBEq → uK, reduceBNe → uL
open Bool renaming false_eq_true → uO
set_option linter.unusedVariables false
set_option linter.unusedSimpArgs false
set_option maxHeartbeats 8000000
set_option maxRecDepth 100000
namespace Go.Proofs.Vale
open Go.Proofs Go.Proofs.YtplehleekabbaaaGreatDoorT
attribute [local irreducible] grL grT acode aopsL aopsT dopsL dopsT pop popG aop ALoop ADraw ACall AWP AFin acondT ALoopT ADrawT ACallT doP doG doGd frL frT frX
def BInv (a1 a2:Bool) (d m:List Str) (g:Int) (N:Nat) (H:List AObj) (Rx Ry:List Rw) (n:Int):Prop :=
 N+7≤H.length∧H[N]? = some (sbO a1 a2 d m)∧H[N+2]? = some (.map (entR keyT Rx))∧H[N+3]? = some (ixO d m g (N+2) n)∧H[N+5]? = some (.map (entR keyT Ry))∧H[N+6]? = some (ixO d m 1 (N+5) n)
theorem BInv.keep {a1 a2:Bool} {d m:List Str} {g:Int} {N:Nat} {H M:List AObj} {Rx Ry:List Rw} {n:Int} (p:BInv a1 a2 d m g N H Rx Ry n) (h:∀ (j:Nat) (o:AObj),H[j]? = some o→M[j]? = some o):BInv a1 a2 d m g N M Rx Ry n:=by
 obtain ⟨v0,v1,v2,v3,v5,v6⟩:=p
 have:=(List.getElem?_eq_some_iff.1 (h _ _ v6)).1
 exact ⟨by omega,h _ _ v1,h _ _ v2,h _ _ v3,h _ _ v5,h _ _ v6⟩
theorem stepR_nil {out:List Rw} {r:Rw} (h:(stepR out r).1≠0):(stepR out r).2=[]:=by
 unfold stepR at h ⊢
 split
 ·rename_i hc
  rw [if_pos hc] at h
  split
  ·rename_i hj
   rw [if_pos hj] at h
   exact absurd rfl h
  ·rfl
 ·rename_i hc
  rw [if_neg hc] at h
  exact absurd rfl h
theorem foldS_nil:∀ (L:List Rw) (s:Int × List Rw),(s.1≠0→s.2=[])→(L.foldl foldS s).1≠0→(L.foldl foldS s).2=[]
 | [],s,h0,h=>h0 h
 | r::L,s,h0,h=>by
  rw [List.foldl_cons] at h ⊢
  refine foldS_nil L _ (fun q=>?_) h
  unfold foldS at q ⊢
  split
  ·rename_i hc
   rw [if_pos hc] at q
   exact stepR_nil q
  ·rename_i hc
   exact h0 hc
theorem prj_nil {d:List Str} {g:Int} {L:List Rw} (h:(prjF d g L).1≠0):(prjF d g L).2=[]:=by
 unfold prjF at h ⊢
 split
 ·rename_i hc
  rw [if_pos hc] at h
  exact foldS_nil _ _ (fun q=>absurd rfl q) h
 ·rfl
theorem gr_one:gr 1=true:=by kernel_rfl
theorem buckets_law (a1 a2 c:Bool) (d m:List Str) (g:Int) (l:List Ev) (h:List AObj) (hdm:d.length+m.length≤8796093022000) (hL:∀ s∈d++m,s.length≤9223372036854775807) (hl:l.length≤9223372036854775807) (he:∀ e∈l,e.2.1.length≤9223372036854775807):ACall Tryz.prog 4 [schA a1 a2 d m,.int .i64 g,.fz c (evs l)] h (fun r _=>r=.bool true):=by
 have hfit:=lfits_ok a1 a2 c d m l
 have hne:=inew_err a1 a2 d m
 have hno:=new_ok a1 a2 d m
 simp only [schA] at hfit hne hno ⊢
 (refine ACall.of_code Tryz.func4 rfl ?_; simp only [Tryz.f4]; simp only [go_sem,uA,uB,uC,uD,uE,uF,uG,uH,uI,uJ,uK,uL,uM,uN,uO,uP,uQ])
 refine ACallT.frame (hfit _ (by omega) (by omega) hl he) ?_
 rintro _ _ rfl
 refine ⟨rfl, ?_⟩
 generalize hf:(fitS d && fitS m && decide (l.length≤60) && l.all evFit)=fit
 cases hr:rightS d m with
 | false =>
  simp only [go_sem,uA,uB,uC,uD,uE,uF,uG,uH,uI,uJ,uK,uL,uM,uN,uO,uP,uQ]
  refine ACallT.frame (hne g _ (by omega) hL (by rw [hr]; rfl)) ?_
  rintro _ _ rfl
  refine ⟨rfl, ?_⟩
  simp only [go_sem,uA,uB,uC,uD,uE,uF,uG,uH,uI,uJ,uK,uL,uM,uN,uO,uP,uQ]
  refine ACallT.frame (hne 1 _ (by omega) hL (by rw [hr]; rfl)) ?_
  rintro _ _ rfl
  refine ⟨rfl, ?_⟩
  rw [hr]
  cases fit
  all_goals
   simp only [go_sem,uA,uB,uC,uD,uE,uF,uG,uH,uI,uJ,uK,uL,uM,uN,uO,uP,uQ]
   refine ACallT.frame (alive_hand _) ?_
   rintro _ _ rfl
   refine ⟨rfl, ?_⟩
   simp only [go_sem,uA,uB,uC,uD,uE,uF,uG,uH,uI,uJ,uK,uL,uM,uN,uO,uP,uQ]
   exact Fin_plain rfl
 | true =>
 cases hg:gr g with
 | false =>
  simp only [go_sem,uA,uB,uC,uD,uE,uF,uG,uH,uI,uJ,uK,uL,uM,uN,uO,uP,uQ]
  refine ACallT.frame (hne g _ (by omega) hL (by rw [hg,Bool.and_false])) ?_
  rintro _ _ rfl
  refine ⟨rfl, ?_⟩
  simp only [go_sem,uA,uB,uC,uD,uE,uF,uG,uH,uI,uJ,uK,uL,uM,uN,uO,uP,uQ]
  refine ACallT.by (hno 1 _ (by omega) hL hr gr_one) ?_
  rintro _ _ ⟨rfl,rfl⟩
  rw [hr]
  cases fit
  all_goals
   simp only [go_sem,uA,uB,uC,uD,uE,uF,uG,uH,uI,uJ,uK,uL,uM,uN,uO,uP,uQ]
   refine ACallT.frame (alive_hand _) ?_
   rintro _ _ rfl
   refine ⟨rfl, ?_⟩
   simp only [go_sem,uA,uB,uC,uD,uE,uF,uG,uH,uI,uJ,uK,uL,uM,uN,uO,uP,uQ]
   exact Fin_plain rfl
 | true =>
 simp only [go_sem,uA,uB,uC,uD,uE,uF,uG,uH,uI,uJ,uK,uL,uM,uN,uO,uP,uQ]
 refine ACallT.by (hno g _ (by omega) hL hr hg) ?_
 rintro _ _ ⟨rfl,rfl⟩
 simp only [go_sem,uA,uB,uC,uD,uE,uF,uG,uH,uI,uJ,uK,uL,uM,uN,uO,uP,uQ]
 refine ACallT.by (hno 1 _ (by omega) hL hr gr_one) ?_
 rintro _ _ ⟨rfl,rfl⟩
 cases fit with
 | false =>
  simp only [go_sem,uA,uB,uC,uD,uE,uF,uG,uH,uI,uJ,uK,uL,uM,uN,uO,uP,uQ]
  refine ACallT.frame (alive_hand _) ?_
  rintro _ _ rfl
  refine ⟨rfl, ?_⟩
  simp only [go_sem,uA,uB,uC,uD,uE,uF,uG,uH,uI,uJ,uK,uL,uM,uN,uO,uP,uQ]
  exact Fin_plain rfl
 | true =>
 obtain ⟨f1,f2,f3,f4⟩:=fits_split hf
 simp only [go_sem,uA,uB,uC,uD,uE,uF,uG,uH,uI,uJ,uK,uL,uM,uN,uO,uP,uQ]
 obtain ⟨N,hN⟩:∃ N,N=h.length:=⟨_,rfl⟩
 show ALoopT _ _ _ _ _ _ (h++(sbO a1 a2 d m::(nwO a1 a2 d m g (h.length+1)++nwO a1 a2 d m 1 (h.length+4))))
 have hinv:BInv a1 a2 d m g N (h++(sbO a1 a2 d m::(nwO a1 a2 d m g (h.length+1)++nwO a1 a2 d m 1 (h.length+4)))) [] [] 0:=by
  have q:∀ j,(h++(sbO a1 a2 d m::(nwO a1 a2 d m g (h.length+1)++nwO a1 a2 d m 1 (h.length+4))))[h.length+j]? = (sbO a1 a2 d m::(nwO a1 a2 d m g (h.length+1)++nwO a1 a2 d m 1 (h.length+4)))[j]? := fun j=>by
   rw [List.getElem?_append_right (by omega),show h.length+j - h.length=j by omega]
  have q0:=q 0
  rw [Nat.add_zero] at q0
  rw [hN]
  exact ⟨by simp,q0,q 2,q 3,q 5,q 6⟩
 rw [← hN] at hinv ⊢
 generalize (h++(sbO a1 a2 d m::(nwO a1 a2 d m g (N+1)++nwO a1 a2 d m 1 (N+4))))=H1 at hinv ⊢
 rw [show N+1+2=N+3 by omega,show N+4+2=N+6 by omega]
 refine ALoop.over [6,12,13,14,15,46,47,48,49,50,51,52,53,54,55,56,57,58,59,60,61,62,63,64,65,66,67,68,69,70,71,72,73,74,75,76,77] (fun e H'=>∃ (i:Nat) (acc:List Ev) (Rx Ry Lx Ly:List Rw),e.getD 13 .any=.int .i64 i∧i≤l.length∧e.getD 12 .any=.int .i64 acc.length∧acc.length≤i∧(∀ e∈acc,0≤e.1) ∧
  Ix d m Lx Rx (acc.length:Int) (acc.map (ixRow g))∧Ix d m Ly Ry (acc.length:Int) (acc.map (ixRow 1))∧(∀ k,totR k (Ly.map (flR g))=totR k ((acc.map (ixRow 1)).map (flR g)))∧BInv a1 a2 d m g N H' Rx Ry (acc.length:Int))
  (fun e _=>l.length - natA (e.getD 13 .any)) ⟨0,[],[],[],[],[],rfl,Nat.zero_le _,rfl,Nat.le_refl _,by simp,Ix.nil d m,Ix.nil d m,fun _=>rfl,hinv⟩ ?_
 clear hinv
 simp (config:={ maxSteps:=10000000 }) only [List.length_cons,List.length_nil,Nat.reduceAdd,allL_succ,allL_zero]
 intro y6 y12 y13 y14 y15 y46 y47 y48 y49 y50 y51 y52 y53 y54 y55 y56 y57 y58 y59 y60 y61 y62 y63 y64 y65 y66 y67 y68 y69 y70 y71 y72 y73 y74 y75 y76 y77 H hI
 simp only [go_sem] at hI
 obtain ⟨i,acc,Rx,Ry,Lx,Ly,rfl,hil,rfl,hai,htm,xx,yy,yf,hinv⟩:=hI
 obtain ⟨v0,v1,v2,v3,v5,v6⟩:=hinv
 have rI:∀ {L R:List Rw} {k:Int} {E:List Rw},Ix d m L R k E→∀ r∈R,RowI d m r:=fun q r hr=>q.st.2.2.1 r (q.st.2.1.symm.subset hr)
 simp only [go_sem,uA,uB,uC,uD,uE,uF,uG,uH,uI,uJ,uK,uL,uM,uN,uO,uP,uQ]
 refine acond_intro (fun hc=>?_) (fun hc=>?_)
 ·have hlt:i < l.length:=by have:=of_decide_eq_true hc; omega
  have hev:=f4 l[i] (List.getElem_mem _)
  have hevg:=evs_get l i hlt
  have hev2:∀ s∈l[i].2.1,s.length≤1000:=fun s hs=>by have:=hev.2.1 s hs; omega
  have ha:=iaddE Rx d m g (acc.length:Int) l[i] (N+3) (N+2) H (by omega) (by omega) (by omega) (by omega) hev2 hg (by omega) (by omega) (rI xx) (by omega) v3 v2
  simp only [eventA] at ha
  simp only [go_sem,hevg,uA,uB,uC,uD,uE,uF,uG,uH,uI,uJ,uK,uL,uM,uN,uO,uP,uQ]
  refine ⟨⟨by omega,by omega⟩, ?_⟩
  refine ACallT.by ha ?_
  rintro _ H2 ⟨rfl,e2⟩
  clear ha
  obtain ⟨ka,hka⟩:∃ ka,ka=addK d m g Rx l[i]:=⟨_,rfl⟩
  obtain ⟨kb,hkb⟩:∃ kb,kb=addK d m 1 Ry l[i]:=⟨_,rfl⟩
  rw [← hka] at e2 ⊢
  have s2:=set2 (M:=H) (x:=N+3) (y:=N+2) (ixO d m g (N+2) (bif ka != 0 then (acc.length:Int) else (acc.length:Int)+1)) (.map (entR keyT (addL d m g Rx l[i]))) (by omega) (by omega) (by omega)
  rw [← e2] at s2
  have hl2:H2.length=H.length:=by rw [e2]; simp
  have hb:=iaddE Ry d m 1 (acc.length:Int) l[i] (N+6) (N+5) H2 (by omega) (by omega) (by omega) (by omega) hev2 gr_one (by omega) (by omega) (rI yy) (by omega) ((s2.2.2 _ (by omega) (by omega)).trans v6) ((s2.2.2 _ (by omega) (by omega)).trans v5)
  simp only [eventA] at hb
  simp only [go_sem,hevg,uA,uB,uC,uD,uE,uF,uG,uH,uI,uJ,uK,uL,uM,uN,uO,uP,uQ]
  refine ⟨⟨by omega,by omega⟩, ?_⟩
  refine ACallT.by hb ?_
  rintro _ H3 ⟨rfl,e3⟩
  clear hb
  rw [← hkb] at e3 ⊢
  have s3:=set2 (M:=H2) (x:=N+6) (y:=N+5) (ixO d m 1 (N+5) (bif kb != 0 then (acc.length:Int) else (acc.length:Int)+1)) (.map (entR keyT (addL d m 1 Ry l[i]))) (by omega) (by omega) (by omega)
  rw [← e3] at s3
  have hl3:H3.length=H2.length:=by rw [e3]; simp
  have w1:H3[N]? = some (sbO a1 a2 d m):=(s3.2.2 _ (by omega) (by omega)).trans ((s2.2.2 _ (by omega) (by omega)).trans v1)
  have w2:=(s3.2.2 (N+2) (by omega) (by omega)).trans s2.2.1
  have w3:=(s3.2.2 (N+3) (by omega) (by omega)).trans s2.1
  have w5:=s3.2.1
  have w6:=s3.1
  clear e2 e3 s2 s3
  simp only [go_sem,uA,uB,uC,uD,uE,uF,uG,uH,uI,uJ,uK,uL,uM,uN,uO,uP,uQ]
  refine acond_intro (fun hd=>?_) (fun hd=>?_)
  ·simp only [go_sem,uA,uB,uC,uD,uE,uF,uG,uH,uI,uJ,uK,uL,uM,uN,uO,uP,uQ]
   refine ACallT.frame (alive_hand _) ?_
   rintro _ _ rfl
   refine ⟨rfl, ?_⟩
   simp only [go_sem,uA,uB,uC,uD,uE,uF,uG,uH,uI,uJ,uK,uL,uM,uN,uO,uP,uQ]
   exact Fin_plain rfl
  ·have hd':ka≠121∧kb≠121:=by
    cases q:(ka==121) with
    | true=>rw [q] at hd; cases hd
    | false=>rw [q] at hd; exact ⟨by simpa using q,by simpa using hd⟩
   clear hd
   rcases add_codes (e:=l[i]) xx hg with ⟨k1,k2,k3⟩ | ⟨k1,k2⟩
   ·rcases add_codes (e:=l[i]) yy gr_one with ⟨-,j2,j3⟩ | ⟨j1,-⟩
    ·have hab:ka=kb:=by rw [hka,hkb,k2,j2]
     have hk0:ka≠0:=by rw [hka,k2]; exact k1
     have hn0:(ka != 0)=true:=by simpa using hk0
     have hz0:(ka==0)=false:=by simpa using hk0
     have hs0:(ka != ka)=false:=by simp
     rw [← hab] at w6 ⊢
     rw [k3] at w2
     rw [hn0] at w3 w6
     simp only [cond_true] at w3 w6
     rw [j3] at w5
     simp only [go_sem,hz0,hs0,uA,uB,uC,uD,uE,uF,uG,uH,uI,uJ,uK,uL,uM,uN,uO,uP,uQ]
     refine ⟨⟨i+1,acc,Rx,Ry,Lx,Ly, ?_,by omega,rfl,by omega,htm,xx,yy,yf,by omega,w1,w2,w3,w5,w6⟩, ?_⟩
     ·rw [wrap_id (by omega) (by omega)]; rfl
     ·rw [wrap_id (by omega) (by omega)]; omega
    ·exact absurd j1 k1
   ·rcases add_codes (e:=l[i]) yy gr_one with ⟨j1,-,-⟩ | ⟨-,j2⟩
    ·exact absurd k1 j1
    ·have ka0:ka=0:=by rw [hka]; exact k2.resolve_right (by rw [← hka]; exact hd'.1)
     have kb0:kb=0:=by rw [hkb]; exact j2.resolve_right (by rw [← hkb]; exact hd'.2)
     obtain ⟨Lx2,xx2⟩:=xx.add hg k1 (by rw [← hka]; exact ka0)
     obtain ⟨Ly2,yy2,yf2⟩:=Ix.addF (flR g) (fin_fl g) yy yf gr_one k1 (by rw [← hkb]; exact kb0)
     subst ka0 kb0
     have elen:(((acc++[l[i]]).length:Nat):Int)=(acc.length:Int)+1:=by simp
     have emap:∀ q,(acc++[l[i]]).map (ixRow q)=acc.map (ixRow q)++[ixRow q l[i]]:=fun q=>by simp
     have ht0:0≤l[i].1:=(check_0 k1).2.2.2.1
     simp only [go_sem,uA,uB,uC,uD,uE,uF,uG,uH,uI,uJ,uK,uL,uM,uN,uO,uP,uQ]
     refine ⟨⟨i+1,acc++[l[i]],_,_,Lx2,Ly2, ?_,by omega, ?_,by simp; omega,fun e he=>?_, ?_, ?_, ?_,by omega,w1,w2, ?_,w5, ?_⟩, ?_⟩
     ·rw [wrap_id (by omega) (by omega)]; rfl
     ·rw [wrap_id (by omega) (by omega),elen]
     ·rcases List.mem_append.1 he with q | q
      ·exact htm e q
      ·obtain rfl:e=l[i]:=by simpa using q
       exact ht0
     ·rw [elen,emap]; exact xx2
     ·rw [elen,emap]; exact yy2
     ·rw [emap]; exact yf2
     ·rw [elen]; exact w3
     ·rw [elen]; exact w6
     ·rw [wrap_id (by omega) (by omega)]; omega
 ·have lnx:=xx.len
  have lny:=yy.len
  have hgp:1≤g:=by unfold gr at hg; simp at hg; omega
  have hgm:g≤9223372036854775807:=by unfold gr at hg; simp at hg; omega
  have hbt:=bucket_time xx (by omega) htm
  have hxl:Lx.length≤60:=by rw [xx.st.2.1.length_eq]; omega
  have hyl:Ly.length≤60:=by rw [yy.st.2.1.length_eq]; omega
  have rkx:∀ r∈Lx,RwOk r:=fun r hr=>by have:=(xx.rwn r hr).1; exact ⟨by have:=this.1; omega,by have:=this.2; omega⟩
  simp only [go_sem,uA,uB,uC,uD,uE,uF,uG,uH,uI,uJ,uK,uL,uM,uN,uO,uP,uQ]
  refine ACallT.by (irowsE Lx Rx d m g (acc.length:Int) (N+3) (N+2) H xx.st.1 xx.st.2.1 (by omega) (xx.bd f1 f2) v3 v2) ?_
  rintro _ H5 ⟨rfl,e5⟩
  rw [e5]
  clear e5 H5
  simp only [go_sem,uA,uB,uC,uD,uE,uF,uG,uH,uI,uJ,uK,uL,uM,uN,uO,uP,uQ]
  refine ALoop.over [6,17,80,81,82,83,84,85,86,87,88,89,90,91,92,93] (fun e H'=>∃ i:Nat,e.getD 17 .any=.int .i64 i∧i≤Lx.length∧H'=H) (fun e _=>Lx.length - natA (e.getD 17 .any)) ⟨0,rfl,Nat.zero_le _,rfl⟩ ?_
  simp (config:={ maxSteps:=10000000 }) only [List.length_cons,List.length_nil,Nat.reduceAdd,allL_succ,allL_zero]
  intro y6 y17 y80 y81 y82 y83 y84 y85 y86 y87 y88 y89 y90 y91 y92 y93 H4 hI
  simp only [go_sem] at hI
  obtain ⟨j,rfl,hj,rfl⟩:=hI
  simp only [go_sem,uA,uB,uC,uD,uE,uF,uG,uH,uI,uJ,uK,uL,uM,uN,uO,uP,uQ]
  refine acond_intro (fun hc=>?_) (fun hc=>?_)
  ·have hlt:j < Lx.length:=by have:=of_decide_eq_true hc; omega
   have hget:=rowsA_get Lx j hlt
   have hb0:=hbt Lx[j] (List.getElem_mem _)
   have hcb:(Lx[j].1.tmod g != 0)=false:=by rw [hb0]; rfl
   simp only [go_sem,hget,uA,uB,uC,uD,uE,uF,uG,uH,uI,uJ,uK,uL,uM,uN,uO,uP,uQ]
   refine ⟨⟨by omega,by omega⟩,by omega, ?_⟩
   rw [hcb]
   simp only [go_sem,uA,uB,uC,uD,uE,uF,uG,uH,uI,uJ,uK,uL,uM,uN,uO,uP,uQ]
   refine ⟨⟨j+1, ?_,by omega⟩, ?_⟩
   ·rw [wrap_id (by omega) (by omega)]; rfl
   ·rw [wrap_id (by omega) (by omega)]; omega
  ·obtain rfl:j=Lx.length:=by have:=of_decide_eq_false hc; omega
   have hpj:=proj_ok a1 a2 a1 false d m g Ly
   have hsame:=proj_same xx yy yf
   have hnil:=prj_nil (d:=d) (g:=g) (L:=Ly)
   simp only [schA] at hpj
   obtain ⟨P,hP⟩:∃ P,P=prjF d g Ly:=⟨_,rfl⟩
   rw [← hP] at hpj hsame hnil
   obtain ⟨pk,pl⟩:=P
   simp only at hpj hsame hnil
   simp only [go_sem,uA,uB,uC,uD,uE,uF,uG,uH,uI,uJ,uK,uL,uM,uN,uO,uP,uQ]
   (refine ADrawT.walk3 [[0,3],[0],[0,3],[0,3],[0,3],[0,3],[3,7],[7],[7],[7],[7],[7]] mixedOrdersD (by kernel_rfl) (by kernel_rfl) ?_; simp only [go_sem,uA,uB,uC,uD,uE,uF,uG,uH,uI,uJ,uK,uL,uM,uN,uO,uP,uQ])
   simp only [go_sem,v1,uA,uB,uC,uD,uE,uF,uG,uH,uI,uJ,uK,uL,uM,uN,uO,uP,uQ]
   refine frX_same (.fz false (rowsA Ly)) ?_ ?_
   ·simp only [go_sem,v1,uA,uB,uC,uD,uE,uF,uG,uH,uI,uJ,uK,uL,uM,uN,uO,uP,uQ]
    refine ACallT.by (irowsE Ly Ry d m 1 (acc.length:Int) (N+6) (N+5) H4 yy.st.1 yy.st.2.1 (by omega) (yy.bd f1 f2) v6 v5) ?_
    rintro _ _ ⟨rfl,rfl⟩
    exact ⟨rfl,rfl⟩
   simp only [go_sem,v1,uA,uB,uC,uD,uE,uF,uG,uH,uI,uJ,uK,uL,uM,uN,uO,uP,uQ]
   refine frX_same (.tup [.fz false (rowsA pl),.int .i64 pk]) ?_ ?_
   ·simp only [go_sem,v1,uA,uB,uC,uD,uE,uF,uG,uH,uI,uJ,uK,uL,uM,uN,uO,uP,uQ]
    refine ACallT.frame (hpj _ (by omega) (by omega) (by omega) yy.st.2.2.1 hg) ?_
    rintro _ _ rfl
    exact ⟨by have:=low_rowsF 0 pl; simp [AV.low,lowL] at this ⊢; exact this,rfl,rfl⟩
   simp only [go_sem,v1,uA,uB,uC,uD,uE,uF,uG,uH,uI,uJ,uK,uL,uM,uN,uO,uP,uQ]
   refine ⟨by simp [fmem,Agree,v1], ?_⟩
   by_cases hpk:pk=0
   ·have hpl:=hsame hpk
    have hdl:decide (Lx=Lx)=true:=decide_eq_true rfl
    rw [hpl,hpk]
    refine ACallT.frame (rsame_ok Lx Lx false false _ (by omega) (by omega) rkx (by exact rkx)) ?_
    rintro _ _ rfl
    refine ⟨rfl, ?_⟩
    simp only [go_sem,uA,uB,uC,uD,uE,uF,uG,uH,uI,uJ,uK,uL,uM,uN,uO,uP,uQ]
    refine ACallT.frame (alive_hand _) ?_
    rintro _ _ rfl
    refine ⟨rfl, ?_⟩
    simp only [go_sem,hdl,uA,uB,uC,uD,uE,uF,uG,uH,uI,uJ,uK,uL,uM,uN,uO,uP,uQ]
    refine ACallT.by (icount_ok d m g (acc.length:Int) (N+3) (N+2) H4 v3) ?_
    rintro _ H5 ⟨rfl,e5⟩
    rw [e5]
    clear e5 H5
    simp only [go_sem,uA,uB,uC,uD,uE,uF,uG,uH,uI,uJ,uK,uL,uM,uN,uO,uP,uQ]
    refine ACallT.by (icount_ok d m 1 (acc.length:Int) (N+6) (N+5) H4 v6) ?_
    rintro _ H5 ⟨rfl,e5⟩
    rw [e5]
    clear e5 H5
    simp only [go_sem,uA,uB,uC,uD,uE,uF,uG,uH,uI,uJ,uK,uL,uM,uN,uO,uP,uQ]
    exact Fin_plain (by simp)
   ·have hpl:=hnil hpk
    have hpz:(pk != 0)=true:=by simpa using hpk
    rw [hpl]
    show ACallT Tryz.prog _ [.fz false (rowsA Lx),.fz false (rowsA [])] _ _ _
    refine ACallT.frame (rsame_ok Lx [] false false _ (by omega) (by simp) rkx (by simp)) ?_
    rintro _ _ rfl
    refine ⟨rfl, ?_⟩
    simp only [go_sem,uA,uB,uC,uD,uE,uF,uG,uH,uI,uJ,uK,uL,uM,uN,uO,uP,uQ]
    refine ACallT.frame (alive_hand _) ?_
    rintro _ _ rfl
    refine ⟨rfl, ?_⟩
    simp only [go_sem,hpz,uA,uB,uC,uD,uE,uF,uG,uH,uI,uJ,uK,uL,uM,uN,uO,uP,uQ]
    refine ACallT.by (icount_ok d m g (acc.length:Int) (N+3) (N+2) H4 v3) ?_
    rintro _ H5 ⟨rfl,e5⟩
    rw [e5]
    clear e5 H5
    simp only [go_sem,uA,uB,uC,uD,uE,uF,uG,uH,uI,uJ,uK,uL,uM,uN,uO,uP,uQ]
    refine ACallT.by (icount_ok d m 1 (acc.length:Int) (N+6) (N+5) H4 v6) ?_
    rintro _ H5 ⟨rfl,e5⟩
    rw [e5]
    clear e5 H5
    simp only [go_sem,uA,uB,uC,uD,uE,uF,uG,uH,uI,uJ,uK,uL,uM,uN,uO,uP,uQ]
    exact Fin_plain (by simp)
end Go.Proofs.Vale
