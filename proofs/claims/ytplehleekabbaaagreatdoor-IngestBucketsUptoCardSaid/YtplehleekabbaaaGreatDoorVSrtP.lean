/- YtplehleekabbaaaGreatDoorVSrtP: a text of the proof of this claim, by its prover. -/
import Derived.Test.YtplehleekabbaaaGreatDoorVSrtM
import Derived.Test.YtplehleekabbaaaGreatDoorVSrtK
open Nat renaming reduceMul → uA, reduceLT → uB, reduceLeDiff → uC, reduceEqDiff → uD, reduceBEq → uE, lt_irrefl → uQ
open Int renaming toNat_natCast → uF, reduceToNat → uG, reduceNeg → uH, reduceLT → uI, reduceLE → uJ, reduceBEq → uK, reduceBNe → uL
open Bool renaming false_eq_true → uO
set_option linter.unusedVariables false
set_option linter.unusedSimpArgs false
set_option maxHeartbeats 16000000
set_option maxRecDepth 100000
namespace Go.Proofs.Vale
open Go.Proofs Go.Proofs.YtplehleekabbaaaGreatDoorT
attribute [local irreducible] acode aopsL aopsT dopsL dopsT pop popG aop ALoop ADraw ACall AWP AFin acondT ALoopT ADrawT ACallT doP doG doGd frL frT frX
theorem PS.keep {H h h2:List AObj} {t g:Nat} {L:List Rw} (p:PS H t g L h) (q:∀ i,i < h.length→h2[i]? = h[i]?):PS H t g L h2:=by
 have htl:=(List.getElem?_eq_some_iff.1 p.1).1
 refine ⟨(q t htl).trans p.1,fun i h1 h3=>(q i (by have:=p.2.2; omega)).trans (p.2.1 i h1 h3), ?_⟩
 have h0:=(List.getElem?_eq_some_iff.1 ((q (h.length - 1) (by omega)).trans (List.getElem?_eq_getElem (by omega)))).1
 have:=p.2.2
 omega
theorem pdq_ok (t g N : Nat) (hn : N ≤ 1152921504606846976) : ∀ (n : Nat) (P M S : List Rw) (lim : Nat) (H : List AObj), M.length = n → (P ++ (M ++ S)).length = N → (∀ r ∈ P ++ (M ++ S), RwOk r) → LoR P M → lim ≤ 64 → H[t]? = some (.arr g 4 (rowsA (P ++ (M ++ S)))) →
  ACall Tryz.prog 108 [.sl t g 4 0 N,.int .i64 P.length,.int .i64 (P.length+M.length:Nat),.int .i64 lim,cmpF] H (fun r H'=>r=.tup []∧∃ M',M'.Perm M∧SrtR M'∧PS H t g (P++(M'++S)) H'):=by
 intro n
 induction n using Nat.strongRecOn with
 | ind n ih =>
 intro P M S lim H hMn hN hok hlo hlim ht
 have hPM:P.length+M.length≤N:=by rw [← hN]; simp
 (refine ACall.of_code Tryz.func108 rfl ?_; simp only [Tryz.f108]; simp only [go_sem,uA,uB,uC,uD,uE,uF,uG,uH,uI,uJ,uK,uL,uM,uN,uO,uP,uQ])
 refine ALoop.over [1,2,3,10,11,12,13,14,15,16,17,18,19,20,21,22,23,24,25,26,27,28,29,30,31,32,33,34,35,36,37,38,39,40,41,42,43,44,45,46,47,48,49,50,51,52,53,54,55,56,57,58,59,60,61,62,63,64,65,66,67,68,69,70,71,72,73,74,75,76,77,78,79,80,81,82,83,84,85,86,87,88,89,90,91,92,93,94,95,96,97,98,99,100,101,102,103,104,105,106,107,108,109,110,111,112,113,114,115,116,117,118,119,120,121,122,123,124,125,126,127,128,129,130,131,132,133,134,135,136,137,138,139,140,141,142,143,144,145,146,147] (fun e h'=>∃ (Q A M1 B:List Rw) (li l:Nat) (u v:Bool),e.getD 1 .any=.int .i64 Q.length∧e.getD 2 .any=.int .i64 (Q.length+l:Nat)∧e.getD 3 .any=.int .i64 li∧e.getD 10 .any=.bool u∧e.getD 11 .any=.bool v∧li≤64∧M1.length=l∧Q=P++A∧QSo M A M1 B∧PS H t g (Q++(M1++(B++S))) h') (fun e _=>natA (e.getD 2 .any) - natA (e.getD 1 .any)) ⟨P,[],M,[],lim,_,true,true,rfl,rfl,rfl,rfl,rfl,hlim,rfl,by simp,QSo_start M,ht,fun _ _ _=>rfl,Nat.le_refl _⟩ ?_
 simp (config:={ maxSteps:=10000000 }) only [List.length_cons,List.length_nil,Nat.reduceAdd,allL_succ,allL_zero]
 intro y1 y2 y3 y10 y11 y12 y13 y14 y15 y16 y17 y18 y19 y20 y21 y22 y23 y24 y25 y26 y27 y28 y29 y30 y31 y32 y33 y34 y35 y36 y37 y38 y39 y40 y41 y42 y43 y44 y45 y46 y47 y48 y49 y50 y51 y52 y53 y54 y55 y56 y57 y58 y59 y60 y61 y62 y63 y64 y65 y66 y67 y68 y69 y70 y71 y72 y73 y74 y75 y76 y77 y78 y79 y80 y81 y82 y83 y84 y85 y86 y87 y88 y89 y90 y91 y92 y93 y94 y95 y96 y97 y98 y99 y100 y101 y102 y103 y104 y105 y106 y107 y108 y109 y110 y111 y112 y113 y114 y115 y116 y117 y118 y119 y120 y121 y122 y123 y124 y125 y126 y127 y128 y129 y130 y131 y132 y133 y134 y135 y136 y137 y138 y139 y140 y141 y142 y143 y144 y145 y146 y147 h1 hI
 simp only [go_sem] at hI
 obtain ⟨Q,A,M1,B,li,l,u,v,rfl,rfl,rfl,rfl,rfl,hli,hl,hQ,hq,hp⟩:=hI
 have hlN:=QSo_len hq hQ hN
 have hln:l≤n:=by
  have:=hq.1.length_eq
  simp only [List.length_append] at this; omega
 have hal:=QSo_all hq hQ hok
 have hQl:Q.length+l≤N:=by rw [← hlN,← hl]; simp
 have hokM:∀ r∈M1,RwOk r:=fun r hr=>hal r (by simp [hr])
 have hokQ:∀ r∈Q,RwOk r:=fun r hr=>hal r (by simp [hr])
 have hloQ:LoR Q M1:=by rw [hQ]; exact QSo_lo hq hlo
 have hfin:∀ M2,SrtR M2→M2.Perm M1→∀ h',PS H t g (Q++(M2++(B++S))) h'→∃ M',M'.Perm M∧SrtR M'∧PS H t g (P++(M'++S)) h':=by
  intro M2 hs hp2 h' hps
  have hq2:=QSo_perm hq hp2
  refine ⟨A++(M2++B),hq2.1,QSo_end hq2 hs, ?_⟩
  rw [hQ] at hps
  simpa using hps
 have w0:IntKind.i64.wrap (((Q.length+l:Nat):Int) - (Q.length:Int))=(l:Int):=by rw [wrap_id (by omega) (by omega)]; omega
 simp only [go_sem,w0,uA,uB,uC,uD,uE,uF,uG,uH,uI,uJ,uK,uL,uM,uN,uO,uP,uQ]
 refine acond_intro (fun hc=>?_) (fun hc=>?_)
 ·simp only [go_sem,uA,uB,uC,uD,uE,uF,uG,uH,uI,uJ,uK,uL,uM,uN,uO,uP,uQ]
  refine ACallT.by (hl ▸ insSort2 Q M1 (B++S) t g N h1 hlN hn hokM hp.1) ?_
  rintro _ _ ⟨rfl,M2,hp2,hs2,rfl⟩
  simp only [go_sem,uA,uB,uC,uD,uE,uF,uG,uH,uI,uJ,uK,uL,uM,uN,uO,uP,uQ]
  exact Fin_plain ⟨rfl,hfin M2 hs2 hp2 _ (hp.set _)⟩
 have h12:12 < l:=by have:=of_decide_eq_false hc; omega
 simp only [go_sem,uA,uB,uC,uD,uE,uF,uG,uH,uI,uJ,uK,uL,uM,uN,uO,uP,uQ]
 refine acond_intro (fun hz=>?_) (fun hz=>?_)
 ·simp only [go_sem,uA,uB,uC,uD,uE,uF,uG,uH,uI,uJ,uK,uL,uM,uN,uO,uP,uQ]
  refine ACallT.by (hl ▸ heapSort_ok Q M1 (B++S) t g N h1 hlN hn hokM hp.1) ?_
  rintro _ _ ⟨rfl,M2,hp2,hs2,rfl⟩
  simp only [go_sem,uA,uB,uC,uD,uE,uF,uG,uH,uI,uJ,uK,uL,uM,uN,uO,uP,uQ]
  exact Fin_plain ⟨rfl,hfin M2 hs2 hp2 _ (hp.set _)⟩
 have hli0:0 < li:=by
  have:=beq_eq_false_iff_ne.1 hz
  omega
 simp only [go_sem,uA,uB,uC,uD,uE,uF,uG,uH,uI,uJ,uK,uL,uM,uN,uO,uP,uQ]
 refine acond_over rfl rfl [3,40,41,42,43,44,45,46] (fun e h'=>∃ (li':Nat) (M2:List Rw),e.getD 3 .any=.int .i64 li'∧li'≤64∧M2.Perm M1∧PS H t g (Q++(M2++(B++S))) h') (fun _ _ _=>False) (fun hb R hR _=>?_) (fun hb R hR _=>?_) (fun _ _ _ f=>f.elim) ?_
 ·simp only [go_sem,uA,uB,uC,uD,uE,uF,uG,uH,uI,uJ,uK,uL,uM,uN,uO,uP,uQ]
  refine ACallT.by (hl ▸ breakP_ok Q M1 (B++S) t g N h1 hlN hn hp.1) ?_
  rintro _ h2 ⟨rfl,M2,hp2,hps⟩
  simp only [go_sem,uA,uB,uC,uD,uE,uF,uG,uH,uI,uJ,uK,uL,uM,uN,uO,uP,uQ]
  refine hR _ _ ?_ ⟨li - 1,M2, ?_,by omega,hp2,hp.by hps⟩
  ·simp only [go_sem,uA,uB,uC,uD,uE,uF,uG,uH,uI,uJ,uK,uL,uM,uN,uO,uP,uQ]
  ·simp only [go_sem,uA,uB,uC,uD,uE,uF,uG,uH,uI,uJ,uK,uL,uM,uN,uO,uP,uQ]
   rw [wrap_id (by omega) (by omega)]; congr 1; omega
 ·simp only [go_sem,uA,uB,uC,uD,uE,uF,uG,uH,uI,uJ,uK,uL,uM,uN,uO,uP,uQ]
  refine hR _ _ ?_ ⟨li,M1,rfl,hli,.refl _,hp⟩
  simp only [go_sem,uA,uB,uC,uD,uE,uF,uG,uH,uI,uJ,uK,uL,uM,uN,uO,uP,uQ]
 simp (config:={ maxSteps:=10000000 }) only [List.length_cons,List.length_nil,Nat.reduceAdd,allL_succ,allL_zero]
 intro y3 y40 y41 y42 y43 y44 y45 y46 h2 hI
 simp only [go_sem] at hI
 obtain ⟨li2,M2,rfl,hli2,hpm2,hp2⟩:=hI
 have hq2:=QSo_perm hq hpm2
 have hl2:M2.length=l:=by rw [hpm2.length_eq]; exact hl
 have hlN2:=QSo_len hq2 hQ hN
 have hal2:=QSo_all hq2 hQ hok
 have hch:=chooseP_ok (Q++(M2++(B++S))) t g h2 (fun k h=>hal2 _ (List.getElem_mem _)) (by omega) Q.length l (by omega) (by omega) hp2.1
 rw [hlN2] at hch
 simp only [go_sem,uA,uB,uC,uD,uE,uF,uG,uH,uI,uJ,uK,uL,uM,uN,uO,uP,uQ]
 refine ACallT.by hch ?_
 rintro _ h3 ⟨x,m,rfl,hx1,hx2,hrest⟩
 have hp3:=hp2.keep hrest
 simp only [go_sem,uA,uB,uC,uD,uE,uF,uG,uH,uI,uJ,uK,uL,uM,uN,uO,uP,uQ]
 have wr1:IntKind.i64.wrap (((Q.length+l:Nat):Int) - 1)=((Q.length+l - 1:Nat):Int):=by rw [wrap_id (by omega) (by omega)]; omega
 have wr2:IntKind.i64.wrap ((x:Int) - (Q.length:Int))=((x - Q.length:Nat):Int):=by rw [wrap_id (by omega) (by omega)]; omega
 have wr3:IntKind.i64.wrap (((Q.length+l - 1:Nat):Int) - ((x - Q.length:Nat):Int))=((Q.length+l - 1 - (x - Q.length):Nat):Int):=by rw [wrap_id (by omega) (by omega)]; omega
 refine acond_over rfl rfl [13,14,57,58,59,60,61,62,63,64,65,66,67] (fun e h'=>∃ (x:Nat) (m:Int) (M3:List Rw),e.getD 13 .any=.int .i64 x∧e.getD 14 .any=.int .i64 m∧Q.length≤x∧x < Q.length+l∧M3.Perm M1∧PS H t g (Q++(M3++(B++S))) h') (fun _ _ _=>False) (fun hb R hR _=>?_) (fun hb R hR _=>?_) (fun _ _ _ f=>f.elim) ?_
 ·simp only [go_sem,uA,uB,uC,uD,uE,uF,uG,uH,uI,uJ,uK,uL,uM,uN,uO,uP,uQ]
  refine ACallT.by (hl2 ▸ revRange_ok Q M2 (B++S) t g N h3 hlN2 (by omega) _ hp3.1) ?_
  rintro _ _ ⟨rfl,M3,hp4,rfl⟩
  simp only [go_sem,wr1,wr2,wr3,uA,uB,uC,uD,uE,uF,uG,uH,uI,uJ,uK,uL,uM,uN,uO,uP,uQ]
  refine hR _ _ ?_ ⟨Q.length+l - 1 - (x - Q.length),1,M3,rfl,rfl,by omega,by omega,hp4.trans hpm2,hp3.set _⟩
  simp only [go_sem,uA,uB,uC,uD,uE,uF,uG,uH,uI,uJ,uK,uL,uM,uN,uO,uP,uQ]
 ·simp only [go_sem,uA,uB,uC,uD,uE,uF,uG,uH,uI,uJ,uK,uL,uM,uN,uO,uP,uQ]
  refine hR _ _ ?_ ⟨x,m,M2,rfl,rfl,hx1,hx2,hpm2,hp3⟩
  simp only [go_sem,uA,uB,uC,uD,uE,uF,uG,uH,uI,uJ,uK,uL,uM,uN,uO,uP,uQ]
 clear hrest hx1 hx2 wr1 wr2 wr3 hp3 hch
 simp (config:={ maxSteps:=10000000 }) only [List.length_cons,List.length_nil,Nat.reduceAdd,allL_succ,allL_zero]
 intro y13 y14 y57 y58 y59 y60 y61 y62 y63 y64 y65 y66 y67 h4 hI
 simp only [go_sem] at hI
 obtain ⟨x,m,M3,rfl,rfl,hx1,hx2,hpm3,hp3⟩:=hI
 have hq3:=QSo_perm hq hpm3
 have hl3:M3.length=l:=by rw [hpm3.length_eq]; exact hl
 have hlN3:=QSo_len hq3 hQ hN
 have hal3:=QSo_all hq3 hQ hok
 simp only [go_sem,uA,uB,uC,uD,uE,uF,uG,uH,uI,uJ,uK,uL,uM,uN,uO,uP,uQ]
 have hlo3:LoR Q M3:=fun A p e x hx=>hloQ A p e x (hpm3.subset hx)
 refine acond_over rfl rfl [76,77,78,79,80] (fun e h'=>∃ (M4:List Rw),M4.Perm M1∧PS H t g (Q++(M4++(B++S))) h') (fun e _ h'=>e=.ret∧∃ M4,SrtR M4∧M4.Perm M1∧PS H t g (Q++(M4++(B++S))) h') (fun hb R hR hJ=>?_) (fun hb R hR hJ=>?_) (fun e env' h' hJ=>?_) ?_
 ·simp only [go_sem,uA,uB,uC,uD,uE,uF,uG,uH,uI,uJ,uK,uL,uM,uN,uO,uP,uQ]
  refine ACallT.by (hl3 ▸ pins_ok Q M3 (B++S) t g N h4 hlN3 hn (fun r hr=>hal3 r (by simp [hr])) hokQ (by omega) hlo3 hp3.1) ?_
  rintro _ _ ⟨c,M4,rfl,hp5,hs5,rfl⟩
  simp only [go_sem,uA,uB,uC,uD,uE,uF,uG,uH,uI,uJ,uK,uL,uM,uN,uO,uP,uQ]
  refine acond_intro (fun hc=>?_) (fun hc=>?_)
  ·simp only [go_sem,uA,uB,uC,uD,uE,uF,uG,uH,uI,uJ,uK,uL,uM,uN,uO,uP,uQ]
   exact hJ .ret _ _ ⟨rfl,M4,hs5 hc,hp5.trans hpm3,hp3.set _⟩
  ·simp only [go_sem,uA,uB,uC,uD,uE,uF,uG,uH,uI,uJ,uK,uL,uM,uN,uO,uP,uQ]
   refine hR _ _ ?_ ⟨M4,hp5.trans hpm3,hp3.set _⟩
   simp only [go_sem,uA,uB,uC,uD,uE,uF,uG,uH,uI,uJ,uK,uL,uM,uN,uO,uP,uQ]
 ·simp only [go_sem,uA,uB,uC,uD,uE,uF,uG,uH,uI,uJ,uK,uL,uM,uN,uO,uP,uQ]
  refine hR _ _ ?_ ⟨M3,hpm3,hp3⟩
  simp only [go_sem,uA,uB,uC,uD,uE,uF,uG,uH,uI,uJ,uK,uL,uM,uN,uO,uP,uQ]
 ·obtain ⟨rfl,M4,hs4,hpm4,hps⟩:=hJ
  simp only [go_sem,uA,uB,uC,uD,uE,uF,uG,uH,uI,uJ,uK,uL,uM,uN,uO,uP,uQ]
  exact Fin_plain ⟨rfl,hfin M4 hs4 hpm4 _ hps⟩
 clear hp3 hlo3
 simp (config:={ maxSteps:=10000000 }) only [List.length_cons,List.length_nil,Nat.reduceAdd,allL_succ,allL_zero]
 intro y76 y77 y78 y79 y80 h5 hI
 obtain ⟨M4,hpm4,hp4⟩:=hI
 have hq4:=QSo_perm hq hpm4
 have hl4:M4.length=l:=by rw [hpm4.length_eq]; exact hl
 have hlN4:=QSo_len hq4 hQ hN
 have hal4:=QSo_all hq4 hQ hok
 have hokM4:∀ r∈M4,RwOk r:=fun r hr=>hal4 r (by simp [hr])
 obtain ⟨i,rfl⟩:∃ i,x=Q.length+i:=⟨x - Q.length,by omega⟩
 have hi4:i < M4.length:=by omega
 have hset:=hp4.1
 rcases List.eq_nil_or_concat Q with hQ0 | ⟨Q',q,hQc⟩
 ·have hgd:decide ((0:Int) < (Q.length:Int))=false:=by rw [hQ0]; rfl
  simp only [go_sem,uA,uB,uC,uD,uE,uF,uG,uH,uI,uJ,uK,uL,uM,uN,uO,uP,uQ]
  (refine ADrawT.mem [] mixedOrdersD (by kernel_rfl) (by kernel_rfl) ?_; simp only [go_sem,uA,uB,uC,uD,uE,uF,uG,uH,uI,uJ,uK,uL,uM,uN,uO,uP,uQ])
  simp only [go_sem,hgd,hset,uA,uB,uC,uD,uE,uF,uG,uH,uI,uJ,uK,uL,uM,uN,uO,uP,uQ]
  refine ⟨by simp [okAcc], ?_⟩
  refine ACallT.by (hl4 ▸ part_ok Q M4 (B++S) t g N h5 hlN4 hn hokM4 i hi4 hp4.1) ?_
  rintro _ _ ⟨k,c,M5,rfl,hp6,hpd,rfl⟩
  obtain ⟨U,W,hM5,hUk,hUv,hvW⟩:=pd_cut hpd
  subst hUk
  obtain ⟨w,hw⟩:∃ w,w=G M4 i:=⟨_,rfl⟩
  rw [← hw] at hUv hvW hM5
  have hpm5:M5.Perm M1:=hp6.trans hpm4
  have hq5:=QSo_perm hq hpm5
  have hal5:=QSo_all hq5 hQ hok
  have hlN5:=QSo_len hq5 hQ hN
  have hp5:PS H t g (Q++(M5++(B++S))) (h5.set t (.arr g 4 (rowsA (Q++(M5++(B++S)))))):=hp4.set _
  have hl5:U.length+1+W.length=l:=by
   have:=hpm5.length_eq
   rw [hM5] at this; simp at this; omega
  have hsub:∀ x∈U,x∈M1:=fun x hx=>hpm5.subset (by rw [hM5]; simp [hx])
  rw [hM5] at hq5
  have wk1:IntKind.i64.wrap (((Q.length+U.length:Nat):Int) - (Q.length:Int))=(U.length:Int):=by rw [wrap_id (by omega) (by omega)]; omega
  have wk2:IntKind.i64.wrap (((Q.length+l:Nat):Int) - ((Q.length+U.length:Nat):Int))=((l - U.length:Nat):Int):=by rw [wrap_id (by omega) (by omega)]; omega
  have wk3:IntKind.i64.wrap ((l:Int).tdiv 8)=((l / 8:Nat):Int):=by
   rw [show (l:Int).tdiv 8=((l / 8:Nat):Int) from rfl,wrap_id (by omega) (by omega)]
  obtain ⟨Q2,hQ2⟩:∃ Q2,Q2=Q++(U++[w]):=⟨_,rfl⟩
  have hQ2l:Q2.length=Q.length+U.length+1:=by rw [hQ2]; simp; omega
  have wk4:IntKind.i64.wrap (((Q.length+U.length:Nat):Int)+1)=(Q2.length:Int):=by rw [wrap_id (by omega) (by omega)]; omega
  generalize h5.set t (.arr g 4 (rowsA (Q++(M5++(B++S)))))=h6 at *
  have hlU:LoR Q U:=fun A p e x hx=>hloQ A p e x (hsub x hx)
  have hlW:LoR Q2 W:=by
   intro A p e x hx
   have e2:p=w:=by
    have:=congrArg List.getLast? (hQ2.symm.trans e)
    simp at this; exact this.symm
   rw [e2]; exact hvW x hx
  have eU:Q++(M5++(B++S))=Q++(U++(w::(W++(B++S)))):=by rw [hM5]; simp
  have eW:Q++(M5++(B++S))=Q2++(W++(B++S)):=by rw [hM5,hQ2]; simp
  have cU:=ih U.length (by omega) Q U (w::(W++(B++S))) li2 h6 rfl (eU ▸ hlN5) (eU ▸ hal5) hlU hli2 (eU ▸ hp5.1)
  have cW:=ih W.length (by omega) Q2 W (B++S) li2 h6 rfl (eW ▸ hlN5) (eW ▸ hal5) hlW hli2 (eW ▸ hp5.1)
  rw [show Q2.length+W.length=Q.length+l by omega] at cW
  simp only [go_sem,wk1,wk2,wk3,uA,uB,uC,uD,uE,uF,uG,uH,uI,uJ,uK,uL,uM,uN,uO,uP,uQ]
  refine ⟨by decide, ?_⟩
  refine acond_intro (fun hlt=>?_) (fun hlt=>?_)
  ·simp only [go_sem,uA,uB,uC,uD,uE,uF,uG,uH,uI,uJ,uK,uL,uM,uN,uO,uP,uQ]
   refine ACallT.by cU ?_
   rintro _ h7 ⟨rfl,U',hpU,hsU,hp7⟩
   simp only [go_sem,wk4,uA,uB,uC,uD,uE,uF,uG,uH,uI,uJ,uK,uL,uM,uN,uO,uP,uQ]
   refine ⟨⟨Q++(U'++[w]),A++(U'++[w]),W,B,li2,W.length,_,_, ?_, ?_,rfl,rfl,rfl,hli2,rfl,by rw [hQ]; simp,QSo_left hq5 hpU hsU hUv hvW, ?_⟩, ?_⟩
   ·rw [hQ2l]; congr 2; have:=hpU.length_eq; simp; omega
   ·congr 2; have:=hpU.length_eq; simp; omega
   ·have:=hp5.by hp7
    simpa using this
   ·omega
  ·simp only [go_sem,wk4,uA,uB,uC,uD,uE,uF,uG,uH,uI,uJ,uK,uL,uM,uN,uO,uP,uQ]
   refine ACallT.by cW ?_
   rintro _ h7 ⟨rfl,W',hpW,hsW,hp7⟩
   simp only [go_sem,uA,uB,uC,uD,uE,uF,uG,uH,uI,uJ,uK,uL,uM,uN,uO,uP,uQ]
   refine ⟨⟨Q,A,U,w::(W'++B),li2,U.length,_,_,rfl,rfl,rfl,rfl,rfl,hli2,rfl,hQ,QSo_right hq5 hpW hsW hUv hvW, ?_⟩, ?_⟩
   ·have:=hp5.by hp7
    rw [hQ2] at this
    simpa using this
   ·omega
 rw [List.concat_eq_append] at hQc
 have hQcl:Q.length=Q'.length+1:=by rw [hQc]; simp
 have hgd:decide ((0:Int) < (Q.length:Int))=true:=decide_eq_true (by omega)
 have hwq:IntKind.i64.wrap ((Q.length:Int) - 1)=(Q'.length:Int):=by rw [wrap_id (by omega) (by omega)]; omega
 have e1:(rowsA (Q++(M4++(B++S)))).getD Q'.length .any=.agg [.int .i64 q.1,.fz false (strs q.2.1),.int .i64 q.2.2.1,.fz false (a3s q.2.2.2)]:=by
  rw [hQc,show (Q'++[q])++(M4++(B++S))=Q'++q::(M4++(B++S)) by simp]; exact get_mid _ _ _ _ rfl
 have e2:=getM Q M4 (B++S) i _ rfl hi4
 have c1:=hokQ q (by rw [hQc]; simp)
 have c2:=hokM4 M4[i] (List.getElem_mem _)
 simp only [go_sem,uA,uB,uC,uD,uE,uF,uG,uH,uI,uJ,uK,uL,uM,uN,uO,uP,uQ]
 (refine ADrawT.mem [] mixedOrdersD (by kernel_rfl) (by kernel_rfl) ?_; simp only [go_sem,uA,uB,uC,uD,uE,uF,uG,uH,uI,uJ,uK,uL,uM,uN,uO,uP,uQ])
 simp only [go_sem,hgd,hset,hwq,e1,e2,uA,uB,uC,uD,uE,uF,uG,uH,uI,uJ,uK,uL,uM,uN,uO,uP,uQ]
 refine ⟨⟨by omega,by omega⟩,by omega,⟨by omega,by omega⟩,by omega, ?_⟩
 refine doX_intro (.int .i64 (cmpR q M4[i])) ⟨rfl,fun mm=>?_⟩ ?_
 ·simp only [go_sem,uA,uB,uC,uD,uE,uF,uG,uH,uI,uJ,uK,uL,uM,uN,uO,uP,uQ]
  refine ACallT.frame (cmpR_ok q M4[i] _ c1.1 c2.1) ?_
  rintro _ _ rfl
  exact ⟨rfl,rfl⟩
 simp only [go_sem,hgd,hset,hwq,e1,e2,uA,uB,uC,uD,uE,uF,uG,uH,uI,uJ,uK,uL,uM,uN,uO,uP,uQ]
 refine ⟨by simp [okAcc], ?_⟩
 refine acond_intro (fun hx=>?_) (fun hx=>?_)
 ·have hx2:¬ cmpR q M4[i] < 0:=by simpa using hx
  simp only [go_sem,uA,uB,uC,uD,uE,uF,uG,uH,uI,uJ,uK,uL,uM,uN,uO,uP,uQ]
  refine ACallT.by (hl4 ▸ partEq_ok Q M4 (B++S) t g N h5 hlN4 hn hokM4 i hi4 hp4.1) ?_
  rintro _ _ ⟨k,M5,rfl,hp6,hpe,rfl⟩
  obtain ⟨U,W,hM5,hUk,hk0,hUv,hvW⟩:=pe_cut hpe
  subst hUk
  have hpm5:M5.Perm M1:=hp6.trans hpm4
  have hq5:=QSo_perm hq hpm5
  rw [hM5] at hq5
  have hl5:U.length+W.length=l:=by
   have:=hpm5.length_eq
   rw [hM5] at this; simp at this; omega
  have hvU:∀ u∈U,cmpR (G M4 i) u≤0:=by
   intro u hu
   rw [G_lt hi4]
   exact cmpR_le _ q _ (cmpR_ge _ _ (by omega)) (hloQ Q' q hQc u (hpm5.subset (by rw [hM5]; simp [hu])))
  simp only [go_sem,uA,uB,uC,uD,uE,uF,uG,uH,uI,uJ,uK,uL,uM,uN,uO,uP,uQ]
  refine ⟨⟨Q++U,A++U,W,B,li2,W.length,_,_, ?_, ?_,rfl,rfl,rfl,hli2,rfl,by rw [hQ]; simp,QSo_eq hq5 hUv hvU hvW, ?_⟩, ?_⟩
  ·congr 2; simp
  ·congr 2; simp; omega
  ·have:=hp4.set (Q++(M5++(B++S)))
   rw [hM5] at this
   simpa [hM5] using this
  ·omega
 simp only [go_sem,uA,uB,uC,uD,uE,uF,uG,uH,uI,uJ,uK,uL,uM,uN,uO,uP,uQ]
 refine ACallT.by (hl4 ▸ part_ok Q M4 (B++S) t g N h5 hlN4 hn hokM4 i hi4 hp4.1) ?_
 rintro _ _ ⟨k,c,M5,rfl,hp6,hpd,rfl⟩
 obtain ⟨U,W,hM5,hUk,hUv,hvW⟩:=pd_cut hpd
 subst hUk
 obtain ⟨w,hw⟩:∃ w,w=G M4 i:=⟨_,rfl⟩
 rw [← hw] at hUv hvW hM5
 have hpm5:M5.Perm M1:=hp6.trans hpm4
 have hq5:=QSo_perm hq hpm5
 have hal5:=QSo_all hq5 hQ hok
 have hlN5:=QSo_len hq5 hQ hN
 have hp5:PS H t g (Q++(M5++(B++S))) (h5.set t (.arr g 4 (rowsA (Q++(M5++(B++S)))))):=hp4.set _
 have hl5:U.length+1+W.length=l:=by
  have:=hpm5.length_eq
  rw [hM5] at this; simp at this; omega
 have hsub:∀ x∈U,x∈M1:=fun x hx=>hpm5.subset (by rw [hM5]; simp [hx])
 rw [hM5] at hq5
 have wk1:IntKind.i64.wrap (((Q.length+U.length:Nat):Int) - (Q.length:Int))=(U.length:Int):=by rw [wrap_id (by omega) (by omega)]; omega
 have wk2:IntKind.i64.wrap (((Q.length+l:Nat):Int) - ((Q.length+U.length:Nat):Int))=((l - U.length:Nat):Int):=by rw [wrap_id (by omega) (by omega)]; omega
 have wk3:IntKind.i64.wrap ((l:Int).tdiv 8)=((l / 8:Nat):Int):=by
  rw [show (l:Int).tdiv 8=((l / 8:Nat):Int) from rfl,wrap_id (by omega) (by omega)]
 obtain ⟨Q2,hQ2⟩:∃ Q2,Q2=Q++(U++[w]):=⟨_,rfl⟩
 have hQ2l:Q2.length=Q.length+U.length+1:=by rw [hQ2]; simp; omega
 have wk4:IntKind.i64.wrap (((Q.length+U.length:Nat):Int)+1)=(Q2.length:Int):=by rw [wrap_id (by omega) (by omega)]; omega
 generalize h5.set t (.arr g 4 (rowsA (Q++(M5++(B++S)))))=h6 at *
 have hlU:LoR Q U:=fun A p e x hx=>hloQ A p e x (hsub x hx)
 have hlW:LoR Q2 W:=by
  intro A p e x hx
  have e2:p=w:=by
   have:=congrArg List.getLast? (hQ2.symm.trans e)
   simp at this; exact this.symm
  rw [e2]; exact hvW x hx
 have eU:Q++(M5++(B++S))=Q++(U++(w::(W++(B++S)))):=by rw [hM5]; simp
 have eW:Q++(M5++(B++S))=Q2++(W++(B++S)):=by rw [hM5,hQ2]; simp
 have cU:=ih U.length (by omega) Q U (w::(W++(B++S))) li2 h6 rfl (eU ▸ hlN5) (eU ▸ hal5) hlU hli2 (eU ▸ hp5.1)
 have cW:=ih W.length (by omega) Q2 W (B++S) li2 h6 rfl (eW ▸ hlN5) (eW ▸ hal5) hlW hli2 (eW ▸ hp5.1)
 rw [show Q2.length+W.length=Q.length+l by omega] at cW
 simp only [go_sem,wk1,wk2,wk3,uA,uB,uC,uD,uE,uF,uG,uH,uI,uJ,uK,uL,uM,uN,uO,uP,uQ]
 refine ⟨by decide, ?_⟩
 refine acond_intro (fun hlt=>?_) (fun hlt=>?_)
 ·simp only [go_sem,uA,uB,uC,uD,uE,uF,uG,uH,uI,uJ,uK,uL,uM,uN,uO,uP,uQ]
  refine ACallT.by cU ?_
  rintro _ h7 ⟨rfl,U',hpU,hsU,hp7⟩
  simp only [go_sem,wk4,uA,uB,uC,uD,uE,uF,uG,uH,uI,uJ,uK,uL,uM,uN,uO,uP,uQ]
  refine ⟨⟨Q++(U'++[w]),A++(U'++[w]),W,B,li2,W.length,_,_, ?_, ?_,rfl,rfl,rfl,hli2,rfl,by rw [hQ]; simp,QSo_left hq5 hpU hsU hUv hvW, ?_⟩, ?_⟩
  ·rw [hQ2l]; congr 2; have:=hpU.length_eq; simp; omega
  ·congr 2; have:=hpU.length_eq; simp; omega
  ·have:=hp5.by hp7
   simpa using this
  ·omega
 ·simp only [go_sem,wk4,uA,uB,uC,uD,uE,uF,uG,uH,uI,uJ,uK,uL,uM,uN,uO,uP,uQ]
  refine ACallT.by cW ?_
  rintro _ h7 ⟨rfl,W',hpW,hsW,hp7⟩
  simp only [go_sem,uA,uB,uC,uD,uE,uF,uG,uH,uI,uJ,uK,uL,uM,uN,uO,uP,uQ]
  refine ⟨⟨Q,A,U,w::(W'++B),li2,U.length,_,_,rfl,rfl,rfl,rfl,rfl,hli2,rfl,hQ,QSo_right hq5 hpW hsW hUv hvW, ?_⟩, ?_⟩
  ·have:=hp5.by hp7
   rw [hQ2] at this
   simpa using this
  ·omega
end Go.Proofs.Vale
set_option maxHeartbeats 4000000
namespace Go.Proofs.Vale
open Go.Proofs Go.Proofs.YtplehleekabbaaaGreatDoorT
attribute [local irreducible] acode aopsL aopsT dopsL dopsT pop popG aop ALoop ADraw ACall AWP AFin acondT ALoopT ADrawT ACallT doP doG doGd frL frT frX
theorem bitLen_64 (n:Nat) (h:n < 9223372036854775808):Lib.bitLen n≤64:=Lib.bitLen_le n 64 (by omega) (by omega)
theorem sortFunc_ok (M : List Rw) (t g : Nat) (H : List AObj) (hn : M.length ≤ 1152921504606846976) (hok : ∀ r ∈ M, RwOk r) (ht : H[t]? = some (.arr g 4 (rowsA M))) :
  ACall Tryz.prog 76 [.sl t g 4 0 M.length,cmpF] H (fun r H'=>r=.tup []∧∃ M',M'.Perm M∧SrtR M'∧PS H t g M' H'):=by
 have hc:=pdq_ok t g M.length hn M.length [] M [] (Lib.bitLen M.length) H rfl (by simp) (by simpa using hok) (by intro A p e; simp at e) (bitLen_64 _ (by omega)) (by simpa using ht)
 simp only [List.nil_append,List.append_nil,List.length_nil,Nat.zero_add] at hc
 (refine ACall.of_code Tryz.func76 rfl ?_; simp only [Tryz.f76]; simp only [go_sem,uA,uB,uC,uD,uE,uF,uG,uH,uI,uJ,uK,uL,uM,uN,uO,uP,uQ])
 rw [show IntKind.u64.wrap (M.length:Int)=(M.length:Int) by rw [wrap_u64 (by omega) (by omega)]]
 refine ACallT.frame (bitsLen_ok M.length _ (by omega)) ?_
 rintro _ _ rfl
 refine ⟨rfl, ?_⟩
 simp only [go_sem,uA,uB,uC,uD,uE,uF,uG,uH,uI,uJ,uK,uL,uM,uN,uO,uP,uQ]
 refine ACallT.by hc ?_
 rintro _ h2 ⟨rfl,M',hp,hs,hps⟩
 simp only [go_sem,uA,uB,uC,uD,uE,uF,uG,uH,uI,uJ,uK,uL,uM,uN,uO,uP,uQ]
 exact Fin_plain ⟨rfl,M',hp,hs,hps⟩
theorem insSort_nil (H:List AObj):ACall Tryz.prog 114 [.fz true [],.int .i64 0,.int .i64 0,cmpF] H (fun r H'=>r=.tup []∧H'=H):=by
 (refine ACall.of_code Tryz.func114 rfl ?_; simp only [Tryz.f114]; simp only [go_sem,uA,uB,uC,uD,uE,uF,uG,uH,uI,uJ,uK,uL,uM,uN,uO,uP,uQ])
 refine ALoop.over [8,9,12,13,14,15,16,17,18,19,20,21,22,23,24,25,26,27,28,29,30,31,32,33,34,35,36,37,38,39,40,41,42,43,44,45,46,47,48,49,50,51,52] (fun e H'=>e.getD 8 .any=.int .i64 1∧H'=H) (fun _ _=>0) ⟨rfl,rfl⟩ ?_
 simp only [List.length_cons,List.length_nil,Nat.reduceAdd,allL_succ,allL_zero]
 intro y8 y9 y12 y13 y14 y15 y16 y17 y18 y19 y20 y21 y22 y23 y24 y25 y26 y27 y28 y29 y30 y31 y32 y33 y34 y35 y36 y37 y38 y39 y40 y41 y42 y43 y44 y45 y46 y47 y48 y49 y50 y51 y52 H1 hI
 simp only [go_sem] at hI
 obtain ⟨rfl,rfl⟩:=hI
 simp only [go_sem,uA,uB,uC,uD,uE,uF,uG,uH,uI,uJ,uK,uL,uM,uN,uO,uP,uQ]
 exact Fin_plain ⟨rfl,rfl⟩
theorem pdq_nil (k:Int) (H:List AObj):ACall Tryz.prog 108 [.fz true [],.int .i64 0,.int .i64 0,.int .i64 k,cmpF] H (fun r H'=>r=.tup []):=by
 (refine ACall.of_code Tryz.func108 rfl ?_; simp only [Tryz.f108]; simp only [go_sem,uA,uB,uC,uD,uE,uF,uG,uH,uI,uJ,uK,uL,uM,uN,uO,uP,uQ])
 refine ALoop.over [1,2,3,10,11,12,13,14,15,16,17,18,19,20,21,22,23,24,25,26,27,28,29,30,31,32,33,34,35,36,37,38,39,40,41,42,43,44,45,46,47,48,49,50,51,52,53,54,55,56,57,58,59,60,61,62,63,64,65,66,67,68,69,70,71,72,73,74,75,76,77,78,79,80,81,82,83,84,85,86,87,88,89,90,91,92,93,94,95,96,97,98,99,100,101,102,103,104,105,106,107,108,109,110,111,112,113,114,115,116,117,118,119,120,121,122,123,124,125,126,127,128,129,130,131,132,133,134,135,136,137,138,139,140,141,142,143,144,145,146,147] (fun e H'=>e.getD 1 .any=.int .i64 0∧e.getD 2 .any=.int .i64 0) (fun _ _=>0) ⟨rfl,rfl⟩ ?_
 simp (config:={ maxSteps:=10000000 }) only [List.length_cons,List.length_nil,Nat.reduceAdd,allL_succ,allL_zero]
 intro y1 y2 y3 y10 y11 y12 y13 y14 y15 y16 y17 y18 y19 y20 y21 y22 y23 y24 y25 y26 y27 y28 y29 y30 y31 y32 y33 y34 y35 y36 y37 y38 y39 y40 y41 y42 y43 y44 y45 y46 y47 y48 y49 y50 y51 y52 y53 y54 y55 y56 y57 y58 y59 y60 y61 y62 y63 y64 y65 y66 y67 y68 y69 y70 y71 y72 y73 y74 y75 y76 y77 y78 y79 y80 y81 y82 y83 y84 y85 y86 y87 y88 y89 y90 y91 y92 y93 y94 y95 y96 y97 y98 y99 y100 y101 y102 y103 y104 y105 y106 y107 y108 y109 y110 y111 y112 y113 y114 y115 y116 y117 y118 y119 y120 y121 y122 y123 y124 y125 y126 y127 y128 y129 y130 y131 y132 y133 y134 y135 y136 y137 y138 y139 y140 y141 y142 y143 y144 y145 y146 y147 H1 hI
 simp only [go_sem] at hI
 obtain ⟨rfl,rfl⟩:=hI
 simp only [go_sem,show IntKind.i64.wrap ((0:Int) - 0)=0 from rfl,uA,uB,uC,uD,uE,uF,uG,uH,uI,uJ,uK,uL,uM,uN,uO,uP,uQ]
 refine ACallT.by (insSort_nil _) ?_
 rintro _ _ ⟨rfl,rfl⟩
 simp only [go_sem,uA,uB,uC,uD,uE,uF,uG,uH,uI,uJ,uK,uL,uM,uN,uO,uP,uQ]
 exact Fin_plain rfl
theorem sortFunc_nil (H:List AObj):ACall Tryz.prog 76 [.fz true [],cmpF] H (fun r _=>r=.tup []):=by
 (refine ACall.of_code Tryz.func76 rfl ?_; simp only [Tryz.f76]; simp only [go_sem,uA,uB,uC,uD,uE,uF,uG,uH,uI,uJ,uK,uL,uM,uN,uO,uP,uQ])
 refine ACallT.frame (bitsLen_ok 0 _ (by omega)) ?_
 rintro _ _ rfl
 refine ⟨rfl, ?_⟩
 simp only [go_sem,uA,uB,uC,uD,uE,uF,uG,uH,uI,uJ,uK,uL,uM,uN,uO,uP,uQ]
 refine ACallT.by (pdq_nil _ _) ?_
 rintro _ _ rfl
 simp only [go_sem,uA,uB,uC,uD,uE,uF,uG,uH,uI,uJ,uK,uL,uM,uN,uO,uP,uQ]
 exact Fin_plain rfl
end Go.Proofs.Vale
