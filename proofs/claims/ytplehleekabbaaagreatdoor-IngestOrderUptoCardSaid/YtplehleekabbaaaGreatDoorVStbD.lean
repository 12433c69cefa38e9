/- YtplehleekabbaaaGreatDoorVStbD: a text of the proof of this claim, by its prover. -/
import Derived.Test.YtplehleekabbaaaGreatDoorVSrtI
import Derived.Test.YtplehleekabbaaaGreatDoorVSrtM
open Nat renaming reduceMul → uA, reduceLT → uB, reduceLeDiff → uC, reduceEqDiff → uD, reduceBEq → uE, lt_irrefl → uQ
open Int renaming toNat_natCast → uF, reduceToNat → uG, reduceNeg → uH, reduceLT → uI, reduceLE → uJ, reduceBEq → uK, reduceBNe → uL
open Bool renaming false_eq_true → uO
set_option linter.unusedVariables false
set_option linter.unusedSimpArgs false
set_option maxHeartbeats 4000000
set_option maxRecDepth 100000
namespace Go.Proofs.Vale
open Go.Proofs Go.Proofs.YtplehleekabbaaaGreatDoorT
attribute [local irreducible] acode aopsL aopsT dopsL dopsT pop popG aop ALoop ADraw ACall AWP AFin acondT ALoopT ADrawT ACallT doP doG doGd frL frT frX
theorem get_far (U V W:List Rw) (x y:Rw) (k:Nat) (hk:k=U.length+1+V.length):(rowsA (U++x::(V++y::W))).getD k .any=.agg [.int .i64 y.1,.fz false (strs y.2.1),.int .i64 y.2.2.1,.fz false (a3s y.2.2.2)]:=by
 have:U++x::(V++y::W)=(U++x::V)++y::W:=by simp
 rw [this]; exact get_mid _ _ _ _ (by rw [hk]; simp; omega)
theorem swap_far (U V W:List Rw) (x y:Rw) (j k:Nat) (hj:j=U.length) (hk:k=U.length+1+V.length):((rowsA (U++x::(V++y::W))).set j (rowA y)).set k (rowA x)=rowsA (U++y::(V++x::W)):=by
 subst hj hk
 have e1:(rowsA (U++x::(V++y::W))).set U.length (rowA y)=rowsA (U++y::(V++y::W)):=by
  have hl:U.length=(rowsA U).length:=(rowsA_len U).symm
  rw [rowsA_app,hl,List.set_append_right _ _ (by omega),rowsA_app]; simp [rowsA]
 have e2:U++y::(V++y::W)=(U++y::V)++y::W:=by simp
 have e3:U++y::(V++x::W)=(U++y::V)++x::W:=by simp
 rw [e1,e2,e3]
 have hl:U.length+1+V.length=(rowsA (U++y::V)).length:=by rw [rowsA_len]; simp; omega
 rw [rowsA_app,hl,List.set_append_right _ _ (by omega),rowsA_app]; simp [rowsA]
theorem swapRange_ok (P X Q Y S : List Rw) (t g N : Nat) (H : List AObj) (f : AV) (hN : (P ++ (X ++ (Q ++ (Y ++ S)))).length = N) (hn : N ≤ 1152921504606846976) (hXY : Y.length = X.length) (ht : H[t]? = some (.arr g 4 (rowsA (P ++ (X ++ (Q ++ (Y ++ S))))))) (a b : Nat) (ha : a = P.length) (hb : b = P.length + X.length + Q.length) :
  ACall Tryz.prog 165 [.sl t g 4 0 N,.int .i64 a,.int .i64 b,.int .i64 X.length,f] H (fun r H'=>r=.tup []∧H'=H.set t (.arr g 4 (rowsA (P++(Y++(Q++(X++S))))))):=by
 subst ha hb
 have htl:t < H.length:=(List.getElem?_eq_some_iff.1 ht).1
 have hset:∀ v:AObj,(H.set t v)[t]? = some v:=fun v=>List.getElem?_set_self htl
 have hNl:P.length+X.length+Q.length+X.length+S.length=N:=by rw [← hN]; simp; omega
 (refine ACall.of_code Tryz.func165 rfl ?_; simp only [Tryz.f165]; simp only [go_sem,uA,uB,uC,uD,uE,uF,uG,uH,uI,uJ,uK,uL,uM,uN,uO,uP,uQ])
 refine ALoop.over [10,11,12,13,14,15,16,17,18,19,20,21,22,23,24,25,26,27,28,29,30,31,32,33,34,35,36,37] (fun e H'=>∃ (i:Nat) (X1 X2 Y1 Y2:List Rw),e.getD 10 .any=.int .i64 i∧X=X1++X2∧Y=Y1++Y2∧X1.length=i∧Y1.length=i∧H'=H.set t (.arr g 4 (rowsA (P++(Y1++(X2++(Q++(X1++(Y2++S))))))))) (fun e _=>X.length - natA (e.getD 10 .any)) ⟨0,[],X,[],Y,rfl,rfl,rfl,rfl,rfl,(heap_same ht).symm⟩ ?_
 simp only [List.length_cons,List.length_nil,Nat.reduceAdd,allL_succ,allL_zero]
 intro y10 y11 y12 y13 y14 y15 y16 y17 y18 y19 y20 y21 y22 y23 y24 y25 y26 y27 y28 y29 y30 y31 y32 y33 y34 y35 y36 y37 H1 hI
 simp only [go_sem] at hI
 obtain ⟨i,X1,X2,Y1,Y2,rfl,hX,hY,hx1,hy1,rfl⟩:=hI
 have hxl:X.length=i+X2.length:=by rw [hX]; simp [hx1]
 have hyl:Y.length=i+Y2.length:=by rw [hY]; simp [hy1]
 simp only [go_sem,uA,uB,uC,uD,uE,uF,uG,uH,uI,uJ,uK,uL,uM,uN,uO,uP,uQ]
 refine acond_intro (fun hc=>?_) (fun hc=>?_)
 ·have hlt:i < X.length:=by have:=of_decide_eq_true hc; omega
  obtain ⟨x,X3,rfl⟩:∃ x X3,X2=x::X3:=by
   cases X2 with
   | nil=>simp at hxl; omega
   | cons x X3=>exact ⟨x,X3,rfl⟩
  obtain ⟨y,Y3,rfl⟩:∃ y Y3,Y2=y::Y3:=by
   cases Y2 with
   | nil=>simp at hyl; omega
   | cons y Y3=>exact ⟨y,Y3,rfl⟩
  simp only [List.length_cons] at hxl hyl
  obtain ⟨U,hU⟩:∃ U,U=P++Y1:=⟨_,rfl⟩
  obtain ⟨V,hV⟩:∃ V,V=X3++(Q++X1):=⟨_,rfl⟩
  obtain ⟨W,hW⟩:∃ W,W=Y3++S:=⟨_,rfl⟩
  have hUl:U.length=P.length+i:=by rw [hU]; simp [hy1]
  have hVl:V.length=X3.length+Q.length+i:=by rw [hV]; simp [hx1]; omega
  have e0:P++(Y1++(x::X3++(Q++(X1++(y::Y3++S)))))=U++x::(V++y::W):=by rw [hU,hV,hW]; simp
  rw [e0]
  have w1:IntKind.i64.wrap ((P.length:Int)+(i:Int))=((U.length:Nat):Int):=by rw [wrap_id (by omega) (by omega)]; omega
  have w2:IntKind.i64.wrap (((P.length+X.length+Q.length:Nat):Int)+(i:Int))=((U.length+1+V.length:Nat):Int):=by rw [wrap_id (by omega) (by omega)]; omega
  have w3:IntKind.i64.wrap ((P.length:Int)+(X.length:Int)+(Q.length:Int)+(i:Int))=((U.length+1+V.length:Nat):Int):=by rw [wrap_id (by omega) (by omega)]; omega
  have g1:=get_mid U x (V++y::W) U.length rfl
  have g2:=get_far U V W x y (U.length+1+V.length) rfl
  have g3:∀ v,((rowsA (U++x::(V++y::W))).set U.length v).getD (U.length+1+V.length) .any=.agg [.int .i64 y.1,.fz false (strs y.2.1),.int .i64 y.2.2.1,.fz false (a3s y.2.2.2)]:=fun v=>by
   rw [List.getD_eq_getElem?_getD,List.getElem?_set_ne (by omega),← List.getD_eq_getElem?_getD]; exact g2
  have hlen:(U++x::(V++y::W)).length=N:=by rw [hU,hV,hW]; simp [hx1,hy1]; omega
  have hUN:U.length+1+V.length < N:=by rw [← hlen]; simp; omega
  simp only [go_sem,uA,uB,uC,uD,uE,uF,uG,uH,uI,uJ,uK,uL,uM,uN,uO,uP,uQ]
  (refine ADrawT.mem [(21,13),(21,19),(23,13),(23,19),(23,21)] mixedOrdersD (by kernel_rfl) (by kernel_rfl) ?_; simp only [go_sem,uA,uB,uC,uD,uE,uF,uG,uH,uI,uJ,uK,uL,uM,uN,uO,uP,uQ])
  simp only [go_sem,hset,w1,w2,w3,g1,g2,g3,List.set_set,uA,uB,uC,uD,uE,uF,uG,uH,uI,uJ,uK,uL,uM,uN,uO,uP,uQ]
  refine ⟨⟨by omega,by omega⟩,by omega,⟨by omega,by omega⟩,by omega,⟨by omega,by omega⟩,by omega,⟨by omega,by omega⟩,by omega,by simp [okAcc],⟨i+1,X1++[x],X3,Y1++[y],Y3, ?_,by rw [hX]; simp,by rw [hY]; simp,by simp [hx1],by simp [hy1], ?_⟩, ?_⟩
  ·rw [wrap_id (by omega) (by omega)]; rfl
  ·refine congrArg (fun z=>H.set t (.arr g 4 z)) ?_
   refine (swap_far U V W x y _ _ rfl rfl).trans ?_
   rw [hU,hV,hW]; simp
  ·rw [wrap_id (by omega) (by omega)]; omega
 ·have h2:X2=[]:=by have:=of_decide_eq_false hc; exact List.length_eq_zero_iff.1 (by omega)
  have h3:Y2=[]:=by have:=of_decide_eq_false hc; exact List.length_eq_zero_iff.1 (by omega)
  subst h2 h3
  simp only [go_sem,uA,uB,uC,uD,uE,uF,uG,uH,uI,uJ,uK,uL,uM,uN,uO,uP,uQ]
  refine Fin_plain ⟨rfl, ?_⟩
  rw [hX,hY]; simp
theorem rotate_ok (P A B S : List Rw) (t g N : Nat) (H : List AObj) (f : AV) (hN : (P ++ (A ++ (B ++ S))).length = N) (hn : N ≤ 1152921504606846976) (hA : A ≠ []) (hB : B ≠ []) (ht : H[t]? = some (.arr g 4 (rowsA (P ++ (A ++ (B ++ S)))))) (a m b : Nat) (ha : a = P.length) (hm : m = P.length + A.length) (hb : b = P.length + A.length + B.length) :
  ACall Tryz.prog 143 [.sl t g 4 0 N,.int .i64 a,.int .i64 m,.int .i64 b,f] H (fun r H'=>r=.tup []∧H'=H.set t (.arr g 4 (rowsA (P++(B++(A++S)))))):=by
 subst ha hb
 have htl:t < H.length:=(List.getElem?_eq_some_iff.1 ht).1
 have hset:∀ v:AObj,(H.set t v)[t]? = some v:=fun v=>List.getElem?_set_self htl
 have hNl:P.length+A.length+B.length+S.length=N:=by rw [← hN]; simp; omega
 have hAl:0 < A.length:=List.length_pos_iff.2 hA
 have hBl:0 < B.length:=List.length_pos_iff.2 hB
 (refine ACall.of_code Tryz.func143 rfl ?_; simp only [Tryz.f143]; simp only [go_sem,uA,uB,uC,uD,uE,uF,uG,uH,uI,uJ,uK,uL,uM,uN,uO,uP,uQ])
 rw [wrap_id (by omega) (by omega),wrap_id (by omega) (by omega)]
 refine ALoop.over [10,11,18,19,20,21,22,23,24,25,26,27,28,29,30,31,32,33,34,35,36,37,38,39,40,41,42,43,44,45,46,47,48,49] (fun e H'=>∃ (P1 A1 B1 S1:List Rw),e.getD 10 .any=.int .i64 A1.length∧e.getD 11 .any=.int .i64 B1.length∧0 < A1.length∧0 < B1.length∧P1.length+A1.length=m∧P1++(B1++(A1++S1))=P++(B++(A++S))∧P1.length+A1.length+B1.length+S1.length=N∧H'=H.set t (.arr g 4 (rowsA (P1++(A1++(B1++S1)))))) (fun e _=>natA (e.getD 10 .any)+natA (e.getD 11 .any)) ⟨P,A,B,S,congrArg (AV.int .i64) (by omega:(m:Int) - (P.length:Int)=(A.length:Nat)),congrArg (AV.int .i64) (by omega:((P.length+A.length+B.length:Nat):Int) - (m:Int)=(B.length:Nat)),hAl,hBl,hm.symm,rfl,by omega,(heap_same ht).symm⟩ ?_
 simp only [List.length_cons,List.length_nil,Nat.reduceAdd,allL_succ,allL_zero]
 intro y10 y11 y18 y19 y20 y21 y22 y23 y24 y25 y26 y27 y28 y29 y30 y31 y32 y33 y34 y35 y36 y37 y38 y39 y40 y41 y42 y43 y44 y45 y46 y47 y48 y49 H1 hI
 simp only [go_sem] at hI
 obtain ⟨P1,A1,B1,S1,rfl,rfl,hA1,hB1,hP1,hgoal,hN1l,rfl⟩:=hI
 have hN1:(P1++(A1++(B1++S1))).length=N:=by rw [← hN1l]; simp; omega
 simp only [go_sem,uA,uB,uC,uD,uE,uF,uG,uH,uI,uJ,uK,uL,uM,uN,uO,uP,uQ]
 refine acond_intro (fun hc=>?_) (fun hc=>?_)
 ·have hne:A1.length≠B1.length:=by
   intro q; rw [q] at hc; simp at hc
  simp only [go_sem,uA,uB,uC,uD,uE,uF,uG,uH,uI,uJ,uK,uL,uM,uN,uO,uP,uQ]
  refine acond_intro (fun hd=>?_) (fun hd=>?_)
  ·have hlt:B1.length < A1.length:=by have:=of_decide_eq_true hd; omega
   have hw:IntKind.i64.wrap ((m:Int) - (A1.length:Int))=(P1.length:Int):=by rw [wrap_id (by omega) (by omega)]; omega
   have hw2:IntKind.i64.wrap ((A1.length:Int) - (B1.length:Int))=((A1.drop B1.length).length:Nat):=by rw [wrap_id (by omega) (by omega)]; simp; omega
   have hsp:A1.take B1.length++A1.drop B1.length=A1:=List.take_append_drop _ _
   have htk:(A1.take B1.length).length=B1.length:=by simp; omega
   have hdl:(A1.drop B1.length).length=A1.length - B1.length:=by simp
   have e1:P1++(A1++(B1++S1))=P1++(A1.take B1.length++(A1.drop B1.length++(B1++S1))):=by rw [← List.append_assoc (A1.take _),hsp]
   rw [e1] at hN1
   rw [e1]
   simp only [go_sem,hset,hw,uA,uB,uC,uD,uE,uF,uG,uH,uI,uJ,uK,uL,uM,uN,uO,uP,uQ]
   have hk:=swapRange_ok P1 (A1.take B1.length) (A1.drop B1.length) B1 S1 t g N (H.set t (.arr g 4 (rowsA (P1++(A1.take B1.length++(A1.drop B1.length++(B1++S1))))))) f hN1 hn htk.symm (hset _) P1.length m rfl (by omega)
   rw [htk] at hk
   refine ACallT.by hk ?_
   rintro _ _ ⟨rfl,rfl⟩
   simp only [go_sem,hset,hw,hw2,List.set_set,uA,uB,uC,uD,uE,uF,uG,uH,uI,uJ,uK,uL,uM,uN,uO,uP,uQ]
   refine ⟨⟨P1++B1,A1.drop B1.length,A1.take B1.length,S1,rfl,by rw [htk],by omega,by omega,by simp; omega, ?_, ?_,by simp⟩, ?_⟩
   ·rw [← hgoal]
    try simp only [List.append_assoc]
    rw [← List.append_assoc (List.take _ _),hsp]
   ·rw [hdl,htk]; simp; omega
   ·rw [hdl]; omega
  ·have hlt:A1.length < B1.length:=by have:=of_decide_eq_false hd; omega
   have hw:IntKind.i64.wrap ((m:Int) - (A1.length:Int))=(P1.length:Int):=by rw [wrap_id (by omega) (by omega)]; omega
   have hw2:IntKind.i64.wrap ((m:Int)+(B1.length:Int))=((m+B1.length:Nat):Int):=by rw [wrap_id (by omega) (by omega)]; omega
   have hw3:IntKind.i64.wrap (((m+B1.length:Nat):Int) - (A1.length:Int))=((m+B1.length - A1.length:Nat):Int):=by rw [wrap_id (by omega) (by omega)]; omega
   have hw4:IntKind.i64.wrap ((B1.length:Int) - (A1.length:Int))=((B1.take (B1.length - A1.length)).length:Nat):=by rw [wrap_id (by omega) (by omega)]; simp; omega
   have hsp:B1.take (B1.length - A1.length)++B1.drop (B1.length - A1.length)=B1:=List.take_append_drop _ _
   have htk:(B1.take (B1.length - A1.length)).length=B1.length - A1.length:=by simp
   have hdl:(B1.drop (B1.length - A1.length)).length=A1.length:=by simp; omega
   have e1:P1++(A1++(B1++S1))=P1++(A1++(B1.take (B1.length - A1.length)++(B1.drop (B1.length - A1.length)++S1))):=by rw [← List.append_assoc (B1.take _),hsp]
   rw [e1] at hN1
   rw [e1]
   simp only [go_sem,hset,hw,hw2,hw3,uA,uB,uC,uD,uE,uF,uG,uH,uI,uJ,uK,uL,uM,uN,uO,uP,uQ]
   refine ACallT.by (swapRange_ok P1 A1 (B1.take (B1.length - A1.length)) (B1.drop (B1.length - A1.length)) S1 t g N (H.set t (.arr g 4 (rowsA (P1++(A1++(B1.take (B1.length - A1.length)++(B1.drop (B1.length - A1.length)++S1))))))) f hN1 hn hdl (hset _) P1.length (m+B1.length - A1.length) rfl (by omega)) ?_
   rintro _ _ ⟨rfl,rfl⟩
   simp only [go_sem,hset,hw,hw4,List.set_set,uA,uB,uC,uD,uE,uF,uG,uH,uI,uJ,uK,uL,uM,uN,uO,uP,uQ]
   refine ⟨⟨P1,B1.drop (B1.length - A1.length),B1.take (B1.length - A1.length),A1++S1,by rw [hdl],rfl,by omega,by omega,by omega, ?_, ?_,rfl⟩, ?_⟩
   ·rw [← hgoal]
    try simp only [List.append_assoc]
    rw [← List.append_assoc (List.take _ _),hsp]
   ·rw [hdl,htk]; simp; omega
   ·rw [htk]; omega
 ·have hne:A1.length=B1.length:=by
   cases q:(decide (A1.length=B1.length)) with
   | true=>exact of_decide_eq_true q
   | false =>
    have:=of_decide_eq_false q
    simp at hc; omega
  have hw:IntKind.i64.wrap ((m:Int) - (A1.length:Int))=(P1.length:Int):=by rw [wrap_id (by omega) (by omega)]; omega
  have hk:=swapRange_ok P1 A1 [] B1 S1 t g N (H.set t (.arr g 4 (rowsA (P1++(A1++(B1++S1)))))) f hN1 hn hne.symm (hset _) P1.length m rfl (by simp; omega)
  simp only [go_sem,hset,hw,uA,uB,uC,uD,uE,uF,uG,uH,uI,uJ,uK,uL,uM,uN,uO,uP,uQ]
  refine ACallT.by hk ?_
  rintro _ _ ⟨rfl,rfl⟩
  simp only [go_sem,uA,uB,uC,uD,uE,uF,uG,uH,uI,uJ,uK,uL,uM,uN,uO,uP,uQ]
  refine Fin_plain ⟨rfl, ?_⟩
  rw [List.set_set,hgoal]
end Go.Proofs.Vale
namespace Go.Proofs.Vale
open Go.Proofs Go.Proofs.YtplehleekabbaaaGreatDoorT
attribute [local irreducible] acode aopsL aopsT dopsL dopsT pop popG aop ALoop ADraw ACall AWP AFin acondT ALoopT ADrawT ACallT doP doG doGd frL frT frX
theorem srtR_app {A B:List Rw}:SrtR (A++B)↔SrtR A∧SrtR B∧∀ a∈A,∀ b∈B,cmpR a b≤0:=List.pairwise_append
theorem halves {A1 A2 B1 B2 : List Rw} (hA : SrtR (A1 ++ A2)) (hB : SrtR (B1 ++ B2))
  (h1:A1=[]∨B2=[]∨∃ U u v V,A1=U++[u]∧B2=v::V∧cmpR u v≤0)
  (h2:A2=[]∨B1=[]∨∃ U u v V,B1=U++[u]∧A2=v::V∧cmpR u v≤0) :
  ∀ x,x∈A1∨x∈B1→∀ y,y∈A2∨y∈B2→cmpR x y≤0:=by
 obtain ⟨a1,a2,a3⟩:=srtR_app.1 hA
 obtain ⟨b1,b2,b3⟩:=srtR_app.1 hB
 have mid:∀ {X Y:List Rw},SrtR X→SrtR Y→(X=[]∨Y=[]∨∃ U u v V,X=U++[u]∧Y=v::V∧cmpR u v≤0)→∀ x∈X,∀ y∈Y,cmpR x y≤0:=by
  rintro X Y hX hY (rfl | rfl | ⟨U,u,v,V,rfl,rfl,huv⟩) x hx y hy
  ·cases hx
  ·cases hy
  ·have e1:cmpR x u≤0:=by
    rcases List.mem_append.1 hx with q | q
    ·exact (srtR_app.1 hX).2.2 x q u (by simp)
    ·simp at q; rw [q,cmpR_refl]; omega
   have e2:cmpR v y≤0:=by
    rcases List.mem_cons.1 hy with rfl | q
    ·rw [cmpR_refl]; omega
    ·exact (List.pairwise_cons.1 hY).1 y q
   exact cmpR_le _ _ _ (cmpR_le _ _ _ e1 huv) e2
 rintro x (hx | hx) y (hy | hy)
 ·exact a3 x hx y hy
 ·exact mid a1 b2 h1 x hx y hy
 ·exact mid b1 a2 (h2.elim (fun q=>.inr (.inl q)) fun q=>q.elim .inl fun ⟨U,u,v,V,e1,e2,e3⟩=>.inr (.inr ⟨U,u,v,V,e1,e2,e3⟩)) x hx y hy
 ·exact b3 x hx y hy
theorem srt_ins {U V:List Rw} {x:Rw} (h:SrtR (U++V)) (hU:U=[]∨∃ W u,U=W++[u]∧cmpR u x≤0) (hV:V=[]∨∃ v W,V=v::W∧cmpR x v≤0):SrtR (U++x::V):=by
 refine srt_in (fun a b q=>cmpR_ge a b q) (fun a b c=>cmpR_le a b c) h (fun v hv=>?_) ?_
 ·rcases hV with rfl | ⟨w,W,rfl,hw⟩
  ·cases hv
  ·rcases List.mem_cons.1 hv with rfl | q
   ·exact hw
   ·exact cmpR_le _ _ _ hw ((List.pairwise_cons.1 (srtR_app.1 h).2.1).1 v q)
 ·rcases hU with rfl | ⟨W,u,rfl,hu⟩
  ·exact .inl rfl
  ·exact .inr ⟨W,u,rfl,by rw [cmpR_flip]; omega⟩
theorem G_app (P M S:List Rw) (i:Nat) (hi:i < M.length):G (P++(M++S)) (P.length+i)=M[i]:=by
 rw [G_lt (by simp; omega),List.getElem_append_right (by omega),List.getElem_append_left (by omega)]
 congr 1; omega
theorem take_last {L:List Rw} {n:Nat} (h0:0 < n) (h:n≤L.length):L.take n=L.take (n - 1)++[L[n - 1]'(by omega)]:=by
 have:=List.take_succ_eq_append_getElem (l:=L) (i:=n - 1) (by omega)
 rwa [Nat.sub_add_cancel h0] at this
theorem drop_first {L:List Rw} {n:Nat} (h:n < L.length):L.drop n=L[n]::L.drop (n+1):=List.drop_eq_getElem_cons h
end Go.Proofs.Vale
namespace Go.Proofs.Vale
open Go.Proofs Go.Proofs.YtplehleekabbaaaGreatDoorT
attribute [local irreducible] acode aopsL aopsT dopsL dopsT pop popG aop ALoop ADraw ACall AWP AFin acondT ALoopT ADrawT ACallT doP doG doGd frL frT frX
theorem half_ok (i j N:Nat) (hi:i≤N) (hj:j≤N) (hn:N≤1152921504606846976):IntKind.i64.wrap ((IntKind.u64.wrap (IntKind.i64.wrap ((i:Int)+(j:Int)))).fdiv (2 ^ min 1 64))=(((i+j) / 2:Nat):Int):=by
 rw [wrap_id (x:=(i:Int)+(j:Int)) (by omega) (by omega),wrap_u64 (by omega) (by omega)]
 have e:(2:Int) ^ min 1 64=2:=by decide
 rw [e,Int.fdiv_eq_ediv_of_nonneg _ (by decide),wrap_id (by omega) (by omega)]
 omega
theorem getG (L:List Rw) (k:Nat) (hk:k < L.length):(rowsA L).getD k .any=.agg [.int .i64 (G L k).1,.fz false (strs (G L k).2.1),.int .i64 (G L k).2.2.1,.fz false (a3s (G L k).2.2.2)]:=by
 rw [rowsA_get _ _ hk,G_lt hk]
theorem sym_left (P B S : List Rw) (x : Rw) (t g N : Nat) (H : List AObj) (hN : (P ++ ([x] ++ (B ++ S))).length = N) (hn : N ≤ 1152921504606846976) (hok : ∀ r ∈ [x] ++ B, RwOk r) (hB : B ≠ []) (sB : SrtR B)
  (ht:H[t]? = some (.arr g 4 (rowsA (P++([x]++(B++S)))))) (a m b:Nat) (ha:a=P.length) (hm:m=P.length+1) (hb:b=m+B.length) :
  ACall Tryz.prog 115 [.sl t g 4 0 N,.int .i64 a,.int .i64 m,.int .i64 b,cmpF] H (fun r H'=>r=.tup []∧∃ M,M.Perm ([x]++B)∧SrtR M∧H'=H.set t (.arr g 4 (rowsA (P++(M++S))))):=by
 have htl:t < H.length:=(List.getElem?_eq_some_iff.1 ht).1
 have hset:∀ v:AObj,(H.set t v)[t]? = some v:=fun v=>List.getElem?_set_self htl
 have hBl:0 < B.length:=List.length_pos_iff.2 hB
 have hNl:b+S.length=N:=by rw [← hN]; simp; omega
 (refine ACall.of_code Tryz.func115 rfl ?_; simp only [Tryz.f115]; simp only [go_sem,uA,uB,uC,uD,uE,uF,uG,uH,uI,uJ,uK,uL,uM,uN,uO,uP,uQ])
 rw [wrap_id (x:=(m:Int) - (a:Int)) (by omega) (by omega)]
 have hc:((m:Int) - (a:Int)==1)=true:=by
  have:(m:Int) - (a:Int)=1:=by omega
  rw [this]; rfl
 refine acond_intro (fun _=>?_) (fun q=>by rw [hc] at q; cases q)
 simp only [go_sem,uA,uB,uC,uD,uE,uF,uG,uH,uI,uJ,uK,uL,uM,uN,uO,uP,uQ]
 obtain ⟨L,hL⟩:∃ L,L=P++([x]++(B++S)):=⟨_,rfl⟩
 rw [← hL] at ht hN
 refine ALoop.over [10,11,12,31,32,33,34,35,36,37,38,39,40,41,42,43,44,45,46,47,48,49,50,51,52,53] (fun e H'=>∃ i j:Nat,e.getD 10 .any=.int .i64 i∧e.getD 11 .any=.int .i64 j∧m≤i∧i≤j∧j≤b∧(i=m∨cmpR (G L (i - 1)) x < 0)∧(j=b∨cmpR x (G L j)≤0)∧H'=H) (fun e _=>natA (e.getD 11 .any) - natA (e.getD 10 .any)) ⟨m,b,rfl,rfl,Nat.le_refl _,by omega,Nat.le_refl _,.inl rfl,.inl rfl,rfl⟩ ?_
 simp only [List.length_cons,List.length_nil,Nat.reduceAdd,allL_succ,allL_zero]
 intro y10 y11 y12 y31 y32 y33 y34 y35 y36 y37 y38 y39 y40 y41 y42 y43 y44 y45 y46 y47 y48 y49 y50 y51 y52 y53 H1 hI
 simp only [go_sem] at hI
 obtain ⟨i,j,rfl,rfl,hmi,hij,hjb,hlo,hhi,rfl⟩:=hI
 simp only [go_sem,uA,uB,uC,uD,uE,uF,uG,uH,uI,uJ,uK,uL,uM,uN,uO,uP,uQ]
 refine acond_intro (fun hc=>?_) (fun hc=>?_)
 ·have hlt:i < j:=by have:=of_decide_eq_true hc; omega
  obtain ⟨h,hh⟩:∃ h,h=(i+j) / 2:=⟨_,rfl⟩
  have hw:=half_ok i j N (by omega) (by omega) hn
  rw [← hh] at hw
  have g1:=getG L h (by omega)
  have g2:=getG L a (by omega)
  have gx:G L a=x:=by rw [hL,ha]; exact G_app P [x] (B++S) 0 (by simp)
  have gh:RwOk (G L h):=by
   have e:h=(P++[x]).length+(h - m):=by simp; omega
   have e2:L=(P++[x])++(B++S):=by rw [hL]; simp
   rw [e,e2,G_app (P++[x]) B S (h - m) (by omega)]
   exact hok _ (by simp)
  have hx:=hok x (by simp)
  rw [gx] at g2
  simp only [go_sem,hw,uA,uB,uC,uD,uE,uF,uG,uH,uI,uJ,uK,uL,uM,uN,uO,uP,uQ]
  (refine ADrawT.mem [] mixedOrdersD (by kernel_rfl) (by kernel_rfl) ?_; simp only [go_sem,uA,uB,uC,uD,uE,uF,uG,uH,uI,uJ,uK,uL,uM,uN,uO,uP,uQ])
  simp only [go_sem,ht,hw,g1,g2,uA,uB,uC,uD,uE,uF,uG,uH,uI,uJ,uK,uL,uM,uN,uO,uP,uQ]
  refine ⟨⟨by omega,by omega⟩,by omega,⟨by omega,by omega⟩,by omega, ?_⟩
  refine doX_intro (.int .i64 (cmpR (G L h) x)) ⟨rfl,fun mm=>?_⟩ ?_
  ·simp only [go_sem,uA,uB,uC,uD,uE,uF,uG,uH,uI,uJ,uK,uL,uM,uN,uO,uP,uQ]
   refine ACallT.frame (cmpR_ok (G L h) x _ gh.1 hx.1) ?_
   rintro _ _ rfl
   exact ⟨rfl,rfl⟩
  simp only [go_sem,ht,hw,g1,g2,uA,uB,uC,uD,uE,uF,uG,uH,uI,uJ,uK,uL,uM,uN,uO,uP,uQ]
  refine ⟨by simp [okAcc], ?_⟩
  refine acond_intro (fun hd=>?_) (fun hd=>?_)
  ·simp only [go_sem,uA,uB,uC,uD,uE,uF,uG,uH,uI,uJ,uK,uL,uM,uN,uO,uP,uQ]
   refine ⟨⟨h+1,j, ?_,rfl,by omega,by omega,hjb,.inr ?_,hhi⟩, ?_⟩
   ·rw [wrap_id (by omega) (by omega)]; rfl
   ·exact of_decide_eq_true hd
   ·rw [wrap_id (by omega) (by omega)]; omega
  ·simp only [go_sem,uA,uB,uC,uD,uE,uF,uG,uH,uI,uJ,uK,uL,uM,uN,uO,uP,uQ]
   refine ⟨⟨i,h,rfl,rfl,hmi,by omega,by omega,hlo,.inr ?_⟩, ?_⟩
   ·have:=of_decide_eq_false hd; rw [cmpR_flip]; omega
   ·omega
 ·have hij:i=j:=by have:=of_decide_eq_false hc; omega
  subst hij
  simp only [go_sem,uA,uB,uC,uD,uE,uF,uG,uH,uI,uJ,uK,uL,uM,uN,uO,uP,uQ]
  refine ALoop.over [13,55,56,57,58,59,60,61,62,63,64,65,66,67,68,69,70,71,72,73,74,75,76] (fun e H'=>∃ (V W:List Rw),e.getD 13 .any=.int .i64 (a+V.length:Nat)∧B=V++W∧V.length≤i - m∧H'=H1.set t (.arr g 4 (rowsA (P++(V++(x::(W++S))))))) (fun e _=>b - natA (e.getD 13 .any)) ⟨[],B,rfl,rfl,by simp,by rw [← heap_same ht]; rw [List.set_set,hL]; rfl⟩ ?_
  simp only [List.length_cons,List.length_nil,Nat.reduceAdd,allL_succ,allL_zero]
  intro y13 y55 y56 y57 y58 y59 y60 y61 y62 y63 y64 y65 y66 y67 y68 y69 y70 y71 y72 y73 y74 y75 y76 H2 hI
  simp only [go_sem] at hI
  obtain ⟨V,W,rfl,hVW,hV,rfl⟩:=hI
  have hBl2:B.length=V.length+W.length:=by rw [hVW]; simp
  have hwi:IntKind.i64.wrap ((i:Int) - 1)=(i:Int) - 1:=wrap_id (by omega) (by omega)
  simp only [go_sem,hwi,uA,uB,uC,uD,uE,uF,uG,uH,uI,uJ,uK,uL,uM,uN,uO,uP,uQ]
  refine acond_intro (fun hc=>?_) (fun hc=>?_)
  ·have hlt:V.length < i - m:=by have:=of_decide_eq_true hc; omega
   obtain ⟨y,W',rfl⟩:∃ y W',W=y::W':=by
    cases W with
    | nil=>simp at hBl2; omega
    | cons y W'=>exact ⟨y,W',rfl⟩
   simp only [List.length_cons] at hBl2
   obtain ⟨U,hU⟩:∃ U,U=P++V:=⟨_,rfl⟩
   obtain ⟨R,hR⟩:∃ R,R=W'++S:=⟨_,rfl⟩
   have hUl:U.length=a+V.length:=by rw [hU,ha]; simp
   have e0:P++(V++(x::(y::W'++S)))=U++x::([]++y::R):=by rw [hU,hR]; simp
   rw [e0,← hUl]
   have w1:IntKind.i64.wrap ((U.length:Int)+1)=((U.length+1+([]:List Rw).length:Nat):Int):=by rw [wrap_id (by omega) (by omega)]; rfl
   have g1:=get_mid U x ([]++y::R) U.length rfl
   have g2:=get_far U [] R x y (U.length+1+([]:List Rw).length) rfl
   have g3:∀ v,((rowsA (U++x::([]++y::R))).set U.length v).getD (U.length+1+([]:List Rw).length) .any=.agg [.int .i64 y.1,.fz false (strs y.2.1),.int .i64 y.2.2.1,.fz false (a3s y.2.2.2)]:=fun v=>by
    rw [List.getD_eq_getElem?_getD,List.getElem?_set_ne (by omega),← List.getD_eq_getElem?_getD]; exact g2
   have hfin:=swap_far U [] R x y _ _ rfl rfl
   obtain ⟨k,hk⟩:∃ k,k=U.length+1+([]:List Rw).length:=⟨_,rfl⟩
   have hkU:k=U.length+1:=hk
   rw [← hk] at w1 g2 g3 hfin
   have hUN:U.length+1 < N:=by omega
   obtain ⟨Z,hZ⟩:∃ Z,Z=rowsA (U++x::([]++y::R)):=⟨_,rfl⟩
   have hZl:Z.length=N:=by
    rw [hZ,rowsA_len]
    simp only [List.length_append,List.length_cons,List.nil_append,hR]
    omega
   rw [← hZ] at g1 g2 g3 hfin ⊢
   simp only [go_sem,uA,uB,uC,uD,uE,uF,uG,uH,uI,uJ,uK,uL,uM,uN,uO,uP,uQ]
   (refine ADrawT.mem [(15,9),(15,13),(17,9),(17,13),(17,15)] mixedOrdersD (by kernel_rfl) (by kernel_rfl) ?_; simp only [go_sem,uA,uB,uC,uD,uE,uF,uG,uH,uI,uJ,uK,uL,uM,uN,uO,uP,uQ])
   simp only [go_sem,hset,w1,g1,g2,g3,List.set_set,uA,uB,uC,uD,uE,uF,uG,uH,uI,uJ,uK,uL,uM,uN,uO,uP,uQ]
   refine ⟨⟨by omega,by omega⟩,by omega,⟨by omega,by omega⟩,by omega,⟨by omega,by omega⟩,by omega,⟨by omega,by omega⟩,by omega,by simp [okAcc],⟨V++[y],W', ?_,by rw [hVW]; simp,by simp; omega, ?_⟩, ?_⟩
   ·rw [hkU,hUl]; simp; omega
   ·refine congrArg (fun z=>H1.set t (.arr g 4 z)) ?_
    refine hfin.trans ?_
    rw [hU,hR]; simp
   ·omega
  ·have hge:V.length=i - m:=by have:=of_decide_eq_false hc; omega
   have hV2:V=B.take (i - m):=by rw [hVW,← hge]; simp
   have hW2:W=B.drop (i - m):=by rw [hVW,← hge]; simp
   have e2:L=(P++[x])++(B++S):=by rw [hL]; simp
   simp only [go_sem,uA,uB,uC,uD,uE,uF,uG,uH,uI,uJ,uK,uL,uM,uN,uO,uP,uQ]
   refine Fin_plain ⟨rfl,V++x::W, ?_, ?_,by simp⟩
   ·rw [hVW]; exact List.perm_middle
   ·refine srt_ins (by rw [← hVW]; exact sB) ?_ ?_
    ·rcases hlo with q | q
     ·left; exact List.length_eq_zero_iff.1 (by omega)
     ·by_cases h0:i=m
      ·left; exact List.length_eq_zero_iff.1 (by omega)
      ·right
       refine ⟨B.take (i - m - 1),B[i - m - 1]'(by omega),hV2.trans (take_last (by omega) (by omega)), ?_⟩
       have e3:i - 1=(P++[x]).length+(i - m - 1):=by simp; omega
       rw [e3,e2,G_app (P++[x]) B S (i - m - 1) (by omega)] at q
       omega
    ·rcases hhi with q | q
     ·left; exact List.length_eq_zero_iff.1 (by omega)
     ·by_cases h0:i=b
      ·left; exact List.length_eq_zero_iff.1 (by omega)
      ·right
       refine ⟨B[i - m]'(by omega),B.drop (i - m+1),hW2.trans (drop_first (by omega)), ?_⟩
       have e3:i=(P++[x]).length+(i - m):=by simp; omega
       rw [e3,e2,G_app (P++[x]) B S (i - m) (by omega)] at q
       exact q
end Go.Proofs.Vale
namespace Go.Proofs.Vale
open Go.Proofs Go.Proofs.YtplehleekabbaaaGreatDoorT
attribute [local irreducible] acode aopsL aopsT dopsL dopsT pop popG aop ALoop ADraw ACall AWP AFin acondT ALoopT ADrawT ACallT doP doG doGd frL frT frX
theorem sym_right (P A S : List Rw) (x : Rw) (t g N : Nat) (H : List AObj) (hN : (P ++ (A ++ ([x] ++ S))).length = N) (hn : N ≤ 1152921504606846976) (hok : ∀ r ∈ A ++ [x], RwOk r) (hA : 2 ≤ A.length) (sA : SrtR A)
  (ht:H[t]? = some (.arr g 4 (rowsA (P++(A++([x]++S)))))) (a m b:Nat) (ha:a=P.length) (hm:m=a+A.length) (hb:b=m+1) :
  ACall Tryz.prog 115 [.sl t g 4 0 N,.int .i64 a,.int .i64 m,.int .i64 b,cmpF] H (fun r H'=>r=.tup []∧∃ M,M.Perm (A++[x])∧SrtR M∧H'=H.set t (.arr g 4 (rowsA (P++(M++S))))):=by
 have htl:t < H.length:=(List.getElem?_eq_some_iff.1 ht).1
 have hset:∀ v:AObj,(H.set t v)[t]? = some v:=fun v=>List.getElem?_set_self htl
 have hNl:b+S.length=N:=by rw [← hN]; simp; omega
 (refine ACall.of_code Tryz.func115 rfl ?_; simp only [Tryz.f115]; simp only [go_sem,uA,uB,uC,uD,uE,uF,uG,uH,uI,uJ,uK,uL,uM,uN,uO,uP,uQ])
 rw [wrap_id (x:=(m:Int) - (a:Int)) (by omega) (by omega)]
 have hc0:((m:Int) - (a:Int)==1)=false:=beq_eq_false_iff_ne.2 (by omega)
 refine acond_intro (fun q=>by rw [hc0] at q; cases q) (fun _=>?_)
 simp only [go_sem,uA,uB,uC,uD,uE,uF,uG,uH,uI,uJ,uK,uL,uM,uN,uO,uP,uQ]
 rw [wrap_id (x:=(b:Int) - (m:Int)) (by omega) (by omega)]
 have hc1:((b:Int) - (m:Int)==1)=true:=by
  have:(b:Int) - (m:Int)=1:=by omega
  rw [this]; rfl
 refine acond_intro (fun _=>?_) (fun q=>by rw [hc1] at q; cases q)
 simp only [go_sem,uA,uB,uC,uD,uE,uF,uG,uH,uI,uJ,uK,uL,uM,uN,uO,uP,uQ]
 obtain ⟨L,hL⟩:∃ L,L=P++(A++([x]++S)):=⟨_,rfl⟩
 rw [← hL] at ht hN
 refine ALoop.over [14,15,16,83,84,85,86,87,88,89,90,91,92,93,94,95,96,97,98,99,100,101,102,103,104,105,106] (fun e H'=>∃ i j:Nat,e.getD 14 .any=.int .i64 i∧e.getD 15 .any=.int .i64 j∧a≤i∧i≤j∧j≤m∧(i=a∨cmpR (G L (i - 1)) x≤0)∧(j=m∨cmpR x (G L j) < 0)∧H'=H) (fun e _=>natA (e.getD 15 .any) - natA (e.getD 14 .any)) ⟨a,m,rfl,rfl,Nat.le_refl _,by omega,Nat.le_refl _,.inl rfl,.inl rfl,rfl⟩ ?_
 simp only [List.length_cons,List.length_nil,Nat.reduceAdd,allL_succ,allL_zero]
 intro y14 y15 y16 y83 y84 y85 y86 y87 y88 y89 y90 y91 y92 y93 y94 y95 y96 y97 y98 y99 y100 y101 y102 y103 y104 y105 y106 H1 hI
 simp only [go_sem] at hI
 obtain ⟨i,j,rfl,rfl,hmi,hij,hjb,hlo,hhi,rfl⟩:=hI
 simp only [go_sem,uA,uB,uC,uD,uE,uF,uG,uH,uI,uJ,uK,uL,uM,uN,uO,uP,uQ]
 refine acond_intro (fun hc=>?_) (fun hc=>?_)
 ·have hlt:i < j:=by have:=of_decide_eq_true hc; omega
  obtain ⟨h,hh⟩:∃ h,h=(i+j) / 2:=⟨_,rfl⟩
  have hw:=half_ok i j N (by omega) (by omega) hn
  rw [← hh] at hw
  have g1:=getG L h (by omega)
  have g2:=getG L m (by omega)
  have gx:G L m=x:=by
   have e:m=(P++A).length+0:=by rw [List.length_append]; omega
   have e2:L=(P++A)++([x]++S):=by rw [hL]; simp
   rw [e,e2]; exact G_app (P++A) [x] S 0 (by simp)
  have gh:RwOk (G L h):=by
   have e:h=P.length+(h - a):=by omega
   rw [e,hL,G_app P A ([x]++S) (h - a) (by omega)]
   exact hok _ (by simp)
  have hx:=hok x (by simp)
  rw [gx] at g2
  simp only [go_sem,hw,uA,uB,uC,uD,uE,uF,uG,uH,uI,uJ,uK,uL,uM,uN,uO,uP,uQ]
  (refine ADrawT.mem [] mixedOrdersD (by kernel_rfl) (by kernel_rfl) ?_; simp only [go_sem,uA,uB,uC,uD,uE,uF,uG,uH,uI,uJ,uK,uL,uM,uN,uO,uP,uQ])
  simp only [go_sem,ht,hw,g1,g2,uA,uB,uC,uD,uE,uF,uG,uH,uI,uJ,uK,uL,uM,uN,uO,uP,uQ]
  refine ⟨⟨by omega,by omega⟩,by omega,⟨by omega,by omega⟩,by omega, ?_⟩
  refine doX_intro (.int .i64 (cmpR x (G L h))) ⟨rfl,fun mm=>?_⟩ ?_
  ·simp only [go_sem,uA,uB,uC,uD,uE,uF,uG,uH,uI,uJ,uK,uL,uM,uN,uO,uP,uQ]
   refine ACallT.frame (cmpR_ok x (G L h) _ hx.1 gh.1) ?_
   rintro _ _ rfl
   exact ⟨rfl,rfl⟩
  simp only [go_sem,ht,hw,g1,g2,uA,uB,uC,uD,uE,uF,uG,uH,uI,uJ,uK,uL,uM,uN,uO,uP,uQ]
  refine ⟨by simp [okAcc], ?_⟩
  refine acond_intro (fun hd=>?_) (fun hd=>?_)
  ·simp only [go_sem,uA,uB,uC,uD,uE,uF,uG,uH,uI,uJ,uK,uL,uM,uN,uO,uP,uQ]
   have hd:¬ cmpR x (G L h) < 0:=by simpa using hd
   refine ⟨⟨h+1,j, ?_,rfl,by omega,by omega,hjb,.inr ?_,hhi⟩, ?_⟩
   ·rw [wrap_id (by omega) (by omega)]; rfl
   ·show cmpR (G L h) x≤0
    rw [cmpR_flip]; omega
   ·rw [wrap_id (by omega) (by omega)]; omega
  ·simp only [go_sem,uA,uB,uC,uD,uE,uF,uG,uH,uI,uJ,uK,uL,uM,uN,uO,uP,uQ]
   have hd:cmpR x (G L h) < 0:=by simpa using hd
   refine ⟨⟨i,h,rfl,rfl,hmi,by omega,by omega,hlo,.inr hd⟩, ?_⟩
   omega
 ·have hij:i=j:=by have:=of_decide_eq_false hc; omega
  subst hij
  simp only [go_sem,uA,uB,uC,uD,uE,uF,uG,uH,uI,uJ,uK,uL,uM,uN,uO,uP,uQ]
  refine ALoop.over [17,108,109,110,111,112,113,114,115,116,117,118,119,120,121,122,123,124,125,126,127,128] (fun e H'=>∃ (V W:List Rw),e.getD 17 .any=.int .i64 (a+V.length:Nat)∧A=V++W∧i≤a+V.length∧H'=H1.set t (.arr g 4 (rowsA (P++(V++(x::(W++S))))))) (fun e _=>natA (e.getD 17 .any)) ⟨A,[],by rw [hm]; rfl,by simp,by omega,by rw [← heap_same ht]; rw [List.set_set,hL]; rfl⟩ ?_
  simp only [List.length_cons,List.length_nil,Nat.reduceAdd,allL_succ,allL_zero]
  intro y17 y108 y109 y110 y111 y112 y113 y114 y115 y116 y117 y118 y119 y120 y121 y122 y123 y124 y125 y126 y127 y128 H2 hI
  simp only [go_sem] at hI
  obtain ⟨V,W,rfl,hVW,hV,rfl⟩:=hI
  have hBl2:A.length=V.length+W.length:=by rw [hVW]; simp
  simp only [go_sem,uA,uB,uC,uD,uE,uF,uG,uH,uI,uJ,uK,uL,uM,uN,uO,uP,uQ]
  refine acond_intro (fun hc=>?_) (fun hc=>?_)
  ·have hlt:i < a+V.length:=by have:=of_decide_eq_true hc; omega
   obtain ⟨V',y,rfl⟩:∃ V' y,V=V'++[y]:=by
    rcases List.eq_nil_or_concat V with rfl | ⟨V',y,h⟩
    ·simp at hlt; omega
    ·exact ⟨V',y,by rw [h]; simp⟩
   simp only [List.length_append,List.length_cons,List.length_nil] at hBl2 hlt hV
   obtain ⟨U,hU⟩:∃ U,U=P++V':=⟨_,rfl⟩
   obtain ⟨R,hR⟩:∃ R,R=W++S:=⟨_,rfl⟩
   have hUl:U.length=a+V'.length:=by rw [hU,ha]; simp
   have e0:P++((V'++[y])++(x::(W++S)))=U++y::x::R:=by rw [hU,hR]; simp
   have e1:a+(V'++[y]).length=U.length+1:=by rw [hUl]; simp; omega
   rw [e0,e1]
   have w1:IntKind.i64.wrap (((U.length+1:Nat):Int) - 1)=((U.length:Nat):Int):=by rw [wrap_id (by omega) (by omega)]; omega
   have g1:=get_mid U y (x::R) U.length rfl
   have g2:=get_mid1 U y x R (U.length+1) rfl
   have g3:∀ v,((rowsA (U++y::x::R)).set (U.length+1) v).getD U.length .any=.agg [.int .i64 y.1,.fz false (strs y.2.1),.int .i64 y.2.2.1,.fz false (a3s y.2.2.2)]:=fun v=>by
    rw [List.getD_eq_getElem?_getD,List.getElem?_set_ne (by omega),← List.getD_eq_getElem?_getD]; exact g1
   have hfin:=swap_mid U y x R _ _ rfl rfl
   obtain ⟨k,hk⟩:∃ k,k=U.length+1:=⟨_,rfl⟩
   rw [← hk] at w1 g2 g3 hfin ⊢
   have hUN:U.length+1 < N:=by omega
   obtain ⟨Z,hZ⟩:∃ Z,Z=rowsA (U++y::x::R):=⟨_,rfl⟩
   have hZl:Z.length=N:=by
    rw [hZ,rowsA_len]
    simp only [List.length_append,List.length_cons,hR]
    omega
   rw [← hZ] at g1 g2 g3 hfin ⊢
   simp only [go_sem,uA,uB,uC,uD,uE,uF,uG,uH,uI,uJ,uK,uL,uM,uN,uO,uP,uQ]
   (refine ADrawT.mem [(15,9),(15,13),(17,9),(17,13),(17,15)] mixedOrdersD (by kernel_rfl) (by kernel_rfl) ?_; simp only [go_sem,uA,uB,uC,uD,uE,uF,uG,uH,uI,uJ,uK,uL,uM,uN,uO,uP,uQ])
   simp only [go_sem,hset,w1,g1,g2,g3,List.set_set,uA,uB,uC,uD,uE,uF,uG,uH,uI,uJ,uK,uL,uM,uN,uO,uP,uQ]
   refine ⟨⟨by omega,by omega⟩,by omega,⟨by omega,by omega⟩,by omega,⟨by omega,by omega⟩,by omega,⟨by omega,by omega⟩,by omega,by simp [okAcc],⟨V',y::W, ?_,by rw [hVW]; simp,by omega, ?_⟩, ?_⟩
   ·rw [hUl]
   ·refine congrArg (fun z=>H1.set t (.arr g 4 z)) ?_
    refine hfin.trans ?_
    rw [hU,hR]; simp
   ·omega
  ·have hge:V.length=i - a:=by have:=of_decide_eq_false hc; omega
   have hV2:V=A.take (i - a):=by rw [hVW,← hge]; simp
   have hW2:W=A.drop (i - a):=by rw [hVW,← hge]; simp
   simp only [go_sem,uA,uB,uC,uD,uE,uF,uG,uH,uI,uJ,uK,uL,uM,uN,uO,uP,uQ]
   refine Fin_plain ⟨rfl,V++x::W, ?_, ?_,by simp⟩
   ·rw [hVW]; exact List.perm_middle.trans (List.perm_append_singleton x (V++W)).symm
   ·refine srt_ins (by rw [← hVW]; exact sA) ?_ ?_
    ·rcases hlo with q | q
     ·left; exact List.length_eq_zero_iff.1 (by omega)
     ·by_cases h0:i=a
      ·left; exact List.length_eq_zero_iff.1 (by omega)
      ·right
       refine ⟨A.take (i - a - 1),A[i - a - 1]'(by omega),hV2.trans (take_last (by omega) (by omega)), ?_⟩
       have e3:i - 1=P.length+(i - a - 1):=by omega
       rw [e3,hL,G_app P A ([x]++S) (i - a - 1) (by omega)] at q
       exact q
    ·rcases hhi with q | q
     ·left; exact List.length_eq_zero_iff.1 (by omega)
     ·by_cases h0:i=m
      ·left; exact List.length_eq_zero_iff.1 (by omega)
      ·right
       refine ⟨A[i - a]'(by omega),A.drop (i - a+1),hW2.trans (drop_first (by omega)), ?_⟩
       have e3:i=P.length+(i - a):=by omega
       rw [e3,hL,G_app P A ([x]++S) (i - a) (by omega)] at q
       omega
end Go.Proofs.Vale
