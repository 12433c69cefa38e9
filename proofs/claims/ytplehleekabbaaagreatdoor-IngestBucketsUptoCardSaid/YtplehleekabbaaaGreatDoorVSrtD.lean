/- YtplehleekabbaaaGreatDoorVSrtD: a text of the proof of this claim, by its prover. -/
import Derived.Test.YtplehleekabbaaaGreatDoorVRowC
open Nat renaming reduceMul → uA, reduceLT → uB, reduceLeDiff → uC, reduceEqDiff → uD, reduceBEq → uE, lt_irrefl → uQ
open Int renaming toNat_natCast → uF, reduceToNat → uG, reduceNeg → uH, reduceLT → uI, reduceLE → uJ, reduceBEq → uK, reduceBNe → uL
open Bool renaming false_eq_true → uO
set_option linter.unusedVariables false
set_option linter.unusedSimpArgs false
set_option maxHeartbeats 4000000
set_option maxRecDepth 100000
namespace Go.Proofs.Vale
open Go.Proofs Go.Proofs.YtplehleekabbaaaGreatDoorT
attribute [local irreducible] acode aopsL aopsT dopsL dopsT pop popG aop ALoop ADraw ACall AWP AFin acondT ALoopT ADrawT ACallT doP doG doGd frL frT frX
def lessTs:List Str→List Str→Bool
 | [],_=>false
 | _::_,[]=>false
 | a::l,b::m=>bif a != b then Op.bytesLess a b else lessTs l m
def lessR (a b:Rw):Bool:=bif a.1 != b.1 then decide (a.1 < b.1) else lessTs a.2.1 b.2.1
theorem rless_ok (a b:Rw) (h:List AObj) (ha:a.2.1.length≤4611686018427387904) (hb:b.2.1.length≤4611686018427387904):ACall Tryz.prog 82 [rowA a,rowA b] h (fun r _=>r=.bool (lessR a b)):=by
 simp only [rowA]
 (refine ACall.of_code Tryz.func82 rfl ?_; simp only [Tryz.f82]; simp only [go_sem,uA,uB,uC,uD,uE,uF,uG,uH,uI,uJ,uK,uL,uM,uN,uO,uP,uQ])
 refine acond_intro (fun hc=>?_) (fun hc=>?_)
 ·simp only [go_sem,uA,uB,uC,uD,uE,uF,uG,uH,uI,uJ,uK,uL,uM,uN,uO,uP,uQ]
  exact Fin_plain (by rw [lessR,hc]; rfl)
 have hR:lessR a b=lessTs a.2.1 b.2.1:=by rw [lessR,hc]; rfl
 rw [hR]
 simp only [go_sem,uA,uB,uC,uD,uE,uF,uG,uH,uI,uJ,uK,uL,uM,uN,uO,uP,uQ]
 refine ALoop.over [4,5,16,17,18,19,20,21,22,23,24,25,26,27,28,29,30,31,32,33,34,35,36,37,38,39,40,41,42,43,44,45,46,47,48,49,50,51] (fun e H=>∃ k:Nat,k≤a.2.1.length∧k≤b.2.1.length∧e.getD 5 .any=.int .i64 k∧lessTs a.2.1 b.2.1=lessTs (a.2.1.drop k) (b.2.1.drop k)∧H=h++[.arr 0 4 [rowA a],.arr 0 4 [rowA b]]) (fun e _=>a.2.1.length - natA (e.getD 5 .any)) ⟨0,by omega,by omega,rfl,rfl,rfl⟩ ?_
 simp only [List.length_cons,List.length_nil,Nat.reduceAdd,allL_succ,allL_zero]
 intro y4 y5 y16 y17 y18 y19 y20 y21 y22 y23 y24 y25 y26 y27 y28 y29 y30 y31 y32 y33 y34 y35 y36 y37 y38 y39 y40 y41 y42 y43 y44 y45 y46 y47 y48 y49 y50 y51 H hI
 simp only [go_sem,rowA] at hI
 obtain ⟨k,hk,hkb,rfl,hall,rfl⟩:=hI
 by_cases h1:k < a.2.1.length
 ·have d1:decide ((k:Int) < (a.2.1.length:Int))=true:=decide_eq_true (by omega)
  by_cases h2:k < b.2.1.length
  ·have d2:decide ((k:Int) < (b.2.1.length:Int))=true:=decide_eq_true (by omega)
   have e1:a.2.1.drop k=a.2.1[k]::a.2.1.drop (k+1):=(List.getElem_cons_drop h1).symm
   have e2:b.2.1.drop k=b.2.1[k]::b.2.1.drop (k+1):=(List.getElem_cons_drop h2).symm
   have f1:=strs_get a.2.1 k h1
   have f2:=strs_get b.2.1 k h2
   simp only [go_sem,d1,d2,uA,uB,uC,uD,uE,uF,uG,uH,uI,uJ,uK,uL,uM,uN,uO,uP,uQ]
   (refine ADrawT.mem [(4,1),(9,6)] mixedOrdersD (by kernel_rfl) (by kernel_rfl) ?_; simp only [go_sem,uA,uB,uC,uD,uE,uF,uG,uH,uI,uJ,uK,uL,uM,uN,uO,uP,uQ])
   simp only [go_sem,f1,f2,uA,uB,uC,uD,uE,uF,uG,uH,uI,uJ,uK,uL,uM,uN,uO,uP,uQ]
   refine ⟨⟨by omega,by omega⟩,⟨by omega,by omega⟩,by simp [okAcc], ?_⟩
   refine acond_intro (fun hx=>?_) (fun hx=>?_)
   ·simp only [go_sem,uA,uB,uC,uD,uE,uF,uG,uH,uI,uJ,uK,uL,uM,uN,uO,uP,uQ]
    (refine ADrawT.mem [(4,1),(9,6)] mixedOrdersD (by kernel_rfl) (by kernel_rfl) ?_; simp only [go_sem,uA,uB,uC,uD,uE,uF,uG,uH,uI,uJ,uK,uL,uM,uN,uO,uP,uQ])
    simp only [go_sem,f1,f2,uA,uB,uC,uD,uE,uF,uG,uH,uI,uJ,uK,uL,uM,uN,uO,uP,uQ]
    refine ⟨⟨by omega,by omega⟩,⟨by omega,by omega⟩,by simp [okAcc], ?_⟩
    refine Fin_plain ?_
    rw [hall,e1,e2,lessTs,hx]; rfl
   ·simp only [go_sem,uA,uB,uC,uD,uE,uF,uG,uH,uI,uJ,uK,uL,uM,uN,uO,uP,uQ]
    rw [wrap_id (by omega) (by omega)]
    refine ⟨⟨k+1,by omega,by omega,rfl, ?_,rfl⟩,by omega⟩
    rw [hall,e1,e2,lessTs,hx]; rfl
  ·have d2:decide ((k:Int) < (b.2.1.length:Int))=false:=decide_eq_false (by omega)
   simp only [go_sem,d1,d2,uA,uB,uC,uD,uE,uF,uG,uH,uI,uJ,uK,uL,uM,uN,uO,uP,uQ]
   refine Fin_plain ?_
   have:b.2.1.drop k=[]:=List.drop_eq_nil_iff.2 (by omega)
   have e1:a.2.1.drop k=a.2.1[k]::a.2.1.drop (k+1):=(List.getElem_cons_drop h1).symm
   rw [hall,this,e1]; rfl
 ·have d1:decide ((k:Int) < (a.2.1.length:Int))=false:=decide_eq_false (by omega)
  simp only [go_sem,d1,uA,uB,uC,uD,uE,uF,uG,uH,uI,uJ,uK,uL,uM,uN,uO,uP,uQ]
  refine Fin_plain ?_
  have:a.2.1.drop k=[]:=List.drop_eq_nil_iff.2 (by omega)
  rw [hall,this]; rfl
end Go.Proofs.Vale
namespace Go.Proofs.Vale
open Go.Proofs Go.Proofs.YtplehleekabbaaaGreatDoorT
attribute [local irreducible] acode aopsL aopsT dopsL dopsT pop popG aop ALoop ADraw ACall AWP AFin acondT ALoopT ADrawT ACallT doP doG doGd frL frT frX
theorem rowsA_app (a b:List Rw):rowsA (a++b)=rowsA a++rowsA b:=by simp [rowsA]
theorem rowsA_cons (a:Rw) (b:List Rw):rowsA (a::b)=rowA a::rowsA b:=rfl
theorem get_mid (A:List Rw) (x:Rw) (B:List Rw) (j:Nat) (hj:j=A.length):(rowsA (A++x::B)).getD j .any=.agg [.int .i64 x.1,.fz false (strs x.2.1),.int .i64 x.2.2.1,.fz false (a3s x.2.2.2)]:=by
 subst hj; rw [rowsA_get _ _ (by simp)]; simp
theorem get_mid1 (A:List Rw) (x y:Rw) (B:List Rw) (j:Nat) (hj:j=A.length+1):(rowsA (A++x::y::B)).getD j .any=.agg [.int .i64 y.1,.fz false (strs y.2.1),.int .i64 y.2.2.1,.fz false (a3s y.2.2.2)]:=by
 have:A++x::y::B=(A++[x])++y::B:=by simp
 rw [this]; exact get_mid _ _ _ _ (by simp [hj])
theorem swap_mid (A:List Rw) (x y:Rw) (B:List Rw) (j k:Nat) (hj:j=A.length) (hk:k=A.length+1):((rowsA (A++x::y::B)).set k (rowA x)).set j (rowA y)=rowsA (A++y::x::B):=by
 subst hj hk
 simp only [rowsA_app,rowsA_cons]
 have hl:A.length=(rowsA A).length:=(rowsA_len A).symm
 rw [hl,List.set_append_right _ _ (by omega),List.set_append_right _ _ (by omega)]
 simp
abbrev cmpF:AV:=.func (.func 44) [] []
def SrtR (l:List Rw):Prop:=l.Pairwise fun a b=>cmpR a b≤0
theorem srt_in {U V:List Rw} {x:Rw} (flip:∀ a b,0≤cmpR a b→cmpR b a≤0) (tr:∀ a b c,cmpR a b≤0→cmpR b c≤0→cmpR a c≤0) (h:SrtR (U++V)) (hV:∀ v∈V,cmpR x v≤0) (hU:U=[]∨∃ U' u,U=U'++[u]∧0≤cmpR x u):SrtR (U++x::V):=by
 unfold SrtR at *
 rw [List.pairwise_append] at h ⊢
 refine ⟨h.1,List.pairwise_cons.2 ⟨hV,h.2.1⟩,fun a ha b hb=>?_⟩
 rcases List.mem_cons.1 hb with rfl | hb
 ·rcases hU with rfl | ⟨U',u,rfl,hu⟩
  ·cases ha
  ·have hub:=flip _ _ hu
   rcases List.mem_append.1 ha with q | q
   ·have h1:=(List.pairwise_append.1 h.1).2.2 a q u (by simp)
    exact tr _ _ _ h1 hub
   ·simp at q; subst q; exact hub
 ·exact h.2.2 a ha b hb
theorem insSort_ok (flip : ∀ a b, 0 ≤ cmpR a b → cmpR b a ≤ 0) (tr : ∀ a b c, cmpR a b ≤ 0 → cmpR b c ≤ 0 → cmpR a c ≤ 0) (P M S : List Rw) (t g : Nat) (H : List AObj) (hn : (P ++ M ++ S).length ≤ 4611686018427387904) (hok : ∀ r ∈ M, RwOk r) (ht : H[t]? = some (.arr g 4 (rowsA (P ++ M ++ S)))) :
  ACall Tryz.prog 114 [.sl t g 4 0 (P++M++S).length,.int .i64 P.length,.int .i64 (P.length+M.length:Nat),cmpF] H (fun r H'=>r=.tup []∧∃ M',M'.Perm M∧SrtR M'∧H'=H.set t (.arr g 4 (rowsA (P++M'++S)))):=by
 generalize hN:(P++M++S).length=N at *
 have hPM:P.length+M.length≤N:=by rw [← hN]; simp
 have htl:t < H.length:=(List.getElem?_eq_some_iff.1 ht).1
 have hset:∀ v:AObj,(H.set t v)[t]? = some v:=fun v=>List.getElem?_set_self htl
 (refine ACall.of_code Tryz.func114 rfl ?_; simp only [Tryz.f114]; simp only [go_sem,uA,uB,uC,uD,uE,uF,uG,uH,uI,uJ,uK,uL,uM,uN,uO,uP,uQ])
 rw [wrap_id (by omega) (by omega)]
 refine ALoop.over [8,9,12,13,14,15,16,17,18,19,20,21,22,23,24,25,26,27,28,29,30,31,32,33,34,35,36,37,38,39,40,41,42,43,44,45,46,47,48,49,50,51,52] (fun e H'=>∃ (i:Nat) (M1 M2:List Rw),e.getD 8 .any=.int .i64 i∧H'=H.set t (.arr g 4 (rowsA (P++(M1++(M2++S)))))∧(M1++M2).Perm M∧SrtR M1∧((M=[]∧i=P.length+1)∨i=P.length+M1.length)) (fun e _=>P.length+M.length+1 - natA (e.getD 8 .any)) ?_ ?_
 ·have hsame:∀ L,L=P++M++S→H=H.set t (.arr g 4 (rowsA L)):=by
   rintro L rfl
   refine List.ext_getElem? fun i=>?_
   by_cases e:t=i
   ·subst e; rw [hset,ht]
   ·rw [List.getElem?_set_ne e]
  cases M with
  | nil=>exact ⟨P.length+1,[],[],by simp,hsame _ (by simp),.nil,by simp [SrtR],.inl ⟨rfl,rfl⟩⟩
  | cons x M=>exact ⟨P.length+1,[x],M,by simp,hsame _ (by simp),.refl _,by simp [SrtR],.inr rfl⟩
 simp only [List.length_cons,List.length_nil,Nat.reduceAdd,allL_succ,allL_zero]
 intro y8 y9 y12 y13 y14 y15 y16 y17 y18 y19 y20 y21 y22 y23 y24 y25 y26 y27 y28 y29 y30 y31 y32 y33 y34 y35 y36 y37 y38 y39 y40 y41 y42 y43 y44 y45 y46 y47 y48 y49 y50 y51 y52 H1 hI
 simp only [go_sem] at hI
 obtain ⟨i,M1,M2,rfl,rfl,hp,hs1,hi⟩:=hI
 have hpl:M1.length+M2.length=M.length:=by rw [← hp.length_eq]; simp
 simp only [go_sem,uA,uB,uC,uD,uE,uF,uG,uH,uI,uJ,uK,uL,uM,uN,uO,uP,uQ]
 refine acond_intro (fun hc=>?_) (fun hc=>?_)
 ·have hlt:i < P.length+M.length:=by have:=of_decide_eq_true hc; omega
  have hi2:i=P.length+M1.length:=by
   rcases hi with ⟨rfl,rfl⟩ | q
   ·simp at hlt; omega
   ·exact q
  obtain ⟨x,M3,rfl⟩:∃ x M3,M2=x::M3:=by
   cases M2 with
   | nil=>simp at hpl; omega
   | cons x M3=>exact ⟨x,M3,rfl⟩
  simp only [go_sem,uA,uB,uC,uD,uE,uF,uG,uH,uI,uJ,uK,uL,uM,uN,uO,uP,uQ]
  refine ALoop.over [9,18,19,20,21,22,23,24,25,26,27,28,29,30,31,32,33,34,35,36,37,38,39,40,41,42,43,44,45,46,47,48,49,50,51,52] (fun e H'=>∃ (U V L:List Rw),e.getD 9 .any=.int .i64 (P.length+U.length:Nat)∧H'=H.set t (.arr g 4 (rowsA L))∧L=P++(U++(x::(V++(M3++S))))∧U++V=M1∧∀ v∈V,cmpR x v≤0) (fun e _=>natA (e.getD 9 .any)) ⟨M1,[],_,by rw [hi2]; rfl,rfl,by simp,by simp,by simp⟩ ?_
  simp only [List.length_cons,List.length_nil,Nat.reduceAdd,allL_succ,allL_zero]
  intro y9 y18 y19 y20 y21 y22 y23 y24 y25 y26 y27 y28 y29 y30 y31 y32 y33 y34 y35 y36 y37 y38 y39 y40 y41 y42 y43 y44 y45 y46 y47 y48 y49 y50 y51 y52 H2 hI
  simp only [go_sem] at hI
  obtain ⟨U,V,L,rfl,rfl,hL,hUV,hV⟩:=hI
  have hpl2:U.length+V.length=M1.length:=by rw [← hUV]; simp
  have hLl:(rowsA L).length=N:=by rw [rowsA_len,hL,← hN]; simp at hpl ⊢; omega
  rcases List.eq_nil_or_concat U with rfl | ⟨U',u,hU⟩
  ·have hd:decide ((P.length:Int) < (P.length:Int))=false:=by simp
   rw [show P.length+([]:List Rw).length=P.length from rfl]
   simp only [go_sem,uA,uB,uC,uD,uE,uF,uG,uH,uI,uJ,uK,uL,uM,uN,uO,uP,uQ]
   (refine ADrawT.mem [] mixedOrdersD (by kernel_rfl) (by kernel_rfl) ?_; simp only [go_sem,uA,uB,uC,uD,uE,uF,uG,uH,uI,uJ,uK,uL,uM,uN,uO,uP,uQ])
   simp only [go_sem,hd,hset,uA,uB,uC,uD,uE,uF,uG,uH,uI,uJ,uK,uL,uM,uN,uO,uP,uQ]
   refine ⟨by simp [okAcc], ?_⟩
   refine ⟨⟨i+1,[]++x::V,M3, ?_, ?_, ?_, ?_,.inr ?_⟩, ?_⟩
   ·rw [wrap_id (by omega) (by omega)]; rfl
   ·refine congrArg (fun z=>H.set t (.arr g 4 (rowsA z))) ?_
    rw [hL]; simp
   ·refine List.Perm.trans ?_ hp
    rw [← hUV]
    simp only [List.append_assoc,List.cons_append,List.nil_append]
    exact List.perm_middle.symm
   ·exact srt_in flip tr (hUV ▸ hs1) hV (.inl rfl)
   ·simp at hpl2 ⊢; omega
   ·rw [wrap_id (by omega) (by omega)]; omega
  ·rw [List.concat_eq_append] at hU
   subst hU
   obtain ⟨A,hA⟩:∃ A,A=P++U':=⟨_,rfl⟩
   obtain ⟨R,hR⟩:∃ R,R=V++(M3++S):=⟨_,rfl⟩
   have hAl:A.length=P.length+U'.length:=by rw [hA]; simp
   have hLA:L=A++u::x::R:=by rw [hL,hA,hR]; simp
   have hj:P.length+(U'++[u]).length=A.length+1:=by rw [hAl]; simp; omega
   have hAN:A.length+1 < N:=by have:=congrArg List.length hLA; rw [List.length_append] at this; simp only [List.length_cons] at this; rw [rowsA_len] at hLl; omega
   have hd:decide ((P.length:Int) < ((A.length+1:Nat):Int))=true:=by simp; omega
   have hw:IntKind.i64.wrap (((A.length+1:Nat):Int) - 1)=(A.length:Int):=by rw [wrap_id (by omega) (by omega)]; omega
   have g1:=get_mid1 A u x R (A.length+1) rfl
   have g0:=get_mid A u (x::R) A.length rfl
   have hin:∀ r,r=x∨r=u→RwOk r:=by
    intro r hr
    refine hok r (hp.subset ?_)
    rcases hr with rfl | rfl
    ·simp
    ·simp [← hUV]
   rw [hj]
   clear hL
   subst hLA
   simp only [go_sem,uA,uB,uC,uD,uE,uF,uG,uH,uI,uJ,uK,uL,uM,uN,uO,uP,uQ]
   (refine ADrawT.mem [] mixedOrdersD (by kernel_rfl) (by kernel_rfl) ?_; simp only [go_sem,uA,uB,uC,uD,uE,uF,uG,uH,uI,uJ,uK,uL,uM,uN,uO,uP,uQ])
   simp only [go_sem,hd,hset,hw,g0,g1,uA,uB,uC,uD,uE,uF,uG,uH,uI,uJ,uK,uL,uM,uN,uO,uP,uQ]
   refine ⟨⟨by omega,by omega⟩,by omega,⟨by omega,by omega⟩,by omega, ?_⟩
   refine doX_intro (.int .i64 (cmpR x u)) ⟨rfl,fun mm=>?_⟩ ?_
   ·simp only [go_sem,uA,uB,uC,uD,uE,uF,uG,uH,uI,uJ,uK,uL,uM,uN,uO,uP,uQ]
    refine ACallT.frame (cmpR_ok x u _ (hin x (.inl rfl)).1 (hin u (.inr rfl)).1) ?_
    rintro _ _ rfl
    exact ⟨rfl,rfl⟩
   simp only [go_sem,hd,hset,hw,g0,g1,uA,uB,uC,uD,uE,uF,uG,uH,uI,uJ,uK,uL,uM,uN,uO,uP,uQ]
   refine ⟨by simp [okAcc], ?_⟩
   refine acond_intro (fun he=>?_) (fun he=>?_)
   ·simp only [go_sem,uA,uB,uC,uD,uE,uF,uG,uH,uI,uJ,uK,uL,uM,uN,uO,uP,uQ]
    (refine ADrawT.mem [(15,9),(15,13),(17,9),(17,13),(17,15)] mixedOrdersD (by kernel_rfl) (by kernel_rfl) ?_; simp only [go_sem,uA,uB,uC,uD,uE,uF,uG,uH,uI,uJ,uK,uL,uM,uN,uO,uP,uQ])
    have g2:∀ v,((rowsA (A++u::x::R)).set (A.length+1) v).getD A.length .any=.agg [.int .i64 u.1,.fz false (strs u.2.1),.int .i64 u.2.2.1,.fz false (a3s u.2.2.2)]:=fun v=>by
     rw [List.getD_eq_getElem?_getD,List.getElem?_set_ne (by omega),← List.getD_eq_getElem?_getD]; exact g0
    simp only [go_sem,hset,hw,g0,g1,g2,List.set_set,uA,uB,uC,uD,uE,uF,uG,uH,uI,uJ,uK,uL,uM,uN,uO,uP,uQ]
    refine ⟨⟨by omega,by omega⟩,by omega,⟨by omega,by omega⟩,by omega,⟨by omega,by omega⟩,by omega,⟨by omega,by omega⟩,by omega,by simp [okAcc],⟨U',u::V,A++x::u::R, ?_, ?_, ?_, ?_, ?_⟩, ?_⟩
    ·rw [hAl]
    ·exact congrArg (fun z=>H.set t (.arr g 4 z)) (swap_mid A u x R _ _ rfl rfl)
    ·rw [hA,hR]; simp
    ·rw [← hUV]; simp
    ·intro v hv
     rcases List.mem_cons.1 hv with rfl | hv
     ·have:=of_decide_eq_true he; omega
     ·exact hV v hv
    ·omega
   ·simp only [go_sem,uA,uB,uC,uD,uE,uF,uG,uH,uI,uJ,uK,uL,uM,uN,uO,uP,uQ]
    have he2:0≤cmpR x u:=by have:=of_decide_eq_false he; omega
    refine ⟨⟨i+1,(U'++[u])++x::V,M3, ?_, ?_, ?_, ?_,.inr ?_⟩, ?_⟩
    ·rw [wrap_id (by omega) (by omega)]; rfl
    ·refine congrArg (fun z=>H.set t (.arr g 4 (rowsA z))) ?_
     rw [hA,hR]; simp
    ·refine List.Perm.trans ?_ hp
     rw [← hUV]
     simp only [List.append_assoc,List.cons_append,List.nil_append]
     exact List.Perm.append_left _ (List.Perm.cons _ List.perm_middle.symm)
    ·exact srt_in flip tr (hUV ▸ hs1) hV (.inr ⟨U',u,rfl,he2⟩)
    ·simp at hpl2 ⊢; omega
    ·rw [wrap_id (by omega) (by omega)]; omega
 ·have hM2:M2=[]∨M=[]:=by
   have:=of_decide_eq_false hc
   rcases hi with ⟨rfl,_⟩ | q
   ·exact .inr rfl
   ·left; exact List.length_eq_zero_iff.1 (by omega)
  simp only [go_sem,uA,uB,uC,uD,uE,uF,uG,uH,uI,uJ,uK,uL,uM,uN,uO,uP,uQ]
  refine Fin_plain ⟨rfl,M1++M2,hp, ?_,by simp⟩
  rcases hM2 with rfl | rfl
  ·simpa using hs1
  ·have:=hp.length_eq
   simp at this
   rw [this.1,this.2]; simp [SrtR]
end Go.Proofs.Vale
namespace Go.Proofs.Vale
open Go.Proofs Go.Proofs.YtplehleekabbaaaGreatDoorT
structure IsC {α:Type} (c:α→α→Int):Prop where
 flip:∀ a b,c b a = - c a b
 eq0:∀ a b,c a b=0→a=b
 tr:∀ a b d,c a b < 0→c b d < 0→c a d < 0
theorem IsC.refl {α:Type} {c:α→α→Int} (h:IsC c) (a:α):c a a=0:=by have:=h.flip a a; omega
theorem isC_int:IsC cmpI where
 flip a b:=by
  unfold cmpI
  by_cases h1:a < b <;> by_cases h2:b < a <;> simp [h1,h2] <;> omega
 eq0 a b h:=by
  unfold cmpI at h
  by_cases h1:a < b <;> by_cases h2:b < a <;> simp [h1,h2] at h; omega
 tr a b d h1 h2:=by
  have e1:a < b:=by
   unfold cmpI at h1
   by_cases q:a < b
   ·exact q
   ·by_cases q2:b < a <;> simp [q,q2] at h1
  have e2:b < d:=by
   unfold cmpI at h2
   by_cases q:b < d
   ·exact q
   ·by_cases q2:d < b <;> simp [q,q2] at h2
  unfold cmpI
  have:a < d:=by omega
  simp [this]
theorem less_trans (a b d:Str) (h1:Op.bytesLess a b=true) (h2:Op.bytesLess b d=true):Op.bytesLess a d=true:=sLt_trans (a:=a) (b:=b) (c:=d) h1 h2
theorem cN {k w:Int} (h:k≠0):(bif k != 0 then k else w)=k:=by
 have:(k != 0)=true:=by simpa using h
 rw [this]; rfl
theorem cZ {k w:Int} (h:k=0):(bif k != 0 then k else w)=w:=by subst h; rfl
theorem isC_text:IsC cmpT where
 flip a b:=by
  unfold cmpT
  by_cases e:a=b
  ·subst e; simp [bytesLess_irrefl]
  ·have:=bytesLess_total a b e
   cases h1:Op.bytesLess a b <;> cases h2:Op.bytesLess b a <;> simp [h1,h2] at this ⊢
 eq0 a b h:=by
  by_cases e:a=b
  ·exact e
  ·have:=bytesLess_total a b e
   unfold cmpT at h
   cases h1:Op.bytesLess a b <;> cases h2:Op.bytesLess b a <;> simp [h1,h2] at this h
 tr a b d h1 h2:=by
  have key:∀ a b,cmpT a b < 0→Op.bytesLess a b=true:=by
   intro a b h
   unfold cmpT at h
   cases h1:Op.bytesLess a b
   ·rw [h1] at h; cases h2:Op.bytesLess b a <;> simp [h2] at h
   ·rfl
  have:=less_trans a b d (key _ _ h1) (key _ _ h2)
  unfold cmpT
  rw [this,cond_true]; omega
theorem isC_texts:IsC cmpTs where
 flip:=by
  intro a
  induction a with
  | nil=>intro b; cases b <;> simp [cmpTs]
  | cons x a ih =>
   intro b
   cases b with
   | nil=>simp [cmpTs]
   | cons y b =>
    simp only [cmpTs]
    have f:=isC_text.flip x y
    by_cases e:cmpT x y=0
    ·have e2:cmpT y x=0:=by omega
     rw [cZ e,cZ e2,ih b]
    ·have e2:cmpT y x≠0:=by omega
     rw [cN e,cN e2,f]
 eq0:=by
  intro a
  induction a with
  | nil=>intro b h; cases b with
   | nil=>rfl
   | cons y b=>simp [cmpTs] at h
  | cons x a ih =>
   intro b h
   cases b with
   | nil=>simp [cmpTs] at h
   | cons y b =>
    simp only [cmpTs] at h
    by_cases e:cmpT x y=0
    ·rw [cZ e] at h
     rw [isC_text.eq0 _ _ e,ih _ h]
    ·rw [cN e] at h; exact absurd h e
 tr:=by
  intro a
  induction a with
  | nil =>
   intro b d h1 h2
   cases d with
   | nil=>cases b with
    | nil=>simp [cmpTs] at h1
    | cons y b=>simp [cmpTs] at h2
   | cons z d=>simp [cmpTs]
  | cons x a ih =>
   intro b d h1 h2
   cases b with
   | nil=>simp [cmpTs] at h1
   | cons y b =>
    cases d with
    | nil=>simp [cmpTs] at h2
    | cons z d =>
     simp only [cmpTs] at *
     by_cases e1:cmpT x y=0
     ·have:=isC_text.eq0 _ _ e1; subst this
      by_cases e2:cmpT x z=0
      ·rw [cZ e1] at h1; rw [cZ e2] at h2 ⊢
       exact ih _ _ h1 h2
      ·rw [cN e2] at h2 ⊢
       exact h2
     ·rw [cN e1] at h1
      by_cases e2:cmpT y z=0
      ·have:=isC_text.eq0 _ _ e2; subst this
       rw [cN e1]; exact h1
      ·rw [cN e2] at h2
       have h3:=isC_text.tr _ _ _ h1 h2
       have e3:cmpT x z≠0:=by omega
       rw [cN e3]; exact h3
def keyR (r:Rw):Int × List Str:=(r.1,r.2.1)
theorem cmpR_flip (a b:Rw):cmpR b a = - cmpR a b:=by
 unfold cmpR
 have f:=isC_int.flip a.1 b.1
 by_cases e:cmpI a.1 b.1=0
 ·have e2:cmpI b.1 a.1=0:=by omega
  rw [cZ e,cZ e2,isC_texts.flip a.2.1 b.2.1]
 ·have e2:cmpI b.1 a.1≠0:=by omega
  rw [cN e,cN e2,f]
theorem cmpR_eq0 (a b:Rw):cmpR a b=0↔keyR a=keyR b:=by
 constructor
 ·intro h
  unfold cmpR at h
  by_cases e:cmpI a.1 b.1=0
  ·rw [cZ e] at h
   simp [keyR,isC_int.eq0 _ _ e,isC_texts.eq0 _ _ h]
  ·rw [cN e] at h; exact absurd h e
 ·intro h
  simp only [keyR,Prod.mk.injEq] at h
  unfold cmpR
  rw [h.1,h.2,isC_int.refl,isC_texts.refl]; rfl
theorem cmpR_key (a b c d:Rw) (h:keyR a=keyR c) (h2:keyR b=keyR d):cmpR a b=cmpR c d:=by
 simp only [keyR,Prod.mk.injEq] at h h2
 unfold cmpR
 rw [h.1,h.2,h2.1,h2.2]
theorem cmpR_lt (a b d:Rw) (h1:cmpR a b < 0) (h2:cmpR b d < 0):cmpR a d < 0:=by
 unfold cmpR at *
 by_cases e1:cmpI a.1 b.1=0
 ·have q:=isC_int.eq0 _ _ e1
  by_cases e2:cmpI b.1 d.1=0
  ·have e3:cmpI a.1 d.1=0:=by rw [q]; exact e2
   rw [cZ e1] at h1; rw [cZ e2] at h2; rw [cZ e3]
   exact isC_texts.tr _ _ _ h1 h2
  ·have e3:cmpI a.1 d.1≠0:=by rw [q]; exact e2
   rw [cN e2] at h2; rw [cN e3]
   rw [q]; exact h2
 ·rw [cN e1] at h1
  by_cases e2:cmpI b.1 d.1=0
  ·have q:=isC_int.eq0 _ _ e2
   have e3:cmpI a.1 d.1≠0:=by rw [← q]; exact e1
   rw [cN e3]; rw [← q]; exact h1
  ·rw [cN e2] at h2
   have h3:=isC_int.tr _ _ _ h1 h2
   have e3:cmpI a.1 d.1≠0:=by omega
   rw [cN e3]; exact h3
theorem cmpR_le (a b c:Rw) (h1:cmpR a b≤0) (h2:cmpR b c≤0):cmpR a c≤0:=by
 by_cases e1:cmpR a b=0
 ·rw [cmpR_key a c b c ((cmpR_eq0 a b).1 e1) rfl]; exact h2
 ·by_cases e2:cmpR b c=0
  ·rw [← cmpR_key a b a c rfl ((cmpR_eq0 b c).1 e2)]; exact h1
  ·have:=cmpR_lt a b c (by omega) (by omega); omega
theorem cmpR_ge (a b:Rw) (h:0≤cmpR a b):cmpR b a≤0:=by rw [cmpR_flip]; omega
end Go.Proofs.Vale
namespace Go.Proofs.Vale
open Go.Proofs Go.Proofs.YtplehleekabbaaaGreatDoorT
attribute [local irreducible] acode aopsL aopsT dopsL dopsT pop popG aop ALoop ADraw ACall AWP AFin acondT ALoopT ADrawT ACallT doP doG doGd frL frT frX
theorem getM (P M S:List Rw) (i k:Nat) (hk:k=P.length+i) (hi:i < M.length):(rowsA (P++(M++S))).getD k .any=.agg [.int .i64 M[i].1,.fz false (strs M[i].2.1),.int .i64 M[i].2.2.1,.fz false (a3s M[i].2.2.2)]:=by
 subst hk
 have e:P.length+i < (P++(M++S)).length:=by simp; omega
 rw [rowsA_get _ _ e]
 have:(P++(M++S))[P.length+i]=M[i]:=by
  rw [List.getElem_append_right (by omega)]
  rw [List.getElem_append_left (by omega)]
  congr 1; omega
 rw [this]
theorem setM (P M S:List Rw) (i k:Nat) (r:Rw) (hk:k=P.length+i) (hi:i < M.length):(rowsA (P++(M++S))).set k (rowA r)=rowsA (P++(M.set i r++S)):=by
 subst hk
 have:P++(M.set i r++S)=(P++(M++S)).set (P.length+i) r:=by
  rw [List.set_append_right _ _ (by omega),List.set_append_left _ _ (by omega)]
  congr 3; omega
 rw [this]; simp [rowsA,List.map_set]
theorem swapM (P M S:List Rw) (i j k l:Nat) (hk:k=P.length+i) (hl:l=P.length+j) (hi:i < M.length) (hj:j < M.length):((rowsA (P++(M++S))).set k (rowA M[j])).set l (rowA M[i])=rowsA (P++((M.set i M[j]).set j M[i]++S)):=by
 rw [setM P M S i k _ hk hi,setM P _ S j l _ hl (by simpa using hj)]
theorem getS (L:List Rw) (k l:Nat) (x:Rw) (hl:l < L.length):((rowsA L).set k (.agg [.int .i64 x.1,.fz false (strs x.2.1),.int .i64 x.2.2.1,.fz false (a3s x.2.2.2)])).getD l .any=.agg [.int .i64 ((L.set k x)[l]'(by simpa using hl)).1,.fz false (strs ((L.set k x)[l]'(by simpa using hl)).2.1),.int .i64 ((L.set k x)[l]'(by simpa using hl)).2.2.1,.fz false (a3s ((L.set k x)[l]'(by simpa using hl)).2.2.2)]:=by
 have:(rowsA L).set k (.agg [.int .i64 x.1,.fz false (strs x.2.1),.int .i64 x.2.2.1,.fz false (a3s x.2.2.2)])=rowsA (L.set k x):=by simp [rowsA,rowA,List.map_set]
 rw [this,rowsA_get _ _ (by simpa using hl)]
theorem swap_perm {M:List Rw} {i j:Nat} (hi:i < M.length) (hj:j < M.length):((M.set i M[j]).set j M[i]).Perm M:=List.set_set_perm hi hj
theorem heap_same {H:List AObj} {t:Nat} {o:AObj} (h:H[t]? = some o):H.set t o=H:=by
 refine List.ext_getElem? fun i=>?_
 by_cases e:t=i
 ·subst e; rw [List.getElem?_set_self (List.getElem?_eq_some_iff.1 h).1,h]
 ·rw [List.getElem?_set_ne e]
theorem revRange_ok (P M S : List Rw) (t g N : Nat) (H : List AObj) (hN : (P ++ (M ++ S)).length = N) (hn : N ≤ 4611686018427387904) (f : AV) (ht : H[t]? = some (.arr g 4 (rowsA (P ++ (M ++ S))))) :
  ACall Tryz.prog 137 [.sl t g 4 0 N,.int .i64 P.length,.int .i64 (P.length+M.length:Nat),f] H (fun r H'=>r=.tup []∧∃ M',M'.Perm M∧H'=H.set t (.arr g 4 (rowsA (P++(M'++S))))):=by
 have hPM:P.length+M.length≤N:=by rw [← hN]; simp
 have htl:t < H.length:=(List.getElem?_eq_some_iff.1 ht).1
 have hset:∀ v:AObj,(H.set t v)[t]? = some v:=fun v=>List.getElem?_set_self htl
 (refine ACall.of_code Tryz.func137 rfl ?_; simp only [Tryz.f137]; simp only [go_sem,uA,uB,uC,uD,uE,uF,uG,uH,uI,uJ,uK,uL,uM,uN,uO,uP,uQ])
 rw [wrap_id (by omega) (by omega)]
 refine ALoop.over [8,9,13,14,15,16,17,18,19,20,21,22,23,24,25,26,27,28,29,30,31,32,33] (fun e H'=>∃ (i:Nat) (M':List Rw),e.getD 8 .any=.int .i64 (P.length+i:Nat)∧e.getD 9 .any=.int .i64 (((P.length+M.length:Nat):Int) - 1 - i)∧i≤M.length∧M'.Perm M∧H'=H.set t (.arr g 4 (rowsA (P++(M'++S))))) (fun e _=>P.length+M.length - natA (e.getD 8 .any)) ⟨0,M,rfl,by simp,by omega,.refl _,(heap_same ht).symm⟩ ?_
 simp only [List.length_cons,List.length_nil,Nat.reduceAdd,allL_succ,allL_zero]
 intro y8 y9 y13 y14 y15 y16 y17 y18 y19 y20 y21 y22 y23 y24 y25 y26 y27 y28 y29 y30 y31 y32 y33 H1 hI
 simp only [go_sem] at hI
 obtain ⟨i,M',rfl,rfl,hi,hp,rfl⟩:=hI
 have hl:=hp.length_eq
 simp only [go_sem,uA,uB,uC,uD,uE,uF,uG,uH,uI,uJ,uK,uL,uM,uN,uO,uP,uQ]
 refine acond_intro (fun hc=>?_) (fun hc=>?_)
 ·have hlt:i+1 < M.length - i:=by have:=of_decide_eq_true hc; omega
  obtain ⟨j,hj⟩:∃ j,j=M.length - 1 - i:=⟨_,rfl⟩
  have hz:((P.length+M.length:Nat):Int) - 1 - i=((P.length+j:Nat):Int):=by omega
  rw [hz]
  have hiM:i < M'.length:=by omega
  have hjM:j < M'.length:=by omega
  have hlN:(P++(M'++S)).length=N:=by rw [← hN]; simp [hl]
  simp only [go_sem,uA,uB,uC,uD,uE,uF,uG,uH,uI,uJ,uK,uL,uM,uN,uO,uP,uQ]
  (refine ADrawT.mem [(13,7),(13,11),(15,7),(15,11),(15,13)] mixedOrdersD (by kernel_rfl) (by kernel_rfl) ?_; simp only [go_sem,uA,uB,uC,uD,uE,uF,uG,uH,uI,uJ,uK,uL,uM,uN,uO,uP,uQ])
  have g1:=getM P M' S i _ rfl hiM
  have g2:=getM P M' S j _ rfl hjM
  have g3:=getS (P++(M'++S)) (P.length+i) (P.length+j) M'[j] (by simp; omega)
  simp only [go_sem,hset,g1,g2,g3,List.set_set,uA,uB,uC,uD,uE,uF,uG,uH,uI,uJ,uK,uL,uM,uN,uO,uP,uQ]
  refine ⟨⟨by omega,by omega⟩,by omega,⟨by omega,by omega⟩,by omega,⟨by omega,by omega⟩,by omega,⟨by omega,by omega⟩,by omega,by simp [okAcc],⟨i+1,_, ?_, ?_,by omega,(swap_perm hiM hjM).trans hp, ?_⟩, ?_⟩
  ·rw [wrap_id (by omega) (by omega)]; rfl
  ·rw [wrap_id (by omega) (by omega)]; congr 1; omega
  ·exact congrArg (fun z=>H.set t (.arr g 4 z)) (swapM P M' S i j _ _ rfl rfl hiM hjM)
  ·rw [wrap_id (by omega) (by omega)]; omega
 ·simp only [go_sem,uA,uB,uC,uD,uE,uF,uG,uH,uI,uJ,uK,uL,uM,uN,uO,uP,uQ]
  exact Fin_plain ⟨rfl,M',hp,rfl⟩
end Go.Proofs.Vale
namespace Go.Proofs.Vale
open Go.Proofs Go.Proofs.YtplehleekabbaaaGreatDoorT
attribute [local irreducible] acode aopsL aopsT dopsL dopsT pop popG aop ALoop ADraw ACall AWP AFin acondT ALoopT ADrawT ACallT doP doG doGd frL frT frX
def G (M:List Rw) (j:Nat):Rw:=M.getD j zeroR
theorem G_lt {M:List Rw} {j:Nat} (h:j < M.length):G M j=M[j]:=by simp [G,List.getD_eq_getElem?_getD,h]
theorem G_swap {M:List Rw} {i j:Nat} (hi:i < M.length) (hj:j < M.length) (hij:i≠j) (k:Nat):G ((M.set i M[j]).set j M[i]) k=if k=i then G M j else if k=j then G M i else G M k:=by
 rw [G_lt hi,G_lt hj]
 unfold G
 rw [List.getD_eq_getElem?_getD,List.getD_eq_getElem?_getD]
 by_cases e:k=j
 ·subst e
  rw [List.getElem?_set_self (by simpa using hj)]
  have:¬ k=i:=fun q=>hij q.symm
  simp [this]
 ·rw [List.getElem?_set_ne (fun q=>e q.symm)]
  by_cases e2:k=i
  ·subst e2; rw [List.getElem?_set_self hi]; simp
  ·rw [List.getElem?_set_ne (fun q=>e2 q.symm)]; simp [e,e2]
def Child (c j:Nat):Prop:=c=2 * j+1∨c=2 * j+2
def Heap (k hi:Nat) (M:List Rw):Prop:=∀ j c,k≤j→c < hi→Child c j→cmpR (G M c) (G M j)≤0
def Sift (lo hi r:Nat) (M:List Rw):Prop:=(∀ j c,lo≤j→j≠r→c < hi→Child c j→cmpR (G M c) (G M j)≤0)∧(∀ p c,lo≤p→Child r p→c < hi→Child c r→cmpR (G M c) (G M p)≤0)
theorem sift_start {lo hi:Nat} {M:List Rw} (h:Heap (lo+1) hi M):Sift lo hi lo M :=
 ⟨fun j c h1 h2 h3 h4=>h j c (by omega) h3 h4,fun p c h1 h2 h3 h4=>by unfold Child at h2; omega⟩
theorem sift_end {lo hi r:Nat} {M:List Rw} (h:Sift lo hi r M) (hr:∀ c,c < hi→Child c r→cmpR (G M c) (G M r)≤0):Heap lo hi M:=by
 intro j c h1 h2 h3
 by_cases e:j=r
 ·subst e; exact hr c h2 h3
 ·exact h.1 j c h1 e h2 h3
theorem sift_step {lo hi r ch:Nat} {M:List Rw} (h:Sift lo hi r M) (hlo:lo≤r) (hhi:hi≤M.length) (hch:ch < hi) (hc:Child ch r) (hr:r < M.length) (hm:∀ c,c < hi→Child c r→cmpR (G M c) (G M ch)≤0) (hlt:cmpR (G M r) (G M ch)≤0):Sift lo hi ch ((M.set r (M[ch]'(by omega))).set ch M[r]):=by
 have hne:r≠ch:=by unfold Child at hc; omega
 have sw:=fun k=>G_swap (M:=M) (i:=r) (j:=ch) hr (by omega) hne k
 constructor
 ·intro j c h1 h2 h3 h4
  rw [sw,sw]
  by_cases ej:j=r
  ·subst ej
   by_cases ec:c=ch
   ·subst ec
    simp [show ¬ c=j from fun q=>hne q.symm,hlt]
   ·have:¬ c=j:=by unfold Child at h4; omega
    simp [this,ec,hm c h3 h4]
  ·by_cases ec:c=r
   ·subst ec
    simp [ej,h2]
    exact h.2 j ch h1 h4 hch hc
   ·have:¬ c=ch:=by rintro rfl; unfold Child at hc h4; omega
    simp [ej,h2,ec,this]
    exact h.1 j c h1 ej h3 h4
 ·intro p c h1 h2 h3 h4
  have ep:p=r:=by unfold Child at hc h2; omega
  subst ep
  rw [sw,sw]
  have e1:¬ c=p:=by unfold Child at hc h4; omega
  have e2:¬ c=ch:=by unfold Child at h4; omega
  simp [e1,e2]
  exact h.1 ch c (by unfold Child at hc; omega) (fun q=>hne q.symm) h3 h4
theorem sift_ok (P M S : List Rw) (t g N : Nat) (H : List AObj) (hN : (P ++ (M ++ S)).length = N) (hn : N ≤ 1152921504606846976) (hok : ∀ r ∈ M, RwOk r) (lo hi : Nat) (hlo : lo ≤ N) (hhi : hi ≤ M.length) (ht : H[t]? = some (.arr g 4 (rowsA (P ++ (M ++ S))))) :
  ACall Tryz.prog 162 [.sl t g 4 0 N,.int .i64 lo,.int .i64 hi,.int .i64 P.length,cmpF] H (fun r H'=>r=.tup []∧∃ M',M'.Perm M∧M'.drop hi=M.drop hi∧(Heap (lo+1) hi M→Heap lo hi M')∧H'=H.set t (.arr g 4 (rowsA (P++(M'++S))))):=by
 have hPM:P.length+M.length≤N:=by rw [← hN]; simp
 have htl:t < H.length:=(List.getElem?_eq_some_iff.1 ht).1
 have hset:∀ v:AObj,(H.set t v)[t]? = some v:=fun v=>List.getElem?_set_self htl
 (refine ACall.of_code Tryz.func162 rfl ?_; simp only [Tryz.f162]; simp only [go_sem,uA,uB,uC,uD,uE,uF,uG,uH,uI,uJ,uK,uL,uM,uN,uO,uP,uQ])
 refine ALoop.over [10,11,13,14,15,16,17,18,19,20,21,22,23,24,25,26,27,28,29,30,31,32,33,34,35,36,37,38,39,40,41,42,43,44,45,46,47,48,49,50,51,52,53,54,55,56,57,58,59,60,61,62,63,64,65,66,67,68,69,70,71,72,73,74,75,76,77,78,79,80,81] (fun e H'=>∃ (r:Nat) (M':List Rw),e.getD 10 .any=.int .i64 r∧lo≤r∧r≤N∧M'.Perm M∧M'.drop hi=M.drop hi∧(Heap (lo+1) hi M→Sift lo hi r M')∧H'=H.set t (.arr g 4 (rowsA (P++(M'++S))))) (fun e _=>N - natA (e.getD 10 .any)) ⟨lo,M,rfl,by omega,by omega,.refl _,rfl,sift_start,(heap_same ht).symm⟩ ?_
 simp only [List.length_cons,List.length_nil,Nat.reduceAdd,allL_succ,allL_zero]
 intro y10 y11 y13 y14 y15 y16 y17 y18 y19 y20 y21 y22 y23 y24 y25 y26 y27 y28 y29 y30 y31 y32 y33 y34 y35 y36 y37 y38 y39 y40 y41 y42 y43 y44 y45 y46 y47 y48 y49 y50 y51 y52 y53 y54 y55 y56 y57 y58 y59 y60 y61 y62 y63 y64 y65 y66 y67 y68 y69 y70 y71 y72 y73 y74 y75 y76 y77 y78 y79 y80 y81 H1 hI
 simp only [go_sem] at hI
 obtain ⟨r,M',rfl,hlr,hrN,hp,hdr,hS,rfl⟩:=hI
 have hl:=hp.length_eq
 have hlN:(P++(M'++S)).length=N:=by rw [← hN]; simp [hl]
 have w1:IntKind.i64.wrap (2 * (r:Int))=((2 * r:Nat):Int):=by rw [wrap_id (by omega) (by omega)]; omega
 have w2:IntKind.i64.wrap (((2 * r:Nat):Int)+1)=((2 * r+1:Nat):Int):=by rw [wrap_id (by omega) (by omega)]; omega
 have w3:IntKind.i64.wrap (((2 * r+1:Nat):Int)+1)=((2 * r+2:Nat):Int):=by rw [wrap_id (by omega) (by omega)]; omega
 simp only [go_sem,w1,w2,uA,uB,uC,uD,uE,uF,uG,uH,uI,uJ,uK,uL,uM,uN,uO,uP,uQ]
 refine acond_intro (fun hc=>?_) (fun hc=>?_)
 ·simp only [go_sem,uA,uB,uC,uD,uE,uF,uG,uH,uI,uJ,uK,uL,uM,uN,uO,uP,uQ]
  refine Fin_plain ⟨rfl,M',hp,hdr,fun hh=>sift_end (hS hh) fun c h1 h2=>?_,rfl⟩
  have:=of_decide_eq_true hc
  unfold Child at h2; omega
 have hc1:2 * r+1 < hi:=by have:=of_decide_eq_false hc; omega
 simp only [go_sem,uA,uB,uC,uD,uE,uF,uG,uH,uI,uJ,uK,uL,uM,uN,uO,uP,uQ]
 by_cases hg:2 * r+2 < hi
 ·have hgd:decide (((2 * r+2:Nat):Int) < (hi:Int))=true:=by simp; omega
  have w4:IntKind.i64.wrap ((P.length:Int)+((2 * r+1:Nat):Int))=((P.length+(2 * r+1):Nat):Int):=by rw [wrap_id (by omega) (by omega)]; rfl
  have w5:IntKind.i64.wrap (((P.length+(2 * r+1):Nat):Int)+1)=((P.length+(2 * r+2):Nat):Int):=by rw [wrap_id (by omega) (by omega)]; omega
  have k1:2 * r+1 < M'.length:=by omega
  have k2:2 * r+2 < M'.length:=by omega
  have f1:=getM P M' S (2 * r+1) _ rfl k1
  have f2:=getM P M' S (2 * r+2) _ rfl k2
  have p1:=hok M'[2 * r+1] (hp.subset (List.getElem_mem _))
  have p2:=hok M'[2 * r+2] (hp.subset (List.getElem_mem _))
  (refine ADrawT.mem [] mixedOrdersD (by kernel_rfl) (by kernel_rfl) ?_; simp only [go_sem,uA,uB,uC,uD,uE,uF,uG,uH,uI,uJ,uK,uL,uM,uN,uO,uP,uQ])
  simp only [go_sem,w3,hgd,w4,w5,hset,f1,f2,uA,uB,uC,uD,uE,uF,uG,uH,uI,uJ,uK,uL,uM,uN,uO,uP,uQ]
  refine ⟨⟨by omega,by omega⟩,by omega,⟨by omega,by omega⟩,by omega, ?_⟩
  refine doX_intro (.int .i64 (cmpR M'[2 * r+1] M'[2 * r+2])) ⟨rfl,fun mm=>?_⟩ ?_
  ·simp only [go_sem,uA,uB,uC,uD,uE,uF,uG,uH,uI,uJ,uK,uL,uM,uN,uO,uP,uQ]
   refine ACallT.frame (cmpR_ok M'[2 * r+1] M'[2 * r+2] _ p1.1 p2.1) ?_
   rintro _ _ rfl
   exact ⟨rfl,rfl⟩
  simp only [go_sem,w3,hgd,w4,w5,hset,f1,f2,uA,uB,uC,uD,uE,uF,uG,uH,uI,uJ,uK,uL,uM,uN,uO,uP,uQ]
  refine ⟨by simp [okAcc], ?_⟩
  refine acond_intro (fun hq=>?_) (fun hq=>?_)
  ·simp only [go_sem,w3,uA,uB,uC,uD,uE,uF,uG,uH,uI,uJ,uK,uL,uM,uN,uO,uP,uQ]
   have hq2:cmpR M'[2 * r+1] M'[2 * r+2] < 0:=of_decide_eq_true hq
   obtain ⟨ch,he⟩:∃ ch,ch=2 * r+2:=⟨_,rfl⟩
   have hc:Child ch r:=.inr he
   have hch:ch < hi:=by omega
   have hm:∀ c,c < hi→Child c r→cmpR (G M' c) (G M' ch)≤0:=by
    intro c h1 h2
    rcases h2 with rfl | rfl
    ·rw [he,G_lt k1,G_lt k2]; omega
    ·rw [he]; exact (Int.le_of_eq ((cmpR_eq0 _ _).2 rfl))
   rw [show ((2 * r+2:Nat):Int)=(ch:Int) by rw [he]]
   have hchM:ch < M'.length:=by omega
   have hrM:r < M'.length:=by unfold Child at hc; omega
   have hne:r≠ch:=by unfold Child at hc; omega
   have wr:IntKind.i64.wrap ((P.length:Int)+(r:Int))=((P.length+r:Nat):Int):=by rw [wrap_id (by omega) (by omega)]; rfl
   have wc:IntKind.i64.wrap ((P.length:Int)+(ch:Int))=((P.length+ch:Nat):Int):=by rw [wrap_id (by omega) (by omega)]; rfl
   have g1:=getM P M' S r _ rfl hrM
   have g2:=getM P M' S ch _ rfl hchM
   have o1:=hok M'[r] (hp.subset (List.getElem_mem _))
   have o2:=hok M'[ch] (hp.subset (List.getElem_mem _))
   (refine ADrawT.mem [] mixedOrdersD (by kernel_rfl) (by kernel_rfl) ?_; simp only [go_sem,uA,uB,uC,uD,uE,uF,uG,uH,uI,uJ,uK,uL,uM,uN,uO,uP,uQ])
   simp only [go_sem,hset,wr,wc,g1,g2,uA,uB,uC,uD,uE,uF,uG,uH,uI,uJ,uK,uL,uM,uN,uO,uP,uQ]
   refine ⟨⟨by omega,by omega⟩,by omega,⟨by omega,by omega⟩,by omega, ?_⟩
   refine doX_intro (.int .i64 (cmpR M'[r] M'[ch])) ⟨rfl,fun mm=>?_⟩ ?_
   ·simp only [go_sem,uA,uB,uC,uD,uE,uF,uG,uH,uI,uJ,uK,uL,uM,uN,uO,uP,uQ]
    refine ACallT.frame (cmpR_ok M'[r] M'[ch] _ o1.1 o2.1) ?_
    rintro _ _ rfl
    exact ⟨rfl,rfl⟩
   simp only [go_sem,hset,wr,wc,g1,g2,uA,uB,uC,uD,uE,uF,uG,uH,uI,uJ,uK,uL,uM,uN,uO,uP,uQ]
   refine ⟨by simp [okAcc], ?_⟩
   refine acond_intro (fun hx=>?_) (fun hx=>?_)
   ·simp only [go_sem,uA,uB,uC,uD,uE,uF,uG,uH,uI,uJ,uK,uL,uM,uN,uO,uP,uQ]
    refine Fin_plain ⟨rfl,M',hp,hdr,fun hh=>sift_end (hS hh) fun c h1 h2=>?_,rfl⟩
    have q:¬ cmpR M'[r] M'[ch] < 0:=by simpa using hx
    have q2:=hm c h1 h2
    refine cmpR_le _ _ _ q2 ?_
    rw [G_lt hchM,G_lt hrM]
    exact cmpR_ge _ _ (by omega)
   ·have q:cmpR M'[r] M'[ch] < 0:=by simpa using hx
    have g3:=getS (P++(M'++S)) (P.length+r) (P.length+ch) M'[ch] (by simp; omega)
    simp only [go_sem,uA,uB,uC,uD,uE,uF,uG,uH,uI,uJ,uK,uL,uM,uN,uO,uP,uQ]
    (refine ADrawT.mem [(21,13),(21,19),(23,13),(23,19),(23,21)] mixedOrdersD (by kernel_rfl) (by kernel_rfl) ?_; simp only [go_sem,uA,uB,uC,uD,uE,uF,uG,uH,uI,uJ,uK,uL,uM,uN,uO,uP,uQ])
    simp only [go_sem,hset,wr,wc,g1,g2,g3,List.set_set,uA,uB,uC,uD,uE,uF,uG,uH,uI,uJ,uK,uL,uM,uN,uO,uP,uQ]
    refine ⟨⟨by omega,by omega⟩,by omega,⟨by omega,by omega⟩,by omega,⟨by omega,by omega⟩,by omega,⟨by omega,by omega⟩,by omega,by simp [okAcc],⟨ch,(M'.set r M'[ch]).set ch M'[r],rfl,by unfold Child at hc; omega,by omega,(swap_perm hrM hchM).trans hp, ?_,fun hh=>sift_step (hS hh) hlr (by omega) hch hc hrM hm (by rw [G_lt hrM,G_lt hchM]; omega), ?_⟩, ?_⟩
    ·rw [List.drop_set_of_lt (by omega),List.drop_set_of_lt (by unfold Child at hc; omega)]; exact hdr
    ·exact congrArg (fun z=>H.set t (.arr g 4 z)) (swapM P M' S r ch _ _ rfl rfl hrM hchM)
    ·unfold Child at hc; omega
  ·have hq2:¬ cmpR M'[2 * r+1] M'[2 * r+2] < 0:=of_decide_eq_false hq
   simp only [go_sem,uA,uB,uC,uD,uE,uF,uG,uH,uI,uJ,uK,uL,uM,uN,uO,uP,uQ]
   obtain ⟨ch,he⟩:∃ ch,ch=2 * r+1:=⟨_,rfl⟩
   have hc:Child ch r:=.inl he
   have hch:ch < hi:=by omega
   have hm:∀ c,c < hi→Child c r→cmpR (G M' c) (G M' ch)≤0:=by
    intro c h1 h2
    rcases h2 with rfl | rfl
    ·rw [he]; exact (Int.le_of_eq ((cmpR_eq0 _ _).2 rfl))
    ·rw [he,G_lt k1,G_lt k2]; exact cmpR_ge _ _ (by omega)
   rw [show ((2 * r+1:Nat):Int)=(ch:Int) by rw [he]]
   have hchM:ch < M'.length:=by omega
   have hrM:r < M'.length:=by unfold Child at hc; omega
   have hne:r≠ch:=by unfold Child at hc; omega
   have wr:IntKind.i64.wrap ((P.length:Int)+(r:Int))=((P.length+r:Nat):Int):=by rw [wrap_id (by omega) (by omega)]; rfl
   have wc:IntKind.i64.wrap ((P.length:Int)+(ch:Int))=((P.length+ch:Nat):Int):=by rw [wrap_id (by omega) (by omega)]; rfl
   have g1:=getM P M' S r _ rfl hrM
   have g2:=getM P M' S ch _ rfl hchM
   have o1:=hok M'[r] (hp.subset (List.getElem_mem _))
   have o2:=hok M'[ch] (hp.subset (List.getElem_mem _))
   (refine ADrawT.mem [] mixedOrdersD (by kernel_rfl) (by kernel_rfl) ?_; simp only [go_sem,uA,uB,uC,uD,uE,uF,uG,uH,uI,uJ,uK,uL,uM,uN,uO,uP,uQ])
   simp only [go_sem,hset,wr,wc,g1,g2,uA,uB,uC,uD,uE,uF,uG,uH,uI,uJ,uK,uL,uM,uN,uO,uP,uQ]
   refine ⟨⟨by omega,by omega⟩,by omega,⟨by omega,by omega⟩,by omega, ?_⟩
   refine doX_intro (.int .i64 (cmpR M'[r] M'[ch])) ⟨rfl,fun mm=>?_⟩ ?_
   ·simp only [go_sem,uA,uB,uC,uD,uE,uF,uG,uH,uI,uJ,uK,uL,uM,uN,uO,uP,uQ]
    refine ACallT.frame (cmpR_ok M'[r] M'[ch] _ o1.1 o2.1) ?_
    rintro _ _ rfl
    exact ⟨rfl,rfl⟩
   simp only [go_sem,hset,wr,wc,g1,g2,uA,uB,uC,uD,uE,uF,uG,uH,uI,uJ,uK,uL,uM,uN,uO,uP,uQ]
   refine ⟨by simp [okAcc], ?_⟩
   refine acond_intro (fun hx=>?_) (fun hx=>?_)
   ·simp only [go_sem,uA,uB,uC,uD,uE,uF,uG,uH,uI,uJ,uK,uL,uM,uN,uO,uP,uQ]
    refine Fin_plain ⟨rfl,M',hp,hdr,fun hh=>sift_end (hS hh) fun c h1 h2=>?_,rfl⟩
    have q:¬ cmpR M'[r] M'[ch] < 0:=by simpa using hx
    have q2:=hm c h1 h2
    refine cmpR_le _ _ _ q2 ?_
    rw [G_lt hchM,G_lt hrM]
    exact cmpR_ge _ _ (by omega)
   ·have q:cmpR M'[r] M'[ch] < 0:=by simpa using hx
    have g3:=getS (P++(M'++S)) (P.length+r) (P.length+ch) M'[ch] (by simp; omega)
    simp only [go_sem,uA,uB,uC,uD,uE,uF,uG,uH,uI,uJ,uK,uL,uM,uN,uO,uP,uQ]
    (refine ADrawT.mem [(21,13),(21,19),(23,13),(23,19),(23,21)] mixedOrdersD (by kernel_rfl) (by kernel_rfl) ?_; simp only [go_sem,uA,uB,uC,uD,uE,uF,uG,uH,uI,uJ,uK,uL,uM,uN,uO,uP,uQ])
    simp only [go_sem,hset,wr,wc,g1,g2,g3,List.set_set,uA,uB,uC,uD,uE,uF,uG,uH,uI,uJ,uK,uL,uM,uN,uO,uP,uQ]
    refine ⟨⟨by omega,by omega⟩,by omega,⟨by omega,by omega⟩,by omega,⟨by omega,by omega⟩,by omega,⟨by omega,by omega⟩,by omega,by simp [okAcc],⟨ch,(M'.set r M'[ch]).set ch M'[r],rfl,by unfold Child at hc; omega,by omega,(swap_perm hrM hchM).trans hp, ?_,fun hh=>sift_step (hS hh) hlr (by omega) hch hc hrM hm (by rw [G_lt hrM,G_lt hchM]; omega), ?_⟩, ?_⟩
    ·rw [List.drop_set_of_lt (by omega),List.drop_set_of_lt (by unfold Child at hc; omega)]; exact hdr
    ·exact congrArg (fun z=>H.set t (.arr g 4 z)) (swapM P M' S r ch _ _ rfl rfl hrM hchM)
    ·unfold Child at hc; omega
 ·have hgd:decide (((2 * r+2:Nat):Int) < (hi:Int))=false:=by simp; omega
  (refine ADrawT.mem [] mixedOrdersD (by kernel_rfl) (by kernel_rfl) ?_; simp only [go_sem,uA,uB,uC,uD,uE,uF,uG,uH,uI,uJ,uK,uL,uM,uN,uO,uP,uQ])
  simp only [go_sem,w3,hgd,hset,uA,uB,uC,uD,uE,uF,uG,uH,uI,uJ,uK,uL,uM,uN,uO,uP,uQ]
  refine ⟨by simp [okAcc], ?_⟩
  obtain ⟨ch,he⟩:∃ ch,ch=2 * r+1:=⟨_,rfl⟩
  have hc:Child ch r:=.inl he
  have hch:ch < hi:=by omega
  have hm:∀ c,c < hi→Child c r→cmpR (G M' c) (G M' ch)≤0:=by
   intro c h1 h2
   rcases h2 with rfl | rfl
   ·rw [he]; exact (Int.le_of_eq ((cmpR_eq0 _ _).2 rfl))
   ·omega
  rw [show ((2 * r+1:Nat):Int)=(ch:Int) by rw [he]]
  have hchM:ch < M'.length:=by omega
  have hrM:r < M'.length:=by unfold Child at hc; omega
  have hne:r≠ch:=by unfold Child at hc; omega
  have wr:IntKind.i64.wrap ((P.length:Int)+(r:Int))=((P.length+r:Nat):Int):=by rw [wrap_id (by omega) (by omega)]; rfl
  have wc:IntKind.i64.wrap ((P.length:Int)+(ch:Int))=((P.length+ch:Nat):Int):=by rw [wrap_id (by omega) (by omega)]; rfl
  have g1:=getM P M' S r _ rfl hrM
  have g2:=getM P M' S ch _ rfl hchM
  have o1:=hok M'[r] (hp.subset (List.getElem_mem _))
  have o2:=hok M'[ch] (hp.subset (List.getElem_mem _))
  (refine ADrawT.mem [] mixedOrdersD (by kernel_rfl) (by kernel_rfl) ?_; simp only [go_sem,uA,uB,uC,uD,uE,uF,uG,uH,uI,uJ,uK,uL,uM,uN,uO,uP,uQ])
  simp only [go_sem,hset,wr,wc,g1,g2,uA,uB,uC,uD,uE,uF,uG,uH,uI,uJ,uK,uL,uM,uN,uO,uP,uQ]
  refine ⟨⟨by omega,by omega⟩,by omega,⟨by omega,by omega⟩,by omega, ?_⟩
  refine doX_intro (.int .i64 (cmpR M'[r] M'[ch])) ⟨rfl,fun mm=>?_⟩ ?_
  ·simp only [go_sem,uA,uB,uC,uD,uE,uF,uG,uH,uI,uJ,uK,uL,uM,uN,uO,uP,uQ]
   refine ACallT.frame (cmpR_ok M'[r] M'[ch] _ o1.1 o2.1) ?_
   rintro _ _ rfl
   exact ⟨rfl,rfl⟩
  simp only [go_sem,hset,wr,wc,g1,g2,uA,uB,uC,uD,uE,uF,uG,uH,uI,uJ,uK,uL,uM,uN,uO,uP,uQ]
  refine ⟨by simp [okAcc], ?_⟩
  refine acond_intro (fun hx=>?_) (fun hx=>?_)
  ·simp only [go_sem,uA,uB,uC,uD,uE,uF,uG,uH,uI,uJ,uK,uL,uM,uN,uO,uP,uQ]
   refine Fin_plain ⟨rfl,M',hp,hdr,fun hh=>sift_end (hS hh) fun c h1 h2=>?_,rfl⟩
   have q:¬ cmpR M'[r] M'[ch] < 0:=by simpa using hx
   have q2:=hm c h1 h2
   refine cmpR_le _ _ _ q2 ?_
   rw [G_lt hchM,G_lt hrM]
   exact cmpR_ge _ _ (by omega)
  ·have q:cmpR M'[r] M'[ch] < 0:=by simpa using hx
   have g3:=getS (P++(M'++S)) (P.length+r) (P.length+ch) M'[ch] (by simp; omega)
   simp only [go_sem,uA,uB,uC,uD,uE,uF,uG,uH,uI,uJ,uK,uL,uM,uN,uO,uP,uQ]
   (refine ADrawT.mem [(21,13),(21,19),(23,13),(23,19),(23,21)] mixedOrdersD (by kernel_rfl) (by kernel_rfl) ?_; simp only [go_sem,uA,uB,uC,uD,uE,uF,uG,uH,uI,uJ,uK,uL,uM,uN,uO,uP,uQ])
   simp only [go_sem,hset,wr,wc,g1,g2,g3,List.set_set,uA,uB,uC,uD,uE,uF,uG,uH,uI,uJ,uK,uL,uM,uN,uO,uP,uQ]
   refine ⟨⟨by omega,by omega⟩,by omega,⟨by omega,by omega⟩,by omega,⟨by omega,by omega⟩,by omega,⟨by omega,by omega⟩,by omega,by simp [okAcc],⟨ch,(M'.set r M'[ch]).set ch M'[r],rfl,by unfold Child at hc; omega,by omega,(swap_perm hrM hchM).trans hp, ?_,fun hh=>sift_step (hS hh) hlr (by omega) hch hc hrM hm (by rw [G_lt hrM,G_lt hchM]; omega), ?_⟩, ?_⟩
   ·rw [List.drop_set_of_lt (by omega),List.drop_set_of_lt (by unfold Child at hc; omega)]; exact hdr
   ·exact congrArg (fun z=>H.set t (.arr g 4 z)) (swapM P M' S r ch _ _ rfl rfl hrM hchM)
   ·unfold Child at hc; omega
end Go.Proofs.Vale
namespace Go.Proofs.Vale
open Go.Proofs Go.Proofs.YtplehleekabbaaaGreatDoorT
attribute [local irreducible] acode aopsL aopsT dopsL dopsT pop popG aop ALoop ADraw ACall AWP AFin acondT ALoopT ADrawT ACallT doP doG doGd frL frT frX
theorem cmpR_refl (a:Rw):cmpR a a=0:=(cmpR_eq0 _ _).2 rfl
theorem heap_root {hi:Nat} {M:List Rw} (h:Heap 0 hi M):∀ c,c < hi→cmpR (G M c) (G M 0)≤0:=by
 intro c
 induction c using Nat.strongRecOn with
 | ind c ih =>
  intro hc
  by_cases e:c=0
  ·subst e; exact Int.le_of_eq (cmpR_refl _)
  ·have h1:=h ((c - 1) / 2) c (by omega) hc (by unfold Child; omega)
   exact cmpR_le _ _ _ h1 (ih _ (by omega) (by omega))
theorem take_mem {A B:List Rw} {i:Nat} (hp:A.Perm B) (hd:A.drop i=B.drop i):∀ x,x < i→x < A.length→∃ y,y < i∧y < B.length∧G A x=G B y:=by
 intro x hx hxl
 have h1:(A.take i).Perm (B.take i):=by
  have:(A.take i++A.drop i).Perm (B.take i++A.drop i):=by
   rw [List.take_append_drop,hd,List.take_append_drop]; exact hp
  exact (List.perm_append_right_iff _).1 this
 have h2:A[x]∈A.take i:=by rw [List.mem_take_iff_getElem]; exact ⟨x,by omega,rfl⟩
 have h3:=h1.subset h2
 rw [List.mem_take_iff_getElem] at h3
 obtain ⟨y,hy,he⟩:=h3
 exact ⟨y,by omega,by omega,by rw [G_lt hxl,G_lt (by omega),he]⟩
theorem G_drop {A B:List Rw} {i:Nat} (hd:A.drop i=B.drop i) (y:Nat) (hy:i≤y):G A y=G B y:=by
 have:(A.drop i)[y - i]? = (B.drop i)[y - i]? := by rw [hd]
 rw [List.getElem?_drop,List.getElem?_drop,show i+(y - i)=y by omega] at this
 simp only [G,List.getD_eq_getElem?_getD,this]
def HS (k:Nat) (M:List Rw):Prop:=Heap 0 k M∧(∀ x y,k≤x→x < y→y < M.length→cmpR (G M x) (G M y)≤0)∧(∀ x y,x < k→k≤y→y < M.length→cmpR (G M x) (G M y)≤0)
theorem HS_end {M:List Rw} (h:HS 0 M):SrtR M:=by
 unfold SrtR
 rw [List.pairwise_iff_getElem]
 intro x y hx hy hxy
 have:=h.2.1 x y (by omega) hxy hy
 rw [G_lt hx,G_lt hy] at this; exact this
theorem HS_start {M:List Rw} (h:Heap 0 M.length M):HS M.length M:=⟨h,fun x y h1 h2 h3=>by omega,fun x y h1 h2 h3=>by omega⟩
theorem HS_step {i:Nat} {M M2:List Rw} (hi:i < M.length) (h:HS (i+1) M) (hp:M2.Perm ((M.set 0 (M[i]'hi)).set i (M[0]'(by omega)))) (hd:M2.drop i=((M.set 0 (M[i]'hi)).set i (M[0]'(by omega))).drop i) (hh:Heap 1 i ((M.set 0 (M[i]'hi)).set i (M[0]'(by omega)))→Heap 0 i M2):HS i M2:=by
 have hl:M2.length=M.length:=by rw [hp.length_eq]; simp
 have sw:∀ k,G ((M.set 0 (M[i]'hi)).set i (M[0]'(by omega))) k=if k=i then G M 0 else if k=0 then G M i else G M k:=by
  intro k
  by_cases e:i=0
  ·subst e
   simp only [List.set_getElem_self]
   split
   ·rename_i q; rw [q]
   ·rfl
  ·rw [G_swap (by omega) hi (fun q=>e q.symm)]
   by_cases e1:k=0
   ·subst e1; simp [show ¬ 0=i from fun q=>e q.symm]
   ·simp [e1]
 generalize ((M.set 0 (M[i]'hi)).set i (M[0]'(by omega)))=M1 at *
 have root:=heap_root h.1
 refine ⟨hh ?_, ?_, ?_⟩
 ·intro j c h1 h2 h3
  rw [sw,sw]
  have e1:¬ c=i:=by omega
  have e2:¬ c=0:=by unfold Child at h3; omega
  have e3:¬ j=i:=by unfold Child at h3; omega
  have e4:¬ j=0:=by omega
  simp only [e1,e2,e3,e4,if_false]
  exact h.1 j c (by omega) (by omega) h3
 ·intro x y h1 h2 h3
  rw [G_drop hd x h1,G_drop hd y (by omega),sw,sw]
  have e1:¬ y=i:=by omega
  have e2:¬ y=0:=by omega
  by_cases e:x=i
  ·simp only [e,e1,e2,if_true,if_false]
   exact h.2.2 0 y (by omega) (by omega) (by omega)
  ·have e3:¬ x=0:=by omega
   simp only [e,e1,e2,e3,if_false]
   exact h.2.1 x y (by omega) h2 (by omega)
 ·intro x y h1 h2 h3
  obtain ⟨z,hz1,hz2,hz3⟩:=take_mem hp hd x h1 (by omega)
  rw [hz3,G_drop hd y h2,sw,sw]
  have e1:¬ z=i:=by omega
  have hzz:∃ w,w < i+1∧(if z=i then G M 0 else if z=0 then G M i else G M z)=G M w:=by
   by_cases e:z=0
   ·exact ⟨i,by omega,by simp [e,show ¬ 0=i by omega]⟩
   ·exact ⟨z,by omega,by simp [e,e1]⟩
  obtain ⟨w,hw,hwe⟩:=hzz
  rw [hwe]
  by_cases e:y=i
  ·simp only [e,if_true]; exact root w hw
  ·have e2:¬ y=0:=by omega
   simp only [e,e2,if_false]
   exact h.2.2 w y hw (by omega) (by omega)
end Go.Proofs.Vale
