/- YtplehleekabbaaaGreatDoorVBkC: a text of the proof of this claim, by its prover. -/
import Derived.Test.YtplehleekabbaaaGreatDoorVFldB
import Derived.Test.YtplehleekabbaaaGreatDoorVFoB
import Derived.Test.YtplehleekabbaaaGreatDoorVTr
import Derived.Test.YtplehleekabbaaaGreatDoorVIxJ
open Nat renaming reduceMul → uA, reduceLT → uB, reduceLeDiff → uC, reduceEqDiff → uD, reduceBEq → uE, lt_irrefl → uQ
open Int renaming toNat_natCast → uF, reduceToNat → uG, reduceNeg → uH, reduceLT → uI, reduceLE → uJ, reduceBEq → uK, reduceBNe → uL
open Bool renaming false_eq_true → uO
set_option linter.unusedVariables false
set_option linter.unusedSimpArgs false
set_option maxHeartbeats 4000000
set_option maxRecDepth 100000
namespace Go.Proofs.Vale
open Go.Proofs Go.Proofs.YtplehleekabbaaaGreatDoorT
abbrev sbO (a1 a2:Bool) (d m:List Str):AObj:=.arr 0 2 [.agg [.fz a1 (strs d),.fz a2 (strs m)]]
abbrev nwO (a1 a2:Bool) (d m:List Str) (g:Int) (k:Nat):List AObj:=[sbO a1 a2 d m,.map [],ixO d m g (k+1) 0]
theorem set2 {M:List AObj} {x y:Nat} (o p:AObj) (hx:x < M.length) (hy:y < M.length) (hne:x≠y):((M.set x o).set y p)[x]? = some o∧((M.set x o).set y p)[y]? = some p∧∀ j,j≠x→j≠y→((M.set x o).set y p)[j]? = M[j]? :=
 ⟨by rw [List.getElem?_set_ne (fun q=>hne q.symm),List.getElem?_set_self hx],by rw [List.getElem?_set_self (by simpa using hy)],fun j h1 h2=>by rw [List.getElem?_set_ne (fun q=>h2 q.symm),List.getElem?_set_ne (fun q=>h1 q.symm)]⟩
theorem Ix.len {d m:List Str} {Lm R:List Rw} {n:Int} {ES:List Rw} (h:Ix d m Lm R n ES):(R.length:Int)≤n:=by
 obtain ⟨_,hp,_,hc,hn⟩:=h.st
 have:∀ M:List Rw,(∀ r∈M,1≤r.2.2.1∧r.2.2.1≤1048576)→(M.length:Int)≤cntR M:=by
  intro M
  induction M with
  | nil=>intro _; simp [cntR]
  | cons a M ih=>intro q; rw [cnt_cons]; have:=(q a (by simp)).1; have:=ih (fun r hr=>q r (by simp [hr])); simp; omega
 have:=this Lm hc
 rw [← hp.length_eq]; omega
theorem Ix.bd {d m:List Str} {Lm R:List Rw} {n:Int} {ES:List Rw} (h:Ix d m Lm R n ES) (hd:d.length≤20) (hm:m.length≤20):∀ r∈R,r.2.1.length≤2000000000000∧r.2.2.2.length≤2000000000000:=fun r hr=>by
 have:=h.st.2.2.1 r (h.st.2.1.symm.subset hr)
 exact ⟨by rw [this.1]; omega,by rw [this.2.2.1]; omega⟩
end Go.Proofs.Vale
namespace Go.Proofs.Vale
open Go.Proofs Go.Proofs.YtplehleekabbaaaGreatDoorT
attribute [local irreducible] grL grT acode aopsL aopsT dopsL dopsT pop popG aop ALoop ADraw ACall AWP AFin acondT ALoopT ADrawT ACallT doP doG doGd frL frT frX
def flR (g:Int) (r:Rw):Rw:=(r.1 - r.1 % g,r.2.1,r.2.2)
theorem ACall.rowW {f:FuncId} {ar:List AV} {h:List AObj} {r:Rw} (q:ACall Tryz.prog f ar h (fun x _=>∃ c1 c2,x=rowC c1 c2 r.1 r.2.1 r.2.2.1 r.2.2.2)):ACall Tryz.prog f ar h (fun x _=>x=rowA r) :=
 q.weak fun _ _ ⟨c1,c2,e⟩=>⟨_,fun β fr H v z=>by subst e; exact rep_row z,rfl⟩
def AtAll (d:List Str):Prop:=∀ i,(h:i < d.length)→findV d d[i]=.tup [.int .i64 i,.bool true]
def GrowD (n:Nat) (H:List AObj) (k:Nat) (L:List Str) (G:AV):Prop:=(k=0∧G=.fz true [])∨(0 < k∧∃ u g',G=.sl u g' 1 0 k∧n≤u∧H[u]? = some (.arr g' 1 (strs L)))
theorem strs_snoc (L:List Str) (k:Nat) (h:k < L.length):strs (L.take (k+1))=strs (L.take k)++[.str L[k]]:=by
 rw [List.take_succ_eq_append_getElem h]; simp only [strs,List.map_append,List.map_cons,List.map_nil]
theorem prow_ok (a1 a2 c : Bool) (d m : List Str) (g : Int) (r : Rw) (h : List AObj) (hd : d.length ≤ 1000) (hA : AtAll d) (hl : r.2.1.length = d.length) (h0 : 0 ≤ r.1) (h1 : r.1 ≤ 1099511627776) (hg : gr g = true) :
  ACall Tryz.prog 47 [schA a1 a2 d m,rowA r,.fz c (strs d),.int .i64 g] h (fun x _=>x=rowA (flR g r)):=by
 refine ACall.rowW ?_
 simp only [schA,rowA]
 (refine ACall.of_code Tryz.func47 rfl ?_; simp only [Tryz.f47]; simp only [go_sem,uA,uB,uC,uD,uE,uF,uG,uH,uI,uJ,uK,uL,uM,uN,uO,uP,uQ])
 refine ACallT.frame (rfloor_ok r.1 g _ h0 h1 hg) ?_
 rintro _ _ rfl
 refine ⟨rfl, ?_⟩
 simp only [go_sem,uA,uB,uC,uD,uE,uF,uG,uH,uI,uJ,uK,uL,uM,uN,uO,uP,uQ]
 obtain ⟨T,hT⟩:∃ T,T=r.1 - r.1 % g:=⟨_,rfl⟩
 rw [← hT]
 refine ALoop.over [12,13,14,28,29,30,31,32,33,34,35,36,37,38,39,40,41,42,43,44,45,46,47,48,49,50,51,52,53] (fun e H=>∃ (k:Nat) (G:AV),k≤d.length∧e.getD 12 .any=.int .i64 k∧h.length+4≤H.length∧H[h.length]? = some (.arr 0 2 [schA a1 a2 d m])∧H[h.length+1]? = some (.arr 0 4 [rowA r])∧H[h.length+2]? = some (.arr 0 4 [rowC true true 0 [] 0 []])∧H[h.length+3]? = some (.arr 0 4 [.agg [.int .i64 T,G,.int .i64 r.2.2.1,.fz false (a3s r.2.2.2)]])∧GrowD (h.length+4) H k (r.2.1.take k) G) (fun e _=>d.length - natA (e.getD 12 .any)) ?_ ?_
 ·exact ⟨0,.fz true [],Nat.zero_le _,rfl,by simp,by simp [schA],by simp [rowA],by simp [strs,a3s],by simp,.inl ⟨rfl,rfl⟩⟩
 simp only [List.length_cons,List.length_nil,Nat.reduceAdd,allL_succ,allL_zero]
 intro y12 y13 y14 y28 y29 y30 y31 y32 y33 y34 y35 y36 y37 y38 y39 y40 y41 y42 y43 y44 y45 y46 y47 y48 y49 y50 y51 y52 y53 H hI
 simp only [go_sem] at hI
 obtain ⟨k,G,hk,rfl,hHl,hS,hR,hZ,hO,hG⟩:=hI
 simp only [schA] at hS
 simp only [rowA] at hR
 have hS':∀ x,(H++x)[h.length]? = _:=fun x=>(List.getElem?_append_left (by omega)).trans hS
 have hR':∀ x,(H++x)[h.length+1]? = _:=fun x=>(List.getElem?_append_left (by omega)).trans hR
 have hZ':∀ x,(H++x)[h.length+2]? = _:=fun x=>(List.getElem?_append_left (by omega)).trans hZ
 have hO':∀ x,(H++x)[h.length+3]? = _:=fun x=>(List.getElem?_append_left (by omega)).trans hO
 simp only [go_sem,uA,uB,uC,uD,uE,uF,uG,uH,uI,uJ,uK,uL,uM,uN,uO,uP,uQ]
 refine acond_intro (fun hc=>?_) (fun hc=>?_)
 ·have hlt:k < d.length:=by have:=of_decide_eq_true hc; omega
  have hget:=strs_get d k hlt
  have hget2:=strs_get r.2.1 k (by omega)
  have hsn:=strs_snoc r.2.1 k (by omega)
  have htk:(r.2.1.take k).length=k:=by simp; omega
  simp only [go_sem,uA,uB,uC,uD,uE,uF,uG,uH,uI,uJ,uK,uL,uM,uN,uO,uP,uQ]
  (refine ADrawT.walk3 [[0],[0],[0],[0],[0],[0],[0,7],[7],[7],[7],[7],[7]] mixedOrdersD (by kernel_rfl) (by kernel_rfl) ?_; simp only [go_sem,uA,uB,uC,uD,uE,uF,uG,uH,uI,uJ,uK,uL,uM,uN,uO,uP,uQ])
  simp only [go_sem,hS,hget,uA,uB,uC,uD,uE,uF,uG,uH,uI,uJ,uK,uL,uM,uN,uO,uP,uQ]
  refine ⟨⟨by omega,by omega⟩, ?_⟩
  refine frX_same (.tup [.int .i64 k,.bool true]) ?_ ?_
  ·simp only [go_sem,hS,hget,uA,uB,uC,uD,uE,uF,uG,uH,uI,uJ,uK,uL,uM,uN,uO,uP,uQ]
   refine ACallT.by (rfind_ok d d[k] a1 H (by omega)) ?_
   rintro _ _ ⟨rfl,rfl⟩
   exact ⟨hA k hlt,rfl⟩
  simp only [go_sem,hS,hget,uA,uB,uC,uD,uE,uF,uG,uH,uI,uJ,uK,uL,uM,uN,uO,uP,uQ]
  refine ⟨by simp [fmem,Agree,hS], ?_⟩
  rcases hG with ⟨hk0,rfl⟩ | ⟨hk0,u,g',rfl,hu0,hu⟩
  ·(refine ADrawT.walk3 [[0,8],[0,8],[0],[0],[0],[0],[0],[0,8],[8,9],[9],[9,11]] mixedOrdersD (by kernel_rfl) (by kernel_rfl) ?_; simp only [go_sem,uA,uB,uC,uD,uE,uF,uG,uH,uI,uJ,uK,uL,uM,uN,uO,uP,uQ])
   simp only [go_sem,hO,hR,hO',hR',hget2,uA,uB,uC,uD,uE,uF,uG,uH,uI,uJ,uK,uL,uM,uN,uO,uP,uQ]
   refine ⟨⟨by omega,by omega⟩,fun q=>absurd q (by simp),fun _=>⟨by simp [fmem,Agree,hO,hR,hO',hR'], ?_⟩⟩
   refine ⟨⟨k+1,_,by omega, ?_,by omega, ?_, ?_, ?_, ?_,.inr ⟨by omega,H.length+1,0,by rw [hk0],by omega, ?_⟩⟩, ?_⟩
   ·rw [wrap_id (by omega) (by omega)]; rfl
   ·rw [List.getElem?_set_ne (by omega)]; exact hS' _
   ·rw [List.getElem?_set_ne (by omega)]; exact hR' _
   ·rw [List.getElem?_set_ne (by omega)]; exact hZ' _
   ·exact List.getElem?_set_self (by simp; omega)
   ·rw [List.getElem?_set_ne (by omega),List.getElem?_append_right (by omega),show H.length+1 - H.length=1 by omega,hsn,show strs (r.2.1.take k)=[] by rw [hk0]; rfl]; rfl
   ·rw [wrap_id (by omega) (by omega)]; omega
  ·have huH:=(List.getElem?_eq_some_iff.1 hu).1
   have hu':∀ x,(H++x)[u]? = _:=fun x=>(List.getElem?_append_left huH).trans hu
   (refine ADrawT.walk3 [[0,8],[0,8],[0],[0],[0],[0],[0],[0,8],[8,9],[9],[9,11]] mixedOrdersD (by kernel_rfl) (by kernel_rfl) ?_; simp only [go_sem,uA,uB,uC,uD,uE,uF,uG,uH,uI,uJ,uK,uL,uM,uN,uO,uP,uQ])
   have hO2:∀ x v,((H++x).set u v)[h.length+3]? = _:=fun x v=>(List.getElem?_set_ne (by omega)).trans (hO' x)
   simp only [go_sem,hO,hR,hO',hR',hget2,hu',htk,hO2,uA,uB,uC,uD,uE,uF,uG,uH,uI,uJ,uK,uL,uM,uN,uO,uP,uQ]
   refine ⟨⟨by omega,by omega⟩,⟨by omega,by omega⟩,by simp [fmem,Agree,hO,hR,hO',hR',hO2], ?_⟩
   refine ⟨⟨k+1,_,by omega, ?_,by omega, ?_, ?_, ?_, ?_,.inr ⟨by omega,u,g'+1,rfl,by omega, ?_⟩⟩, ?_⟩
   ·rw [wrap_id (by omega) (by omega)]; rfl
   ·rw [List.getElem?_set_ne (by omega),List.getElem?_set_ne (by omega)]; exact hS' _
   ·rw [List.getElem?_set_ne (by omega),List.getElem?_set_ne (by omega)]; exact hR' _
   ·rw [List.getElem?_set_ne (by omega),List.getElem?_set_ne (by omega)]; exact hZ' _
   ·exact List.getElem?_set_self (by simp; omega)
   ·rw [List.getElem?_set_ne (by omega),List.getElem?_set_self (by simp; omega),hsn]
   ·rw [wrap_id (by omega) (by omega)]; omega
 ·obtain rfl:k=d.length:=by have:=of_decide_eq_false hc; omega
  rw [List.take_of_length_le (by omega)] at hG
  have hs2:∀ v,(H.set (h.length+2) v)[h.length+2]? = some v:=fun v=>List.getElem?_set_self (by omega)
  simp only [go_sem,hO,hZ,hs2,uA,uB,uC,uD,uE,uF,uG,uH,uI,uJ,uK,uL,uM,uN,uO,uP,uQ]
  rcases hG with ⟨hk0,rfl⟩ | ⟨hk0,u,g',rfl,hu0,hu⟩
  ·have hr0:r.2.1=[]:=List.length_eq_zero_iff.1 (by omega)
   refine ⟨rfl, ?_⟩
   refine Fin_freeze 5 ⟨true,false, ?_⟩
   simp only [flR,hr0,hT]
   rfl
  ·have hu2:∀ v,(H.set (h.length+2) v)[u]? = _:=fun v=>(List.getElem?_set_ne (by omega)).trans hu
   refine ⟨rfl, ?_⟩
   refine Fin_freeze 5 ⟨false,false, ?_⟩
   simp only [go_sem,hu2,uA,uB,uC,uD,uE,uF,uG,uH,uI,uJ,uK,uL,uM,uN,uO,uP,uQ]
   rw [frzO_all (by rw [strs_len]; omega) (flatS _)]
   simp only [flR,hT]
end Go.Proofs.Vale
set_option maxHeartbeats 8000000
namespace Go.Proofs.Vale
open Go.Proofs Go.Proofs.YtplehleekabbaaaGreatDoorT
attribute [local irreducible] grL grT acode aopsL aopsT dopsL dopsT pop popG aop ALoop ADraw ACall AWP AFin acondT ALoopT ADrawT ACallT doP doG doGd frL frT frX
theorem rsub_up {b:List Str}:∀ (a:List Str) (last:Int),rsub b last a=true→∀ i,(h:i < a.length)→a[i]∈b∧last+1+i≤(ix b a[i]:Int)
 | [],_,_,i,h=>by simp at h
 | x::a,last,hr,i,h=>by
  unfold rsub at hr
  split at hr
  ·rename_i hc
   cases i with
   | zero=>exact ⟨hc.1,by simp; omega⟩
   | succ i =>
    have:=rsub_up a _ hr i (by simpa using h)
    refine ⟨this.1, ?_⟩
    simp only [List.getElem_cons_succ]
    have:=this.2
    omega
  ·cases hr
theorem ix_self:∀ (l:List Str) (i:Nat),(h:i < l.length)→ix l l[i]≤i
 | [],_,h=>by simp at h
 | x::l,0,_=>by simp [ix]
 | x::l,i+1,h=>by
  have:=ix_self l i (by simpa using h)
  simp only [List.getElem_cons_succ]
  unfold ix at this ⊢
  rw [List.takeWhile_cons]
  split
  ·simp; omega
  ·simp
theorem atAll {d:List Str} (h:rsub d (-1) d=true):AtAll d:=by
 intro i hi
 obtain ⟨h1,h2⟩:=rsub_up d (-1) h i hi
 have h3:ix d d[i]≤i:=ix_self d i hi
 have h4:ix d d[i]=i:=by omega
 unfold findV
 rw [if_pos h1,h4]
def prjF (d:List Str) (g:Int) (L:List Rw):Int × List Rw:=if rsub d (-1) d=true then foldF (L.map (flR g)) else (141,[])
theorem rfold_nil (H:List AObj):ACall Tryz.prog 48 [.fz true []] H (fun r _=>r=.tup [.fz true [],.int .i64 0]):=by
 (refine ACall.of_code Tryz.func48 rfl ?_; simp only [Tryz.f48]; simp only [go_sem,uA,uB,uC,uD,uE,uF,uG,uH,uI,uJ,uK,uL,uM,uN,uO,uP,uQ])
 refine ALoop.over [2,3,4,5,6,7,8,9,10,11,12,13,14,15,16,17,18,19,20,21,22,23,24,25,26,27,28,29,30,31,32,33,34,35,36,37,38,39,40,41,42,43,44,45,46,47,48,49,50,51,52,53,54,55,56,57,58,59,60,61,62,63,64,65,66,67,68,69,70,71,72,73,74,75,76,77,78,79,80,81,82,83,84,85,86,87,88,89,90,91,92] (fun e _=>e.getD 4 .any=.fz true []∧e.getD 5 .any=.int .i64 0) (fun _ _=>0) ⟨rfl,rfl⟩ ?_
 simp only [List.length_cons,List.length_nil,Nat.reduceAdd,allL_succ,allL_zero]
 intro y2 y3 y4 y5 y6 y7 y8 y9 y10 y11 y12 y13 y14 y15 y16 y17 y18 y19 y20 y21 y22 y23 y24 y25 y26 y27 y28 y29 y30 y31 y32 y33 y34 y35 y36 y37 y38 y39 y40 y41 y42 y43 y44 y45 y46 y47 y48 y49 y50 y51 y52 y53 y54 y55 y56 y57 y58 y59 y60 y61 y62 y63 y64 y65 y66 y67 y68 y69 y70 y71 y72 y73 y74 y75 y76 y77 y78 y79 y80 y81 y82 y83 y84 y85 y86 y87 y88 y89 y90 y91 y92 H2 hI
 simp only [go_sem] at hI
 obtain ⟨rfl,rfl⟩:=hI
 have hz:((0:Nat):Int)=0:=rfl
 simp only [go_sem,hz,uA,uB,uC,uD,uE,uF,uG,uH,uI,uJ,uK,uL,uM,uN,uO,uP,uQ]
 exact Fin_plain rfl
theorem proj_ok (a1 a2 c cl : Bool) (d m : List Str) (g : Int) (L : List Rw) (h : List AObj) (hd : d.length ≤ 1000) (hm : m.length ≤ 1000) (hn : L.length ≤ 100000) (hL : ∀ r ∈ L, RowI d m r) (hg : gr g = true) :
  ACall Tryz.prog 17 [schA a1 a2 d m,.fz cl (rowsA L),.fz c (strs d),.int .i64 g] h (fun r _=>r=.tup [.fz false (rowsA (prjF d g L).2),.int .i64 (prjF d g L).1]):=by
 have hrow:=fun (hA:AtAll d) (r:Rw) (hr:r∈L) (h:List AObj)=>prow_ok a1 a2 c d m g r h hd hA (hL r hr).1 (hL r hr).2.2.2.1 (hL r hr).2.2.2.2 hg
 simp only [schA,rowA] at hrow ⊢
 suffices hs:ACall Tryz.prog 17 [.agg [.fz a1 (strs d),.fz a2 (strs m)],.fz cl (rowsA L),.fz c (strs d),.int .i64 g] h (fun r _=>∃ cc,r=.tup [.fz cc (rowsA (prjF d g L).2),.int .i64 (prjF d g L).1]) by
  refine hs.weak ?_
  rintro r H' ⟨cc,rfl⟩
  exact ⟨.tup [.fz false (rowsA (prjF d g L).2),.int .i64 (prjF d g L).1],fun β fr H v z=>rep_tup2 (fun u z=>rep_cut z) z,rfl⟩
 (refine ACall.of_code Tryz.func17 rfl ?_; simp only [Tryz.f17]; simp only [go_sem,uA,uB,uC,uD,uE,uF,uG,uH,uI,uJ,uK,uL,uM,uN,uO,uP,uQ])
 refine ACallT.by (rsubset_ok d d c a1 _ (by omega) (by omega)) ?_
 rintro _ H0 ⟨rfl,e0⟩
 rw [e0]
 clear e0 H0
 cases hr:rsub d (-1) d with
 | false =>
  simp only [go_sem,uA,uB,uC,uD,uE,uF,uG,uH,uI,uJ,uK,uL,uM,uN,uO,uP,uQ]
  refine Fin_plain ⟨true, ?_⟩
  simp [prjF,hr,rowsA]
 | true =>
  have hP:prjF d g L=foldF (L.map (flR g)):=by unfold prjF; rw [if_pos hr]
  rw [hP]
  have hA:=atAll hr
  have hrow:=hrow hA
  simp only [go_sem,uA,uB,uC,uD,uE,uF,uG,uH,uI,uJ,uK,uL,uM,uN,uO,uP,uQ]
  refine ACallT.frame (rgr_ok g _) ?_
  rintro _ _ rfl
  refine ⟨rfl, ?_⟩
  rw [hg]
  simp only [go_sem,uA,uB,uC,uD,uE,uF,uG,uH,uI,uJ,uK,uL,uM,uN,uO,uP,uQ]
  refine ALoop.over [12,13,24,25,26,27,28,29,30,31,32,33,34,35,36,37,38,39,40] (fun e H=>∃ (k:Nat) (G:AV),k≤L.length∧e.getD 13 .any=.int .i64 k∧e.getD 12 .any=G∧h.length+1≤H.length∧H[h.length]? = some (.arr 0 2 [schA a1 a2 d m])∧((k=0∧G=.fz true [])∨(0 < k∧∃ u g',G=.sl u g' 4 0 k∧h.length < u∧H[u]? = some (.arr g' 4 (rowsA ((L.take k).map (flR g))))))) (fun e _=>L.length - natA (e.getD 13 .any)) ⟨0,_,Nat.zero_le _,rfl,rfl,by simp,by simp [schA],.inl ⟨rfl,rfl⟩⟩ ?_
  simp only [List.length_cons,List.length_nil,Nat.reduceAdd,allL_succ,allL_zero]
  intro y12 y13 y24 y25 y26 y27 y28 y29 y30 y31 y32 y33 y34 y35 y36 y37 y38 y39 y40 H hI
  simp only [go_sem] at hI
  obtain ⟨k,G,hk,rfl,rfl,hHl,hS,hG⟩:=hI
  simp only [schA] at hS
  simp only [go_sem,uA,uB,uC,uD,uE,uF,uG,uH,uI,uJ,uK,uL,uM,uN,uO,uP,uQ]
  refine acond_intro (fun hc=>?_) (fun hc=>?_)
  ·have hlt:k < L.length:=by have:=of_decide_eq_true hc; omega
   have hget:=rowsA_get L k hlt
   have hrk:=hrow L[k] (List.getElem_mem _)
   have htk:((L.take k).map (flR g)).length=k:=by simp; omega
   have hsn:rowsA ((L.take (k+1)).map (flR g))=rowsA ((L.take k).map (flR g))++[rowA (flR g L[k])]:=by
    rw [List.take_succ_eq_append_getElem hlt,List.map_append,rowsA_app]; rfl
   rcases hG with ⟨hk0,rfl⟩ | ⟨hk0,u,g',rfl,hu0,hu⟩
   ·simp only [go_sem,uA,uB,uC,uD,uE,uF,uG,uH,uI,uJ,uK,uL,uM,uN,uO,uP,uQ]
    (refine ADrawT.walk3 [[0,9,10],[0],[0],[0],[0],[0],[0],[0],[0,9],[9,10],[10,11],[11]] mixedOrdersD (by kernel_rfl) (by kernel_rfl) ?_; simp only [go_sem,uA,uB,uC,uD,uE,uF,uG,uH,uI,uJ,uK,uL,uM,uN,uO,uP,uQ])
    simp only [go_sem,hS,hget,uA,uB,uC,uD,uE,uF,uG,uH,uI,uJ,uK,uL,uM,uN,uO,uP,uQ]
    refine ⟨⟨by omega,by omega⟩, ?_⟩
    refine frX_same (rowA (flR g L[k])) ?_ ?_
    ·simp only [go_sem,hS,hget,uA,uB,uC,uD,uE,uF,uG,uH,uI,uJ,uK,uL,uM,uN,uO,uP,uQ]
     exact ACallT.frame (hrk _) fun _ _ e=>by rw [e]; exact ⟨low_row _ _,rfl,rfl⟩
    generalize flR g L[k]=J at *
    simp only [rowA]
    simp only [go_sem,hS,hget,uA,uB,uC,uD,uE,uF,uG,uH,uI,uJ,uK,uL,uM,uN,uO,uP,uQ]
    refine ⟨fun q=>absurd q (by simp),fun _=>⟨by simp [fmem,Agree,hS], ?_⟩⟩
    refine ⟨⟨k+1,_,by omega, ?_,rfl,by first | omega | (simp; omega), ?_,.inr ⟨by omega,H.length+1,0,by rw [hk0],by omega, ?_⟩⟩, ?_⟩
    ·rw [wrap_id (by omega) (by omega)]; rfl
    ·rw [List.getElem?_append_left (by omega)]; exact hS
    ·rw [List.getElem?_append_right (by omega),show H.length+1 - H.length=1 by omega,hsn,show rowsA ((L.take k).map (flR g))=[] by rw [hk0]; rfl]; rfl
    ·rw [wrap_id (by omega) (by omega)]; omega
   ·have huH:=(List.getElem?_eq_some_iff.1 hu).1
    have hu':∀ x,(H++x)[u]? = _:=fun x=>(List.getElem?_append_left huH).trans hu
    simp only [go_sem,uA,uB,uC,uD,uE,uF,uG,uH,uI,uJ,uK,uL,uM,uN,uO,uP,uQ]
    (refine ADrawT.walk3 [[0,9,10],[0],[0],[0],[0],[0],[0],[0],[0,9],[9,10],[10,11],[11]] mixedOrdersD (by kernel_rfl) (by kernel_rfl) ?_; simp only [go_sem,uA,uB,uC,uD,uE,uF,uG,uH,uI,uJ,uK,uL,uM,uN,uO,uP,uQ])
    simp only [go_sem,hS,hget,uA,uB,uC,uD,uE,uF,uG,uH,uI,uJ,uK,uL,uM,uN,uO,uP,uQ]
    refine ⟨⟨by omega,by omega⟩, ?_⟩
    refine frX_same (rowA (flR g L[k])) ?_ ?_
    ·simp only [go_sem,hS,hget,uA,uB,uC,uD,uE,uF,uG,uH,uI,uJ,uK,uL,uM,uN,uO,uP,uQ]
     exact ACallT.frame (hrk _) fun _ _ e=>by rw [e]; exact ⟨low_row _ _,rfl,rfl⟩
    generalize flR g L[k]=J at *
    simp only [rowA]
    simp only [go_sem,hS,hget,hu',htk,uA,uB,uC,uD,uE,uF,uG,uH,uI,uJ,uK,uL,uM,uN,uO,uP,uQ]
    refine ⟨⟨by omega,by omega⟩,by simp [fmem,Agree,hS], ?_⟩
    refine ⟨⟨k+1,_,by omega, ?_,rfl,by first | omega | (simp; omega), ?_,.inr ⟨by omega,u,g'+1,rfl,by omega, ?_⟩⟩, ?_⟩
    ·rw [wrap_id (by omega) (by omega)]; rfl
    ·rw [List.getElem?_set_ne (by omega),List.getElem?_append_left (by omega)]; exact hS
    ·rw [List.getElem?_set_self (by simp; omega),hsn]; rfl
    ·rw [wrap_id (by omega) (by omega)]; omega
  ·obtain rfl:k=L.length:=by have:=of_decide_eq_false hc; omega
   rw [List.take_length] at hG
   rcases hG with ⟨hk0,rfl⟩ | ⟨hk0,u,g',rfl,hu0,hu⟩
   ·have hL0:L=[]:=List.length_eq_zero_iff.1 hk0
    subst hL0
    simp only [go_sem,uA,uB,uC,uD,uE,uF,uG,uH,uI,uJ,uK,uL,uM,uN,uO,uP,uQ]
    refine ACallT.frame (rfold_nil _) ?_
    rintro _ _ rfl
    refine ⟨rfl, ?_⟩
    simp only [go_sem,uA,uB,uC,uD,uE,uF,uG,uH,uI,uJ,uK,uL,uM,uN,uO,uP,uQ]
    exact Fin_plain ⟨true,rfl⟩
   ·have hfo:=rfold_fz (L.map (flR g)) d.length m.length u g' H (by simp; omega) hd hm (fun r hr=>by
     obtain ⟨x,hx,rfl⟩:=List.mem_map.1 hr
     exact ⟨(hL x hx).1,(hL x hx).2.2.1⟩) hu
    rw [List.length_map] at hfo
    simp only [go_sem,uA,uB,uC,uD,uE,uF,uG,uH,uI,uJ,uK,uL,uM,uN,uO,uP,uQ]
    refine ACallT.by hfo ?_
    rintro _ _ ⟨rfl,rfl⟩
    simp only [go_sem,uA,uB,uC,uD,uE,uF,uG,uH,uI,uJ,uK,uL,uM,uN,uO,uP,uQ]
    exact Fin_plain ⟨false,rfl⟩
end Go.Proofs.Vale
namespace Go.Proofs.Vale
open Go.Proofs Go.Proofs.YtplehleekabbaaaGreatDoorT
attribute [local irreducible] grL grT acode aopsL aopsT dopsL dopsT pop popG aop ALoop ADraw ACall AWP AFin acondT ALoopT ADrawT ACallT doP doG doGd frL frT frX
theorem fin_fl (g:Int):Fin1 (flR g):=⟨fun {a b} h=>by
 unfold keyR at h ⊢
 injection h with h1 h2
 simp only [flR]
 rw [h1,h2],fun _=>rfl⟩
theorem fl_one (g:Int) (e:Ev):flR g (ixRow 1 e)=ixRow g e:=by
 simp only [flR,ixRow]
 have:e.1 - e.1 % 1=e.1:=by omega
 rw [this]
theorem Ix.addF {d m : List Str} {Lm R : List Rw} {n : Int} {ES : List Rw} {g : Int} {e : Ev} (φ : Rw → Rw) (hφ : Fin1 φ) (h : Ix d m Lm R n ES) (hf : ∀ k, totR k (Lm.map φ) = totR k (ES.map φ)) (hg : gr g = true) (hk : checkS d m e.1 e.2.1 e.2.2 = 0) (ha : addK d m g R e = 0) :
  ∃ Lm',Ix d m Lm' (addL d m g R e) (n+1) (ES++[ixRow g e])∧∀ k,totR k (Lm'.map φ)=totR k ((ES++[ixRow g e]).map φ):=by
 obtain ⟨h1,h2⟩:=step_same e hg h.st
 have hl:∀ x∈Lm,∀ y∈Lm,x.2.1.length=y.2.1.length:=fun x hx y hy=>by rw [(h.rwn x hx).1.1,(h.rwn y hy).1.1]
 obtain ⟨r1,r2⟩:=raddK_step (g:=g) (e:=e) h.st.1 hl hk
 rw [h1,ha] at r1
 have r3:=r2 r1.symm
 have hst:stepR Lm (ixRow g e)=(0,raddL d m g Lm e):=Prod.ext r1.symm r3.symm
 obtain ⟨-,-,t3,-⟩:=stepR_tot fin_id h.st.1 h.rwn (ix_rwn hg hk) hst
 obtain ⟨-,-,t4,-⟩:=stepR_tot hφ h.st.1 h.rwn (ix_rwn hg hk) hst
 rw [ha] at h2
 refine ⟨raddL d m g Lm e,⟨h2,fun k=>?_,by rw [h.cn]; simp⟩,fun k=>?_⟩
 ·have:=t3 k
  simp only [List.map_id'] at this
  rw [this,h.tt k,tot_app,tot_one]
 ·rw [t4 k,hf k,List.map_append,tot_app]
  exact congrArg _ (tot_one k _).symm
theorem add_codes {d m : List Str} {Lm R : List Rw} {n : Int} {ES : List Rw} {g : Int} {e : Ev} (h : Ix d m Lm R n ES) (hg : gr g = true) :
  (checkS d m e.1 e.2.1 e.2.2≠0∧addK d m g R e=checkS d m e.1 e.2.1 e.2.2∧addL d m g R e=R)∨(checkS d m e.1 e.2.1 e.2.2=0∧(addK d m g R e=0∨addK d m g R e=121)):=by
 by_cases hk:checkS d m e.1 e.2.1 e.2.2=0
 ·refine .inr ⟨hk, ?_⟩
  unfold addK
  rw [hk]
  simp only [bne_self_eq_false,cond_false]
  cases hf:R.findIdx? (hasK (ixRow g e)) with
  | none=>exact .inl rfl
  | some i =>
   obtain ⟨hi,h1,_⟩:=List.findIdx?_eq_some_iff_getElem.1 hf
   have hki:keyR R[i]=keyR (ixRow g e):=by simpa [hasK] using h1
   have hl1:=(h.st.2.2.1 R[i] (h.st.2.1.symm.subset (List.getElem_mem _))).2.2.1
   have hl2:=(rowI_new (g:=g) hg hk).2.2.1
   simp only
   rw [G_lt hi]
   unfold joinC
   have e1:(bif cmpR R[i] (ixRow g e) != 0 then true else ((R[i].2.2.2.length:Int) != ((ixRow g e).2.2.2.length:Int)))=false:=by
    rw [(cmpR_eq0 _ _).2 hki,hl1,hl2]; simp
   rw [e1]
   simp only [cond_false]
   cases decide (1048576 < IntKind.i64.wrap (R[i].2.2.1+(ixRow g e).2.2.1)) with
   | true=>exact .inr rfl
   | false =>
    simp only [cond_false]
    cases (R[i].2.2.2.zip (ixRow g e).2.2.2).any joinB with
    | true=>exact .inr rfl
    | false=>exact .inl rfl
 ·have hkd:(checkS d m e.1 e.2.1 e.2.2 != 0)=true:=by simpa using hk
  have hA:addK d m g R e=checkS d m e.1 e.2.1 e.2.2:=by unfold addK; rw [hkd]; rfl
  exact .inl ⟨hk,hA,by unfold addL; rw [hA,hkd]; rfl⟩
theorem ix_key {d m:List Str} {Lm R:List Rw} {n:Int} {ES:List Rw} (h:Ix d m Lm R n ES):∀ r∈Lm,∃ x∈ES,keyR x=keyR r:=fun r hr=>by
 have h1:=totR_in' h r hr
 exact tot_some h1
where totR_in' {d m:List Str} {Lm R:List Rw} {n:Int} {ES:List Rw} (h:Ix d m Lm R n ES) (r:Rw) (hr:r∈Lm):totR (keyR r) ES=some r.2.2:=by rw [← h.tt]; exact tot_in h.st.1 hr
theorem bucket_time {d m:List Str} {Lm R:List Rw} {n:Int} {acc:List Ev} {g:Int} (h:Ix d m Lm R n (acc.map (ixRow g))) (hg:0 < g) (ht:∀ e∈acc,0≤e.1):∀ r∈Lm,r.1.tmod g=0:=fun r hr=>by
 obtain ⟨x,hx,hk⟩:=ix_key h r hr
 obtain ⟨e,he,rfl⟩:=List.mem_map.1 hx
 unfold keyR at hk
 injection hk with hk _
 have hk:e.1 - e.1 % g=r.1:=hk
 have h0:=ht e he
 have hm:=Int.emod_nonneg e.1 (show g≠0 by omega)
 have hle:e.1 % g≤e.1:=by
  have h1:=Int.mul_ediv_add_emod e.1 g
  have h2:=Int.mul_nonneg (Int.le_of_lt hg) (Int.ediv_nonneg h0 (Int.le_of_lt hg))
  omega
 rw [← hk,Int.tmod_eq_emod_of_nonneg (by omega)]
 exact Int.emod_eq_zero_of_dvd (Int.dvd_self_sub_emod)
theorem proj_same {d m:List Str} {Lx Rx Ly Ry:List Rw} {nx ny:Int} {acc:List Ev} {g:Int} (hx:Ix d m Lx Rx nx (acc.map (ixRow g))) (hy:Ix d m Ly Ry ny (acc.map (ixRow 1))) (hf:∀ k,totR k (Ly.map (flR g))=totR k ((acc.map (ixRow 1)).map (flR g))) (h0:(prjF d g Ly).1=0):(prjF d g Ly).2=Lx:=by
 unfold prjF at h0 ⊢
 split at h0
 ·rename_i hr
  rw [if_pos hr]
  have hN:∀ x∈Ly.map (flR g),RwN d.length m.length x:=fun x hx=>by
   obtain ⟨y,hy1,rfl⟩:=List.mem_map.1 hx
   exact hy.rwn y hy1
  have e:foldF (Ly.map (flR g))=(0,(foldF (Ly.map (flR g))).2):=Prod.ext h0 rfl
  obtain ⟨s1,_,s3,_⟩:=foldF_tot fin_id hN e
  refine srt_eq s1 hx.st.1 fun k=>?_
  have:=s3 k
  simp only [List.map_id'] at this
  rw [this,hf k,List.map_map,hx.tt k]
  congr 1
  exact List.map_congr_left fun e _=>fl_one g e
 ·cases h0
end Go.Proofs.Vale
