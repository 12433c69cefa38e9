/- YtplehleekabbaaaGreatDoorVFoB: a text of the proof of this claim, by its prover. -/
import Derived.Test.YtplehleekabbaaaGreatDoorVCpC
import Derived.Test.YtplehleekabbaaaGreatDoorVSrtD
open Nat renaming reduceMul → uA, reduceLT → uB, reduceLeDiff → uC, reduceEqDiff → uD, reduceBEq → uE, lt_irrefl → uQ
open Int renaming toNat_natCast → uF, reduceToNat → uG, reduceNeg → uH, reduceLT → uI, reduceLE → uJ, reduceBEq → uK, reduceBNe → uL
open Bool renaming false_eq_true → uO
set_option linter.unusedVariables false
set_option linter.unusedSimpArgs false
set_option maxHeartbeats 4000000
set_option maxRecDepth 100000
namespace Go.Proofs.Vale
open Go.Proofs Go.Proofs.YtplehleekabbaaaGreatDoorT
attribute [local irreducible] acode aopsL aopsT dopsL dopsT pop popG aop ALoop ADraw ACall AWP AFin acondT ALoopT ADrawT ACallT doP doG doGd frL frT frX
def posR (out:List Rw) (r:Rw):Nat:=(out.takeWhile fun o=>lessR o r).length
theorem posR_eq (r:Rw):∀ (out:List Rw) (k:Nat),k≤out.length→(∀ j,j < k→lessR (G out j) r=true)→(k < out.length→lessR (G out k) r=false)→k=posR out r:=by
 intro out
 induction out with
 | nil=>intro k h _ _; simp at h; subst h; rfl
 | cons a out ih =>
  intro k hk h1 h2
  cases k with
  | zero =>
   have:=h2 (by simp)
   have e:G (a::out) 0=a:=rfl
   rw [e] at this
   simp [posR,List.takeWhile_cons,this]
  | succ k =>
   have h0:=h1 0 (by omega)
   have e:G (a::out) 0=a:=rfl
   rw [e] at h0
   have:=ih k (by simpa using hk) (fun j hj=>h1 (j+1) (by omega)) (fun q=>h2 (by simpa using q))
   simp [posR,List.takeWhile_cons,h0] at this ⊢
   exact this
def stepR (out:List Rw) (r:Rw):Int × List Rw :=
 if posR out r < out.length∧keyB (G out (posR out r)) r=true then
  (if joinC (G out (posR out r)) r=0 then (0,out.take (posR out r)++joinR (G out (posR out r)) r::out.drop (posR out r+1)) else (joinC (G out (posR out r)) r,[]))
 else (0,out.take (posR out r)++r::out.drop (posR out r))
def foldS (s:Int × List Rw) (r:Rw):Int × List Rw:=if s.1=0 then stepR s.2 r else s
def foldF (L:List Rw):Int × List Rw:=L.foldl foldS (0,[])
theorem foldF_snoc (L:List Rw) (i:Nat) (hi:i < L.length):foldF (L.take (i+1))=foldS (foldF (L.take i)) L[i]:=by
 unfold foldF
 rw [List.take_succ_eq_append_getElem hi,List.foldl_append]; rfl
theorem foldS_err:∀ (L:List Rw) (s:Int × List Rw),s.1≠0→L.foldl foldS s=s:=by
 intro L
 induction L with
 | nil=>intro s _; rfl
 | cons a L ih =>
  intro s h
  rw [List.foldl_cons]
  have:foldS s a=s:=by unfold foldS; rw [if_neg h]
  rw [this]; exact ih s h
theorem foldF_err (L:List Rw) (i:Nat) (h:(foldF (L.take i)).1≠0):foldF L=foldF (L.take i):=by
 conv=>lhs; rw [← List.take_append_drop i L]
 unfold foldF at h ⊢
 rw [List.foldl_append]; exact foldS_err _ _ h
def FoOk (p q:Nat) (r:Rw):Prop:=r.2.1.length=p∧r.2.2.2.length=q
theorem keyB_cmp (a b:Rw):keyB a b=!(cmpR a b != 0):=by
 have h:=cmpR_eq0 a b
 unfold keyB
 by_cases e:cmpR a b=0
 ·have:=h.1 e
  unfold keyR at this
  injection this with e1 e2
  simp [e,e1,e2]
 ·have hk:¬ keyR a=keyR b:=fun q=>e (h.2 q)
  have:(decide (a.2.1=b.2.1) && (a.1==b.1))=false:=by
   by_cases e1:a.2.1=b.2.1
   ·by_cases e2:a.1=b.1
    ·exact absurd (by unfold keyR; rw [e1,e2]) hk
    ·simp [e2]
   ·simp [e1]
  rw [this]; simp [e]
theorem joinR_ok2 {a b:Rw} {p q:Nat} (ha:FoOk p q a) (hb:FoOk p q b) (h:joinC a b=0):FoOk p q (joinR a b):=by
 rw [joinR_ok h]
 exact ⟨ha.1,by simp only; rw [joinG_len (by rw [ha.2,hb.2]),ha.2]⟩
theorem stepR_ok {p q:Nat} {out:List Rw} {r:Rw} (ho:∀ x∈out,FoOk p q x) (hr:FoOk p q r):∀ x∈(stepR out r).2,FoOk p q x:=by
 intro x hx
 unfold stepR at hx
 have hins:∀ (k l:Nat) (y:Rw),FoOk p q y→x∈out.take k++y::out.drop l→FoOk p q x:=by
  intro k l y hy h
  rcases List.mem_append.1 h with h1 | h1
  ·exact ho x (List.mem_of_mem_take h1)
  ·rcases List.mem_cons.1 h1 with rfl | h2
   ·exact hy
   ·exact ho x (List.mem_of_mem_drop h2)
 split at hx
 ·rename_i hc
  split at hx
  ·rename_i hj
   refine hins _ _ _ (joinR_ok2 ?_ hr hj) hx
   rw [G_lt hc.1]; exact ho _ (List.getElem_mem _)
  ·simp at hx
 ·exact hins _ _ _ hr hx
theorem stepR_len (out:List Rw) (r:Rw):(stepR out r).2.length≤out.length+1:=by
 unfold stepR
 split
 ·rename_i hc
  split
  ·simp; omega
  ·simp
 ·simp; omega
end Go.Proofs.Vale
namespace Go.Proofs.Vale
open Go.Proofs Go.Proofs.YtplehleekabbaaaGreatDoorT
attribute [local irreducible] acode aopsL aopsT dopsL dopsT pop popG aop ALoop ADraw ACall AWP AFin acondT ALoopT ADrawT ACallT doP doG doGd frL frT frX
def OutR (n0:Nat) (H:List AObj) (out:List Rw) (X:AV):Prop:=(out=[]∧X=.fz true [])∨(out≠[]∧∃ u g',X=.sl u g' 4 0 out.length∧n0≤u∧H[u]? = some (.arr g' 4 (rowsA out)))
theorem rd_slT {M:List AObj} {u g' n e:Nat} {l:List AV} (hl:l.length=n) (hu:M[u]? = some (.arr g' 4 l)) (he:e≤n) (hn:0 < n):rdA M (slT u g' 4 0 (e:Int) (n:Int))=some (True,l.drop e):=by
 unfold slT
 by_cases e0:e=0
 ·subst e0
  rw [if_pos (by rfl)]
  simp only [rdA,hu]
  have:List.take n l=l:=by rw [← hl]; exact List.take_length
  simp [hl,this]
 ·rw [if_neg (by omega)]
  by_cases e1:e < n
  ·rw [if_pos (by omega)]
   simp only [rdA,hu]
   have h1:((e:Int)).toNat=e:=by omega
   have h2:((n:Int) - (e:Int)).toNat=n - e:=by omega
   rw [h1,h2]
   have h4:(True∧True∧0+e+(n - e)≤l.length)=True:=eq_true ⟨trivial,trivial,by omega⟩
   rw [h4,Nat.zero_add,List.take_of_length_le (by rw [List.length_drop]; omega)]
  ·rw [if_neg (by omega)]
   have:e=n:=by omega
   simp [rdA,this,← hl]
theorem rows_okEl (out:List Rw) (k:Nat):(List.take k (rowsA out)).all (okEl 4)=true:=by
 rw [List.all_eq_true]
 intro x hx
 obtain ⟨r,_,rfl⟩:=List.mem_map.1 (List.mem_of_mem_take hx)
 rfl
theorem rows_okEl2 (out:List Rw) (k:Nat):(List.drop k (rowsA out)).all (okEl 4)=true:=by
 rw [List.all_eq_true]
 intro x hx
 obtain ⟨r,_,rfl⟩:=List.mem_map.1 (List.mem_of_mem_drop hx)
 rfl
theorem rfold_sl (L : List Rw) (p q t g : Nat) (H0 : List AObj) (hn : L.length ≤ 1000000) (hp : p ≤ 1000) (hq : q ≤ 1000) (hL : ∀ r ∈ L, FoOk p q r) (ht : H0[t]? = some (.arr g 4 (rowsA L))) :
  ACall Tryz.prog 48 [.sl t g 4 0 L.length] H0 (fun r H'=>(∀ i,i < H0.length→H'[i]? = H0[i]?)∧H'.length≤H0.length+4 * L.length∧∃ X,r=.tup [X,.int .i64 (foldF L).1]∧OutR H0.length H' (foldF L).2 X):=by
 have htl:t < H0.length:=(List.getElem?_eq_some_iff.1 ht).1
 (refine ACall.of_code Tryz.func48 rfl ?_; simp only [Tryz.f48]; simp only [go_sem,uA,uB,uC,uD,uE,uF,uG,uH,uI,uJ,uK,uL,uM,uN,uO,uP,uQ])
 refine ALoop.over [2,3,4,5,6,7,8,9,10,11,12,13,14,15,16,17,18,19,20,21,22,23,24,25,26,27,28,29,30,31,32,33,34,35,36,37,38,39,40,41,42,43,44,45,46,47,48,49,50,51,52,53,54,55,56,57,58,59,60,61,62,63,64,65,66,67,68,69,70,71,72,73,74,75,76,77,78,79,80,81,82,83,84,85,86,87,88,89,90,91,92] (fun e H'=>∃ (i:Nat) (X:AV) (out:List Rw),e.getD 5 .any=.int .i64 i∧i≤L.length∧e.getD 4 .any=X∧foldF (L.take i)=(0,out)∧out.length≤i∧(∀ r∈out,FoOk p q r)∧(∀ i,i < H0.length→H'[i]? = H0[i]?)∧H0.length≤H'.length∧H'.length≤H0.length+4 * i∧OutR H0.length H' out X) (fun e _=>L.length - natA (e.getD 5 .any)) ⟨0,.fz true [],[],rfl,by omega,rfl,rfl,by simp,by simp,fun _ _=>rfl,Nat.le_refl _,by omega,.inl ⟨rfl,rfl⟩⟩ ?_
 simp only [List.length_cons,List.length_nil,Nat.reduceAdd,allL_succ,allL_zero]
 intro y2 y3 y4 y5 y6 y7 y8 y9 y10 y11 y12 y13 y14 y15 y16 y17 y18 y19 y20 y21 y22 y23 y24 y25 y26 y27 y28 y29 y30 y31 y32 y33 y34 y35 y36 y37 y38 y39 y40 y41 y42 y43 y44 y45 y46 y47 y48 y49 y50 y51 y52 y53 y54 y55 y56 y57 y58 y59 y60 y61 y62 y63 y64 y65 y66 y67 y68 y69 y70 y71 y72 y73 y74 y75 y76 y77 y78 y79 y80 y81 y82 y83 y84 y85 y86 y87 y88 y89 y90 y91 y92 H hI
 simp only [go_sem] at hI
 obtain ⟨i,X,out,rfl,hiL,rfl,hf,hol,hoo,hold,hHl,hHu,hX⟩:=hI
 have hT:=(hold t htl).trans ht
 have hT':∀ x,(H++x)[t]? = _:=fun x=>(List.getElem?_append_left (by omega)).trans hT
 simp only [go_sem,uA,uB,uC,uD,uE,uF,uG,uH,uI,uJ,uK,uL,uM,uN,uO,uP,uQ]
 refine acond_intro (fun hc=>?_) (fun hc=>?_)
 ·have hlt:i < L.length:=by have:=of_decide_eq_true hc; omega
  have hr:=rowsA_get L i hlt
  have hro:=hL L[i] (List.getElem_mem _)
  have hsn:=foldF_snoc L i hlt
  rw [hf] at hsn
  have hsn:foldF (L.take (i+1))=stepR out L[i]:=hsn
  rcases hX with ⟨rfl,rfl⟩ | ⟨hne,u,g',rfl,hu0,hu⟩
  ·have hst:stepR [] L[i]=(0,[L[i]]):=by simp [stepR,posR]
   rw [hst] at hsn
   simp only [go_sem,uA,uB,uC,uD,uE,uF,uG,uH,uI,uJ,uK,uL,uM,uN,uO,uP,uQ]
   refine ALoop.over [6,7,20,21,22,23,24,25,26,27,28,29,30,31,32,33,34,35,36,37,38] (fun e H'=>e.getD 6 .any=.int .i64 0∧e.getD 7 .any=.bool true∧H'=H) (fun _ _=>0) ⟨rfl,rfl,rfl⟩ ?_
   simp only [List.length_cons,List.length_nil,Nat.reduceAdd,allL_succ,allL_zero]
   intro y6 y7 y20 y21 y22 y23 y24 y25 y26 y27 y28 y29 y30 y31 y32 y33 y34 y35 y36 y37 y38 H1 hI
   simp only [go_sem] at hI
   obtain ⟨rfl,rfl,rfl⟩:=hI
   have hz:decide ((0:Int) < ((0:Nat):Int))=false:=by decide
   have hHt:H1[t]? = some (.arr g 4 (rowsA L)):=hT
   simp only [go_sem,hT,hT',hr,hz,uA,uB,uC,uD,uE,uF,uG,uH,uI,uJ,uK,uL,uM,uN,uO,uP,uQ]
   refine ⟨⟨by omega,by omega⟩,by omega, ?_⟩
   (refine ADrawT.mem [] mixedOrdersD (by kernel_rfl) (by kernel_rfl) ?_; simp only [go_sem,uA,uB,uC,uD,uE,uF,uG,uH,uI,uJ,uK,uL,uM,uN,uO,uP,uQ])
   simp only [go_sem,hT,hT',hr,hz,uA,uB,uC,uD,uE,uF,uG,uH,uI,uJ,uK,uL,uM,uN,uO,uP,uQ]
   refine ⟨by simp [okAcc], ?_⟩
   refine ⟨⟨by omega,by simp⟩,⟨by omega,by omega,by simp⟩,⟨i+1,_,[L[i]], ?_,by omega,rfl,hsn,by simp,by simpa using hro,fun j hj=>?_,by omega,by omega,.inr ⟨by simp,H1.length+1,3,rfl,by omega, ?_⟩⟩, ?_⟩
   ·rw [wrap_id (by omega) (by omega)]; rfl
   ·rw [List.getElem?_append_left (by omega)]; exact hold j hj
   ·rw [List.getElem?_append_right (by omega),show H1.length+1 - H1.length=1 by omega]; rfl
   ·rw [wrap_id (by omega) (by omega)]; omega
  ·have huH:=(List.getElem?_eq_some_iff.1 hu).1
   have hU':∀ x,(H++x)[u]? = _:=fun x=>(List.getElem?_append_left huH).trans hu
   simp only [go_sem,uA,uB,uC,uD,uE,uF,uG,uH,uI,uJ,uK,uL,uM,uN,uO,uP,uQ]
   refine ALoop.over [6,7,20,21,22,23,24,25,26,27,28,29,30,31,32,33,34,35,36,37,38] (fun e H'=>∃ (k:Nat) (b:Bool),e.getD 6 .any=.int .i64 k∧e.getD 7 .any=.bool b∧k≤out.length∧(∀ j,j < k→lessR (G out j) L[i]=true)∧(b=false→k < out.length∧lessR (G out k) L[i]=false)∧H'=H) (fun e _=>2 * (out.length - natA (e.getD 6 .any))+(match e.getD 7 .any with | .bool true=>1 | _=>0)) ⟨0,true,rfl,rfl,by omega,fun j hj=>by omega,fun q=>(by cases q),rfl⟩ ?_
   simp only [List.length_cons,List.length_nil,Nat.reduceAdd,allL_succ,allL_zero]
   intro y6 y7 y20 y21 y22 y23 y24 y25 y26 y27 y28 y29 y30 y31 y32 y33 y34 y35 y36 y37 y38 H1 hI
   simp only [go_sem] at hI
   obtain ⟨k,b,rfl,rfl,hk,hless,hb,rfl⟩:=hI
   by_cases hkl:k < out.length
   ·have hgd:decide ((k:Int) < (out.length:Int))=true:=decide_eq_true (by omega)
    have hok:=rowsA_get out k hkl
    have hGk:G out k=out[k]:=G_lt hkl
    have hoK:=hoo out[k] (List.getElem_mem _)
    cases b with
    | true =>
     simp only [go_sem,hgd,uA,uB,uC,uD,uE,uF,uG,uH,uI,uJ,uK,uL,uM,uN,uO,uP,uQ]
     (refine ADrawT.walk [[0],[0],[0],[0],[0],[0],[0],[0],[0,9],[9]] mixedOrdersD (by kernel_rfl) (by kernel_rfl) ?_; simp only [go_sem,uA,uB,uC,uD,uE,uF,uG,uH,uI,uJ,uK,uL,uM,uN,uO,uP,uQ])
     simp only [go_sem,hT,hr,hu,hok,uA,uB,uC,uD,uE,uF,uG,uH,uI,uJ,uK,uL,uM,uN,uO,uP,uQ]
     refine ⟨⟨by omega,by omega⟩,by omega,⟨by omega,by omega⟩,by omega, ?_⟩
     refine frX_same (.bool (lessR out[k] L[i])) ?_ ?_
     ·simp only [go_sem,uA,uB,uC,uD,uE,uF,uG,uH,uI,uJ,uK,uL,uM,uN,uO,uP,uQ]
      exact ACallT.frame (rless_ok out[k] L[i] _ (by have:=hoK.1; omega) (by have:=hro.1; omega)) fun _ _ q=>by rw [q]; exact ⟨rfl,rfl,rfl⟩
     simp only [go_sem,uA,uB,uC,uD,uE,uF,uG,uH,uI,uJ,uK,uL,uM,uN,uO,uP,uQ]
     refine ⟨by simp [fmem,Agree], ?_⟩
     refine acond_intro (fun hx=>?_) (fun hx=>?_)
     ·simp only [go_sem,uA,uB,uC,uD,uE,uF,uG,uH,uI,uJ,uK,uL,uM,uN,uO,uP,uQ]
      rw [hx]
      refine ⟨⟨k+1,true, ?_,rfl,by omega,fun j hj=>?_,fun q=>(by cases q)⟩, ?_⟩
      ·rw [wrap_id (by omega) (by omega)]; rfl
      ·by_cases ej:j=k
       ·subst ej; rw [hGk]; exact hx
       ·exact hless j (by omega)
      ·rw [wrap_id (by omega) (by omega)]
       show 2 * (out.length - ((k:Int)+1).toNat)+1 < 2 * (out.length - k)+1
       omega
     ·simp only [go_sem,uA,uB,uC,uD,uE,uF,uG,uH,uI,uJ,uK,uL,uM,uN,uO,uP,uQ]
      rw [hx]
      refine ⟨⟨k,false,rfl,rfl,by omega,hless,fun _=>⟨hkl,by rw [hGk]; exact hx⟩⟩, ?_⟩
      show 2 * (out.length - k)+0 < 2 * (out.length - k)+1
      omega
    | false =>
     have hlf:=(hb rfl).2
     have hpos:k=posR out L[i]:=posR_eq L[i] out k (by omega) hless (fun _=>hlf)
     simp only [go_sem,hT,hT',hr,hu,hU',hgd,uA,uB,uC,uD,uE,uF,uG,uH,uI,uJ,uK,uL,uM,uN,uO,uP,uQ]
     refine ⟨⟨by omega,by omega⟩,by omega, ?_⟩
     (refine ADrawT.mem [] mixedOrdersD (by kernel_rfl) (by kernel_rfl) ?_; simp only [go_sem,uA,uB,uC,uD,uE,uF,uG,uH,uI,uJ,uK,uL,uM,uN,uO,uP,uQ])
     simp only [go_sem,hT,hT',hr,hU',hgd,hok,uA,uB,uC,uD,uE,uF,uG,uH,uI,uJ,uK,uL,uM,uN,uO,uP,uQ]
     refine ⟨⟨by omega,by omega⟩,by omega,⟨by omega,by omega⟩,by omega, ?_⟩
     refine doX_intro (.bool (keyB out[k] L[i])) ⟨rfl,fun mm=>?_⟩ ?_
     ·simp only [go_sem,uA,uB,uC,uD,uE,uF,uG,uH,uI,uJ,uK,uL,uM,uN,uO,uP,uQ]
      refine ACallT.frame (roneKey_ok out[k] L[i] _ (by have:=hoK.1; omega) (by have:=hro.1; omega)) ?_
      rintro _ _ rfl
      exact ⟨rfl,rfl⟩
     simp only [go_sem,hT,hT',hr,hU',hgd,hok,uA,uB,uC,uD,uE,uF,uG,uH,uI,uJ,uK,uL,uM,uN,uO,uP,uQ]
     refine ⟨by simp [okAcc], ?_⟩
     refine acond_intro (fun hy=>?_) (fun hy=>?_)
     ·simp only [go_sem,uA,uB,uC,uD,uE,uF,uG,uH,uI,uJ,uK,uL,uM,uN,uO,uP,uQ]
      (refine ADrawT.walk [[0],[0],[0],[0],[0],[0],[0],[0],[0,9,13],[9,13],[9,13],[9,13,14],[0,9,13],[13,14],[14]] mixedOrdersD (by kernel_rfl) (by kernel_rfl) ?_; simp only [go_sem,uA,uB,uC,uD,uE,uF,uG,uH,uI,uJ,uK,uL,uM,uN,uO,uP,uQ])
      simp only [go_sem,hT',hr,hU',hok,uA,uB,uC,uD,uE,uF,uG,uH,uI,uJ,uK,uL,uM,uN,uO,uP,uQ]
      refine ⟨⟨by omega,by omega⟩,by omega,⟨by omega,by omega⟩,by omega, ?_⟩
      have hlo:L[i].2.2.2.length=q:=hro.2
      refine frX_same (.tup [rowA (joinR out[k] L[i]),.int .i64 (joinC out[k] L[i])]) ?_ ?_
      ·simp only [go_sem,uA,uB,uC,uD,uE,uF,uG,uH,uI,uJ,uK,uL,uM,uN,uO,uP,uQ]
       exact ACallT.frame (rrjoin_ok out[k] L[i] _ (by have:=hoK.1; omega) (by have:=hro.1; omega) (by have:=hoK.2; omega) (by omega) (by rw [hoK.2,hro.2]) (keyB_cmp _ _)) fun _ _ q=>by rw [q]; exact ⟨by simp [AV.low,lowL,low_row],rfl,rfl⟩
      have hcd:posR out L[i] < out.length∧keyB (G out (posR out L[i])) L[i]=true:=by rw [← hpos,hGk]; exact ⟨hkl,hy⟩
      by_cases hjc:joinC out[k] L[i]=0
      ·have hst:stepR out L[i]=(0,out.take k++joinR out[k] L[i]::out.drop (k+1)):=by
        unfold stepR; rw [if_pos hcd,← hpos,hGk,if_pos hjc]
       rw [hjc]
       generalize joinR out[k] L[i]=J at *
       have hrd:∀ x,rdA (H1++x) (slT u g' 4 0 ((k+1:Nat):Int) ((out.length:Nat):Int))=some (True,(rowsA out).drop (k+1)):=fun x=>rd_slT (rowsA_len out) (hU' x) (by omega) (by omega)
       have htk:(List.take k (rowsA out)).length=k:=by simp [rowsA_len]; omega
       have hdl:(List.drop (k+1) (rowsA out)).length=out.length - (k+1):=by simp [rowsA_len]
       have hall:=rows_okEl out k
       have hall2:=rows_okEl2 out (k+1)
       have hwk:IntKind.i64.wrap ((k:Int)+1)=((k+1:Nat):Int):=by rw [wrap_id (by omega) (by omega)]; rfl
       simp only [rowA]
       simp only [go_sem,hT',hr,hU',hok,uA,uB,uC,uD,uE,uF,uG,uH,uI,uJ,uK,uL,uM,uN,uO,uP,uQ]
       refine ⟨by simp [fmem,Agree,hT',hU'], ?_⟩
       simp only [go_sem,hT',hr,hU',hrd,htk,hall,hdl,hall2,hwk,uA,uB,uC,uD,uE,uF,uG,uH,uI,uJ,uK,uL,uM,uN,uO,uP,uQ]
       obtain ⟨new,hnew⟩:∃ new,new=out.take k++J::out.drop (k+1):=⟨_,rfl⟩
       rw [← hnew] at hst
       have hsl:=stepR_len out L[i]
       have hso:=stepR_ok hoo hro
       rw [hst] at hsn hsl hso
       have hsl2:new.length≤i+1:=Nat.le_trans hsl (by omega)
       have hnl:new.length=k+1+(out.length - (k+1)):=by rw [hnew,List.length_append,List.length_cons,List.length_take,List.length_drop]; omega
       have hrw:rowsA new=List.take k (rowsA out)++rowA (J)::List.drop (k+1) (rowsA out):=by rw [hnew]; unfold rowsA; rw [List.map_append,List.map_cons,List.map_take,List.map_drop]
       refine ⟨⟨by omega,by omega⟩,⟨by omega,by omega,by omega⟩,⟨by omega,by omega⟩,⟨by omega,by omega,by omega⟩,⟨by omega,by omega⟩,⟨i+1,_,new, ?_,by omega,rfl,hsn,hsl2,hso,fun j hj=>?_,by omega,by omega,.inr ⟨by rw [hnew]; simp,H1.length+2,3,by rw [hnl],by omega, ?_⟩⟩, ?_⟩
       ·rw [wrap_id (by omega) (by omega)]; rfl
       ·rw [List.getElem?_append_left (by omega)]; exact hold j hj
       ·rw [List.getElem?_append_right (by omega),show H1.length+2 - H1.length=2 by omega,hrw]; rfl
       ·rw [wrap_id (by omega) (by omega)]; omega
      ·have hst:stepR out L[i]=(joinC out[k] L[i],[]):=by
        unfold stepR; rw [if_pos hcd,← hpos,hGk,if_neg hjc]
       have hcd2:(joinC out[k] L[i] != 0)=true:=by simpa using hjc
       rw [hst] at hsn
       have hfe:foldF L=(joinC out[k] L[i],[]):=by
        rw [foldF_err L (i+1) (by rw [hsn]; exact hjc),hsn]
       rw [joinR_err (a:=out[k]) (b:=L[i]) rfl hjc]
       simp only [rowA,zeroR]
       simp only [go_sem,hT',hr,hU',hok,uA,uB,uC,uD,uE,uF,uG,uH,uI,uJ,uK,uL,uM,uN,uO,uP,uQ]
       refine ⟨by simp [fmem,Agree,hT',hU'], ?_⟩
       simp only [go_sem,hcd2,uA,uB,uC,uD,uE,uF,uG,uH,uI,uJ,uK,uL,uM,uN,uO,uP,uQ]
       rw [hfe]
       exact Fin_plain ⟨fun j hj=>by rw [List.getElem?_append_left (by omega)]; exact hold j hj,by simp; omega,_,rfl,.inl ⟨rfl,rfl⟩⟩
     ·have hst:stepR out L[i]=(0,out.take k++L[i]::out.drop k):=by
       unfold stepR; rw [← hpos,if_neg (fun q=>by rw [hGk,hy] at q; cases q.2)]
      have hrd:∀ x,rdA (H1++x) (slT u g' 4 0 ((k:Nat):Int) ((out.length:Nat):Int))=some (True,(rowsA out).drop k):=fun x=>rd_slT (rowsA_len out) (hU' x) (by omega) (by omega)
      have htk:(List.take k (rowsA out)).length=k:=by simp [rowsA_len]; omega
      have hdl:(List.drop k (rowsA out)).length=out.length - k:=by simp [rowsA_len]
      have hall:=rows_okEl out k
      have hall2:=rows_okEl2 out k
      simp only [go_sem,hT',hr,hU',hrd,htk,hall,hdl,hall2,uA,uB,uC,uD,uE,uF,uG,uH,uI,uJ,uK,uL,uM,uN,uO,uP,uQ]
      obtain ⟨new,hnew⟩:∃ new,new=out.take k++L[i]::out.drop k:=⟨_,rfl⟩
      rw [← hnew] at hst
      have hsl:=stepR_len out L[i]
      have hso:=stepR_ok hoo hro
      rw [hst] at hsn hsl hso
      have hsl2:new.length≤i+1:=Nat.le_trans hsl (by omega)
      have hnl:new.length=k+1+(out.length - k):=by rw [hnew,List.length_append,List.length_cons,List.length_take,List.length_drop]; omega
      have hrw:rowsA new=List.take k (rowsA out)++rowA (L[i])::List.drop k (rowsA out):=by rw [hnew]; unfold rowsA; rw [List.map_append,List.map_cons,List.map_take,List.map_drop]
      refine ⟨⟨by omega,by omega⟩,⟨by omega,by omega,by omega⟩,⟨by omega,by omega⟩,⟨by omega,by omega,by omega⟩,⟨by omega,by omega⟩,⟨i+1,_,new, ?_,by omega,rfl,hsn,hsl2,hso,fun j hj=>?_,by omega,by omega,.inr ⟨by rw [hnew]; simp,H1.length+1,3,by rw [hnl],by omega, ?_⟩⟩, ?_⟩
      ·rw [wrap_id (by omega) (by omega)]; rfl
      ·rw [List.getElem?_append_left (by omega)]; exact hold j hj
      ·rw [List.getElem?_append_right (by omega),show H1.length+1 - H1.length=1 by omega,hrw]; rfl
      ·rw [wrap_id (by omega) (by omega)]; omega
   ·obtain rfl:k=out.length:=by omega
    have hgd:decide ((out.length:Int) < (out.length:Int))=false:=by simp
    simp only [go_sem,hT,hT',hr,hu,hU',hgd,uA,uB,uC,uD,uE,uF,uG,uH,uI,uJ,uK,uL,uM,uN,uO,uP,uQ]
    refine ⟨⟨by omega,by omega⟩,by omega, ?_⟩
    (refine ADrawT.mem [] mixedOrdersD (by kernel_rfl) (by kernel_rfl) ?_; simp only [go_sem,uA,uB,uC,uD,uE,uF,uG,uH,uI,uJ,uK,uL,uM,uN,uO,uP,uQ])
    simp only [go_sem,hT,hT',hr,hU',hgd,uA,uB,uC,uD,uE,uF,uG,uH,uI,uJ,uK,uL,uM,uN,uO,uP,uQ]
    refine ⟨by simp [okAcc], ?_⟩
    have hrd:∀ x,rdA (H1++x) (slT u g' 4 0 ((out.length:Nat):Int) ((out.length:Nat):Int))=some (True,(rowsA out).drop out.length):=fun x=>rd_slT (rowsA_len out) (hU' x) (by omega) (List.length_pos_iff.2 hne)
    have htk:(List.take out.length (rowsA out)).length=out.length:=by simp [rowsA_len]
    have hall:=rows_okEl out out.length
    have hdr:(List.drop out.length (rowsA out))=[]:=by rw [List.drop_eq_nil_of_le (by rw [rowsA_len]; omega)]
    have hpos:out.length=posR out L[i]:=posR_eq L[i] out out.length (by omega) hless (fun q=>absurd q (by omega))
    have hst:stepR out L[i]=(0,out.take out.length++L[i]::out.drop out.length):=by
     unfold stepR; rw [← hpos,if_neg (fun q=>absurd q.1 (by omega))]
    simp only [go_sem,hrd,htk,hall,hdr,uA,uB,uC,uD,uE,uF,uG,uH,uI,uJ,uK,uL,uM,uN,uO,uP,uQ]
    obtain ⟨new,hnew⟩:∃ new,new=out.take out.length++L[i]::out.drop out.length:=⟨_,rfl⟩
    rw [← hnew] at hst
    have hsl:=stepR_len out L[i]
    have hso:=stepR_ok hoo hro
    rw [hst] at hsn hsl hso
    have hsl2:new.length≤i+1:=Nat.le_trans hsl (by omega)
    have hnl:new.length=out.length+1+(out.length - out.length):=by rw [hnew,List.length_append,List.length_cons,List.length_take,List.length_drop]; omega
    have hrw:rowsA new=List.take out.length (rowsA out)++rowA (L[i])::List.drop out.length (rowsA out):=by rw [hnew]; unfold rowsA; rw [List.map_append,List.map_cons,List.map_take,List.map_drop]
    refine ⟨⟨by omega,by omega⟩,⟨by omega,by omega⟩,⟨by omega,by omega⟩,⟨by omega,by omega⟩,⟨by omega,by omega⟩,⟨i+1,_,new, ?_,by omega,rfl,hsn,hsl2,hso,fun j hj=>?_,by omega,by omega,.inr ⟨by rw [hnew]; simp,H1.length+1,3,by rw [hnl]; simp,by omega, ?_⟩⟩, ?_⟩
    ·rw [wrap_id (by omega) (by omega)]; rfl
    ·rw [List.getElem?_append_left (by omega)]; exact hold j hj
    ·rw [List.getElem?_append_right (by omega),show H1.length+1 - H1.length=1 by omega,hrw]
     rw [hdr]; rfl
    ·rw [wrap_id (by omega) (by omega)]; omega
 ·obtain rfl:i=L.length:=by have:=of_decide_eq_false hc; omega
  rw [List.take_length] at hf
  simp only [go_sem,uA,uB,uC,uD,uE,uF,uG,uH,uI,uJ,uK,uL,uM,uN,uO,uP,uQ]
  refine Fin_plain ⟨hold,hHu,_,by rw [hf], ?_⟩
  rw [hf]; exact hX
theorem rfold_fz (L : List Rw) (p q t g : Nat) (H0 : List AObj) (hn : L.length ≤ 1000000) (hp : p ≤ 1000) (hq : q ≤ 1000) (hL : ∀ r ∈ L, FoOk p q r) (ht : H0[t]? = some (.arr g 4 (rowsA L))) :
  ACall Tryz.prog 48 [.sl t g 4 0 L.length] H0 (fun r H'=>r=.tup [.fz false (rowsA (foldF L).2),.int .i64 (foldF L).1]∧H'=H0++List.replicate (4 * L.length) .dead):=by
 refine (ACall.junk (4 * L.length) 4 (rfold_sl L p q t g H0 hn hp hq hL ht) (K2:=fun r H'=>(∃ c,r=.tup [.fz c (rowsA (foldF L).2),.int .i64 (foldF L).1])∧H'=H0++List.replicate (4 * L.length) .dead) ?_).weak ?_
 ·rintro r H' ⟨hold,hlen,X,rfl,hX⟩
  have hle:H0.length≤H'.length:=by
   rcases Nat.lt_or_ge H'.length H0.length with q | q
   ·have:=hold H'.length q
    rw [List.getElem?_eq_none (Nat.le_refl _),List.getElem?_eq_getElem q] at this
    cases this
   ·exact q
  refine ⟨H'.drop H0.length, ?_,by simp; omega, ?_,rfl⟩
  ·have e:H'.take H0.length=H0:=List.ext_getElem? fun i=>by
    by_cases q:i < H0.length
    ·rw [List.getElem?_take_of_lt q,hold i q]
    ·rw [List.getElem?_eq_none (by simp; omega),List.getElem?_eq_none (by omega)]
   conv=>lhs; rw [← List.take_append_drop H0.length H',e]
  ·rcases hX with ⟨h1,rfl⟩ | ⟨h1,u,g',rfl,h2,h3⟩
   ·rw [h1]; exact ⟨true,rfl⟩
   ·refine ⟨false, ?_⟩
    have:=frzT_rows (T:=fun i=>decide (H0.length≤i)) (k:=0) h3 (by simpa using h2) rfl
    show AV.tup [frzT _ H' 3 _,frzT _ H' 3 _]=_
    rw [this]; rfl
 ·rintro r H' ⟨⟨c,rfl⟩,hH⟩
  refine ⟨.tup [.fz false (rowsA (foldF L).2),.int .i64 (foldF L).1],fun β fr H v z=>rep_tup2 (fun u z=>rep_cut z) z,rfl,hH⟩
end Go.Proofs.Vale
