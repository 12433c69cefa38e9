/- YtplehleekabbaaaGreatDoorVCpC: a text of the proof of this claim, by its prover. -/
import Derived.Test.YtplehleekabbaaaGreatDoorVSrtP
import Derived.Test.YtplehleekabbaaaGreatDoorVRk
open Nat renaming reduceMul → uA, reduceLT → uB, reduceLeDiff → uC, reduceEqDiff → uD, reduceBEq → uE, lt_irrefl → uQ
open Int renaming toNat_natCast → uF, reduceToNat → uG, reduceNeg → uH, reduceLT → uI, reduceLE → uJ, reduceBEq → uK, reduceBNe → uL
open Bool renaming false_eq_true → uO
set_option linter.unusedVariables false
set_option linter.unusedSimpArgs false
set_option maxHeartbeats 4000000
set_option maxRecDepth 100000
namespace Go.Proofs.Vale
open Go.Proofs Go.Proofs.YtplehleekabbaaaGreatDoorT
attribute [local irreducible] acode aopsL aopsT dopsL dopsT pop popG aop ALoop ADraw ACall AWP AFin acondT ALoopT ADrawT ACallT doP doG doGd frL frT frX
theorem low_a3s (n:Nat) (l:List A3):(AV.fz false (a3s l)).low n=true:=by
 simp only [AV.low]
 induction l with
 | nil=>rfl
 | cons a l ih=>simp [a3s,a3A,lowL,AV.low] at ih ⊢; exact ih
theorem low_row (n:Nat) (r:Rw):(rowA r).low n=true:=by
 have h1:=low_a3s n r.2.2.2
 simp only [AV.low] at h1
 simp [rowA,AV.low,lowL,low_strs,h1]
theorem aclone_ok (l:List A3) (c:Bool) (h:List AObj) (hl:l.length≤2000000000000):ACall Tryz.prog 106 [.fz c (a3s l)] h (fun r h'=>(l=[]∧r=.fz true []∧h'=h)∨∃ g,r=.sl h.length g 3 0 l.length∧h'=h++[.arr g 3 (a3s l)]):=by
 (refine ACall.of_code Tryz.func106 rfl ?_; simp only [Tryz.f106]; simp only [go_sem,uA,uB,uC,uD,uE,uF,uG,uH,uI,uJ,uK,uL,uM,uN,uO,uP,uQ])
 intro b hb
 cases b with
 | true =>
  simp only [go_sem,uA,uB,uC,uD,uE,uF,uG,uH,uI,uJ,uK,uL,uM,uN,uO,uP,uQ]
  have:l=[]:=by have:=hb rfl; cases l with
   | nil=>rfl
   | cons a l=>simp [a3s] at this
  refine Fin_plain (.inl ⟨this,rfl,rfl⟩)
 | false =>
  simp only [go_sem,uA,uB,uC,uD,uE,uF,uG,uH,uI,uJ,uK,uL,uM,uN,uO,uP,uQ]
  have hall:(a3s l).all (okEl 3)=true:=by simp [a3s,a3A,okEl,AV.cells,AV.one]
  refine ⟨⟨by omega,by omega,hall⟩, ?_⟩
  refine Fin_plain (.inr ⟨1,rfl,rfl⟩)
theorem aclone_fz (l:List A3) (c:Bool) (h:List AObj) (hl:l.length≤2000000000000):ACall Tryz.prog 106 [.fz c (a3s l)] h (fun r _=>r=.fz false (a3s l)):=by
 refine ACall.any (by have:=low_a3s 0 l; simp only [AV.low] at this; simp [lowL,AV.low,this]) ?_
 refine (ACall.freeze 4 (aclone_ok l c [] hl) (K2:=fun r _=>r=.fz true (a3s l)∨r=.fz false (a3s l)) ?_).weak ?_
 ·rintro r h' (⟨rfl,rfl,rfl⟩ | ⟨g,rfl,rfl⟩)
  ·exact .inl rfl
  ·right
   simp only [frz_sl]
   exact frz_a3s rfl
 ·rintro r h' (rfl | rfl)
  ·exact ⟨.fz false (a3s l),fun β fr H v q=>rep_cut q,by simp [low_a3s],rfl⟩
  ·exact ⟨.fz false (a3s l),fun β fr H v q=>q,by simp [low_a3s],rfl⟩
theorem own_ok (r:Rw) (c1 c2:Bool) (h:List AObj) (h1:r.2.1.length≤2000000000000) (h2:r.2.2.2.length≤2000000000000):ACall Tryz.prog 74 [rowC c1 c2 r.1 r.2.1 r.2.2.1 r.2.2.2] h (fun x _=>x=rowA r):=by
 obtain ⟨t,d,n,g⟩:=r
 simp only at h1 h2
 simp only [rowC]
 (refine ACall.of_code Tryz.func74 rfl ?_; simp only [Tryz.f74]; simp only [go_sem,uA,uB,uC,uD,uE,uF,uG,uH,uI,uJ,uK,uL,uM,uN,uO,uP,uQ])
 (refine ADrawT.walk [[0],[0],[0,3],[0,3],[0,3],[3,6],[3,6],[6,8],[8],[8,10]] mixedOrdersD (by kernel_rfl) (by kernel_rfl) ?_; simp only [go_sem,uA,uB,uC,uD,uE,uF,uG,uH,uI,uJ,uK,uL,uM,uN,uO,uP,uQ])
 refine frX_same (.fz false (strs d)) ?_ ?_
 ·simp only [go_sem,uA,uB,uC,uD,uE,uF,uG,uH,uI,uJ,uK,uL,uM,uN,uO,uP,uQ]
  exact ACallT.frame (clone_fz d c1 _ (by omega)) fun _ _ e=>by rw [e]; exact ⟨by simp [AV.low,low_strs],rfl,rfl⟩
 simp only [go_sem,uA,uB,uC,uD,uE,uF,uG,uH,uI,uJ,uK,uL,uM,uN,uO,uP,uQ]
 refine frX_same (.fz false (a3s g)) ?_ ?_
 ·simp only [go_sem,uA,uB,uC,uD,uE,uF,uG,uH,uI,uJ,uK,uL,uM,uN,uO,uP,uQ]
  exact ACallT.frame (aclone_fz g c2 _ (by omega)) fun _ _ e=>by rw [e]; exact ⟨by simp [low_a3s],rfl,rfl⟩
 simp only [go_sem,uA,uB,uC,uD,uE,uF,uG,uH,uI,uJ,uK,uL,uM,uN,uO,uP,uQ]
 refine ⟨by simp [fmem,Agree], ?_⟩
 exact Fin_plain rfl
theorem values_ok (X:AV) (h:List AObj) (hX:X.sure=true) (hc:X.cells.length=1):ACall Tryz.prog 73 [X] h (fun r h'=>r=.func (.func 105) [] [.ref h.length 0 1 0 0]∧h'=h++[.arr 0 1 [X]]):=by
 (refine ACall.of_code Tryz.func73 rfl ?_; simp only [Tryz.f73]; simp only [go_sem,uA,uB,uC,uD,uE,uF,uG,uH,uI,uJ,uK,uL,uM,uN,uO,uP,uQ])
 refine ⟨hX, ?_⟩
 exact Fin_plain ⟨by rw [hc],by rw [hc]⟩
def GrowR (H:List AObj) (n k:Nat) (L:List Rw) (G:AV):Prop:=(k=0∧G=.fz true [])∨(0 < k∧∃ u g',G=.sl u g' 4 0 k∧n < u∧H[u]? = some (.arr g' 4 (rowsA L)))
theorem copy_sl (L : List Rw) (t g : Nat) (H0 : List AObj) (hn : L.length ≤ 2000000000000) (hb : ∀ r ∈ L, r.2.1.length ≤ 2000000000000 ∧ r.2.2.2.length ≤ 2000000000000) (ht : H0[t]? = some (.arr g 4 (rowsA L))) :
  ACall Tryz.prog 41 [.sl t g 4 0 L.length] H0 (fun r H'=>(∀ i,i < H0.length→H'[i]? = H0[i]?)∧((L=[]∧r=.fz true [])∨∃ u g',r=.sl u g' 4 0 L.length∧H0.length≤u∧H'[u]? = some (.arr g' 4 (rowsA L)))):=by
 have htl:t < H0.length:=(List.getElem?_eq_some_iff.1 ht).1
 (refine ACall.of_code Tryz.func41 rfl ?_; simp only [Tryz.f41]; simp only [go_sem,uA,uB,uC,uD,uE,uF,uG,uH,uI,uJ,uK,uL,uM,uN,uO,uP,uQ])
 refine ACallT.by (values_ok _ _ rfl rfl) ?_
 rintro _ _ ⟨rfl,rfl⟩
 simp only [go_sem,uA,uB,uC,uD,uE,uF,uG,uH,uI,uJ,uK,uL,uM,uN,uO,uP,uQ]
 refine rfC.intro fun as' bd' ha hb'=>?_
 refine ACallT.by ?_ (fun _ _ e=>e)
 simp only [go_sem,uA,uB,uC,uD,uE,uF,uG,uH,uI,uJ,uK,uL,uM,uN,uO,uP,uQ]
 (refine ACall.of_code Tryz.func105 rfl ?_; simp only [Tryz.f105]; simp only [go_sem,uA,uB,uC,uD,uE,uF,uG,uH,uI,uJ,uK,uL,uM,uN,uO,uP,uQ])
 obtain ⟨E,hE⟩:∃ E:List AV,E=[AV.sl t g 4 0 L.length,AV.tup [],AV.fz true [],AV.ref H0.length 0 1 0 0,AV.tup [],AV.sl t g 4 0 L.length,AV.func (Fn.func 105) [] [AV.ref (H0.length+1) 0 1 0 0],AV.tup [],AV.tup [],AV.tup [],AV.tup [],AV.tup [],AV.tup [],AV.tup []]:=⟨_,rfl⟩
 refine ALoop.over [4,7,8,9,10,11,12,13,14,15] (fun e H'=>∃ (k:Nat) (G:AV),k≤L.length∧e.getD 7 .any=.int .i64 k∧H0.length+3≤H'.length∧(∀ i,i < H0.length→H'[i]? = H0[i]?)∧H'[H0.length]? = some (.arr 0 1 [G])∧H'[H0.length+2]? = some (.loop ⟨[7]⟩ as' bd' E none)∧GrowR H' (H0.length+2) k (L.take k) G) (fun e _=>L.length - natA (e.getD 7 .any)) ⟨0,.fz true [],by omega,rfl,by simp,fun i hi=>List.getElem?_append_left hi,by simp,by rw [hE]; simp,.inl ⟨rfl,rfl⟩⟩ ?_
 simp only [List.length_cons,List.length_nil,Nat.reduceAdd,allL_succ,allL_zero]
 intro y4 y7 y8 y9 y10 y11 y12 y13 y14 y15 H hI
 simp only [go_sem] at hI
 obtain ⟨k,G,hk,rfl,hHl,hold,hG0,hlp,hG⟩:=hI
 have hT:=(hold t htl).trans ht
 have hT':∀ x,(H++x)[t]? = _:=fun x=>(List.getElem?_append_left (by omega)).trans hT
 have hG0':∀ x,(H++x)[H0.length]? = _:=fun x=>(List.getElem?_append_left (by omega)).trans hG0
 have hlp':∀ x,(H++x)[H0.length+2]? = _:=fun x=>(List.getElem?_append_left (by omega)).trans hlp
 simp only [go_sem,uA,uB,uC,uD,uE,uF,uG,uH,uI,uJ,uK,uL,uM,uN,uO,uP,uQ]
 refine acond_intro (fun hc=>?_) (fun hc=>?_)
 ·have hlt:k < L.length:=by have:=of_decide_eq_true hc; omega
  have hr:=rowsA_get L k hlt
  simp only [go_sem,hT,hr,hlp',uA,uB,uC,uD,uE,uF,uG,uH,uI,uJ,uK,uL,uM,uN,uO,uP,uQ]
  refine ⟨⟨by omega,by omega⟩,by omega,rfl,ARoundT.intro _ _ _ ha hb' ?_⟩
  subst hE
  simp only [go_sem,uA,uB,uC,uD,uE,uF,uG,uH,uI,uJ,uK,uL,uM,uN,uO,uP,uQ]
  obtain ⟨D,hD⟩:∃ D,D=(H++[AObj.arr 0 4 [AV.agg [AV.int IntKind.i64 L[k].fst,AV.fz false (strs L[k].snd.fst),AV.int IntKind.i64 L[k].snd.snd.fst,AV.fz false (a3s L[k].snd.snd.snd)]]]).set (H0.length+2) .dead:=⟨_,rfl⟩
  have hDl:D.length=H.length+1:=by rw [hD]; simp
  have hDo:∀ i,i < H.length→i≠H0.length+2→D[i]? = H[i]? := fun i h1 h2=>by rw [hD,List.getElem?_set_ne (fun q=>h2 q.symm),List.getElem?_append_left h1]
  have hDd:D[H0.length+2]? = some .dead:=by rw [hD,List.getElem?_set_self (by simp; omega)]
  rw [← hD]
  have hGD:∀ x,(D++x)[H0.length]? = some (.arr 0 1 [G]):=fun x=>by rw [List.getElem?_append_left (by omega),hDo _ (by omega) (by omega)]; exact hG0
  have hst:∀ y:AObj,(D++[y])[H.length+1]? = some y:=fun y=>by rw [← hDl]; simp
  have hset1:∀ y z:AObj,(D++[y]).set (H.length+1) z=D++[z]:=fun y z=>by rw [← hDl,List.set_append_right _ _ (Nat.le_refl _)]; simp
  simp only [go_sem,hst,hset1,uA,uB,uC,uD,uE,uF,uG,uH,uI,uJ,uK,uL,uM,uN,uO,uP,uQ]
  have ho1:=hb L[k] (List.getElem_mem _)
  rcases hG with ⟨hk0,rfl⟩ | ⟨hk0,u,g',rfl,hu0,hu⟩
  ·(refine ADrawT.walk [[0,3,4],[0],[0,3],[3,4],[4,5],[5,6]] mixedOrdersD (by kernel_rfl) (by kernel_rfl) ?_; simp only [go_sem,uA,uB,uC,uD,uE,uF,uG,uH,uI,uJ,uK,uL,uM,uN,uO,uP,uQ])
   simp only [go_sem,hGD,hst,uA,uB,uC,uD,uE,uF,uG,uH,uI,uJ,uK,uL,uM,uN,uO,uP,uQ]
   refine frX_same (rowA L[k]) ?_ ?_
   ·simp only [go_sem,uA,uB,uC,uD,uE,uF,uG,uH,uI,uJ,uK,uL,uM,uN,uO,uP,uQ]
    exact ACallT.frame (own_ok L[k] false false _ ho1.1 ho1.2) fun _ _ e=>by rw [e]; exact ⟨low_row _ _,rfl,rfl⟩
   simp only [go_sem,hGD,hst,uA,uB,uC,uD,uE,uF,uG,uH,uI,uJ,uK,uL,uM,uN,uO,uP,uQ]
   refine ⟨rfl,rfl,fun q=>absurd q (by simp),fun _=>⟨?_, ?_⟩⟩
   ·simp [fmem,Agree,hGD]
   have hDset:∀ (x:List AObj) (v w:AObj) (i:Nat),i < H.length→i≠H0.length→i≠H0.length+2→(((D++x).set H0.length v).set (H0.length+2) w)[i]? = H[i]? := fun x v w i h1 h2 h3=>by
    rw [List.getElem?_set_ne (fun q=>h3 q.symm),List.getElem?_set_ne (fun q=>h2 q.symm),List.getElem?_append_left (by omega),hDo i h1 h3]
   refine ⟨?_,⟨k+1,.sl (D.length+2) 0 4 0 1,by omega, ?_,by omega,fun i hi=>(hDset _ _ _ i (by omega) (by omega) (by omega)).trans (hold i hi), ?_, ?_,.inr ⟨by omega,D.length+2,0,by rw [hk0],by omega, ?_⟩⟩, ?_⟩
   ·rw [List.getElem?_set_ne (by omega),List.getElem?_append_left (by omega)]; exact hDd
   ·rw [wrap_id (by omega) (by omega)]; rfl
   ·rw [List.getElem?_set_ne (by omega)]; exact List.getElem?_set_self (by simp; omega)
   ·exact List.getElem?_set_self (by simp; omega)
   ·rw [List.getElem?_set_ne (by omega),List.getElem?_set_ne (by omega),List.getElem?_append_right (by omega)]
    subst hk0
    rw [show D.length+2 - D.length=2 by omega,List.take_succ_eq_append_getElem hlt]; rfl
   ·rw [wrap_id (by omega) (by omega)]; omega
  ·(refine ADrawT.walk [[0,3,4],[0],[0,3],[3,4],[4,5],[5,6]] mixedOrdersD (by kernel_rfl) (by kernel_rfl) ?_; simp only [go_sem,uA,uB,uC,uD,uE,uF,uG,uH,uI,uJ,uK,uL,uM,uN,uO,uP,uQ])
   have huH:=(List.getElem?_eq_some_iff.1 hu).1
   have huD:∀ x,(D++x)[u]? = some (.arr g' 4 (rowsA (L.take k))):=fun x=>by rw [List.getElem?_append_left (by omega),hDo _ (by omega) (by omega)]; exact hu
   simp only [go_sem,hGD,hst,uA,uB,uC,uD,uE,uF,uG,uH,uI,uJ,uK,uL,uM,uN,uO,uP,uQ]
   refine frX_same (rowA L[k]) ?_ ?_
   ·simp only [go_sem,uA,uB,uC,uD,uE,uF,uG,uH,uI,uJ,uK,uL,uM,uN,uO,uP,uQ]
    exact ACallT.frame (own_ok L[k] false false _ ho1.1 ho1.2) fun _ _ e=>by rw [e]; exact ⟨low_row _ _,rfl,rfl⟩
   have hkl:(List.take k L).length=k:=by simp; omega
   have hGDu:∀ (x:List AObj) (v:AObj),((D++x).set u v)[H0.length]? = some (.arr 0 1 [.sl u g' 4 0 k]):=fun x v=>by rw [List.getElem?_set_ne (by omega)]; exact hGD x
   simp only [go_sem,hGD,hst,huD,hkl,hGDu,uA,uB,uC,uD,uE,uF,uG,uH,uI,uJ,uK,uL,uM,uN,uO,uP,uQ]
   refine ⟨rfl,⟨by omega,by omega,rfl⟩, ?_, ?_⟩
   ·simp [fmem,Agree,hGD,hGDu]
   have hDset:∀ (x:List AObj) (y v w:AObj) (i:Nat),i < H.length→i≠u→i≠H0.length→i≠H0.length+2→((((D++x).set u y).set H0.length v).set (H0.length+2) w)[i]? = H[i]? := fun x y v w i h1 h0 h2 h3=>by
    rw [List.getElem?_set_ne (fun q=>h3 q.symm),List.getElem?_set_ne (fun q=>h2 q.symm),List.getElem?_set_ne (fun q=>h0 q.symm),List.getElem?_append_left (by omega),hDo i h1 h3]
   refine ⟨?_,⟨k+1,.sl u (g'+1) 4 0 (k+1),by omega, ?_,by omega,fun i hi=>(hDset _ _ _ _ i (by omega) (by omega) (by omega) (by omega)).trans (hold i hi), ?_, ?_,.inr ⟨by omega,u,g'+1,rfl,by omega, ?_⟩⟩, ?_⟩
   ·rw [List.getElem?_set_ne (by omega),List.getElem?_set_ne (by omega),List.getElem?_append_left (by omega)]; exact hDd
   ·rw [wrap_id (by omega) (by omega)]; rfl
   ·rw [List.getElem?_set_ne (by omega)]; exact List.getElem?_set_self (by simp; omega)
   ·exact List.getElem?_set_self (by simp; omega)
   ·rw [List.getElem?_set_ne (by omega),List.getElem?_set_ne (by omega),List.getElem?_set_self (by simp; omega),List.take_succ_eq_append_getElem hlt,rowsA_app]; rfl
   ·rw [wrap_id (by omega) (by omega)]; omega
 ·obtain rfl:k=L.length:=by have:=of_decide_eq_false hc; omega
  simp only [go_sem,uA,uB,uC,uD,uE,uF,uG,uH,uI,uJ,uK,uL,uM,uN,uO,uP,uQ]
  refine Fin_plain (rfEnd_of ?_)
  have hds:∀ v,(H.set (H0.length+2) v)[H0.length]? = _:=fun v=>(List.getElem?_set_ne (by omega)).trans hG0
  simp only [go_sem,hlp,hds,uA,uB,uC,uD,uE,uF,uG,uH,uI,uJ,uK,uL,uM,uN,uO,uP,uQ]
  have hold2:∀ i,i < H0.length→(H.set (H0.length+2) AObj.dead)[i]? = H0[i]? := fun i hi=>by rw [List.getElem?_set_ne (by omega)]; exact hold i hi
  rw [List.take_length] at hG
  rcases hG with ⟨hk0,rfl⟩ | ⟨hk0,u,g',rfl,hu0,hu⟩
  ·refine ⟨by decide, ?_⟩
   exact Fin_plain ⟨hold2,.inl ⟨List.length_eq_zero_iff.1 hk0,rfl⟩⟩
  ·refine ⟨by simp [AV.cells], ?_⟩
   exact Fin_plain ⟨hold2,.inr ⟨u,g',rfl,by omega,(List.getElem?_set_ne (by omega)).trans hu⟩⟩
end Go.Proofs.Vale
namespace Go.Proofs.Vale
open Go.Proofs Go.Proofs.YtplehleekabbaaaGreatDoorT
@[go_sem] theorem pop_entryX (P:Program) (ev:Operand→AV) (h:List AObj) (x:Operand):pop P (.entry x) ev h=none:=nrfl rfl
attribute [local irreducible] acode aopsL aopsT dopsL dopsT pop popG aop ALoop ADraw ACall AWP AFin acondT ALoopT ADrawT ACallT doP doG doGd frL frT frX
theorem nodup_lt:∀ (n:Nat) (l:List Nat),l.Nodup→(∀ x∈l,x < n)→l.length≤n:=by
 intro n
 induction n with
 | zero=>intro l _ h; cases l with
  | nil=>simp
  | cons a l=>exact absurd (h a (by simp)) (by omega)
 | succ n ih =>
  intro l hd h
  have h2:=ih (l.erase n) (hd.erase n) (fun x hx=>by
   have h3:=h x (List.mem_of_mem_erase hx)
   have h4:x≠n:=fun e=>by subst e; exact (hd.not_mem_erase) hx
   omega)
  by_cases e:n∈l
  ·rw [List.length_erase_of_mem e] at h2; omega
  ·rw [List.erase_of_not_mem e] at h2; omega
def pickR (R:List Rw) (seen:List Nat):List Rw:=seen.map (G R)
theorem pick_all {R:List Rw} {seen:List Nat} (hd:seen.Nodup) (hs:∀ i∈seen,i < R.length) (ha:∀ i,i < R.length→i∈seen):(pickR R seen).Perm R:=by
 have hp:seen.Perm (List.range R.length):=(List.perm_ext_iff_of_nodup hd List.nodup_range).2 fun a=>by
  rw [List.mem_range]; exact ⟨hs a,ha a⟩
 have:=hp.map (G R)
 refine this.trans (List.Perm.of_eq ?_)
 refine List.ext_getElem (by simp) fun i h1 h2=>?_
 simp at h1
 rw [List.getElem_map,List.getElem_range,G_lt h1]
def entR (f:Rw→Str) (R:List Rw):List (AV × AV):=R.map fun r=>(.str (f r),rowA r)
theorem ent_get (f:Rw→Str) (R:List Rw) (i:Nat) (hi:i < R.length):(entR f R).getD i (.any,.any)=(.str (f R[i]),rowA R[i]):=by
 simp [entR,List.getD_eq_getElem?_getD,hi]
theorem ent_len (f:Rw→Str) (R:List Rw):(entR f R).length=R.length:=by simp [entR]
theorem mvalues_ok (mt:Nat) (h:List AObj):ACall Tryz.prog 43 [.mp mt] h (fun r h'=>r=.func (.func 77) [] [.ref h.length 0 1 0 0]∧h'=h++[.arr 0 1 [.mp mt]]):=by
 (refine ACall.of_code Tryz.func43 rfl ?_; simp only [Tryz.f43]; simp only [go_sem,uA,uB,uC,uD,uE,uF,uG,uH,uI,uJ,uK,uL,uM,uN,uO,uP,uQ])
 exact Fin_plain ⟨rfl,rfl⟩
theorem appendSeq_ok (f : Rw → Str) (R : List Rw) (mt b : Nat) (H0 : List AObj) (hn : R.length ≤ 2000000000000) (hb : H0[b]? = some (.arr 0 1 [.mp mt])) (hm : H0[mt]? = some (.map (entR f R))) :
  ACall Tryz.prog 107 [.fz true [],.func (.func 77) [] [.ref b 0 1 0 0]] H0 (fun r H'=>(∀ i,i < H0.length→H'[i]? = H0[i]?)∧∃ R':List Rw,R'.Perm R∧((R'=[]∧r=.fz true [])∨∃ u g',r=.sl u g' 4 0 R'.length∧H0.length≤u∧H'[u]? = some (.arr g' 4 (rowsA R')))):=by
 have hbl:b < H0.length:=(List.getElem?_eq_some_iff.1 hb).1
 have hml:mt < H0.length:=(List.getElem?_eq_some_iff.1 hm).1
 (refine ACall.of_code Tryz.func107 rfl ?_; simp only [Tryz.f107]; simp only [go_sem,uA,uB,uC,uD,uE,uF,uG,uH,uI,uJ,uK,uL,uM,uN,uO,uP,uQ])
 refine rfC.intro fun as' bd' ha hb'=>?_
 refine ACallT.by ?_ (fun _ _ e=>e)
 have hb1:∀ x,(H0++x)[b]? = _:=fun x=>(List.getElem?_append_left hbl).trans hb
 have hm1:∀ x,(H0++x)[mt]? = _:=fun x=>(List.getElem?_append_left hml).trans hm
 simp only [go_sem,uA,uB,uC,uD,uE,uF,uG,uH,uI,uJ,uK,uL,uM,uN,uO,uP,uQ]
 (refine ACall.of_code Tryz.func77 rfl ?_; simp only [Tryz.f77]; simp only [go_sem,uA,uB,uC,uD,uE,uF,uG,uH,uI,uJ,uK,uL,uM,uN,uO,uP,uQ])
 simp only [go_sem,hb1,hm1,uA,uB,uC,uD,uE,uF,uG,uH,uI,uJ,uK,uL,uM,uN,uO,uP,uQ]
 obtain ⟨E,hE⟩:∃ E:List AV,E=[AV.fz true [],AV.func (Fn.func 77) [] [AV.ref b 0 1 0 0],AV.ref H0.length 0 1 0 0,AV.tup [],AV.fz true [],AV.tup [],AV.func (Fn.func 77) [] [AV.ref b 0 1 0 0],AV.tup [],AV.tup [],AV.tup [],AV.tup [],AV.tup [],AV.tup []]:=⟨_,rfl⟩
 refine ALoop.over [4,7,8,9,10,11,12,13,14] (fun e H'=>∃ (seen:List Nat) (X:AV),seen.Nodup∧(∀ i∈seen,i < R.length)∧H0.length+3≤H'.length∧(∀ i,i < H0.length→H'[i]? = H0[i]?)∧H'[H0.length]? = some (.arr 0 1 [X])∧H'[H0.length+1]? = some (.loop ⟨[7]⟩ as' bd' E none)∧H'[H0.length+2]? = some (.mit (some mt) R.length seen)∧GrowR H' (H0.length+2) seen.length (pickR R seen) X) (fun _ H'=>(match H'[H0.length+2]? with | some (.ctl (.mit _ n seen))=>n - seen.length | _=>0)) ⟨[],.fz true [],by simp,by simp,by simp,fun i hi=>List.getElem?_append_left hi,by simp,by rw [hE]; simp,by simp [ent_len],.inl ⟨rfl,rfl⟩⟩ ?_
 simp only [List.length_cons,List.length_nil,Nat.reduceAdd,allL_succ,allL_zero]
 intro y4 y7 y8 y9 y10 y11 y12 y13 y14 H hI
 obtain ⟨seen,X,hnd,hsn,hHl,hold,hX0,hlp,hit,hX⟩:=hI
 have hM:=(hold mt hml).trans hm
 simp only [go_sem,hit,hM,ent_len,uA,uB,uC,uD,uE,uF,uG,uH,uI,uJ,uK,uL,uM,uN,uO,uP,uQ]
 refine nxC_intro (fun i hi hni=>?_) (fun hall=>?_)
 ·have hr:=ent_get f R i hi
  simp only [rowA] at hr
  have hcount:seen.length < R.length:=by
   have:=nodup_lt R.length (i::seen) (List.nodup_cons.2 ⟨hni,hnd⟩) (fun x hx=>by rcases List.mem_cons.1 hx with rfl | q; exact hi; exact hsn x q)
   simp at this; omega
  rw [hr]
  obtain ⟨C,hC⟩:∃ C,C=H.set (H0.length+2) (.mit (some mt) R.length (seen++[i])):=⟨_,rfl⟩
  rw [← hC]
  have hCl:C.length=H.length:=by rw [hC]; simp
  have hCo:∀ j,j≠H0.length+2→C[j]? = H[j]? := fun j q=>by rw [hC,List.getElem?_set_ne (fun z=>q z.symm)]
  have hCi:∀ x,(C++x)[H0.length+2]? = some (.mit (some mt) R.length (seen++[i])):=fun x=>by rw [List.getElem?_append_left (by omega),hC,List.getElem?_set_self (by omega)]
  have hCi0:=hCi []
  rw [List.append_nil] at hCi0
  have hCM:C[mt]? = _:=(hCo mt (by omega)).trans hM
  have hlp':∀ x,(C++x)[H0.length+1]? = _:=fun x=>by rw [List.getElem?_append_left (by omega),hCo _ (by omega),hlp]
  simp only [go_sem,hCi0,hCM,List.getLast?_concat,hlp',hr,ent_len,uA,uB,uC,uD,uE,uF,uG,uH,uI,uJ,uK,uL,uM,uN,uO,uP,uQ]
  refine ⟨hi,rfl,ARoundT.intro _ _ _ ha hb' ?_⟩
  subst hE
  simp only [go_sem,uA,uB,uC,uD,uE,uF,uG,uH,uI,uJ,uK,uL,uM,uN,uO,uP,uQ]
  obtain ⟨D,hD⟩:∃ D,D=(C++[AObj.arr 0 4 [AV.agg [AV.int IntKind.i64 R[i].fst,AV.fz false (strs R[i].snd.fst),AV.int IntKind.i64 R[i].snd.snd.fst,AV.fz false (a3s R[i].snd.snd.snd)]]]).set (H0.length+1) .dead:=⟨_,rfl⟩
  have hDl:D.length=C.length+1:=by rw [hD]; simp
  have hDo:∀ j,j < C.length→j≠H0.length+1→D[j]? = C[j]? := fun j h1 h2=>by rw [hD,List.getElem?_set_ne (fun q=>h2 q.symm),List.getElem?_append_left h1]
  have hDd:D[H0.length+1]? = some .dead:=by rw [hD,List.getElem?_set_self (by simp; omega)]
  rw [← hD]
  have hGD:∀ x,(D++x)[H0.length]? = some (.arr 0 1 [X]):=fun x=>by rw [List.getElem?_append_left (by omega),hDo _ (by omega) (by omega),hCo _ (by omega)]; exact hX0
  have hDi:∀ x,(D++x)[H0.length+2]? = some (.mit (some mt) R.length (seen++[i])):=fun x=>by
   rw [List.getElem?_append_left (by omega),hDo _ (by omega) (by omega)]; exact hCi0
  have hst:∀ y:AObj,(D++[y])[C.length+1]? = some y:=fun y=>by rw [← hDl]; simp
  have hset1:∀ y z:AObj,(D++[y]).set (C.length+1) z=D++[z]:=fun y z=>by rw [← hDl,List.set_append_right _ _ (Nat.le_refl _)]; simp
  have hold2:∀ j,j < H0.length→D[j]? = H0[j]? := fun j hj=>by rw [hDo j (by omega) (by omega),hCo j (by omega)]; exact hold j hj
  have hpk:pickR R (seen++[i])=pickR R seen++[R[i]]:=by simp [pickR,G_lt hi]
  have hnd2:(seen++[i]).Nodup:=by
   rw [List.nodup_append]
   exact ⟨hnd,by simp,fun a h1 b h2 e=>by simp at h2; subst h2 e; exact hni h1⟩
  have hsn2:∀ j∈seen++[i],j < R.length:=by
   intro j hj
   rcases List.mem_append.1 hj with q | q
   ·exact hsn j q
   ·simp at q; subst q; exact hi
  have hsl2:(seen++[i]).length=seen.length+1:=by simp
  rcases hX with ⟨hk0,rfl⟩ | ⟨hk0,u,g',rfl,hu0,hu⟩
  ·simp only [go_sem,hst,hset1,hGD,uA,uB,uC,uD,uE,uF,uG,uH,uI,uJ,uK,uL,uM,uN,uO,uP,uQ]
   have hDset:∀ (x:List AObj) (v w:AObj) (j:Nat),j < C.length→j≠H0.length→j≠H0.length+1→(((D++x).set H0.length v).set (H0.length+1) w)[j]? = D[j]? := fun x v w j h1 h2 h3=>by
    rw [List.getElem?_set_ne (fun q=>h3 q.symm),List.getElem?_set_ne (fun q=>h2 q.symm),List.getElem?_append_left (by omega)]
   have hDi0:=hDi []
   rw [List.append_nil] at hDi0
   have hmit:∀ (x:List AObj) (v w:AObj),(((D++x).set H0.length v).set (H0.length+1) w)[H0.length+2]? = some (.mit (some mt) R.length (seen++[i])):=fun x v w=>(hDset x v w _ (by omega) (by omega) (by omega)).trans hDi0
   refine ⟨fun q=>absurd q (by simp),fun _=>⟨?_,⟨seen++[i],.sl (D.length+2) 0 4 0 1,hnd2,hsn2,by omega,fun j hj=>(hDset _ _ _ j (by omega) (by omega) (by omega)).trans (hold2 j hj), ?_, ?_,hmit _ _ _,.inr ⟨by omega,D.length+2,0,by rw [hsl2,hk0],by omega, ?_⟩⟩, ?_⟩⟩
   ·rw [List.getElem?_set_ne (by omega),List.getElem?_append_left (by omega)]; exact hDd
   ·rw [List.getElem?_set_ne (by omega)]; exact List.getElem?_set_self (by simp; omega)
   ·exact List.getElem?_set_self (by simp; omega)
   ·rw [List.getElem?_set_ne (by omega),List.getElem?_set_ne (by omega),List.getElem?_append_right (by omega)]
    rw [show D.length+2 - D.length=2 by omega,hpk,List.length_eq_zero_iff.1 hk0]; rfl
   ·rw [hmit,hit]
    show R.length - (seen++[i]).length < R.length - seen.length
    omega
  ·have huH:=(List.getElem?_eq_some_iff.1 hu).1
   have huD:∀ x,(D++x)[u]? = some (.arr g' 4 (rowsA (pickR R seen))):=fun x=>by rw [List.getElem?_append_left (by omega),hDo _ (by omega) (by omega),hCo _ (by omega)]; exact hu
   have hkl:(pickR R seen).length=seen.length:=by simp [pickR]
   have hGDu:∀ (x:List AObj) (v:AObj),((D++x).set u v)[H0.length]? = some (.arr 0 1 [.sl u g' 4 0 seen.length]):=fun x v=>by rw [List.getElem?_set_ne (by omega)]; exact hGD x
   simp only [go_sem,hst,hset1,hGD,huD,hkl,hGDu,uA,uB,uC,uD,uE,uF,uG,uH,uI,uJ,uK,uL,uM,uN,uO,uP,uQ]
   have hDset:∀ (x:List AObj) (y v w:AObj) (j:Nat),j < C.length→j≠u→j≠H0.length→j≠H0.length+1→((((D++x).set u y).set H0.length v).set (H0.length+1) w)[j]? = D[j]? := fun x y v w j h1 h0 h2 h3=>by
    rw [List.getElem?_set_ne (fun q=>h3 q.symm),List.getElem?_set_ne (fun q=>h2 q.symm),List.getElem?_set_ne (fun q=>h0 q.symm),List.getElem?_append_left (by omega)]
   have hDi0:=hDi []
   rw [List.append_nil] at hDi0
   have hmit:∀ (x:List AObj) (y v w:AObj),((((D++x).set u y).set H0.length v).set (H0.length+1) w)[H0.length+2]? = some (.mit (some mt) R.length (seen++[i])):=fun x y v w=>(hDset x y v w _ (by omega) (by omega) (by omega) (by omega)).trans hDi0
   refine ⟨⟨by omega,by omega⟩, ?_,⟨seen++[i],.sl u (g'+1) 4 0 (seen.length+1),hnd2,hsn2,by omega,fun j hj=>(hDset _ _ _ _ j (by omega) (by omega) (by omega) (by omega)).trans (hold2 j hj), ?_, ?_,hmit _ _ _ _,.inr ⟨by omega,u,g'+1,by rw [hsl2],by omega, ?_⟩⟩, ?_⟩
   ·rw [List.getElem?_set_ne (by omega),List.getElem?_set_ne (by omega),List.getElem?_append_left (by omega)]; exact hDd
   ·rw [List.getElem?_set_ne (by omega)]; exact List.getElem?_set_self (by simp; omega)
   ·exact List.getElem?_set_self (by simp; omega)
   ·rw [List.getElem?_set_ne (by omega),List.getElem?_set_ne (by omega),List.getElem?_set_self (by simp; omega),hpk,rowsA_app]; rfl
   ·rw [hmit,hit]
    show R.length - (seen++[i]).length < R.length - seen.length
    omega
 ·simp only [go_sem,uA,uB,uC,uD,uE,uF,uG,uH,uI,uJ,uK,uL,uM,uN,uO,uP,uQ]
  refine Fin_plain (rfEnd_of ?_)
  have hds:∀ v,(H.set (H0.length+1) v)[H0.length]? = _:=fun v=>(List.getElem?_set_ne (by omega)).trans hX0
  simp only [go_sem,hlp,hds,uA,uB,uC,uD,uE,uF,uG,uH,uI,uJ,uK,uL,uM,uN,uO,uP,uQ]
  have hold2:∀ i,i < H0.length→(H.set (H0.length+1) AObj.dead)[i]? = H0[i]? := fun i hi=>by rw [List.getElem?_set_ne (by omega)]; exact hold i hi
  have hperm:=pick_all hnd hsn hall
  have hpl:(pickR R seen).length=seen.length:=by simp [pickR]
  rcases hX with ⟨hk0,rfl⟩ | ⟨hk0,u,g',rfl,hu0,hu⟩
  ·refine ⟨by decide, ?_⟩
   exact Fin_plain ⟨hold2,pickR R seen,hperm,.inl ⟨List.length_eq_zero_iff.1 (by omega),rfl⟩⟩
  ·refine ⟨by simp [AV.cells], ?_⟩
   exact Fin_plain ⟨hold2,pickR R seen,hperm,.inr ⟨u,g',by rw [hpl]; rfl,by omega,(List.getElem?_set_ne (by omega)).trans hu⟩⟩
end Go.Proofs.Vale
namespace Go.Proofs.Vale
open Go.Proofs Go.Proofs.YtplehleekabbaaaGreatDoorT
attribute [local irreducible] acode aopsL aopsT dopsL dopsT pop popG aop ALoop ADraw ACall AWP AFin acondT ALoopT ADrawT ACallT doP doG doGd frL frT frX
theorem ACall.junkE {P : Program} {f : FuncId} {ar : List AV} {h : List AObj} {K K2 : AV → List AObj → Prop} (k : Nat) (a : ACall P f ar h K)
  (kk:∀ r h',K r h'→(∀ i,i < h.length→h'[i]? = h[i]?)∧∀ z,K2 (frzT (fun i=>decide (h.length≤i)) h' k r) (h++z)):ACall P f ar h K2:=by
 unfold ACall at a ⊢
 intro w β fr us L R
 refine (a w β fr us L R).mono ?_
 rintro e w' ⟨v,x,h',β',fr',rfl,hk,L',R',S'⟩
 obtain ⟨hs,hk2⟩:=kk _ _ hk
 have hle:h.length≤h'.length:=by
  rcases Nat.lt_or_ge h'.length h.length with q | q
  ·have:=hs h'.length q
   rw [List.getElem?_eq_none (Nat.le_refl _),List.getElem?_eq_getElem q] at this
   cases this
  ·exact q
 obtain ⟨z,rfl⟩:∃ z,h'=h++z:=by
  refine ⟨h'.drop h.length, ?_⟩
  have e:h'.take h.length=h:=List.ext_getElem? fun i=>by
   by_cases q:i < h.length
   ·rw [List.getElem?_take_of_lt q,hs i q]
   ·rw [List.getElem?_eq_none (by simp; omega),List.getElem?_eq_none (by omega)]
  rw [← List.take_append_drop h.length h',e]; simp
 have hk2:=hk2 (List.replicate z.length AObj.dead)
 obtain ⟨fr2,e1,e2,e3,e4,L2⟩:=step_part (w:=w') (h2:=h++List.replicate z.length AObj.dead) (fun i=>decide (h.length≤i)) L' (by simp) (fun i o ho=>by
  rw [List.getElem?_append] at ho
  split at ho
  ·rename_i q
   refine .inr ⟨by simpa using q,.inl ?_⟩
   rw [List.getElem?_append_left q]; exact ho
  ·rw [List.getElem?_replicate] at ho
   split at ho
   ·injection ho with ho; exact .inl ho.symm
   ·cases ho)
 refine ⟨v,_,_,β',fr2,rfl,hk2,L2,frzT_rep L' e1 e2 k x v R', ?_⟩
 have own:∀ b,Own (h++List.replicate z.length AObj.dead) β' b→Own (h++z) β' b:=by
  rintro b ⟨t,o,g,h1,h2,h3⟩
  rcases pad_get h1 with q | rfl
  ·exact ⟨t,o,g,by rw [List.getElem?_append_left (List.getElem?_eq_some_iff.1 q).1]; exact q,h2,h3⟩
  ·cases h2
 exact { ext := ⟨S'.ext.beta, fun b e => e1 b (S'.ext.frm b e), S'.ext.cells, S'.ext.shape⟩, os := S'.os, tape := S'.tape, output := S'.output, size := S'.size, keep := S'.keep, prov := fun b e => S'.prov b (own b e)
         frz:=fun b hb=>by
          rcases e3 b hb with q | q
          ·exact S'.frz b q
          ·rcases S'.prov b q with q | q
           ·exact .inr (.inl q)
           ·exact .inr (.inr q) }
theorem frzT_row {T:Nat→Bool} {h:List AObj} {k:Nat} (r:Rw):frzT T h (k+2) (rowA r)=rowA r:=rfl
theorem frzT_rows {T:Nat→Bool} {h:List AObj} {k t g n:Nat} {L:List Rw} (ht:h[t]? = some (.arr g 4 (rowsA L))) (hT:T t=true) (hn:n=L.length):frzT T h (k+3) (.sl t g 4 0 n)=.fz false (rowsA L):=by
 subst hn
 have e:(rowsA L).map (frzT T h (k+2))=rowsA L:=by
  simp only [rowsA,List.map_map]
  exact List.map_congr_left fun r _=>frzT_row r
 have hl:(rowsA L).length=L.length:=rowsA_len L
 unfold frzT
 rw [if_neg (by rw [hT]; decide),ht]
 simp only
 rw [if_pos ⟨trivial,trivial,by omega,fun y hy=>by
  obtain ⟨r,_,rfl⟩:=List.mem_map.1 hy
  rw [frzT_row]⟩,List.drop_zero,← hl,List.take_length,e]
theorem collect_ok (f : Rw → Str) (R : List Rw) (mt b : Nat) (H0 : List AObj) (hn : R.length ≤ 2000000000000) (hb : H0[b]? = some (.arr 0 1 [.mp mt])) (hm : H0[mt]? = some (.map (entR f R))) :
  ACall Tryz.prog 75 [.func (.func 77) [] [.ref b 0 1 0 0]] H0 (fun r H'=>(∀ i,i < H0.length→H'[i]? = H0[i]?)∧∃ R':List Rw,R'.Perm R∧((R'=[]∧r=.fz true [])∨∃ u g',r=.sl u g' 4 0 R'.length∧H0.length≤u∧H'[u]? = some (.arr g' 4 (rowsA R')))):=by
 (refine ACall.of_code Tryz.func75 rfl ?_; simp only [Tryz.f75]; simp only [go_sem,uA,uB,uC,uD,uE,uF,uG,uH,uI,uJ,uK,uL,uM,uN,uO,uP,uQ])
 refine ACallT.by (appendSeq_ok f R mt b H0 hn hb hm) ?_
 rintro r H' q
 simp only [go_sem,uA,uB,uC,uD,uE,uF,uG,uH,uI,uJ,uK,uL,uM,uN,uO,uP,uQ]
 exact Fin_plain q
theorem sortedFunc_ok (f : Rw → Str) (R : List Rw) (mt b : Nat) (H0 : List AObj) (hn : R.length ≤ 2000000000000) (hok : ∀ r ∈ R, RwOk r) (hb : H0[b]? = some (.arr 0 1 [.mp mt])) (hm : H0[mt]? = some (.map (entR f R))) :
  ACall Tryz.prog 42 [.func (.func 77) [] [.ref b 0 1 0 0],cmpF] H0 (fun r H'=>(∀ i,i < H0.length→H'[i]? = H0[i]?)∧∃ R':List Rw,R'.Perm R∧SrtR R'∧((R'=[]∧r=.fz true [])∨∃ u g',r=.sl u g' 4 0 R'.length∧H0.length≤u∧H'[u]? = some (.arr g' 4 (rowsA R')))):=by
 (refine ACall.of_code Tryz.func42 rfl ?_; simp only [Tryz.f42]; simp only [go_sem,uA,uB,uC,uD,uE,uF,uG,uH,uI,uJ,uK,uL,uM,uN,uO,uP,uQ])
 refine ACallT.by (collect_ok f R mt b H0 hn hb hm) ?_
 rintro r H1 ⟨hold,R1,hp,⟨rfl,rfl⟩ | ⟨u,g',rfl,hu0,hu⟩⟩
 ·simp only [go_sem,uA,uB,uC,uD,uE,uF,uG,uH,uI,uJ,uK,uL,uM,uN,uO,uP,uQ]
  refine ACallT.frame (sortFunc_nil _) ?_
  rintro _ _ rfl
  refine ⟨rfl, ?_⟩
  simp only [go_sem,uA,uB,uC,uD,uE,uF,uG,uH,uI,uJ,uK,uL,uM,uN,uO,uP,uQ]
  exact Fin_plain ⟨hold,[],hp,.nil,.inl ⟨rfl,rfl⟩⟩
 ·simp only [go_sem,uA,uB,uC,uD,uE,uF,uG,uH,uI,uJ,uK,uL,uM,uN,uO,uP,uQ]
  refine ACallT.by (sortFunc_ok R1 u g' H1 (by rw [hp.length_eq]; omega) (fun r hr=>hok r (hp.subset hr)) hu) ?_
  rintro _ H2 ⟨rfl,R2,hp2,hs2,hps⟩
  simp only [go_sem,uA,uB,uC,uD,uE,uF,uG,uH,uI,uJ,uK,uL,uM,uN,uO,uP,uQ]
  have hlen:H0.length≤H1.length:=by have:=(List.getElem?_eq_some_iff.1 hu).1; omega
  exact Fin_plain ⟨fun i hi=>(hps.2.1 i (by omega) (by omega)).trans (hold i hi),R2,hp2.trans hp,hs2,.inr ⟨u,g',by rw [hp2.length_eq],hu0,hps.1⟩⟩
theorem copy_nil (H:List AObj):ACall Tryz.prog 41 [.fz true []] H (fun r _=>r=.fz true []):=by
 refine ACall.any (by simp [lowL,AV.low]) ?_
 (refine ACall.of_code Tryz.func41 rfl ?_; simp only [Tryz.f41]; simp only [go_sem,uA,uB,uC,uD,uE,uF,uG,uH,uI,uJ,uK,uL,uM,uN,uO,uP,uQ])
 refine ACallT.by (values_ok _ _ rfl rfl) ?_
 rintro _ _ ⟨rfl,rfl⟩
 simp only [go_sem,uA,uB,uC,uD,uE,uF,uG,uH,uI,uJ,uK,uL,uM,uN,uO,uP,uQ]
 refine rfC.intro fun as' bd' ha hb'=>?_
 refine ACallT.by ?_ (fun _ _ e=>e)
 simp only [go_sem,uA,uB,uC,uD,uE,uF,uG,uH,uI,uJ,uK,uL,uM,uN,uO,uP,uQ]
 (refine ACall.of_code Tryz.func105 rfl ?_; simp only [Tryz.f105]; simp only [go_sem,uA,uB,uC,uD,uE,uF,uG,uH,uI,uJ,uK,uL,uM,uN,uO,uP,uQ])
 obtain ⟨E,hE⟩:∃ E:List AV,E=[AV.fz true [],AV.tup [],AV.fz true [],AV.ref 0 0 1 0 0,AV.tup [],AV.fz true [],AV.func (Fn.func 105) [] [AV.ref 1 0 1 0 0],AV.tup [],AV.tup [],AV.tup [],AV.tup [],AV.tup [],AV.tup [],AV.tup []]:=⟨_,rfl⟩
 refine ALoop.over [4,7,8,9,10,11,12,13,14,15] (fun e H'=>e.getD 7 .any=.int .i64 0∧H'[0]? = some (.arr 0 1 [.fz true []])∧H'[2]? = some (.loop ⟨[7]⟩ as' bd' E none)) (fun e _=>0) ⟨rfl,rfl,by rw [hE]; rfl⟩ ?_
 simp only [List.length_cons,List.length_nil,Nat.reduceAdd,allL_succ,allL_zero]
 intro y4 y7 y8 y9 y10 y11 y12 y13 y14 y15 H hI
 simp only [go_sem] at hI
 obtain ⟨rfl,hG0,hlp⟩:=hI
 simp only [go_sem,uA,uB,uC,uD,uE,uF,uG,uH,uI,uJ,uK,uL,uM,uN,uO,uP,uQ]
 refine acond_intro (fun hc=>absurd (of_decide_eq_true hc) (by decide)) (fun _=>?_)
 simp only [go_sem,uA,uB,uC,uD,uE,uF,uG,uH,uI,uJ,uK,uL,uM,uN,uO,uP,uQ]
 refine Fin_plain (rfEnd_of ?_)
 have hds:∀ v,(H.set 2 v)[0]? = _:=fun v=>(List.getElem?_set_ne (by omega)).trans hG0
 simp only [go_sem,hlp,hds,uA,uB,uC,uD,uE,uF,uG,uH,uI,uJ,uK,uL,uM,uN,uO,uP,uQ]
 exact Fin_plain ⟨rfl,rfl⟩
def ixO (d m:List Str) (g:Int) (mt:Nat) (n:Int):AObj:=.arr 0 5 [.agg [.fz false (strs d),.fz false (strs m),.int .i64 g,.mp mt,.int .i64 n]]
theorem irows_sl (f : Rw → Str) (R : List Rw) (d m : List Str) (g n : Int) (xt mt : Nat) (H0 : List AObj) (hn : R.length ≤ 2000000000000) (hok : ∀ r ∈ R, r.2.1.length ≤ 2000000000000 ∧ r.2.2.2.length ≤ 2000000000000) (hx : H0[xt]? = some (ixO d m g mt n)) (hm : H0[mt]? = some (.map (entR f R))) :
  ACall Tryz.prog 16 [.ref xt 0 5 0 0] H0 (fun r H'=>(∀ i,i < H0.length→H'[i]? = H0[i]?)∧∃ R':List Rw,R'.Perm R∧SrtR R'∧((R'=[]∧r=.fz true [])∨∃ u g',r=.sl u g' 4 0 R'.length∧H0.length≤u∧H'[u]? = some (.arr g' 4 (rowsA R')))):=by
 have hml:mt < H0.length:=(List.getElem?_eq_some_iff.1 hm).1
 have hm1:∀ x,(H0++x)[mt]? = _:=fun x=>(List.getElem?_append_left hml).trans hm
 simp only [ixO] at hx
 (refine ACall.of_code Tryz.func16 rfl ?_; simp only [Tryz.f16]; simp only [go_sem,uA,uB,uC,uD,uE,uF,uG,uH,uI,uJ,uK,uL,uM,uN,uO,uP,uQ])
 simp only [go_sem,hx,uA,uB,uC,uD,uE,uF,uG,uH,uI,uJ,uK,uL,uM,uN,uO,uP,uQ]
 refine ACallT.by (mvalues_ok mt _) ?_
 rintro _ _ ⟨rfl,rfl⟩
 simp only [go_sem,uA,uB,uC,uD,uE,uF,uG,uH,uI,uJ,uK,uL,uM,uN,uO,uP,uQ]
 refine ACallT.by (sortedFunc_ok f R mt H0.length _ hn (fun r hr=>by have:=hok r hr; exact ⟨by omega,by omega⟩) (by simp) (hm1 _)) ?_
 rintro r H1 ⟨hold,R1,hp,hs,⟨rfl,rfl⟩ | ⟨u,g',rfl,hu0,hu⟩⟩
 ·simp only [go_sem,uA,uB,uC,uD,uE,uF,uG,uH,uI,uJ,uK,uL,uM,uN,uO,uP,uQ]
  refine ACallT.frame (copy_nil _) ?_
  rintro _ _ rfl
  refine ⟨rfl, ?_⟩
  simp only [go_sem,uA,uB,uC,uD,uE,uF,uG,uH,uI,uJ,uK,uL,uM,uN,uO,uP,uQ]
  exact Fin_plain ⟨fun i hi=>(hold i (by simp; omega)).trans (List.getElem?_append_left hi),[],hp,hs,.inl ⟨rfl,rfl⟩⟩
 ·simp only [go_sem,uA,uB,uC,uD,uE,uF,uG,uH,uI,uJ,uK,uL,uM,uN,uO,uP,uQ]
  refine ACallT.by (copy_sl R1 u g' H1 (by rw [hp.length_eq]; omega) (fun r hr=>hok r (hp.subset hr)) hu) ?_
  have hlen:H0.length+1≤H1.length:=by have:=(List.getElem?_eq_some_iff.1 hu).1; simp at hu0; omega
  rintro r H2 ⟨hold2,q⟩
  simp only [go_sem,uA,uB,uC,uD,uE,uF,uG,uH,uI,uJ,uK,uL,uM,uN,uO,uP,uQ]
  refine Fin_plain ⟨fun i hi=>(hold2 i (by omega)).trans ((hold i (by simp; omega)).trans (List.getElem?_append_left hi)),R1,hp,hs, ?_⟩
  rcases q with ⟨e,rfl⟩ | ⟨u2,g2,rfl,hu2,hu3⟩
  ·exact .inl ⟨e,rfl⟩
  ·exact .inr ⟨u2,g2,rfl,by omega,hu3⟩
theorem irows_ok (f : Rw → Str) (R : List Rw) (d m : List Str) (g n : Int) (xt mt : Nat) (H0 : List AObj) (hn : R.length ≤ 2000000000000) (hok : ∀ r ∈ R, r.2.1.length ≤ 2000000000000 ∧ r.2.2.2.length ≤ 2000000000000) (hx : H0[xt]? = some (ixO d m g mt n)) (hm : H0[mt]? = some (.map (entR f R))) :
  ACall Tryz.prog 16 [.ref xt 0 5 0 0] H0 (fun r H'=>(∃ R',R'.Perm R∧SrtR R'∧r=.fz false (rowsA R'))∧∀ i,i < H0.length→H'[i]? = H0[i]?):=by
 have fz:ACall Tryz.prog 16 [.ref xt 0 5 0 0] H0 (fun r H'=>(∃ R' c,R'.Perm R∧SrtR R'∧r=.fz c (rowsA R'))∧∀ i,i < H0.length→H'[i]? = H0[i]?):=by
  refine ACall.junkE 3 (irows_sl f R d m g n xt mt H0 hn hok hx hm) ?_
  rintro r H' ⟨hold,R',hp,hs,q⟩
  refine ⟨hold,fun z=>⟨⟨R', ?_⟩,fun i hi=>List.getElem?_append_left hi⟩⟩
  rcases q with ⟨e,rfl⟩ | ⟨u,g',rfl,hu0,hu⟩
  ·subst e
   exact ⟨true,hp,hs,rfl⟩
  ·exact ⟨false,hp,hs,frzT_rows hu (by simpa using hu0) rfl⟩
 refine fz.weak ?_
 rintro r H' ⟨⟨R',c,hp,hs,rfl⟩,hold⟩
 exact ⟨.fz false (rowsA R'),fun β fr H v q=>rep_cut q,⟨R',hp,hs,rfl⟩,hold⟩
end Go.Proofs.Vale
