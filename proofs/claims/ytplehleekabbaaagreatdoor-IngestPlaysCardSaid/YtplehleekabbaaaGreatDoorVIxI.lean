/- YtplehleekabbaaaGreatDoorVIxI: a text of the proof of this claim, by its prover. -/
import Derived.Test.YtplehleekabbaaaGreatDoorVIxD
import Derived.Shelf.SlMaps.Clone
import Derived.Test.YtplehleekabbaaaGreatDoorVTr
open Nat renaming reduceMul → uA, reduceLT → uB, reduceLeDiff → uC, reduceEqDiff → uD, reduceBEq → uE, lt_irrefl → uQ
open Int renaming toNat_natCast → uF, reduceToNat → uG, reduceNeg → uH, reduceLT → uI, reduceLE → uJ, reduceBEq → uK, reduceBNe → uL
open Bool renaming false_eq_true → uO
set_option linter.unusedVariables false
set_option linter.unusedSimpArgs false
set_option maxHeartbeats 4000000
set_option maxRecDepth 100000
namespace Go.Proofs.Vale
open Go.Proofs Go.Proofs.YtplehleekabbaaaGreatDoorT
attribute [local irreducible] acode aopsL aopsT dopsL dopsT pop popG aop ALoop ADraw ACall AWP AFin acondT ALoopT ADrawT ACallT doP doG doGd frL frT frX
theorem lessTs_cmp:∀ (l m:List Str),l.length=m.length→lessTs l m=decide (cmpTs l m < 0):=by
 intro l
 induction l with
 | nil=>intro m h; cases m with
  | nil=>rfl
  | cons b m=>simp at h
 | cons a l ih =>
  intro m h
  cases m with
  | nil=>simp at h
  | cons b m =>
   rw [Bool.eq_iff_iff,decide_eq_true_eq]
   simp only [lessTs,cmpTs]
   by_cases e:a=b
   ·subst e
    have:cmpT a a=0:=isC_text.refl a
    have hi:=ih m (by simpa using h)
    rw [Bool.eq_iff_iff,decide_eq_true_eq] at hi
    simp only [bne_self_eq_false,cond_false,this]
    exact hi
   ·have h0:cmpT a b≠0:=fun q=>e (isC_text.eq0 a b q)
    have h1:(cmpT a b != 0)=true:=by simpa using h0
    have h2:(a != b)=true:=by simpa using e
    rw [h1,h2]
    simp only [cond_true]
    unfold cmpT
    cases h3:Op.bytesLess a b with
    | true=>simp
    | false=>cases Op.bytesLess b a <;> simp
theorem lessR_cmp {a b:Rw} (h:a.2.1.length=b.2.1.length):lessR a b=decide (cmpR a b < 0):=by
 rw [Bool.eq_iff_iff,decide_eq_true_eq]
 unfold lessR cmpR
 rw [lessTs_cmp _ _ h]
 by_cases e:a.1=b.1
 ·have:cmpI a.1 b.1=0:=by rw [e]; exact isC_int.refl _
  have h2:(a.1 != b.1)=false:=by simpa using e
  rw [this,h2]
  simp
 ·have h0:cmpI a.1 b.1≠0:=fun q=>e (isC_int.eq0 _ _ q)
  have h1:(cmpI a.1 b.1 != 0)=true:=by simpa using h0
  have h2:(a.1 != b.1)=true:=by simpa using e
  rw [h1,h2]
  simp only [cond_true,decide_eq_true_eq]
  unfold cmpI
  by_cases q:a.1 < b.1
  ·simp [q]
  ·by_cases q2:b.1 < a.1
   ·simp [q,q2]
   ·omega
theorem keyB_iff (a b:Rw):keyB a b=true↔keyR a=keyR b:=by
 rw [keyB_cmp]
 have:=cmpR_eq0 a b
 by_cases e:cmpR a b=0
 ·simp [e,this.1 e]
 ·simp only [Bool.not_eq_true',bne_eq_false_iff_eq]
  exact this
def SrtS (L:List Rw):Prop:=L.Pairwise fun a b=>cmpR a b < 0
theorem sort_uniq:∀ {A B:List Rw},SrtS A→SrtR B→B.Perm A→B=A:=by
 intro A
 induction A with
 | nil=>intro B _ _ h; exact List.perm_nil.1 h
 | cons a A ih =>
  intro B hA hB h
  cases B with
  | nil=>exact absurd h.symm (by simp)
  | cons b B =>
   have hA1:=List.pairwise_cons.1 hA
   have hB1:=List.pairwise_cons.1 hB
   have hab:b=a:=by
    have hb:b∈a::A:=h.subset (by simp)
    rcases List.mem_cons.1 hb with q | q
    ·exact q
    ·have ha:a∈b::B:=h.symm.subset (by simp)
     rcases List.mem_cons.1 ha with q2 | q2
     ·exact q2.symm
     ·have h1:=hA1.1 b q
      have h2:=hB1.1 a q2
      rw [cmpR_flip] at h2; omega
   subst hab
   rw [ih hA1.2 hB1.2 (List.perm_cons b |>.1 h)]
theorem SrtS_get {L:List Rw} (h:SrtS L) {i j:Nat} (hi:i < j) (hj:j < L.length):cmpR (G L i) (G L j) < 0:=by
 have:=List.pairwise_iff_getElem.1 h i j (by omega) hj hi
 rwa [G_lt (by omega),G_lt hj]
theorem SrtS_of {L:List Rw} (h:∀ i j,i < j→j < L.length→cmpR (G L i) (G L j) < 0):SrtS L :=
 List.pairwise_iff_getElem.2 fun i j hi hj hij=>by
  have:=h i j hij hj
  rwa [G_lt hi,G_lt hj] at this
theorem posR_key {L:List Rw} {r:Rw} (h:SrtS L) (hl:∀ x∈L,x.2.1.length=r.2.1.length) {j:Nat} (hj:j < L.length) (hk:keyR (G L j)=keyR r):posR L r=j:=by
 refine (posR_eq r L j (by omega) (fun i hi=>?_) (fun _=>?_)).symm
 ·rw [G_lt (by omega),lessR_cmp (hl _ (List.getElem_mem _))]
  have:=SrtS_get h hi hj
  rw [G_lt (by omega)] at this
  rw [cmpR_key _ _ _ _ rfl hk] at this
  exact decide_eq_true this
 ·rw [G_lt hj,lessR_cmp (hl _ (List.getElem_mem _))]
  rw [G_lt hj] at hk
  have:=(cmpR_eq0 _ _).2 hk
  exact decide_eq_false (by omega)
theorem posR_low {L:List Rw} {r:Rw}:∀ i,i < posR L r→lessR (G L i) r=true:=by
 induction L with
 | nil=>intro i h; simp [posR] at h
 | cons a L ih =>
  intro i h
  cases ha:lessR a r with
  | true =>
   cases i with
   | zero=>exact ha
   | succ i =>
    have:posR (a::L) r=posR L r+1:=by simp [posR,List.takeWhile_cons,ha]
    exact ih i (by omega)
  | false=>simp [posR,List.takeWhile_cons,ha] at h
theorem posR_le (L:List Rw) (r:Rw):posR L r≤L.length:=by
 unfold posR
 exact (List.takeWhile_sublist _).length_le
theorem posR_at {L:List Rw} {r:Rw}:posR L r < L.length→lessR (G L (posR L r)) r=false:=by
 induction L with
 | nil=>intro h; simp [posR] at h
 | cons a L ih =>
  intro h
  cases ha:lessR a r with
  | true =>
   have e:posR (a::L) r=posR L r+1:=by simp [posR,List.takeWhile_cons,ha]
   rw [e] at h ⊢
   exact ih (by simpa using h)
  | false =>
   have e:posR (a::L) r=0:=by simp [posR,List.takeWhile_cons,ha]
   rw [e]; exact ha
theorem insert_srt {L:List Rw} {r:Rw} (h:SrtS L) (hl:∀ x∈L,x.2.1.length=r.2.1.length) (hn:∀ x∈L,keyR x≠keyR r):SrtS (L.take (posR L r)++r::L.drop (posR L r)):=by
 have hpl:=posR_le L r
 have lo:∀ x∈L.take (posR L r),cmpR x r < 0:=by
  intro x hx
  obtain ⟨i,hi,rfl⟩:=List.getElem_of_mem hx
  simp at hi
  have h1:=posR_low (L:=L) (r:=r) i (by omega)
  rw [G_lt (by omega),lessR_cmp (hl _ (List.getElem_mem _))] at h1
  simp only [List.getElem_take]
  exact of_decide_eq_true h1
 have hi0:posR L r < L.length→cmpR r (G L (posR L r)) < 0:=by
  intro q
  have h1:=posR_at q
  rw [G_lt q,lessR_cmp (hl _ (List.getElem_mem _))] at h1
  have h2:=of_decide_eq_false h1
  have h3:cmpR L[posR L r] r≠0:=fun z=>hn _ (List.getElem_mem _) ((cmpR_eq0 _ _).1 z)
  rw [G_lt q,cmpR_flip]; omega
 have hi:∀ x∈L.drop (posR L r),cmpR r x < 0:=by
  intro x hx
  obtain ⟨i,hi,rfl⟩:=List.getElem_of_mem hx
  simp at hi
  have h1:=hi0 (by omega)
  simp only [List.getElem_drop]
  cases i with
  | zero=>rw [G_lt (by omega)] at h1; exact h1
  | succ i =>
   have h2:=SrtS_get h (show posR L r < posR L r+(i+1) by omega) (by omega)
   rw [G_lt (show posR L r+(i+1) < L.length by omega)] at h2
   exact cmpR_lt _ _ _ h1 h2
 have ht:(L.take (posR L r)).Pairwise fun a b=>cmpR a b < 0:=h.sublist (List.take_sublist _ _)
 have hd:(L.drop (posR L r)).Pairwise fun a b=>cmpR a b < 0:=h.sublist (List.drop_sublist _ _)
 refine List.pairwise_append.2 ⟨ht,List.pairwise_cons.2 ⟨hi,hd⟩,fun a ha b hb=>?_⟩
 rcases List.mem_cons.1 hb with rfl | q
 ·exact lo a ha
 ·exact cmpR_lt _ _ _ (lo a ha) (hi b q)
theorem set_srt {L:List Rw} {j:Nat} {J:Rw} (h:SrtS L) (hj:j < L.length) (hk:keyR J=keyR (G L j)):SrtS (L.set j J):=by
 refine SrtS_of fun a b h1 h2=>?_
 have hg:∀ x,keyR (G (L.set j J) x)=keyR (G L x):=by
  intro x
  by_cases e:x=j
  ·subst e
   unfold G at hk ⊢
   rw [List.getD_eq_getElem?_getD,List.getElem?_set_self hj]
   simpa using hk
  ·unfold G
   rw [List.getD_eq_getElem?_getD,List.getElem?_set_ne (fun q=>e q.symm),← List.getD_eq_getElem?_getD]
 rw [cmpR_key _ _ _ _ (hg a) (hg b)]
 exact SrtS_get h h1 (by simpa using h2)
theorem foldF_srt {L:List Rw} (h:SrtS L) (hl:∀ x∈L,∀ y∈L,x.2.1.length=y.2.1.length):foldF L=(0,L):=by
 have:∀ i,i≤L.length→foldF (L.take i)=(0,L.take i):=by
  intro i
  induction i with
  | zero=>intro _; rfl
  | succ i ih =>
   intro hi
   have hil:i < L.length:=by omega
   rw [foldF_snoc L i hil,ih (by omega)]
   have hlen:(L.take i).length=i:=by simp; omega
   have hp:posR (L.take i) L[i]=i:=by
    refine (posR_eq L[i] (L.take i) i (by omega) (fun j hj=>?_) (fun q=>by omega)).symm
    have h1:=SrtS_get h hj hil
    rw [G_lt (by omega),G_lt hil] at h1
    rw [G_lt (by omega)]
    simp only [List.getElem_take]
    rw [lessR_cmp (hl _ (List.getElem_mem _) _ (List.getElem_mem _))]
    exact decide_eq_true h1
   show stepR (L.take i) L[i]=_
   unfold stepR
   rw [hp,if_neg (fun q=>by omega),List.take_take,Nat.min_self,List.drop_eq_nil_of_le (by omega),List.take_succ_eq_append_getElem hil]
 have h2:=this L.length (Nat.le_refl _)
 rwa [List.take_length] at h2
end Go.Proofs.Vale
namespace Go.Proofs.Vale
open Go.Proofs Go.Proofs.YtplehleekabbaaaGreatDoorT
attribute [local irreducible] acode aopsL aopsT dopsL dopsT pop popG aop ALoop ADraw ACall AWP AFin acondT ALoopT ADrawT ACallT doP doG doGd frL frT frX
theorem key_uniq {L:List Rw} (h:SrtS L) {x y:Rw} (hx:x∈L) (hy:y∈L) (hk:keyR x=keyR y):x=y:=by
 obtain ⟨i,hi,rfl⟩:=List.getElem_of_mem hx
 obtain ⟨j,hj,rfl⟩:=List.getElem_of_mem hy
 have h0:=(cmpR_eq0 _ _).2 hk
 rcases Nat.lt_trichotomy i j with q | q | q
 ·have:=SrtS_get h q hj
  rw [G_lt hi,G_lt hj] at this; omega
 ·subst q; rfl
 ·have:=SrtS_get h q hi
  rw [G_lt hi,G_lt hj,cmpR_flip] at this; omega
theorem set_cut {L:List Rw} {j:Nat} (J:Rw) (hj:j < L.length):L.set j J=L.take j++J::L.drop (j+1):=by
 rw [List.set_eq_take_append_cons_drop,if_pos hj]
theorem set_perm2 {L M:List Rw} {i j:Nat} (J:Rw) (hp:L.Perm M) (hj:j < L.length) (hi:i < M.length) (he:L[j]=M[i]):(L.set j J).Perm (M.set i J):=by
 rw [set_cut J hj,set_cut J hi]
 refine List.perm_middle.trans (List.Perm.trans (List.Perm.cons J ?_) List.perm_middle.symm)
 have h1:L.Perm (L[j]::(L.take j++L.drop (j+1))):=by
  have:L=L.take j++L[j]::L.drop (j+1):=by simp
  conv=>lhs; rw [this]
  exact List.perm_middle
 have h2:M.Perm (M[i]::(M.take i++M.drop (i+1))):=by
  have:M=M.take i++M[i]::M.drop (i+1):=by simp
  conv=>lhs; rw [this]
  exact List.perm_middle
 have h3:=h1.symm.trans (hp.trans h2)
 rw [he] at h3
 exact (List.perm_cons _).1 h3
def cntR (L:List Rw):Int:=(L.map fun r=>r.2.2.1).sum
theorem cnt_app (A B:List Rw):cntR (A++B)=cntR A+cntR B:=by simp [cntR]
theorem cnt_cons (a:Rw) (B:List Rw):cntR (a::B)=a.2.2.1+cntR B:=by simp [cntR]
theorem cnt_perm {A B:List Rw} (h:A.Perm B):cntR A=cntR B:=by
 induction h with
 | nil=>rfl
 | cons x _ ih=>rw [cnt_cons,cnt_cons,ih]
 | swap x y l=>rw [cnt_cons,cnt_cons,cnt_cons,cnt_cons]; omega
 | trans _ _ h1 h2=>exact h1.trans h2
def StepS (d m:List Str) (Lm R:List Rw) (n:Int):Prop:=SrtS Lm∧Lm.Perm R∧(∀ r∈Lm,RowI d m r)∧(∀ r∈Lm,1≤r.2.2.1∧r.2.2.1≤1048576)∧cntR Lm=n
theorem joinC_cnt {a b:Rw} (h:joinC a b=0):IntKind.i64.wrap (a.2.2.1+b.2.2.1)≤1048576:=by
 unfold joinC at h
 cases h1:(bif cmpR a b != 0 then true else ((a.2.2.2.length:Int) != (b.2.2.2.length:Int))) with
 | true=>rw [h1] at h; cases h
 | false =>
  rw [h1] at h
  simp only [cond_false] at h
  cases h2:decide (1048576 < IntKind.i64.wrap (a.2.2.1+b.2.2.1)) with
  | true=>rw [h2] at h; cases h
  | false=>have:=of_decide_eq_false h2; omega
theorem step_same {d m : List Str} {Lm R : List Rw} {n g : Int} (e : Ev) (hg : gr g = true) (h : StepS d m Lm R n) :
  raddK d m g Lm e=addK d m g R e∧StepS d m (raddL d m g Lm e) (addL d m g R e) (bif addK d m g R e != 0 then n else n+1):=by
 obtain ⟨hs,hp,hI,hc,hn⟩:=h
 by_cases hk:checkS d m e.1 e.2.1 e.2.2=0
 ·have hrI:=rowI_new (g:=g) hg hk
  obtain ⟨r,hr⟩:∃ r,r=ixRow g e:=⟨_,rfl⟩
  have hr1:r.2.2.1=1:=by rw [hr]; rfl
  rw [← hr] at hrI
  have hl:∀ x∈Lm,x.2.1.length=r.2.1.length:=fun x hx=>by rw [(hI x hx).1,hrI.1]
  have hF:foldF (Lm++[r])=stepR Lm r:=by
   have:=foldF_srt hs fun x hx y hy=>by rw [(hI x hx).1,(hI y hy).1]
   unfold foldF at this ⊢
   rw [List.foldl_append,this]; rfl
  have hA:addK d m g R e=match R.findIdx? (hasK r) with | none=>0 | some i=>joinC (G R i) r:=by
   unfold addK; rw [hk,hr]; rfl
  have hB:raddK d m g Lm e=(stepR Lm r).1:=by unfold raddK; rw [hk,← hr,hF]; rfl
  have hLA:addL d m g R e=bif addK d m g R e != 0 then R else match R.findIdx? (hasK r) with | none=>R++[r] | some i=>R.set i (joinR (G R i) r):=by
   unfold addL; rw [hr]; rfl
  have hLB:raddL d m g Lm e=bif raddK d m g Lm e != 0 then Lm else (stepR Lm r).2:=by
   unfold raddL; rw [← hr,hF]
  by_cases hex:∃ s∈Lm,keyR s=keyR r
  ·obtain ⟨s,hsm,hsk⟩:=hex
   obtain ⟨j,hj,hjs⟩:=List.getElem_of_mem hsm
   have hkj:keyR (G Lm j)=keyR r:=by rw [G_lt hj,hjs]; exact hsk
   have hpos:=posR_key hs hl hj hkj
   cases hf:R.findIdx? (hasK r) with
   | none =>
    have:=List.findIdx?_eq_none_iff.1 hf s (hp.subset hsm)
    simp [hasK,hsk] at this
   | some i =>
    obtain ⟨hi,h1,_⟩:=List.findIdx?_eq_some_iff_getElem.1 hf
    have hki:keyR R[i]=keyR r:=by simpa [hasK] using h1
    have hRi:R[i]=Lm[j]:=key_uniq hs (hp.symm.subset (List.getElem_mem _)) (List.getElem_mem _) (by rw [hki,hjs]; exact hsk.symm)
    have hGi:G R i=Lm[j]:=by rw [G_lt hi]; exact hRi
    have hGj:G Lm j=Lm[j]:=G_lt hj
    have hcond:posR Lm r < Lm.length∧keyB (G Lm (posR Lm r)) r=true:=by rw [hpos]; exact ⟨hj,(keyB_iff _ _).2 hkj⟩
    have hsI:=hI Lm[j] (List.getElem_mem _)
    have hsc:=hc Lm[j] (List.getElem_mem _)
    by_cases hjc:joinC Lm[j] r=0
    ·have hst:stepR Lm r=(0,Lm.set j (joinR Lm[j] r)):=by
      unfold stepR; rw [if_pos hcond,hpos,hGj,if_pos hjc,set_cut _ hj]
     have hA0:addK d m g R e=0:=by rw [hA,hf]; simp only [hGi]; exact hjc
     rw [hLA,hLB,hB,hA0,hst,hf]
     simp only [hGi]
     refine ⟨trivial, ?_⟩
     have hJk:keyR (joinR Lm[j] r)=keyR (G Lm j):=by rw [hGj]; exact joinR_key hjc
     have hJ:(joinR Lm[j] r).2.2.1=Lm[j].2.2.1+1:=by
      rw [joinR_ok hjc]
      show IntKind.i64.wrap (Lm[j].2.2.1+r.2.2.1)=_
      rw [hr1,wrap_id (by omega) (by omega)]
     have hJ2:=joinC_cnt hjc
     rw [hr1,wrap_id (by omega) (by omega)] at hJ2
     have hJI:RowI d m (joinR Lm[j] r):=by
      rw [joinR_ok hjc]
      refine ⟨hsI.1,hsI.2.1, ?_,hsI.2.2.2⟩
      show (joinG Lm[j].2.2.2 r.2.2.2).length=_
      rw [joinG_len (by rw [hsI.2.2.1,hrI.2.2.1]),hsI.2.2.1]
     have hmem:∀ x∈Lm.set j (joinR Lm[j] r),x∈Lm∨x=joinR Lm[j] r:=fun x hx=>by
      rcases List.mem_or_eq_of_mem_set hx with q | q
      ·exact .inl q
      ·exact .inr q
     refine ⟨set_srt hs hj hJk,set_perm2 _ hp hj hi hRi.symm,fun x hx=>?_,fun x hx=>?_, ?_⟩
     ·rcases hmem x hx with q | rfl
      ·exact hI x q
      ·exact hJI
     ·rcases hmem x hx with q | rfl
      ·exact hc x q
      ·rw [hJ]; omega
     ·have e1:Lm=Lm.take j++Lm[j]::Lm.drop (j+1):=by simp
      have e2:cntR Lm=cntR (Lm.take j)+(Lm[j].2.2.1+cntR (Lm.drop (j+1))):=by conv=>lhs; rw [e1,cnt_app,cnt_cons]
      simp only [bne_self_eq_false,cond_false]
      rw [set_cut _ hj,cnt_app,cnt_cons,hJ,← hn,e2]; omega
    ·have hst:stepR Lm r=(joinC Lm[j] r,[]):=by
      unfold stepR; rw [if_pos hcond,hpos,hGj,if_neg hjc]
     have hA0:addK d m g R e=joinC Lm[j] r:=by rw [hA,hf]; simp only [hGi]
     have hcd:(joinC Lm[j] r != 0)=true:=by simpa using hjc
     rw [hLA,hLB,hB,hA0,hst]
     simp only [hcd,cond_true]
     exact ⟨trivial,hs,hp,hI,hc,hn⟩
  ·have hno:∀ x∈Lm,keyR x≠keyR r:=fun x hx q=>hex ⟨x,hx,q⟩
   have hf:R.findIdx? (hasK r)=none:=by
    rw [List.findIdx?_eq_none_iff]
    intro x hx
    have:=hno x (hp.symm.subset hx)
    simp [hasK,this]
   have hst:stepR Lm r=(0,Lm.take (posR Lm r)++r::Lm.drop (posR Lm r)):=by
    unfold stepR
    rw [if_neg (fun q=>hno _ (by rw [G_lt q.1]; exact List.getElem_mem _) ((keyB_iff _ _).1 q.2))]
   have hA0:addK d m g R e=0:=by rw [hA,hf]
   rw [hLA,hLB,hB,hA0,hst,hf]
   refine ⟨rfl, ?_⟩
   simp only [bne_self_eq_false,cond_false]
   have hpm:(Lm.take (posR Lm r)++r::Lm.drop (posR Lm r)).Perm (r::Lm):=by
    have:=List.perm_middle (a:=r) (l₁:=Lm.take (posR Lm r)) (l₂:=Lm.drop (posR Lm r))
    rwa [List.take_append_drop] at this
   refine ⟨insert_srt hs hl hno,hpm.trans ((hp.cons r).trans (List.perm_append_singleton r R).symm),fun x hx=>?_,fun x hx=>?_, ?_⟩
   ·rcases List.mem_cons.1 (hpm.subset hx) with rfl | q
    ·exact hrI
    ·exact hI x q
   ·rcases List.mem_cons.1 (hpm.subset hx) with rfl | q
    ·omega
    ·exact hc x q
   ·rw [cnt_perm hpm,cnt_cons,hr1,hn]; omega
 ·have hkd:(checkS d m e.1 e.2.1 e.2.2 != 0)=true:=by simpa using hk
  have hA:addK d m g R e=checkS d m e.1 e.2.1 e.2.2:=by unfold addK; rw [hkd]; rfl
  have hB:raddK d m g Lm e=checkS d m e.1 e.2.1 e.2.2:=by unfold raddK; rw [hkd]; rfl
  have hLA:addL d m g R e=R:=by unfold addL; rw [hA,hkd]; rfl
  have hLB:raddL d m g Lm e=Lm:=by unfold raddL; rw [hB,hkd]; rfl
  rw [hLA,hLB,hA,hB,hkd]
  exact ⟨rfl,hs,hp,hI,hc,hn⟩
end Go.Proofs.Vale
namespace Go.Proofs.Vale
open Go.Proofs Go.Proofs.YtplehleekabbaaaGreatDoorT
def mclRen:Go.Shelf.Ren:=⟨fun | 5=>50 | 7=>86 | n=>n,fun | 4=>4 | 20=>20 | 23=>71 | 25=>9 | 3=>47 | n=>n,fun | n=>n⟩
theorem mclLay:SlLaysW.n5 Tryz.prog mclRen:={
 mixed:=by kernel_rfl
 f5:=⟨"maps.Clone[map[string]columbary/api.Row,string,columbary/api.Row]",by kernel_rfl,Tryz.func50.trans (congrArg some (by kernel_rfl))⟩
 f7:=Tryz.func86.trans (congrArg some (by kernel_rfl))
 t4:=Tryz.underlying4
 a4:=Tryz.isAgg4
 z4:=Tryz.sizeOf4
 v4:=Tryz.zeroValue4
 t20:=Tryz.underlying20
 a20:=Tryz.isAgg20
 z20:=Tryz.sizeOf20
 v20:=Tryz.zeroValue20
 t23:=Tryz.underlying71
 a23:=Tryz.isAgg71
 z23:=Tryz.sizeOf71
 v23:=Tryz.zeroValue71 }
theorem mclone_ok (mt:Nat) (l:List (AV × AV)) (h:List AObj) (hm:h[mt]? = some (.map l)):ACall Tryz.prog 50 [.mp mt] h (fun r h'=>r=.mp h.length∧h'=h++[.map l]):=by
 unfold ACall; intro w β fr us L Rr
 obtain ⟨hvs,hv⟩:=Rr
 obtain ⟨v,hv1,hv2⟩:=hv 0 (by simp)
 simp only [List.getElem_cons_zero,Rep] at hv2
 obtain ⟨b,hb,rfl⟩:=hv2
 obtain rfl:us=#[.map (some b)]:=by
  apply Array.ext_getElem?
  intro i
  rcases i with _ | i
  ·rw [hv1]; rfl
  ·rw [Array.getElem?_eq_none (by rw [hvs]; simp),Array.getElem?_eq_none (by simp)]
 obtain ⟨b',es,hb',hH,hes,hent⟩:=L.obj mt _ hm
 rw [hb] at hb'; injection hb' with hb'; injection hb' with hb'; subst hb'
 have hc:=AnyW.maps_Clone (ρ:=mclRen) mclLay b es l.length w hH
 refine hc.mono ?_
 rintro e w' ⟨rfl,rfl⟩
 have hold:∀ b,b < w.heap.size→(w.alloc (.map es l.length)).heap[b]? = w.heap[b]? := fun b hb=>by
  show (w.heap.push _)[b]? = _
  rw [Array.getElem?_push,if_neg (by omega)]
 have E:Ext β fr w.heap (betaSet β h.length 0 (some w.heap.size)) fr (w.alloc (.map es l.length)).heap :=
  { beta := fun t g' r e => by rw [betaSet_other (by have := L.dom t g' r e; omega)]; exact e
    frm:=fun _ e=>e
    cells:=fun b hb=>hold b (L.frlt b hb)
    shape:=fun t g' b c' e f hb hc=>⟨c',f,by rw [hold b (L.lt _ _ _ hb)]; exact hc,rfl⟩ }
 obtain ⟨L',S'⟩:=L.push (w':=w.alloc (.map es l.length)) (o:=.map l) (g:=0) (c:=.map es l.length) rfl rfl rfl rfl rfl
  ⟨w.heap.size,es,betaSet_same _ _ _ _,by show (w.heap.push (Obj.map es l.length))[w.heap.size]? = some _; simp,hes,fun i hi=>by
   obtain ⟨x,h1,h2,h3,h4⟩:=hent i hi
   exact ⟨x,h1,h2,h3.ext E,h4.ext E⟩⟩
 exact ⟨_,_,_,_,fr,rfl,⟨rfl,rfl⟩,L',by simp only [Rep]; exact ⟨_,betaSet_same _ _ _ _,rfl⟩,S'⟩
attribute [local irreducible] acode aopsL aopsT dopsL dopsT pop popG aop ALoop ADraw ACall AWP AFin acondT ALoopT ADrawT ACallT doP doG doGd frL frT frX
theorem icopy_ok (R : List Rw) (d m : List Str) (g n : Int) (xt mt : Nat) (H0 : List AObj) (hx : H0[xt]? = some (ixO d m g mt n)) (hm : H0[mt]? = some (.map (entR keyT R))) :
  ACall Tryz.prog 21 [.ref xt 0 5 0 0] H0 (fun r H'=>r=.ref (H0.length+1) 0 5 0 0∧H'=H0++[.map (entR keyT R),ixO d m g H0.length n]):=by
 simp only [ixO] at hx
 have hxl:xt < H0.length:=(List.getElem?_eq_some_iff.1 hx).1
 have hx':∀ x,(H0++x)[xt]? = _:=fun x=>(List.getElem?_append_left hxl).trans hx
 (refine ACall.of_code Tryz.func21 rfl ?_; simp only [Tryz.f21]; simp only [go_sem,uA,uB,uC,uD,uE,uF,uG,uH,uI,uJ,uK,uL,uM,uN,uO,uP,uQ])
 (refine ADrawT.walk [[0,13],[0,13],[0,13],[0,13],[0,13],[0,13],[0,13],[0,13],[0],[0],[0],[0],[0,13],[0,13],[0,13],[0,13],[0,13],[13],[13,19],[19]] mixedOrdersD (by kernel_rfl) (by kernel_rfl) ?_; simp only [go_sem,uA,uB,uC,uD,uE,uF,uG,uH,uI,uJ,uK,uL,uM,uN,uO,uP,uQ])
 simp only [go_sem,hx,hx',uA,uB,uC,uD,uE,uF,uG,uH,uI,uJ,uK,uL,uM,uN,uO,uP,uQ]
 refine frX_ext (.mp H0.length) [.map (entR keyT R)] ?_ ?_
 ·simp only [go_sem,uA,uB,uC,uD,uE,uF,uG,uH,uI,uJ,uK,uL,uM,uN,uO,uP,uQ]
  exact ACallT.by (mclone_ok mt _ _ hm) fun _ _ q=>q
 simp only [go_sem,hx,hx',uA,uB,uC,uD,uE,uF,uG,uH,uI,uJ,uK,uL,uM,uN,uO,uP,uQ]
 refine ⟨by simp [fmem,Agree,hx,hx'], ?_⟩
 exact Fin_plain ⟨rfl,rfl⟩
def rcntOk (Lm:List Rw):Prop:=∀ k,k≤Lm.length→0≤cntR (Lm.take k)∧cntR (Lm.take k)≤1000000
theorem cnt_part {Lm:List Rw} {n:Int} (hc:∀ r∈Lm,1≤r.2.2.1∧r.2.2.1≤1048576) (hn:cntR Lm=n) (hn2:n≤1000000):rcntOk Lm:=by
 have pos:∀ M:List Rw,(∀ r∈M,1≤r.2.2.1∧r.2.2.1≤1048576)→0≤cntR M:=by
  intro M
  induction M with
  | nil=>intro _; simp [cntR]
  | cons a M ih=>intro h; rw [cnt_cons]; have h1:=(h a (by simp)).1; have:=ih (fun r hr=>h r (by simp [hr])); omega
 intro k hk
 have h1:=pos (Lm.take k) (fun r hr=>hc r (List.mem_of_mem_take hr))
 have h2:=pos (Lm.drop k) (fun r hr=>hc r (List.mem_of_mem_drop hr))
 have h3:cntR Lm=cntR (Lm.take k)+cntR (Lm.drop k):=by rw [← cnt_app,List.take_append_drop]
 omega
theorem rcount_ok (Lm : List Rw) (c1 c2 c : Bool) (d m : List Str) (g : Int) (xt : Nat) (H0 : List AObj) (hn : Lm.length ≤ 1000000) (hk : rcntOk Lm) (hx : H0[xt]? = some (rixO c1 c2 c d m g Lm)) :
  ACall Tryz.prog 24 [.ref xt 0 4 0 0] H0 (fun r H'=>r=.int .i64 (cntR Lm)∧H'=H0):=by
 simp only [rixO] at hx
 (refine ACall.of_code Tryz.func24 rfl ?_; simp only [Tryz.f24]; simp only [go_sem,uA,uB,uC,uD,uE,uF,uG,uH,uI,uJ,uK,uL,uM,uN,uO,uP,uQ])
 refine ALoop.over [3,4,5,6,7,8,9,10,11,12,13,14,15,16,17,18,19,20,21,22,23] (fun e H'=>∃ k:Nat,k≤Lm.length∧e.getD 4 .any=.int .i64 k∧e.getD 3 .any=.int .i64 (cntR (Lm.take k))∧H'=H0) (fun e _=>Lm.length - natA (e.getD 4 .any)) ⟨0,by omega,rfl,rfl,rfl⟩ ?_
 simp only [List.length_cons,List.length_nil,Nat.reduceAdd,allL_succ,allL_zero]
 intro y3 y4 y5 y6 y7 y8 y9 y10 y11 y12 y13 y14 y15 y16 y17 y18 y19 y20 y21 y22 y23 H1 hI
 simp only [go_sem] at hI
 obtain ⟨k,hkl,rfl,rfl,rfl⟩:=hI
 simp only [go_sem,hx,rowsA_len,uA,uB,uC,uD,uE,uF,uG,uH,uI,uJ,uK,uL,uM,uN,uO,uP,uQ]
 refine acond_intro (fun hc=>?_) (fun hc=>?_)
 ·have hlt:k < Lm.length:=by have:=of_decide_eq_true hc; omega
  have hr:=rowsA_get Lm k hlt
  have hsn:cntR (Lm.take (k+1))=cntR (Lm.take k)+Lm[k].2.2.1:=by
   rw [List.take_succ_eq_append_getElem hlt,cnt_app,cnt_cons]; simp [cntR]
  have h1:=hk (k+1) (by omega)
  simp only [go_sem,hx,hr,uA,uB,uC,uD,uE,uF,uG,uH,uI,uJ,uK,uL,uM,uN,uO,uP,uQ]
  refine ⟨⟨by omega,by omega⟩,⟨k+1,by omega, ?_, ?_⟩, ?_⟩
  ·rw [wrap_id (by omega) (by omega)]; rfl
  ·rw [hsn,wrap_id (by omega) (by omega)]
  ·rw [wrap_id (by omega) (by omega)]; omega
 ·obtain rfl:k=Lm.length:=by have:=of_decide_eq_false hc; omega
  simp only [go_sem,uA,uB,uC,uD,uE,uF,uG,uH,uI,uJ,uK,uL,uM,uN,uO,uP,uQ]
  exact Fin_plain ⟨by first | rfl | rw [List.take_length],rfl⟩
end Go.Proofs.Vale
namespace Go.Proofs.Vale
open Go.Proofs Go.Proofs.YtplehleekabbaaaGreatDoorT
attribute [local irreducible] acode aopsL aopsT dopsL dopsT pop popG aop ALoop ADraw ACall AWP AFin acondT ALoopT ADrawT ACallT doP doG doGd frL frT frX
theorem take_len {H H':List AObj} (h:∀ i,i < H.length→H'[i]? = H[i]?):∃ z,H'=H++z:=by
 have hle:H.length≤H'.length:=by
  rcases Nat.lt_or_ge H'.length H.length with q | q
  ·have:=h H'.length q
   rw [List.getElem?_eq_none (Nat.le_refl _),List.getElem?_eq_getElem q] at this
   cases this
  ·exact q
 refine ⟨H'.drop H.length, ?_⟩
 have e:H'.take H.length=H:=List.ext_getElem? fun i=>by
  by_cases q:i < H.length
  ·rw [List.getElem?_take_of_lt q,h i q]
  ·rw [List.getElem?_eq_none (by simp; omega),List.getElem?_eq_none (by omega)]
 conv=>lhs; rw [← List.take_append_drop H.length H',e]
theorem low_rowsF (n:Nat) (L:List Rw):(AV.fz false (rowsA L)).low n=true:=by
 simp only [AV.low]
 induction L with
 | nil=>rfl
 | cons a l ih =>
  have:rowsA (a::l)=rowA a::rowsA l:=rfl
  rw [this]
  simp only [lowL,low_row,Bool.true_and]
  exact ih
theorem low_rowsC (n:Nat) (c:Bool) (L:List Rw):(AV.fz c (rowsA L)).low n=true:=by
 have:=low_rowsF n L
 simpa only [AV.low] using this
theorem lowO_ent (n:Nat) (R:List Rw):lowO n (.map (entR keyT R))=true:=by
 simp only [lowO]
 rw [List.all_eq_true]
 intro x hx
 obtain ⟨r,_,rfl⟩:=List.mem_map.1 hx
 simp [AV.low,low_row]
theorem lowO_ix (n:Nat) (d m:List Str) (g k:Int) (mt:Nat) (h:mt < n):lowO n (ixO d m g mt k)=true:=by
 simp [lowO,ixO,lowL,AV.low,low_strs,h]
theorem lowO_rix (n:Nat) (c1 c2 c:Bool) (d m:List Str) (g:Int) (L:List Rw):lowO n (rixO c1 c2 c d m g L)=true:=by
 have:=low_rowsC n c L
 simp only [AV.low] at this
 simp [lowO,rixO,lowL,AV.low,low_strs,this]
theorem irowsE (Lm R : List Rw) (d m : List Str) (g n : Int) (xt mt : Nat) (H0 : List AObj) (hs : SrtS Lm) (hp : Lm.Perm R) (hn : R.length ≤ 2000000000000) (hok : ∀ r ∈ R, r.2.1.length ≤ 2000000000000 ∧ r.2.2.2.length ≤ 2000000000000) (hx : H0[xt]? = some (ixO d m g mt n)) (hm : H0[mt]? = some (.map (entR keyT R))) :
  ACall Tryz.prog 16 [.ref xt 0 5 0 0] H0 (fun r H'=>r=.fz false (rowsA Lm)∧H'=H0):=by
 refine ACall.trim 1 (irows_ok keyT R d m g n xt mt H0 hn hok hx hm) ?_
 rintro r H' ⟨⟨R',hp2,hs2,rfl⟩,hold⟩
 obtain ⟨z,rfl⟩:=take_len hold
 have e:=sort_uniq hs hs2 (hp2.trans hp.symm)
 subst e
 exact ⟨H0,z,rfl,rfl,low_rowsF _ _,fun i o h=>.inl h,rfl,rfl⟩
theorem iaddE (R : List Rw) (d m : List Str) (g n : Int) (e : Ev) (xt mt : Nat) (H0 : List AObj) (hne : xt ≠ mt) (hd : d.length ≤ 1000) (he1 : e.2.1.length ≤ 1000) (he2 : e.2.2.length ≤ 1000) (hv : ∀ s ∈ e.2.1, s.length ≤ 1000) (hg : gr g = true) (hn0 : 0 ≤ n) (hn : n ≤ 1000000) (hR : ∀ r ∈ R, RowI d m r) (hm2 : m.length ≤ 1000) (hx : H0[xt]? = some (ixO d m g mt n)) (hm : H0[mt]? = some (.map (entR keyT R))) :
  ACall Tryz.prog 15 [.ref xt 0 5 0 0,eventA e] H0 (fun r H'=>r=.int .i64 (addK d m g R e)∧H'=(H0.set xt (ixO d m g mt (bif addK d m g R e != 0 then n else n+1))).set mt (.map (entR keyT (addL d m g R e)))):=by
 have hxl:xt < H0.length:=(List.getElem?_eq_some_iff.1 hx).1
 have hml:mt < H0.length:=(List.getElem?_eq_some_iff.1 hm).1
 refine ACall.trim 1 (iadd_ok R d m g n e xt mt H0 hne hd he1 he2 hv hg hn0 hn hR hm2 hx hm) ?_
 rintro r H' ⟨rfl,h1,h2,h3,h4⟩
 obtain ⟨B,hB⟩:∃ B,B=(H0.set xt (ixO d m g mt (bif addK d m g R e != 0 then n else n+1))).set mt (.map (entR keyT (addL d m g R e))):=⟨_,rfl⟩
 have hBl:B.length=H0.length:=by rw [hB]; simp
 have hBg:∀ i,i < B.length→H'[i]? = B[i]? := by
  intro i hi
  rw [hB]
  by_cases e1:i=mt
  ·subst e1; rw [List.getElem?_set_self (by simp; omega),h4]
  ·rw [List.getElem?_set_ne (fun q=>e1 q.symm)]
   by_cases e2:i=xt
   ·subst e2; rw [List.getElem?_set_self (by omega),h3]
   ·rw [List.getElem?_set_ne (fun q=>e2 q.symm)]; exact h1 i (by omega) e2 e1
 obtain ⟨z,rfl⟩:=take_len hBg
 refine ⟨B,z,rfl,hBl,rfl,fun i o ho=>?_,rfl,hB⟩
 rw [hB] at ho
 by_cases e1:i=mt
 ·subst e1
  rw [List.getElem?_set_self (by simp; omega)] at ho
  injection ho with ho; subst ho
  exact .inr (lowO_ent _ _)
 ·rw [List.getElem?_set_ne (fun q=>e1 q.symm)] at ho
  by_cases e2:i=xt
  ·subst e2
   rw [List.getElem?_set_self (by omega)] at ho
   injection ho with ho; subst ho
   exact .inr (lowO_ix _ _ _ _ _ _ hml)
  ·rw [List.getElem?_set_ne (fun q=>e2 q.symm)] at ho
   exact .inl ho
theorem raddE (Lm : List Rw) (c1 c2 c : Bool) (d m : List Str) (g : Int) (e : Ev) (xt : Nat) (H0 : List AObj) (hn : Lm.length ≤ 1000) (hd : d.length ≤ 1000) (he1 : e.2.1.length ≤ 1000) (he2 : e.2.2.length ≤ 1000) (hv : ∀ s ∈ e.2.1, s.length ≤ 1000) (hg : gr g = true) (hR : ∀ r ∈ Lm, RowI d m r) (hm2 : m.length ≤ 1000) (hx : H0[xt]? = some (rixO c1 c2 c d m g Lm)) :
  ACall Tryz.prog 22 [.ref xt 0 4 0 0,eventA e] H0 (fun r H'=>r=.int .i64 (raddK d m g Lm e)∧H'=H0.set xt (rixO c1 c2 (bif raddK d m g Lm e != 0 then c else false) d m g (raddL d m g Lm e))):=by
 have hxl:xt < H0.length:=(List.getElem?_eq_some_iff.1 hx).1
 refine ACall.trim 1 (radd_ok Lm c1 c2 c d m g e xt H0 hn hd he1 he2 hv hg hR hm2 hx) ?_
 rintro r H' ⟨rfl,h1,h2,h3⟩
 obtain ⟨B,hB⟩:∃ B,B=H0.set xt (rixO c1 c2 (bif raddK d m g Lm e != 0 then c else false) d m g (raddL d m g Lm e)):=⟨_,rfl⟩
 have hBl:B.length=H0.length:=by rw [hB]; simp
 have hBg:∀ i,i < B.length→H'[i]? = B[i]? := by
  intro i hi
  rw [hB]
  by_cases e2:i=xt
  ·subst e2; rw [List.getElem?_set_self (by omega),h3]
  ·rw [List.getElem?_set_ne (fun q=>e2 q.symm)]; exact h1 i (by omega) e2
 obtain ⟨z,rfl⟩:=take_len hBg
 refine ⟨B,z,rfl,hBl,rfl,fun i o ho=>?_,rfl,hB⟩
 rw [hB] at ho
 by_cases e2:i=xt
 ·subst e2
  rw [List.getElem?_set_self (by omega)] at ho
  injection ho with ho; subst ho
  exact .inr (lowO_rix _ _ _ _ _ _ _ _)
 ·rw [List.getElem?_set_ne (fun q=>e2 q.symm)] at ho
  exact .inl ho
end Go.Proofs.Vale
