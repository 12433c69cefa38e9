/- YtplehleekabbaaaGreatDoorVFldA: a text of the proof of this claim, by its prover. -/
import Derived.Test.YtplehleekabbaaaGreatDoorVIxD
set_option linter.unusedVariables false
set_option linter.unusedSimpArgs false
set_option maxHeartbeats 4000000
set_option maxRecDepth 100000
namespace Go.Proofs.Vale
open Go.Proofs Go.Proofs.YtplehleekabbaaaGreatDoorT
attribute [local irreducible] acode aopsL aopsT dopsL dopsT pop popG aop ALoop ADraw ACall AWP AFin acondT ALoopT ADrawT ACallT doP doG doGd frL frT frX
theorem lessTs_cmp:∀ (l m:List Str),l.length=m.length→lessTs l m=decide (cmpTs l m < 0):=by
 intro l
 induction l with
 | nil=>intro m h; cases m with
  | nil=>rfl
  | cons b m=>simp at h
 | cons a l ih =>
  intro m h
  cases m with
  | nil=>simp at h
  | cons b m =>
   rw [Bool.eq_iff_iff,decide_eq_true_eq]
   simp only [lessTs,cmpTs]
   by_cases e:a=b
   ·subst e
    have:cmpT a a=0:=isC_text.refl a
    have hi:=ih m (by simpa using h)
    rw [Bool.eq_iff_iff,decide_eq_true_eq] at hi
    simp only [bne_self_eq_false,cond_false,this]
    exact hi
   ·have h0:cmpT a b≠0:=fun q=>e (isC_text.eq0 a b q)
    have h1:(cmpT a b != 0)=true:=by simpa using h0
    have h2:(a != b)=true:=by simpa using e
    rw [h1,h2]
    simp only [cond_true]
    unfold cmpT
    cases h3:Op.bytesLess a b with
    | true=>simp
    | false=>cases Op.bytesLess b a <;> simp
theorem lessR_cmp {a b:Rw} (h:a.2.1.length=b.2.1.length):lessR a b=decide (cmpR a b < 0):=by
 rw [Bool.eq_iff_iff,decide_eq_true_eq]
 unfold lessR cmpR
 rw [lessTs_cmp _ _ h]
 by_cases e:a.1=b.1
 ·have:cmpI a.1 b.1=0:=by rw [e]; exact isC_int.refl _
  have h2:(a.1 != b.1)=false:=by simpa using e
  rw [this,h2]
  simp
 ·have h0:cmpI a.1 b.1≠0:=fun q=>e (isC_int.eq0 _ _ q)
  have h1:(cmpI a.1 b.1 != 0)=true:=by simpa using h0
  have h2:(a.1 != b.1)=true:=by simpa using e
  rw [h1,h2]
  simp only [cond_true,decide_eq_true_eq]
  unfold cmpI
  by_cases q:a.1 < b.1
  ·simp [q]
  ·by_cases q2:b.1 < a.1
   ·simp [q,q2]
   ·omega
theorem keyB_iff (a b:Rw):keyB a b=true↔keyR a=keyR b:=by
 rw [keyB_cmp]
 have:=cmpR_eq0 a b
 by_cases e:cmpR a b=0
 ·simp [e,this.1 e]
 ·simp only [Bool.not_eq_true',bne_eq_false_iff_eq]
  exact this
def SrtS (L:List Rw):Prop:=L.Pairwise fun a b=>cmpR a b < 0
theorem sort_uniq:∀ {A B:List Rw},SrtS A→SrtR B→B.Perm A→B=A:=by
 intro A
 induction A with
 | nil=>intro B _ _ h; exact List.perm_nil.1 h
 | cons a A ih =>
  intro B hA hB h
  cases B with
  | nil=>exact absurd h.symm (by simp)
  | cons b B =>
   have hA1:=List.pairwise_cons.1 hA
   have hB1:=List.pairwise_cons.1 hB
   have hab:b=a:=by
    have hb:b∈a::A:=h.subset (by simp)
    rcases List.mem_cons.1 hb with q | q
    ·exact q
    ·have ha:a∈b::B:=h.symm.subset (by simp)
     rcases List.mem_cons.1 ha with q2 | q2
     ·exact q2.symm
     ·have h1:=hA1.1 b q
      have h2:=hB1.1 a q2
      rw [cmpR_flip] at h2; omega
   subst hab
   rw [ih hA1.2 hB1.2 (List.perm_cons b |>.1 h)]
theorem SrtS_get {L:List Rw} (h:SrtS L) {i j:Nat} (hi:i < j) (hj:j < L.length):cmpR (G L i) (G L j) < 0:=by
 have:=List.pairwise_iff_getElem.1 h i j (by omega) hj hi
 rwa [G_lt (by omega),G_lt hj]
theorem SrtS_of {L:List Rw} (h:∀ i j,i < j→j < L.length→cmpR (G L i) (G L j) < 0):SrtS L :=
 List.pairwise_iff_getElem.2 fun i j hi hj hij=>by
  have:=h i j hij hj
  rwa [G_lt hi,G_lt hj] at this
theorem posR_key {L:List Rw} {r:Rw} (h:SrtS L) (hl:∀ x∈L,x.2.1.length=r.2.1.length) {j:Nat} (hj:j < L.length) (hk:keyR (G L j)=keyR r):posR L r=j:=by
 refine (posR_eq r L j (by omega) (fun i hi=>?_) (fun _=>?_)).symm
 ·rw [G_lt (by omega),lessR_cmp (hl _ (List.getElem_mem _))]
  have:=SrtS_get h hi hj
  rw [G_lt (by omega)] at this
  rw [cmpR_key _ _ _ _ rfl hk] at this
  exact decide_eq_true this
 ·rw [G_lt hj,lessR_cmp (hl _ (List.getElem_mem _))]
  rw [G_lt hj] at hk
  have:=(cmpR_eq0 _ _).2 hk
  exact decide_eq_false (by omega)
theorem posR_low {L:List Rw} {r:Rw}:∀ i,i < posR L r→lessR (G L i) r=true:=by
 induction L with
 | nil=>intro i h; simp [posR] at h
 | cons a L ih =>
  intro i h
  cases ha:lessR a r with
  | true =>
   cases i with
   | zero=>exact ha
   | succ i =>
    have:posR (a::L) r=posR L r+1:=by simp [posR,List.takeWhile_cons,ha]
    exact ih i (by omega)
  | false=>simp [posR,List.takeWhile_cons,ha] at h
theorem posR_le (L:List Rw) (r:Rw):posR L r≤L.length:=by
 unfold posR
 exact (List.takeWhile_sublist _).length_le
theorem posR_at {L:List Rw} {r:Rw}:posR L r < L.length→lessR (G L (posR L r)) r=false:=by
 induction L with
 | nil=>intro h; simp [posR] at h
 | cons a L ih =>
  intro h
  cases ha:lessR a r with
  | true =>
   have e:posR (a::L) r=posR L r+1:=by simp [posR,List.takeWhile_cons,ha]
   rw [e] at h ⊢
   exact ih (by simpa using h)
  | false =>
   have e:posR (a::L) r=0:=by simp [posR,List.takeWhile_cons,ha]
   rw [e]; exact ha
theorem insert_srt {L:List Rw} {r:Rw} (h:SrtS L) (hl:∀ x∈L,x.2.1.length=r.2.1.length) (hn:∀ x∈L,keyR x≠keyR r):SrtS (L.take (posR L r)++r::L.drop (posR L r)):=by
 have hpl:=posR_le L r
 have lo:∀ x∈L.take (posR L r),cmpR x r < 0:=by
  intro x hx
  obtain ⟨i,hi,rfl⟩:=List.getElem_of_mem hx
  simp at hi
  have h1:=posR_low (L:=L) (r:=r) i (by omega)
  rw [G_lt (by omega),lessR_cmp (hl _ (List.getElem_mem _))] at h1
  simp only [List.getElem_take]
  exact of_decide_eq_true h1
 have hi0:posR L r < L.length→cmpR r (G L (posR L r)) < 0:=by
  intro q
  have h1:=posR_at q
  rw [G_lt q,lessR_cmp (hl _ (List.getElem_mem _))] at h1
  have h2:=of_decide_eq_false h1
  have h3:cmpR L[posR L r] r≠0:=fun z=>hn _ (List.getElem_mem _) ((cmpR_eq0 _ _).1 z)
  rw [G_lt q,cmpR_flip]; omega
 have hi:∀ x∈L.drop (posR L r),cmpR r x < 0:=by
  intro x hx
  obtain ⟨i,hi,rfl⟩:=List.getElem_of_mem hx
  simp at hi
  have h1:=hi0 (by omega)
  simp only [List.getElem_drop]
  cases i with
  | zero=>rw [G_lt (by omega)] at h1; exact h1
  | succ i =>
   have h2:=SrtS_get h (show posR L r < posR L r+(i+1) by omega) (by omega)
   rw [G_lt (show posR L r+(i+1) < L.length by omega)] at h2
   exact cmpR_lt _ _ _ h1 h2
 have ht:(L.take (posR L r)).Pairwise fun a b=>cmpR a b < 0:=h.sublist (List.take_sublist _ _)
 have hd:(L.drop (posR L r)).Pairwise fun a b=>cmpR a b < 0:=h.sublist (List.drop_sublist _ _)
 refine List.pairwise_append.2 ⟨ht,List.pairwise_cons.2 ⟨hi,hd⟩,fun a ha b hb=>?_⟩
 rcases List.mem_cons.1 hb with rfl | q
 ·exact lo a ha
 ·exact cmpR_lt _ _ _ (lo a ha) (hi b q)
theorem set_srt {L:List Rw} {j:Nat} {J:Rw} (h:SrtS L) (hj:j < L.length) (hk:keyR J=keyR (G L j)):SrtS (L.set j J):=by
 refine SrtS_of fun a b h1 h2=>?_
 have hg:∀ x,keyR (G (L.set j J) x)=keyR (G L x):=by
  intro x
  by_cases e:x=j
  ·subst e
   unfold G at hk ⊢
   rw [List.getD_eq_getElem?_getD,List.getElem?_set_self hj]
   simpa using hk
  ·unfold G
   rw [List.getD_eq_getElem?_getD,List.getElem?_set_ne (fun q=>e q.symm),← List.getD_eq_getElem?_getD]
 rw [cmpR_key _ _ _ _ (hg a) (hg b)]
 exact SrtS_get h h1 (by simpa using h2)
theorem foldF_srt {L:List Rw} (h:SrtS L) (hl:∀ x∈L,∀ y∈L,x.2.1.length=y.2.1.length):foldF L=(0,L):=by
 have:∀ i,i≤L.length→foldF (L.take i)=(0,L.take i):=by
  intro i
  induction i with
  | zero=>intro _; rfl
  | succ i ih =>
   intro hi
   have hil:i < L.length:=by omega
   rw [foldF_snoc L i hil,ih (by omega)]
   have hlen:(L.take i).length=i:=by simp; omega
   have hp:posR (L.take i) L[i]=i:=by
    refine (posR_eq L[i] (L.take i) i (by omega) (fun j hj=>?_) (fun q=>by omega)).symm
    have h1:=SrtS_get h hj hil
    rw [G_lt (by omega),G_lt hil] at h1
    rw [G_lt (by omega)]
    simp only [List.getElem_take]
    rw [lessR_cmp (hl _ (List.getElem_mem _) _ (List.getElem_mem _))]
    exact decide_eq_true h1
   show stepR (L.take i) L[i]=_
   unfold stepR
   rw [hp,if_neg (fun q=>by omega),List.take_take,Nat.min_self,List.drop_eq_nil_of_le (by omega),List.take_succ_eq_append_getElem hil]
 have h2:=this L.length (Nat.le_refl _)
 rwa [List.take_length] at h2
end Go.Proofs.Vale
namespace Go.Proofs.Vale
open Go.Proofs Go.Proofs.YtplehleekabbaaaGreatDoorT
attribute [local irreducible] acode aopsL aopsT dopsL dopsT pop popG aop ALoop ADraw ACall AWP AFin acondT ALoopT ADrawT ACallT doP doG doGd frL frT frX
theorem key_uniq {L:List Rw} (h:SrtS L) {x y:Rw} (hx:x∈L) (hy:y∈L) (hk:keyR x=keyR y):x=y:=by
 obtain ⟨i,hi,rfl⟩:=List.getElem_of_mem hx
 obtain ⟨j,hj,rfl⟩:=List.getElem_of_mem hy
 have h0:=(cmpR_eq0 _ _).2 hk
 rcases Nat.lt_trichotomy i j with q | q | q
 ·have:=SrtS_get h q hj
  rw [G_lt hi,G_lt hj] at this; omega
 ·subst q; rfl
 ·have:=SrtS_get h q hi
  rw [G_lt hi,G_lt hj,cmpR_flip] at this; omega
theorem set_cut {L:List Rw} {j:Nat} (J:Rw) (hj:j < L.length):L.set j J=L.take j++J::L.drop (j+1):=by
 rw [List.set_eq_take_append_cons_drop,if_pos hj]
theorem set_perm2 {L M:List Rw} {i j:Nat} (J:Rw) (hp:L.Perm M) (hj:j < L.length) (hi:i < M.length) (he:L[j]=M[i]):(L.set j J).Perm (M.set i J):=by
 rw [set_cut J hj,set_cut J hi]
 refine List.perm_middle.trans (List.Perm.trans (List.Perm.cons J ?_) List.perm_middle.symm)
 have h1:L.Perm (L[j]::(L.take j++L.drop (j+1))):=by
  have:L=L.take j++L[j]::L.drop (j+1):=by simp
  conv=>lhs; rw [this]
  exact List.perm_middle
 have h2:M.Perm (M[i]::(M.take i++M.drop (i+1))):=by
  have:M=M.take i++M[i]::M.drop (i+1):=by simp
  conv=>lhs; rw [this]
  exact List.perm_middle
 have h3:=h1.symm.trans (hp.trans h2)
 rw [he] at h3
 exact (List.perm_cons _).1 h3
def cntR (L:List Rw):Int:=(L.map fun r=>r.2.2.1).sum
theorem cnt_app (A B:List Rw):cntR (A++B)=cntR A+cntR B:=by simp [cntR]
theorem cnt_cons (a:Rw) (B:List Rw):cntR (a::B)=a.2.2.1+cntR B:=by simp [cntR]
theorem cnt_perm {A B:List Rw} (h:A.Perm B):cntR A=cntR B:=by
 induction h with
 | nil=>rfl
 | cons x _ ih=>rw [cnt_cons,cnt_cons,ih]
 | swap x y l=>rw [cnt_cons,cnt_cons,cnt_cons,cnt_cons]; omega
 | trans _ _ h1 h2=>exact h1.trans h2
def StepS (d m:List Str) (Lm R:List Rw) (n:Int):Prop:=SrtS Lm∧Lm.Perm R∧(∀ r∈Lm,RowI d m r)∧(∀ r∈Lm,1≤r.2.2.1∧r.2.2.1≤1048576)∧cntR Lm=n
theorem joinC_cnt {a b:Rw} (h:joinC a b=0):IntKind.i64.wrap (a.2.2.1+b.2.2.1)≤1048576:=by
 unfold joinC at h
 cases h1:(bif cmpR a b != 0 then true else ((a.2.2.2.length:Int) != (b.2.2.2.length:Int))) with
 | true=>rw [h1] at h; cases h
 | false =>
  rw [h1] at h
  simp only [cond_false] at h
  cases h2:decide (1048576 < IntKind.i64.wrap (a.2.2.1+b.2.2.1)) with
  | true=>rw [h2] at h; cases h
  | false=>have:=of_decide_eq_false h2; omega
theorem step_same {d m : List Str} {Lm R : List Rw} {n g : Int} (e : Ev) (hg : gr g = true) (h : StepS d m Lm R n) :
  raddK d m g Lm e=addK d m g R e∧StepS d m (raddL d m g Lm e) (addL d m g R e) (bif addK d m g R e != 0 then n else n+1):=by
 obtain ⟨hs,hp,hI,hc,hn⟩:=h
 by_cases hk:checkS d m e.1 e.2.1 e.2.2=0
 ·have hrI:=rowI_new (g:=g) hg hk
  obtain ⟨r,hr⟩:∃ r,r=ixRow g e:=⟨_,rfl⟩
  have hr1:r.2.2.1=1:=by rw [hr]; rfl
  rw [← hr] at hrI
  have hl:∀ x∈Lm,x.2.1.length=r.2.1.length:=fun x hx=>by rw [(hI x hx).1,hrI.1]
  have hF:foldF (Lm++[r])=stepR Lm r:=by
   have:=foldF_srt hs fun x hx y hy=>by rw [(hI x hx).1,(hI y hy).1]
   unfold foldF at this ⊢
   rw [List.foldl_append,this]; rfl
  have hA:addK d m g R e=match R.findIdx? (hasK r) with | none=>0 | some i=>joinC (G R i) r:=by
   unfold addK; rw [hk,hr]; rfl
  have hB:raddK d m g Lm e=(stepR Lm r).1:=by unfold raddK; rw [hk,← hr,hF]; rfl
  have hLA:addL d m g R e=bif addK d m g R e != 0 then R else match R.findIdx? (hasK r) with | none=>R++[r] | some i=>R.set i (joinR (G R i) r):=by
   unfold addL; rw [hr]; rfl
  have hLB:raddL d m g Lm e=bif raddK d m g Lm e != 0 then Lm else (stepR Lm r).2:=by
   unfold raddL; rw [← hr,hF]
  by_cases hex:∃ s∈Lm,keyR s=keyR r
  ·obtain ⟨s,hsm,hsk⟩:=hex
   obtain ⟨j,hj,hjs⟩:=List.getElem_of_mem hsm
   have hkj:keyR (G Lm j)=keyR r:=by rw [G_lt hj,hjs]; exact hsk
   have hpos:=posR_key hs hl hj hkj
   cases hf:R.findIdx? (hasK r) with
   | none =>
    have:=List.findIdx?_eq_none_iff.1 hf s (hp.subset hsm)
    simp [hasK,hsk] at this
   | some i =>
    obtain ⟨hi,h1,_⟩:=List.findIdx?_eq_some_iff_getElem.1 hf
    have hki:keyR R[i]=keyR r:=by simpa [hasK] using h1
    have hRi:R[i]=Lm[j]:=key_uniq hs (hp.symm.subset (List.getElem_mem _)) (List.getElem_mem _) (by rw [hki,hjs]; exact hsk.symm)
    have hGi:G R i=Lm[j]:=by rw [G_lt hi]; exact hRi
    have hGj:G Lm j=Lm[j]:=G_lt hj
    have hcond:posR Lm r < Lm.length∧keyB (G Lm (posR Lm r)) r=true:=by rw [hpos]; exact ⟨hj,(keyB_iff _ _).2 hkj⟩
    have hsI:=hI Lm[j] (List.getElem_mem _)
    have hsc:=hc Lm[j] (List.getElem_mem _)
    by_cases hjc:joinC Lm[j] r=0
    ·have hst:stepR Lm r=(0,Lm.set j (joinR Lm[j] r)):=by
      unfold stepR; rw [if_pos hcond,hpos,hGj,if_pos hjc,set_cut _ hj]
     have hA0:addK d m g R e=0:=by rw [hA,hf]; simp only [hGi]; exact hjc
     rw [hLA,hLB,hB,hA0,hst,hf]
     simp only [hGi]
     refine ⟨trivial, ?_⟩
     have hJk:keyR (joinR Lm[j] r)=keyR (G Lm j):=by rw [hGj]; exact joinR_key hjc
     have hJ:(joinR Lm[j] r).2.2.1=Lm[j].2.2.1+1:=by
      rw [joinR_ok hjc]
      show IntKind.i64.wrap (Lm[j].2.2.1+r.2.2.1)=_
      rw [hr1,wrap_id (by omega) (by omega)]
     have hJ2:=joinC_cnt hjc
     rw [hr1,wrap_id (by omega) (by omega)] at hJ2
     have hJI:RowI d m (joinR Lm[j] r):=by
      rw [joinR_ok hjc]
      refine ⟨hsI.1,hsI.2.1, ?_,hsI.2.2.2⟩
      show (joinG Lm[j].2.2.2 r.2.2.2).length=_
      rw [joinG_len (by rw [hsI.2.2.1,hrI.2.2.1]),hsI.2.2.1]
     have hmem:∀ x∈Lm.set j (joinR Lm[j] r),x∈Lm∨x=joinR Lm[j] r:=fun x hx=>by
      rcases List.mem_or_eq_of_mem_set hx with q | q
      ·exact .inl q
      ·exact .inr q
     refine ⟨set_srt hs hj hJk,set_perm2 _ hp hj hi hRi.symm,fun x hx=>?_,fun x hx=>?_, ?_⟩
     ·rcases hmem x hx with q | rfl
      ·exact hI x q
      ·exact hJI
     ·rcases hmem x hx with q | rfl
      ·exact hc x q
      ·rw [hJ]; omega
     ·have e1:Lm=Lm.take j++Lm[j]::Lm.drop (j+1):=by simp
      have e2:cntR Lm=cntR (Lm.take j)+(Lm[j].2.2.1+cntR (Lm.drop (j+1))):=by conv=>lhs; rw [e1,cnt_app,cnt_cons]
      simp only [bne_self_eq_false,cond_false]
      rw [set_cut _ hj,cnt_app,cnt_cons,hJ,← hn,e2]; omega
    ·have hst:stepR Lm r=(joinC Lm[j] r,[]):=by
      unfold stepR; rw [if_pos hcond,hpos,hGj,if_neg hjc]
     have hA0:addK d m g R e=joinC Lm[j] r:=by rw [hA,hf]; simp only [hGi]
     have hcd:(joinC Lm[j] r != 0)=true:=by simpa using hjc
     rw [hLA,hLB,hB,hA0,hst]
     simp only [hcd,cond_true]
     exact ⟨trivial,hs,hp,hI,hc,hn⟩
  ·have hno:∀ x∈Lm,keyR x≠keyR r:=fun x hx q=>hex ⟨x,hx,q⟩
   have hf:R.findIdx? (hasK r)=none:=by
    rw [List.findIdx?_eq_none_iff]
    intro x hx
    have:=hno x (hp.symm.subset hx)
    simp [hasK,this]
   have hst:stepR Lm r=(0,Lm.take (posR Lm r)++r::Lm.drop (posR Lm r)):=by
    unfold stepR
    rw [if_neg (fun q=>hno _ (by rw [G_lt q.1]; exact List.getElem_mem _) ((keyB_iff _ _).1 q.2))]
   have hA0:addK d m g R e=0:=by rw [hA,hf]
   rw [hLA,hLB,hB,hA0,hst,hf]
   refine ⟨rfl, ?_⟩
   simp only [bne_self_eq_false,cond_false]
   have hpm:(Lm.take (posR Lm r)++r::Lm.drop (posR Lm r)).Perm (r::Lm):=by
    have:=List.perm_middle (a:=r) (l₁:=Lm.take (posR Lm r)) (l₂:=Lm.drop (posR Lm r))
    rwa [List.take_append_drop] at this
   refine ⟨insert_srt hs hl hno,hpm.trans ((hp.cons r).trans (List.perm_append_singleton r R).symm),fun x hx=>?_,fun x hx=>?_, ?_⟩
   ·rcases List.mem_cons.1 (hpm.subset hx) with rfl | q
    ·exact hrI
    ·exact hI x q
   ·rcases List.mem_cons.1 (hpm.subset hx) with rfl | q
    ·omega
    ·exact hc x q
   ·rw [cnt_perm hpm,cnt_cons,hr1,hn]; omega
 ·have hkd:(checkS d m e.1 e.2.1 e.2.2 != 0)=true:=by simpa using hk
  have hA:addK d m g R e=checkS d m e.1 e.2.1 e.2.2:=by unfold addK; rw [hkd]; rfl
  have hB:raddK d m g Lm e=checkS d m e.1 e.2.1 e.2.2:=by unfold raddK; rw [hkd]; rfl
  have hLA:addL d m g R e=R:=by unfold addL; rw [hA,hkd]; rfl
  have hLB:raddL d m g Lm e=Lm:=by unfold raddL; rw [hB,hkd]; rfl
  rw [hLA,hLB,hA,hB,hkd]
  exact ⟨rfl,hs,hp,hI,hc,hn⟩
end Go.Proofs.Vale
namespace Go.Proofs.Vale
open Go.Proofs Go.Proofs.YtplehleekabbaaaGreatDoorT
abbrev Pay:=Int × List A3
def J3 (a b:A3):A3:=⟨a.s+b.s,if b.mn < a.mn then b.mn else a.mn,if a.mx < b.mx then b.mx else a.mx⟩
def JP (p q:Pay):Pay:=(p.1+q.1,List.zipWith J3 p.2 q.2)
theorem J3_comm (a b:A3):J3 a b=J3 b a:=by
 unfold J3
 congr 1
 ·omega
 ·split <;> split <;> omega
 ·split <;> split <;> omega
theorem J3_assoc (a b c:A3):J3 (J3 a b) c=J3 a (J3 b c):=by
 unfold J3
 congr 1
 ·show a.s+b.s+c.s=a.s+(b.s+c.s); omega
 ·show (if c.mn < (if b.mn < a.mn then b.mn else a.mn) then c.mn else (if b.mn < a.mn then b.mn else a.mn))=if (if c.mn < b.mn then c.mn else b.mn) < a.mn then (if c.mn < b.mn then c.mn else b.mn) else a.mn
  (repeat' split) <;> omega
 ·show (if (if a.mx < b.mx then b.mx else a.mx) < c.mx then c.mx else (if a.mx < b.mx then b.mx else a.mx))=if a.mx < (if b.mx < c.mx then c.mx else b.mx) then (if b.mx < c.mx then c.mx else b.mx) else a.mx
  (repeat' split) <;> omega
theorem zJ_comm:∀ a b:List A3,List.zipWith J3 a b=List.zipWith J3 b a
 | [],[]=>rfl
 | [],_::_=>rfl
 | _::_,[]=>rfl
 | a::l,b::m=>by rw [List.zipWith_cons_cons,List.zipWith_cons_cons,J3_comm,zJ_comm l m]
theorem zJ_assoc:∀ a b c:List A3,List.zipWith J3 (List.zipWith J3 a b) c=List.zipWith J3 a (List.zipWith J3 b c)
 | [],_,_=>by simp
 | _::_,[],_=>by simp
 | _::_,_::_,[]=>by simp
 | a::l,b::m,c::n=>by simp only [List.zipWith_cons_cons]; rw [J3_assoc,zJ_assoc l m n]
def cmb:Option Pay→Option Pay→Option Pay
 | none,y=>y
 | some p,none=>some p
 | some p,some q=>some (JP p q)
theorem cmb_comm (x y:Option Pay):cmb x y=cmb y x:=by
 cases x <;> cases y <;> simp only [cmb]
 rename_i p q
 unfold JP
 rw [zJ_comm,Int.add_comm]
theorem cmb_assoc (x y z:Option Pay):cmb (cmb x y) z=cmb x (cmb y z):=by
 cases x <;> cases y <;> cases z <;> simp only [cmb]
 unfold JP
 simp only [zJ_assoc,Int.add_assoc]
theorem cmb_none (x:Option Pay):cmb x none=x:=by cases x <;> rfl
abbrev Key:=Int × List Str
def one1 (k:Key) (r:Rw):Option Pay:=if keyR r=k then some r.2.2 else none
def totR (k:Key):List Rw→Option Pay
 | []=>none
 | r::L=>cmb (one1 k r) (totR k L)
theorem tot_app (k:Key):∀ A B:List Rw,totR k (A++B)=cmb (totR k A) (totR k B)
 | [],B=>rfl
 | a::A,B=>by show cmb (one1 k a) (totR k (A++B))=cmb (cmb (one1 k a) (totR k A)) (totR k B); rw [tot_app k A B,cmb_assoc]
theorem tot_one (k:Key) (r:Rw):totR k [r]=one1 k r:=cmb_none _
theorem tot_perm (k:Key) {A B:List Rw} (h:A.Perm B):totR k A=totR k B:=by
 induction h with
 | nil=>rfl
 | cons x _ ih=>simp only [totR,ih]
 | swap x y l=>simp only [totR]; rw [← cmb_assoc,← cmb_assoc,cmb_comm (one1 k y)]
 | trans _ _ h1 h2=>exact h1.trans h2
theorem tot_no (k:Key):∀ L:List Rw,(∀ x∈L,keyR x≠k)→totR k L=none
 | [],_=>rfl
 | a::L,h=>by
  have h1:one1 k a=none:=if_neg (h a (by simp))
  simp only [totR,h1,cmb]
  exact tot_no k L fun x hx=>h x (by simp [hx])
theorem tot_in {L:List Rw} (h:SrtS L) {r:Rw} (hr:r∈L):totR (keyR r) L=some r.2.2:=by
 induction L with
 | nil=>cases hr
 | cons a L ih =>
  obtain ⟨ha,hL⟩:=List.pairwise_cons.1 h
  rcases List.mem_cons.1 hr with rfl | q
  ·have h0:totR (keyR r) L=none:=tot_no _ _ fun x hx e=>by
    have:=ha x hx
    have:=(cmpR_eq0 r x).2 e.symm
    omega
   have h1:one1 (keyR r) r=some r.2.2:=if_pos rfl
   simp only [totR,h0,h1,cmb]
  ·have h1:one1 (keyR r) a=none:=if_neg fun e=>by
    have:=ha r q
    have:=(cmpR_eq0 a r).2 e
    omega
   simp only [totR,h1,cmb]
   exact ih hL q
theorem tot_some {k:Key} {p:Pay}:∀ {L:List Rw},totR k L=some p→∃ r∈L,keyR r=k
 | [],h=>by cases h
 | a::L,h=>by
  by_cases e:keyR a=k
  ·exact ⟨a,by simp,e⟩
  ·have h1:one1 k a=none:=if_neg e
   simp only [totR,h1,cmb] at h
   obtain ⟨r,hr,hk⟩:=tot_some h
   exact ⟨r,by simp [hr],hk⟩
theorem srt_sub {A B:List Rw} (ha:SrtS A) (hb:SrtS B) (h:∀ k,totR k A=totR k B):∀ r∈A,r∈B:=by
 intro r hr
 have h1:=(h (keyR r)).symm.trans (tot_in ha hr)
 obtain ⟨x,hx,hk⟩:=tot_some h1
 have h2:=tot_in hb hx
 rw [hk,h1] at h2
 injection h2 with h2
 have:r=x:=by
  unfold keyR at hk
  injection hk with k1 k2
  exact Prod.ext k1.symm (Prod.ext k2.symm h2)
 rw [this]; exact hx
theorem srt_nodup {A:List Rw} (h:SrtS A):A.Nodup:=h.imp fun {a b} q e=>by rw [e,cmpR_refl] at q; omega
theorem srt_r {A:List Rw} (h:SrtS A):SrtR A:=h.imp fun {a b} q=>by omega
theorem srt_eq {A B:List Rw} (ha:SrtS A) (hb:SrtS B) (h:∀ k,totR k A=totR k B):A=B:=by
 have hp:B.Perm A:=(List.perm_ext_iff_of_nodup (srt_nodup hb) (srt_nodup ha)).2 fun r=>⟨srt_sub hb ha (fun k=>(h k).symm) r,srt_sub ha hb h r⟩
 exact (sort_uniq ha (srt_r hb) hp).symm
def CntOk (r:Rw):Prop:=1≤r.2.2.1∧r.2.2.1≤1048576
theorem joinF_ok {a b:A3} (h:(joinF a b).2=0):(joinF a b).1=J3 a b:=by
 unfold joinF at h ⊢
 split at h
 ·split at h
  ·rename_i h1 h2
   rw [if_pos h1,if_pos h2]; rfl
  ·cases h
 ·cases h
theorem joinG_ok:∀ {x y:List A3},(x.zip y).any joinB=false→joinG x y=List.zipWith J3 x y
 | [],_,_=>by simp [joinG]
 | _::_,[],_=>by simp [joinG]
 | a::x,b::y,h=>by
  rw [List.zip_cons_cons,List.any_cons,Bool.or_eq_false_iff] at h
  have h1:(joinF a b).2=0:=by simpa [joinB] using h.1
  have h2:=joinG_ok h.2
  unfold joinG at h2 ⊢
  rw [List.zipWith_cons_cons,List.zipWith_cons_cons,h2,joinF_ok h1]
theorem joinC_zero {a b:Rw} (h:joinC a b=0):keyR a=keyR b∧a.2.2.2.length=b.2.2.2.length∧IntKind.i64.wrap (a.2.2.1+b.2.2.1)≤1048576∧(a.2.2.2.zip b.2.2.2).any joinB=false:=by
 have hc:=joinC_cnt h
 unfold joinC at h
 cases h1:(bif cmpR a b != 0 then true else ((a.2.2.2.length:Int) != (b.2.2.2.length:Int))) with
 | true=>rw [h1] at h; cases h
 | false =>
  rw [h1] at h
  simp only [cond_false] at h
  have h0:cmpR a b=0:=by
   cases e:(cmpR a b != 0) with
   | true=>rw [e] at h1; cases h1
   | false=>simpa using e
  have h2:((a.2.2.2.length:Int) != (b.2.2.2.length:Int))=false:=by rw [h0] at h1; simpa using h1
  refine ⟨(cmpR_eq0 _ _).1 h0, by have : (a.2.2.2.length : Int) = b.2.2.2.length := by simpa using h2
                                  omega,hc, ?_⟩
  have h3:decide (1048576 < IntKind.i64.wrap (a.2.2.1+b.2.2.1))=false:=decide_eq_false (by omega)
  rw [h3] at h
  cases h4:(a.2.2.2.zip b.2.2.2).any joinB with
  | true=>rw [h4] at h; cases h
  | false=>rfl
theorem joinR_pay {a b:Rw} (h:joinC a b=0) (ha:CntOk a) (hb:CntOk b):joinR a b=(a.1,a.2.1,JP a.2.2 b.2.2)∧CntOk (joinR a b):=by
 obtain ⟨_,_,hc,hg⟩:=joinC_zero h
 obtain ⟨a1,a2⟩:=ha
 obtain ⟨b1,b2⟩:=hb
 have hw:IntKind.i64.wrap (a.2.2.1+b.2.2.1)=a.2.2.1+b.2.2.1:=wrap_id (by omega) (by omega)
 rw [hw] at hc
 have e:joinR a b=(a.1,a.2.1,JP a.2.2 b.2.2):=by
  rw [joinR_ok h,hw,joinG_ok hg]; rfl
 refine ⟨e, ?_⟩
 rw [e]
 exact ⟨by show 1≤a.2.2.1+b.2.2.1; omega,hc⟩
def RwN (p q:Nat) (r:Rw):Prop:=FoOk p q r∧CntOk r
structure Fin1 (φ:Rw→Rw):Prop where
 key:∀ {a b},keyR a=keyR b→keyR (φ a)=keyR (φ b)
 pay:∀ a,(φ a).2.2=a.2.2
theorem one_key {φ:Rw→Rw} (hφ:Fin1 φ) (k:Key) {a b c:Rw} (h:keyR a=keyR b) (hc:keyR c=keyR a) (hp:c.2.2=JP a.2.2 b.2.2):one1 k (φ c)=cmb (one1 k (φ a)) (one1 k (φ b)):=by
 have h1:=hφ.key h
 have h2:=hφ.key hc
 unfold one1
 rw [h2,← h1,hφ.pay,hφ.pay,hφ.pay,hp]
 split <;> rfl
theorem split_at {L:List Rw} {j:Nat} (h:j < L.length):L=L.take j++G L j::L.drop (j+1):=by
 rw [G_lt h]; simp
theorem stepR_tot {φ : Rw → Rw} (hφ : Fin1 φ) {p q : Nat} {out out' : List Rw} {r : Rw} (hs : SrtS out) (ho : ∀ x ∈ out, RwN p q x) (hr : RwN p q r) (h : stepR out r = (0, out')) :
  SrtS out'∧(∀ x∈out',RwN p q x)∧(∀ k,totR k (out'.map φ)=cmb (totR k (out.map φ)) (one1 k (φ r)))∧∀ x∈out',keyR x=keyR r∨∃ y∈out,keyR x=keyR y:=by
 have hl:∀ x∈out,x.2.1.length=r.2.1.length:=fun x hx=>by rw [(ho x hx).1.1,hr.1.1]
 unfold stepR at h
 split at h
 ·rename_i hc
  split at h
  ·rename_i hj
   injection h with _ h
   subst h
   obtain ⟨hk,hlen,_,_⟩:=joinC_zero hj
   have hm:G out (posR out r)∈out:=by rw [G_lt hc.1]; exact List.getElem_mem _
   obtain ⟨e,hcn⟩:=joinR_pay hj (ho _ hm).2 hr.2
   have hjk:keyR (joinR (G out (posR out r)) r)=keyR (G out (posR out r)):=by rw [e]; rfl
   have hN:RwN p q (joinR (G out (posR out r)) r):=⟨joinR_ok2 (ho _ hm).1 hr.1 hj,hcn⟩
   rw [← set_cut _ hc.1]
   refine ⟨set_srt hs hc.1 hjk,fun x hx=>?_,fun k=>?_,fun x hx=>?_⟩
   ·rcases List.mem_or_eq_of_mem_set hx with q | rfl
    ·exact ho x q
    ·exact hN
   ·have e1:=split_at hc.1
    rw [set_cut _ hc.1]
    conv=>rhs; rw [e1]
    rw [List.map_append,List.map_cons,List.map_append,List.map_cons,tot_app,tot_app]
    show cmb _ (cmb (one1 k (φ (joinR (G out (posR out r)) r))) _)=cmb (cmb _ (cmb (one1 k (φ (G out (posR out r)))) _)) _
    rw [one_key hφ k hk hjk (by rw [e])]
    rw [cmb_assoc,cmb_assoc,cmb_assoc,cmb_comm (one1 k (φ r))]
   ·rcases List.mem_or_eq_of_mem_set hx with q | rfl
    ·exact .inr ⟨x,q,rfl⟩
    ·exact .inl (hjk.trans hk)
  ·rename_i hj
   injection h with h1 _
   exact absurd h1 hj
 ·rename_i hc
  injection h with _ h
  subst h
  have hno:∀ x∈out,keyR x≠keyR r:=by
   intro x hx e
   obtain ⟨j,hj,rfl⟩:=List.getElem_of_mem hx
   have hp:=posR_key hs hl hj (by rw [G_lt hj]; exact e)
   exact hc ⟨by omega,by rw [hp,G_lt hj]; exact (keyB_iff _ _).2 e⟩
  have hpm:(out.take (posR out r)++r::out.drop (posR out r)).Perm (r::out):=by
   have:=List.perm_middle (a:=r) (l₁:=out.take (posR out r)) (l₂:=out.drop (posR out r))
   rwa [List.take_append_drop] at this
  refine ⟨insert_srt hs hl hno,fun x hx=>?_,fun k=>?_,fun x hx=>?_⟩
  ·rcases List.mem_cons.1 (hpm.subset hx) with rfl | q
   ·exact hr
   ·exact ho x q
  ·rw [tot_perm k (hpm.map φ),List.map_cons]
   show cmb (one1 k (φ r)) _=_
   rw [cmb_comm]
  ·rcases List.mem_cons.1 (hpm.subset hx) with rfl | q
   ·exact .inl rfl
   ·exact .inr ⟨x,q,rfl⟩
theorem fin_id:Fin1 (fun r=>r):=⟨id,fun _=>rfl⟩
theorem foldF_tot {φ : Rw → Rw} (hφ : Fin1 φ) {p q : Nat} {L out : List Rw} (hL : ∀ x ∈ L, RwN p q x) (h : foldF L = (0, out)) :
  SrtS out∧(∀ x∈out,RwN p q x)∧(∀ k,totR k (out.map φ)=totR k (L.map φ))∧∀ x∈out,∃ y∈L,keyR x=keyR y:=by
 have:∀ n,n≤L.length→∀ o,foldF (L.take n)=(0,o)→SrtS o∧(∀ x∈o,RwN p q x)∧(∀ k,totR k (o.map φ)=totR k ((L.take n).map φ))∧∀ x∈o,∃ y∈L,keyR x=keyR y:=by
  intro n
  induction n with
  | zero=>intro _ o ho; injection ho with _ ho; subst ho; exact ⟨List.Pairwise.nil,by simp,fun _=>rfl,by simp⟩
  | succ n ih =>
   intro hn o ho
   have hl:n < L.length:=by omega
   rw [foldF_snoc L n hl] at ho
   by_cases e:(foldF (L.take n)).1=0
   ·have e2:foldF (L.take n)=(0,(foldF (L.take n)).2):=Prod.ext e rfl
    obtain ⟨h1,h2,h3,h4⟩:=ih (by omega) _ e2
    rw [e2] at ho
    have ho:stepR (foldF (L.take n)).2 L[n]=(0,o):=ho
    obtain ⟨i1,i2,i3,i4⟩:=stepR_tot hφ h1 h2 (hL _ (List.getElem_mem _)) ho
    refine ⟨i1,i2,fun k=>?_,fun x hx=>?_⟩
    ·rw [i3 k,h3 k,List.take_succ_eq_append_getElem hl,List.map_append,tot_app]
     exact congrArg _ (tot_one k _).symm
    ·rcases i4 x hx with q | ⟨y,hy,q⟩
     ·exact ⟨_,List.getElem_mem hl,q⟩
     ·obtain ⟨z,hz,e⟩:=h4 y hy
      exact ⟨z,hz,q.trans e⟩
   ·have:foldS (foldF (L.take n)) L[n]=foldF (L.take n):=by unfold foldS; rw [if_neg e]
    rw [this] at ho
    exact absurd (by rw [ho]) e
 have h2:=this L.length (Nat.le_refl _) out (by rw [List.take_length]; exact h)
 rwa [List.take_length] at h2
def wS (i:Nat) (r:Rw):Int:=match r.2.2.2[i]? with | some a=>(if a.s < 0 then -a.s else a.s) | none=>0
def wL (i:Nat) (L:List Rw):Int:=(L.map (wS i)).sum
def RightG (r:Rw):Prop:=∀ a∈r.2.2.2,rightF a=true
theorem wS_nn (i:Nat) (r:Rw):0≤wS i r:=by
 unfold wS
 split
 ·split <;> omega
 ·omega
theorem wL_cons (i:Nat) (a:Rw) (L:List Rw):wL i (a::L)=wS i a+wL i L:=by simp [wL]
theorem wL_app (i:Nat) (A B:List Rw):wL i (A++B)=wL i A+wL i B:=by simp [wL]
theorem wL_nn (i:Nat):∀ L:List Rw,0≤wL i L
 | []=>by simp [wL]
 | a::L=>by rw [wL_cons]; have:=wS_nn i a; have:=wL_nn i L; omega
theorem wL_mem {i:Nat} {r:Rw}:∀ {L:List Rw},r∈L→wS i r≤wL i L
 | a::L,h=>by
  rw [wL_cons]
  rcases List.mem_cons.1 h with rfl | q
  ·have:=wL_nn i L; omega
  ·have:=wL_mem (i:=i) q; have:=wS_nn i a; omega
theorem rightF_iff (a:A3):rightF a=true↔fitsI a.s=true∧fitsI a.mn=true∧fitsI a.mx=true∧a.mn≤a.mx:=by
 simp only [rightF,Bool.and_eq_true,decide_eq_true_eq,and_assoc]
theorem J3_right {a b:A3} (ha:rightF a=true) (hb:rightF b=true) (hs:fitsI (a.s+b.s)=true):joinF a b=(J3 a b,0)∧rightF (J3 a b)=true:=by
 constructor
 ·unfold joinF
  rw [ha,hb,hs]; rfl
 ·rw [rightF_iff] at ha hb ⊢
  obtain ⟨-,a1,a2,a3⟩:=ha
  obtain ⟨-,b1,b2,b3⟩:=hb
  rw [fitsI_iff] at a1 a2 b1 b2
  refine ⟨hs,(fitsI_iff _).2 ?_,(fitsI_iff _).2 ?_, ?_⟩
  ·show _≤(if b.mn < a.mn then b.mn else a.mn)∧(if b.mn < a.mn then b.mn else a.mn)≤_
   split <;> omega
  ·show _≤(if a.mx < b.mx then b.mx else a.mx)∧(if a.mx < b.mx then b.mx else a.mx)≤_
   split <;> omega
  ·show (if b.mn < a.mn then b.mn else a.mn)≤(if a.mx < b.mx then b.mx else a.mx)
   split <;> split <;> omega
theorem join_fits {a b : Rw} {p q : Nat} (ha : RwN p q a) (hb : RwN p q b) (hk : keyR a = keyR b) (ra : RightG a) (rb : RightG b) (hc : a.2.2.1 + b.2.2.1 ≤ 1048576) (hw : ∀ i, i < q → wS i a + wS i b ≤ 4611686018427387904) :
  joinC a b=0∧RightG (joinR a b)∧∀ i,wS i (joinR a b)≤wS i a+wS i b:=by
 have hla:=ha.1.2
 have hlb:=hb.1.2
 obtain ⟨a1,a2⟩:=ha.2
 obtain ⟨b1,b2⟩:=hb.2
 have hsum:∀ i (h1:i < a.2.2.2.length) (h2:i < b.2.2.2.length),fitsI (a.2.2.2[i].s+b.2.2.2[i].s)=true:=by
  intro i h1 h2
  have:=hw i (by omega)
  unfold wS at this
  rw [List.getElem?_eq_getElem h1,List.getElem?_eq_getElem h2] at this
  simp only at this
  rw [fitsI_iff]
  split at this <;> split at this <;> omega
 have hany:(a.2.2.2.zip b.2.2.2).any joinB=false:=by
  rw [List.any_eq_false]
  intro x hx
  obtain ⟨i,hi,rfl⟩:=List.getElem_of_mem hx
  simp only [List.length_zip] at hi
  have h1:i < a.2.2.2.length:=by omega
  have h2:i < b.2.2.2.length:=by omega
  have:=(J3_right (ra _ (List.getElem_mem h1)) (rb _ (List.getElem_mem h2)) (hsum i h1 h2)).1
  simp [joinB,this]
 have h0:cmpR a b=0:=(cmpR_eq0 _ _).2 hk
 have hj:joinC a b=0:=by
  unfold joinC
  have e1:(bif cmpR a b != 0 then true else ((a.2.2.2.length:Int) != (b.2.2.2.length:Int)))=false:=by
   rw [h0,hla,hlb]; simp
  have e2:decide (1048576 < IntKind.i64.wrap (a.2.2.1+b.2.2.1))=false:=decide_eq_false (by rw [wrap_id (by omega) (by omega)]; omega)
  rw [e1,e2,hany]; rfl
 obtain ⟨e,_⟩:=joinR_pay hj ha.2 hb.2
 refine ⟨hj, ?_,fun i=>?_⟩
 ·rw [e]
  intro x hx
  have hx:x∈List.zipWith J3 a.2.2.2 b.2.2.2:=hx
  obtain ⟨i,hi,rfl⟩:=List.getElem_of_mem hx
  simp only [List.length_zipWith] at hi
  rw [List.getElem_zipWith]
  exact (J3_right (ra _ (List.getElem_mem _)) (rb _ (List.getElem_mem _)) (hsum i (by omega) (by omega))).2
 ·rw [e]
  show wS i (a.1,a.2.1,a.2.2.1+b.2.2.1,List.zipWith J3 a.2.2.2 b.2.2.2)≤_
  by_cases h:i < q
  ·have h1:i < a.2.2.2.length:=by omega
   have h2:i < b.2.2.2.length:=by omega
   unfold wS
   rw [List.getElem?_eq_getElem h1,List.getElem?_eq_getElem h2]
   simp only
   rw [List.getElem?_eq_getElem (by simp; omega),List.getElem_zipWith]
   show (if a.2.2.2[i].s+b.2.2.2[i].s < 0 then -(a.2.2.2[i].s+b.2.2.2[i].s) else a.2.2.2[i].s+b.2.2.2[i].s)≤_
   split <;> split <;> split <;> omega
  ·have h3:wS i (a.1,a.2.1,a.2.2.1+b.2.2.1,List.zipWith J3 a.2.2.2 b.2.2.2)=0:=by
    unfold wS
    rw [List.getElem?_eq_none (by simp; omega)]
   rw [h3]
   have:=wS_nn i a
   have:=wS_nn i b
   omega
theorem cnt_mem {r:Rw}:∀ {L:List Rw},(∀ x∈L,CntOk x)→r∈L→r.2.2.1≤cntR L
 | a::L,h,q=>by
  rw [cnt_cons]
  have hp:∀ M:List Rw,(∀ x∈M,CntOk x)→0≤cntR M:=by
   intro M hM
   induction M with
   | nil=>simp [cntR]
   | cons b M ih=>rw [cnt_cons]; have:=(hM b (by simp)).1; have:=ih fun x hx=>hM x (by simp [hx]); omega
  rcases List.mem_cons.1 q with rfl | q
  ·have:=hp L fun x hx=>h x (by simp [hx]); omega
  ·have:=cnt_mem (fun x hx=>h x (by simp [hx])) q; have:=(h a (by simp)).1; omega
theorem stepR_fits {p q : Nat} {out : List Rw} {r : Rw} (hs : SrtS out) (ho : ∀ x ∈ out, RwN p q x) (hr : RwN p q r) (go : ∀ x ∈ out, RightG x) (gr' : RightG r) (hc : cntR out + r.2.2.1 ≤ 1048576) (hw : ∀ i, i < q → wL i out + wS i r ≤ 4611686018427387904) :
  ∃ out',stepR out r=(0,out')∧(∀ x∈out',RightG x)∧cntR out'=cntR out+r.2.2.1∧∀ i,wL i out'≤wL i out+wS i r:=by
 unfold stepR
 split
 ·rename_i h1
  have hm:G out (posR out r)∈out:=by rw [G_lt h1.1]; exact List.getElem_mem _
  obtain ⟨j1,j2,j3⟩:=join_fits (ho _ hm) hr ((keyB_iff _ _).1 h1.2) (go _ hm) gr' (by have:=cnt_mem (fun x hx=>(ho x hx).2) hm; omega) (fun i hi=>by have:=wL_mem (i:=i) hm; have:=hw i hi; omega)
  obtain ⟨e,_⟩:=joinR_pay j1 (ho _ hm).2 hr.2
  have e1:=split_at h1.1
  refine ⟨_,by rw [if_pos j1],fun x hx=>?_, ?_,fun i=>?_⟩
  ·rw [← set_cut _ h1.1] at hx
   rcases List.mem_or_eq_of_mem_set hx with q | rfl
   ·exact go x q
   ·exact j2
  ·conv=>rhs; rw [e1]
   rw [cnt_app,cnt_cons,cnt_app,cnt_cons,e]
   show _+((G out (posR out r)).2.2.1+r.2.2.1+_)=_
   omega
  ·conv=>rhs; rw [e1]
   rw [wL_app,wL_cons,wL_app,wL_cons]
   have:=j3 i
   omega
 ·refine ⟨_,rfl,fun x hx=>?_, ?_,fun i=>?_⟩
  ·rcases List.mem_append.1 hx with q | q
   ·exact go x (List.mem_of_mem_take q)
   ·rcases List.mem_cons.1 q with rfl | q
    ·exact gr'
    ·exact go x (List.mem_of_mem_drop q)
  ·conv=>rhs; rw [← List.take_append_drop (posR out r) out]
   rw [cnt_app,cnt_cons,cnt_app]; omega
  ·conv=>rhs; rw [← List.take_append_drop (posR out r) out]
   rw [wL_app,wL_cons,wL_app]; omega
end Go.Proofs.Vale
