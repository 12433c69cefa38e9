/- YtplehleekabbaaaGreatDoorVFldB: a text of the proof of this claim, by its prover. -/
import Derived.Test.YtplehleekabbaaaGreatDoorVFldA
import Derived.Shelf.SlMaps.Clone
import Derived.Test.YtplehleekabbaaaGreatDoorVTr
set_option linter.unusedVariables false
set_option linter.unusedSimpArgs false
set_option maxHeartbeats 4000000
set_option maxRecDepth 100000
namespace Go.Proofs.Vale
open Go.Proofs Go.Proofs.YtplehleekabbaaaGreatDoorT
attribute [local irreducible] acode aopsL aopsT dopsL dopsT pop popG aop ALoop ADraw ACall AWP AFin acondT ALoopT ADrawT ACallT doP doG doGd frL frT frX
end Go.Proofs.Vale
namespace Go.Proofs.Vale
open Go.Proofs Go.Proofs.YtplehleekabbaaaGreatDoorT
attribute [local irreducible] acode aopsL aopsT dopsL dopsT pop popG aop ALoop ADraw ACall AWP AFin acondT ALoopT ADrawT ACallT doP doG doGd frL frT frX
theorem take_len {H H':List AObj} (h:∀ i,i < H.length→H'[i]? = H[i]?):∃ z,H'=H++z:=by
 have hle:H.length≤H'.length:=by
  rcases Nat.lt_or_ge H'.length H.length with q | q
  ·have:=h H'.length q
   rw [List.getElem?_eq_none (Nat.le_refl _),List.getElem?_eq_getElem q] at this
   cases this
  ·exact q
 refine ⟨H'.drop H.length, ?_⟩
 have e:H'.take H.length=H:=List.ext_getElem? fun i=>by
  by_cases q:i < H.length
  ·rw [List.getElem?_take_of_lt q,h i q]
  ·rw [List.getElem?_eq_none (by simp; omega),List.getElem?_eq_none (by omega)]
 conv=>lhs; rw [← List.take_append_drop H.length H',e]
theorem low_rowsF (n:Nat) (L:List Rw):(AV.fz false (rowsA L)).low n=true:=by
 simp only [AV.low]
 induction L with
 | nil=>rfl
 | cons a l ih =>
  have:rowsA (a::l)=rowA a::rowsA l:=rfl
  rw [this]
  simp only [lowL,low_row,Bool.true_and]
  exact ih
theorem lowO_ent (n:Nat) (R:List Rw):lowO n (.map (entR keyT R))=true:=by
 simp only [lowO]
 rw [List.all_eq_true]
 intro x hx
 obtain ⟨r,_,rfl⟩:=List.mem_map.1 hx
 simp [AV.low,low_row]
theorem lowO_ix (n:Nat) (d m:List Str) (g k:Int) (mt:Nat) (h:mt < n):lowO n (ixO d m g mt k)=true:=by
 simp [lowO,ixO,lowL,AV.low,low_strs,h]
theorem irowsE (Lm R : List Rw) (d m : List Str) (g n : Int) (xt mt : Nat) (H0 : List AObj) (hs : SrtS Lm) (hp : Lm.Perm R) (hn : R.length ≤ 2000000000000) (hok : ∀ r ∈ R, r.2.1.length ≤ 2000000000000 ∧ r.2.2.2.length ≤ 2000000000000) (hx : H0[xt]? = some (ixO d m g mt n)) (hm : H0[mt]? = some (.map (entR keyT R))) :
  ACall Tryz.prog 16 [.ref xt 0 5 0 0] H0 (fun r H'=>r=.fz false (rowsA Lm)∧H'=H0):=by
 refine ACall.trim 1 (irows_ok keyT R d m g n xt mt H0 hn hok hx hm) ?_
 rintro r H' ⟨⟨R',hp2,hs2,rfl⟩,hold⟩
 obtain ⟨z,rfl⟩:=take_len hold
 have e:=sort_uniq hs hs2 (hp2.trans hp.symm)
 subst e
 exact ⟨H0,z,rfl,rfl,low_rowsF _ _,fun i o h=>.inl h,rfl,rfl⟩
theorem iaddE (R : List Rw) (d m : List Str) (g n : Int) (e : Ev) (xt mt : Nat) (H0 : List AObj) (hne : xt ≠ mt) (hd : d.length ≤ 1000) (he1 : e.2.1.length ≤ 1000) (he2 : e.2.2.length ≤ 1000) (hv : ∀ s ∈ e.2.1, s.length ≤ 1000) (hg : gr g = true) (hn0 : 0 ≤ n) (hn : n ≤ 1000000) (hR : ∀ r ∈ R, RowI d m r) (hm2 : m.length ≤ 1000) (hx : H0[xt]? = some (ixO d m g mt n)) (hm : H0[mt]? = some (.map (entR keyT R))) :
  ACall Tryz.prog 15 [.ref xt 0 5 0 0,eventA e] H0 (fun r H'=>r=.int .i64 (addK d m g R e)∧H'=(H0.set xt (ixO d m g mt (bif addK d m g R e != 0 then n else n+1))).set mt (.map (entR keyT (addL d m g R e)))):=by
 have hxl:xt < H0.length:=(List.getElem?_eq_some_iff.1 hx).1
 have hml:mt < H0.length:=(List.getElem?_eq_some_iff.1 hm).1
 refine ACall.trim 1 (iadd_ok R d m g n e xt mt H0 hne hd he1 he2 hv hg hn0 hn hR hm2 hx hm) ?_
 rintro r H' ⟨rfl,h1,h2,h3,h4⟩
 obtain ⟨B,hB⟩:∃ B,B=(H0.set xt (ixO d m g mt (bif addK d m g R e != 0 then n else n+1))).set mt (.map (entR keyT (addL d m g R e))):=⟨_,rfl⟩
 have hBl:B.length=H0.length:=by rw [hB]; simp
 have hBg:∀ i,i < B.length→H'[i]? = B[i]? := by
  intro i hi
  rw [hB]
  by_cases e1:i=mt
  ·subst e1; rw [List.getElem?_set_self (by simp; omega),h4]
  ·rw [List.getElem?_set_ne (fun q=>e1 q.symm)]
   by_cases e2:i=xt
   ·subst e2; rw [List.getElem?_set_self (by omega),h3]
   ·rw [List.getElem?_set_ne (fun q=>e2 q.symm)]; exact h1 i (by omega) e2 e1
 obtain ⟨z,rfl⟩:=take_len hBg
 refine ⟨B,z,rfl,hBl,rfl,fun i o ho=>?_,rfl,hB⟩
 rw [hB] at ho
 by_cases e1:i=mt
 ·subst e1
  rw [List.getElem?_set_self (by simp; omega)] at ho
  injection ho with ho; subst ho
  exact .inr (lowO_ent _ _)
 ·rw [List.getElem?_set_ne (fun q=>e1 q.symm)] at ho
  by_cases e2:i=xt
  ·subst e2
   rw [List.getElem?_set_self (by omega)] at ho
   injection ho with ho; subst ho
   exact .inr (lowO_ix _ _ _ _ _ _ hml)
  ·rw [List.getElem?_set_ne (fun q=>e2 q.symm)] at ho
   exact .inl ho
end Go.Proofs.Vale
namespace Go.Proofs.Vale
open Go.Proofs Go.Proofs.YtplehleekabbaaaGreatDoorT
structure Ix (d m:List Str) (Lm R:List Rw) (n:Int) (ES:List Rw):Prop where
 st:StepS d m Lm R n
 tt:∀ k,totR k Lm=totR k ES
 cn:n=ES.length
theorem Ix.nil (d m:List Str):Ix d m [] [] 0 []:=⟨⟨List.Pairwise.nil,.refl _,by simp,by simp,rfl⟩,fun _=>rfl,rfl⟩
theorem Ix.rwn {d m:List Str} {Lm R:List Rw} {n:Int} {ES:List Rw} (h:Ix d m Lm R n ES):∀ x∈Lm,RwN d.length m.length x:=fun x hx=>by
 obtain ⟨_,_,h3,h4,_⟩:=h.st
 exact ⟨⟨(h3 x hx).1,(h3 x hx).2.2.1⟩,h4 x hx⟩
theorem ix_rwn {d m:List Str} {e:Ev} {g:Int} (hg:gr g=true) (h:checkS d m e.1 e.2.1 e.2.2=0):RwN d.length m.length (ixRow g e):=by
 have:=rowI_new (g:=g) hg h
 exact ⟨⟨this.1,this.2.2.1⟩,by show (1:Int)≤1; omega,by show (1:Int)≤1048576; omega⟩
theorem raddK_step {d m:List Str} {g:Int} {Lm:List Rw} {e:Ev} (hs:SrtS Lm) (hl:∀ x∈Lm,∀ y∈Lm,x.2.1.length=y.2.1.length) (hk:checkS d m e.1 e.2.1 e.2.2=0):raddK d m g Lm e=(stepR Lm (ixRow g e)).1∧((stepR Lm (ixRow g e)).1=0→raddL d m g Lm e=(stepR Lm (ixRow g e)).2):=by
 have hF:foldF (Lm++[ixRow g e])=stepR Lm (ixRow g e):=by
  have:=foldF_srt hs hl
  unfold foldF at this ⊢
  rw [List.foldl_append,this]; rfl
 have h1:raddK d m g Lm e=(stepR Lm (ixRow g e)).1:=by unfold raddK; rw [hk,← hF]; rfl
 refine ⟨h1,fun q=>?_⟩
 unfold raddL
 rw [h1,q,← hF]; rfl
theorem Ix.add {d m : List Str} {Lm R : List Rw} {n : Int} {ES : List Rw} {g : Int} {e : Ev} (h : Ix d m Lm R n ES) (hg : gr g = true) (hk : checkS d m e.1 e.2.1 e.2.2 = 0) (ha : addK d m g R e = 0) :
  ∃ Lm',Ix d m Lm' (addL d m g R e) (n+1) (ES++[ixRow g e]):=by
 obtain ⟨h1,h2⟩:=step_same e hg h.st
 have hl:∀ x∈Lm,∀ y∈Lm,x.2.1.length=y.2.1.length:=fun x hx y hy=>by rw [(h.rwn x hx).1.1,(h.rwn y hy).1.1]
 obtain ⟨r1,r2⟩:=raddK_step (g:=g) (e:=e) h.st.1 hl hk
 rw [h1,ha] at r1
 have r3:=r2 r1.symm
 have hst:stepR Lm (ixRow g e)=(0,raddL d m g Lm e):=Prod.ext r1.symm r3.symm
 obtain ⟨-,-,t3,-⟩:=stepR_tot fin_id h.st.1 h.rwn (ix_rwn hg hk) hst
 rw [ha] at h2
 refine ⟨raddL d m g Lm e,h2,fun k=>?_,by rw [h.cn]; simp⟩
 have:=t3 k
 simp only [List.map_id'] at this
 rw [this,h.tt k,tot_app,tot_one]
structure Ixb (q:Nat) (Lm:List Rw) (ES:List Rw):Prop where
 rg:∀ x∈Lm,RightG x
 wl:∀ i,wL i Lm≤wL i ES
theorem Ixb.nil (q:Nat):Ixb q [] []:=⟨by simp,fun _=>Int.le_refl _⟩
theorem ones_right (g:Int) (e:Ev):RightG (ixRow g e):=by
 intro a ha
 have ha:a∈onesG e.2.2:=ha
 unfold onesG at ha
 obtain ⟨n,_,rfl⟩:=List.mem_map.1 ha
 unfold oneF
 split
 ·rename_i hf
  rw [rightF_iff]
  exact ⟨hf,hf,hf,Int.le_refl _⟩
 ·rfl
theorem wS_one (g:Int) (e:Ev) (i:Nat):wS i (ixRow g e)≤sizeF (e.2.2.getD i 0):=by
 unfold wS
 have e1:(ixRow g e).2.2.2=onesG e.2.2:=rfl
 rw [e1]
 unfold onesG
 rw [List.getElem?_map]
 cases q:e.2.2[i]? with
 | none =>
  simp only [Option.map_none]
  unfold sizeF
  split
  ·split <;> omega
  ·omega
 | some n =>
  simp only [Option.map_some]
  rw [List.getD_eq_getElem?_getD,q]
  simp only [Option.getD_some]
  unfold oneF sizeF
  split
  ·show (if n < 0 then -n else n)≤_
   split <;> split <;> omega
  ·show (if (0:Int) < 0 then -0 else 0)≤_
   split <;> omega
theorem Ix.fits {d m : List Str} {Lm R : List Rw} {n : Int} {ES : List Rw} {g : Int} {e : Ev} (h : Ix d m Lm R n ES) (hb : Ixb m.length Lm ES) (hg : gr g = true) (hk : checkS d m e.1 e.2.1 e.2.2 = 0) (hn : n < 1048576) (hw : ∀ i, i < m.length → wL i ES + wS i (ixRow g e) ≤ 4611686018427387904) :
  addK d m g R e=0∧∃ Lm',Ix d m Lm' (addL d m g R e) (n+1) (ES++[ixRow g e])∧Ixb m.length Lm' (ES++[ixRow g e]):=by
 have hl:∀ x∈Lm,∀ y∈Lm,x.2.1.length=y.2.1.length:=fun x hx y hy=>by rw [(h.rwn x hx).1.1,(h.rwn y hy).1.1]
 obtain ⟨r1,r2⟩:=raddK_step (g:=g) (e:=e) h.st.1 hl hk
 have hc:cntR Lm=n:=h.st.2.2.2.2
 obtain ⟨o,s1,s2,s3,s4⟩:=stepR_fits h.st.1 h.rwn (ix_rwn hg hk) hb.rg (ones_right g e) (by rw [hc]; show n+1≤1048576; omega) (fun i hi=>by have:=hw i hi; have:=hb.wl i; omega)
 have h1:=(step_same e hg h.st).1
 rw [s1] at r1
 have r1:raddK d m g Lm e=0:=r1
 have ha:addK d m g R e=0:=by rw [← h1,r1]
 have r3:raddL d m g Lm e=o:=by have:=r2 (by rw [s1]); rw [this,s1]
 refine ⟨ha, ?_⟩
 obtain ⟨_,h2⟩:=step_same e hg h.st
 have hst:stepR Lm (ixRow g e)=(0,raddL d m g Lm e):=by rw [s1,r3]
 obtain ⟨-,-,t3,-⟩:=stepR_tot fin_id h.st.1 h.rwn (ix_rwn hg hk) hst
 rw [ha] at h2
 refine ⟨raddL d m g Lm e,⟨h2,fun k=>?_,by rw [h.cn]; simp⟩,⟨by rw [r3]; exact s2,fun i=>?_⟩⟩
 ·have:=t3 k
  simp only [List.map_id'] at this
  rw [this,h.tt k,tot_app,tot_one]
 ·rw [r3,wL_app]
  have:=s4 i
  have:=hb.wl i
  have:wL i [ixRow g e]=wS i (ixRow g e):=by simp [wL]
  omega
structure Spent (q:Nat) (ss:List Int) (n:Int) (ES:List Rw):Prop where
 len:ss.length=q
 cov:∀ i,i < q→wL i ES≤ss.getD i 0∧ss.getD i 0≤4611686018427387904
 cnt:n=ES.length
theorem chg_zero {d m:List Str} {t:Int} {dims:List Str} {ms:List Int} {n:Int} {ss:List Int} (h:chgC d m t dims ms n ss=0):checkS d m t dims ms=0∧ss.length=m.length∧0≤n∧n < 1048576∧(ss.zip ms).any badZ=false:=by
 unfold chgC at h
 by_cases h0:checkS d m t dims ms=0
 ·have e0:(checkS d m t dims ms != 0)=false:=by simp [h0]
  rw [e0] at h
  simp only [cond_false] at h
  refine ⟨h0, ?_⟩
  cases h1:(bif (bif ((ss.length:Int) != (m.length:Int)) then true else decide (n < 0)) then true else decide (1048576≤n)) with
  | true=>rw [h1] at h; cases h
  | false =>
   rw [h1] at h
   simp only [cond_false] at h
   have e1:(bif ((ss.length:Int) != (m.length:Int)) then true else decide (n < 0))=false:=by
    cases q:(bif ((ss.length:Int) != (m.length:Int)) then true else decide (n < 0)) with
    | true=>rw [q] at h1; cases h1
    | false=>rfl
   rw [e1] at h1
   simp only [cond_false] at h1
   have e2:((ss.length:Int) != (m.length:Int))=false:=by
    cases q:((ss.length:Int) != (m.length:Int)) with
    | true=>rw [q] at e1; cases e1
    | false=>rfl
   rw [e2] at e1
   simp only [cond_false] at e1
   have a1:=of_decide_eq_false h1
   have a2:=of_decide_eq_false e1
   have a3:(ss.length:Int)=m.length:=by simpa using e2
   refine ⟨by omega,by omega,by omega, ?_⟩
   cases q:(ss.zip ms).any badZ with
   | true=>rw [q] at h; cases h
   | false=>rfl
 ·have e0:(checkS d m t dims ms != 0)=true:=by simpa using h0
  rw [e0] at h
  exact absurd h h0
theorem badZ_false {a n:Int} (h:badZ (a,n)=false):0≤a∧a+sizeF n≤4611686018427387904:=by
 unfold badZ at h
 cases q:decide (a < 0) with
 | true=>simp only [q,cond_true] at h; cases h
 | false =>
  simp only [q,cond_false] at h
  have a1:=of_decide_eq_false q
  have a2:=of_decide_eq_false h
  omega
theorem addZ_get (ss ms:List Int) (i:Nat) (h1:i < ss.length) (h2:i < ms.length):(addZ ss ms).getD i 0=ss.getD i 0+sizeF (ms.getD i 0):=by
 unfold addZ
 simp only [List.getD_eq_getElem?_getD]
 rw [List.getElem?_eq_getElem (by simp; omega),List.getElem?_eq_getElem h1,List.getElem?_eq_getElem h2,List.getElem_zipWith]
 rfl
theorem Spent.take {d m : List Str} {e : Ev} {n : Int} {ss : List Int} {ES : List Rw} (g : Int) (h : Spent m.length ss n ES) (hc : chgC d m e.1 e.2.1 e.2.2 n ss = 0) :
  checkS d m e.1 e.2.1 e.2.2=0∧n < 1048576∧(∀ i,i < m.length→wL i ES+wS i (ixRow g e)≤4611686018427387904)∧Spent m.length (addZ ss e.2.2) (n+1) (ES++[ixRow g e]):=by
 obtain ⟨h0,h1,h2,h3,h4⟩:=chg_zero hc
 have hl:=check_len h0
 have key:∀ i,i < m.length→ss.getD i 0+sizeF (e.2.2.getD i 0)≤4611686018427387904:=by
  intro i hi
  have hz:i < (ss.zip e.2.2).length:=by simp; omega
  have:=List.any_eq_false.1 h4 (ss.zip e.2.2)[i] (List.getElem_mem _)
  have:=badZ_false (a:=ss[i]'(by omega)) (n:=e.2.2[i]'(by omega)) (by simpa using this)
  rw [List.getD_eq_getElem?_getD,List.getD_eq_getElem?_getD,List.getElem?_eq_getElem (by omega),List.getElem?_eq_getElem (by omega)]
  exact this.2
 refine ⟨h0,h3,fun i hi=>?_,⟨by rw [addZ_len _ _ (by omega)]; exact h1,fun i hi=>?_,by rw [h.cnt]; simp⟩⟩
 ·have:=h.cov i hi
  have:=key i hi
  have:=wS_one g e i
  omega
 ·rw [addZ_get _ _ _ (by omega) (by omega),wL_app]
  have:=h.cov i hi
  have:=key i hi
  have:=wS_one g e i
  have:wL i [ixRow g e]=wS i (ixRow g e):=by simp [wL]
  omega
end Go.Proofs.Vale
