/- YtplehleekabbaaaGreatDoorVDrx: a text of the proof of this claim, by its prover. -/
import Derived.Test.YtplehleekabbaaaGreatDoorVRe
import Derived.Test.YtplehleekabbaaaGreatDoorVDrw
set_option linter.unusedVariables false
set_option linter.unusedSimpArgs false
set_option maxHeartbeats 1000000
namespace Go.Proofs.Vale
structure TE where
 m:List AObj
 rd:List Nat
def frL (P:Program):List Oper→List AV→List AObj→List TE→(List AV→List AObj→List TE→Prop)→Prop
 | [],env,m,tr,K=>K env m tr
 | o::os,env,m,tr,K =>
  match o.guard with
  | none=>(match isT o.op with
   | false=>(match pop P o.op (evA env) m with
    | some (p,x)=>p∧frL P os (putA env o.dst x) m (tr++[⟨m,rdOf o.op (evA env)⟩]) K
    | none=>False)
   | true=>if isMem o.op=true then aop P o.op (evA env) m fun x m'=>frL P os (putA env o.dst x) m' (tr++[⟨m,[]⟩]) K
    else ∃ x m',(m.length≤m'.length∧aop P o.op (evA env) m fun y g=>y=x∧g=m')∧frL P os (putA env o.dst x) m' (tr++[⟨m,[]⟩]) K)
  | some _=>False
structure FE where
 env:List AV
 x:AV
 t:TE
def fenv (env':List AV):List FE→Nat→List AV
 | [],_=>env'
 | e::es,k=>match k with
  | 0=>e.env
  | k+1=>fenv env' es k
def fmem (m':List AObj):List TE→Nat→List AObj
 | [],_=>m'
 | e::es,k=>match k with
  | 0=>e.m
  | k+1=>fmem m' es k
def fx:List FE→Nat→AV
 | [],_=>.any
 | e::es,k=>match k with
  | 0=>e.x
  | k+1=>fx es k
def FS (P:Program) (o:Oper) (env:List AV) (m m':List AObj) (x:AV) (rd:List Nat):Prop :=
 o.guard=none∧m.length≤m'.length∧((isT o.op=false∧m'=m∧rd=rdOf o.op (evA env)∧∃ p,pop P o.op (evA env) m=some (p,x)∧p)∨(isT o.op=true∧aop P o.op (evA env) m fun y g=>y=x∧g=m'))
theorem aop_det {P:Program} {o:Oper} {ev:Operand→AV} {m:List AObj} {R:AV→List AObj→Prop} (ho:isMem o.op=true) (hk:aop P o.op ev m R):∃ x m',m.length≤m'.length∧(aop P o.op ev m fun y g=>y=x∧g=m')∧R x m':=by
 obtain ⟨dst,op,ty,pos,after,guard⟩:=o
 cases op <;> first | (cases ho; done) | skip
 case alloc t =>
  simp only [aop] at hk ⊢
  split at hk
  ·rename_i z hz
   exact ⟨_,_,by simp,⟨hk.1,rfl,rfl⟩,hk.2⟩
  ·cases hk
 case box t x =>
  simp only [aop] at hk ⊢
  exact ⟨_,_,by simp,⟨hk.1,rfl,rfl⟩,hk.2⟩
 case buildSlice t n ps =>
  simp only [aop,bsK] at hk ⊢
  split at hk
  ·exact ⟨_,_,by simp,⟨hk.1,rfl,rfl⟩,hk.2⟩
  ·cases hk
 case makeMap t r =>
  cases r with
  | some r=>cases ho
  | none =>
   simp only [aop,mmK] at hk ⊢
   exact ⟨_,_,by simp,⟨rfl,rfl⟩,hk⟩
 case store t a x =>
  simp only [aop,stK] at hk ⊢
  split at hk
  ·split at hk
   ·exact ⟨_,_,by simp,⟨hk.1,rfl,rfl⟩,hk.2⟩
   ·cases hk
  ·cases hk
 case call c =>
  obtain ⟨callee,args,ts⟩:=c
  cases callee with
  | builtin b =>
   cases b <;> first | (cases ho; done) | skip
   simp only [aop] at hk ⊢
   split at hk
   ·rename_i A X ha
    unfold apK at hk ⊢
    split at hk
    ·rename_i e s by_ p ys t g s' off len hei hrd e1
     simp only [hei,hrd,e1]
     split at hk
     ·rename_i g' s'' l ht
      try simp only [ht]
      exact ⟨_,_,by simp,⟨hk.1,rfl,rfl⟩,hk.2⟩
     ·cases hk
    ·rename_i e s by_ p ys l hei hrd e1
     simp only [hei,hrd,e1]
     obtain ⟨h0,h1,h2⟩:=hk
     by_cases hz:ys=[]
     ·exact ⟨_,_,Nat.le_refl _,⟨h0,fun _=>⟨rfl,rfl⟩,fun q=>absurd hz q⟩,h1 hz⟩
     ·exact ⟨_,_,by simp,⟨h0,fun q=>absurd q hz,fun _=>⟨rfl,rfl⟩⟩,h2 hz⟩
    ·rename_i e s by_ l hei hrd e1
     simp only [hei,hrd,e1]
     split at hk
     ·rename_i k n e2
      try simp only [e2]
      exact ⟨_,_,by simp,⟨hk.1,rfl,rfl⟩,hk.2⟩
     ·cases hk
    ·cases hk
   ·cases hk
  | value f=>cases ho
  | invoke a b=>cases ho
theorem frL_spec {P : Program} {K : List AV → List AObj → List TE → Prop} : ∀ (os : List Oper) (env : List AV) (m : List AObj) (tr : List TE), frL P os env m tr K →
  ∃ (es:List FE) (env':List AV) (m':List AObj),K env' m' (tr++es.map (·.t))∧es.length=os.length∧fenv env' es 0=env∧fmem m' (es.map (·.t)) 0=m∧fenv env' es os.length=env'∧fmem m' (es.map (·.t)) os.length=m' ∧
   ∀ j o,os[j]? = some o→∃ e,es[j]? = some e∧e.env=fenv env' es j∧e.t.m=fmem m' (es.map (·.t)) j∧fx es j=e.x∧fenv env' es (j+1)=putA (fenv env' es j) o.dst e.x∧FS P o e.env e.t.m (fmem m' (es.map (·.t)) (j+1)) e.x e.t.rd
 | [],env,m,tr,h=>⟨[],env,m,by simpa [frL] using h,rfl,rfl,rfl,rfl,rfl,fun j o ho=>by simp at ho⟩
 | o::os,env,m,tr,h=>by
  have step : ∀ x m1 rd, FS P o env m m1 x rd → frL P os (putA env o.dst x) m1 (tr ++ [⟨m, rd⟩]) K →
    ∃ (es:List FE) (env':List AV) (m':List AObj),K env' m' (tr++es.map (·.t))∧es.length=os.length+1∧fenv env' es 0=env∧fmem m' (es.map (·.t)) 0=m∧fenv env' es (os.length+1)=env'∧fmem m' (es.map (·.t)) (os.length+1)=m' ∧
     ∀ j q,(o::os)[j]? = some q→∃ e,es[j]? = some e∧e.env=fenv env' es j∧e.t.m=fmem m' (es.map (·.t)) j∧fx es j=e.x∧fenv env' es (j+1)=putA (fenv env' es j) q.dst e.x∧FS P q e.env e.t.m (fmem m' (es.map (·.t)) (j+1)) e.x e.t.rd:=by
   intro x m1 rd hfs hk
   obtain ⟨es,env',m',k1,k2,k3,k4,k5,k6,k7⟩:=frL_spec os _ m1 _ hk
   refine ⟨⟨env,x,⟨m,rd⟩⟩::es,env',m',by simpa using k1,by simp [k2],rfl,rfl,k5,k6,fun j q hj=>?_⟩
   cases j with
   | zero =>
    simp only [List.getElem?_cons_zero,Option.some.injEq] at hj
    subst hj
    refine ⟨_,rfl,rfl,rfl,rfl, ?_, ?_⟩
    ·show fenv env' es 0=_
     rw [k3]; rfl
    ·show FS P o env m (fmem m' (es.map (·.t)) 0) x rd
     rw [k4]; exact hfs
   | succ j =>
    rw [List.getElem?_cons_succ] at hj
    exact k7 j q hj
  simp only [frL] at h
  split at h
  ·rename_i hg
   split at h
   ·rename_i ht
    split at h
    ·rename_i p x hp
     exact step x m _ ⟨hg,Nat.le_refl _,.inl ⟨ht,rfl,rfl,p,hp,h.1⟩⟩ h.2
    ·exact h.elim
   ·rename_i ht
    split at h
    ·rename_i hm
     obtain ⟨x,m1,h1,h2,h3⟩:=aop_det hm h
     exact step x m1 [] ⟨hg,h1,.inr ⟨ht,h2⟩⟩ h3
    ·obtain ⟨x,m1,⟨h1,h2⟩,h3⟩:=h
     exact step x m1 [] ⟨hg,h1,.inr ⟨ht,h2⟩⟩ h3
  ·exact h.elim
theorem free_aop {P : Program} {o : Oper} {ev : Operand → AV} {m m' : List AObj} {r : AV} (hf : isFree o.op = true) (h : aop P o.op ev m fun y g => y = r ∧ g = m') :
  ∃ (X:Nat→AV) (ob:AObj),r=X m.length∧m'=m++[ob]∧ob.gen=some 0∧∀ mm,NewB P o ev mm X ob:=by
 obtain ⟨dst,op,ty,pos,after,guard⟩:=o
 cases op <;> first | (cases hf; done) | skip
 case alloc t =>
  simp only [aop] at h
  split at h
  ·rename_i x hz
   exact ⟨_,_,h.2.1.symm,h.2.2.symm,rfl,fun mm=>newB_alloc rfl hz h.1⟩
  ·cases h
 case box t x =>
  simp only [aop] at h
  exact ⟨_,_,h.2.1.symm,h.2.2.symm,rfl,fun mm=>newB_box rfl h.1⟩
 case makeMap t z =>
  cases z with
  | some z=>cases hf
  | none =>
   simp only [aop,mmK] at h
   exact ⟨fun k=>.mp k,_,h.1.symm,h.2.symm,rfl,fun mm=>newB_mm' rfl⟩
def okW:List (List Nat)→List TE→List TE→List AObj→Prop
 | w::ws,e::es,all,m=>(e.rd=[]∨∀ k∈w,Agree e.rd e.m (fmem m all k))∧okW ws es all m
 | _,_,_,_=>True
theorem okW_at {all:List TE} {m:List AObj}:∀ {ws:List (List Nat)} {es:List TE} {j:Nat} {w:List Nat} {e:TE},okW ws es all m→ws[j]? = some w→es[j]? = some e→e.rd=[]∨∀ k∈w,Agree e.rd e.m (fmem m all k)
 | [],es,j,w,e,_,h1,_=>by simp at h1
 | v::ws,[],j,w,e,_,_,h2=>by simp at h2
 | v::ws,f::es,0,w,e,h,h1,h2=>by
  simp only [List.getElem?_cons_zero,Option.some.injEq] at h1 h2
  subst h1 h2; exact h.1
 | v::ws,f::es,j+1,w,e,h,h1,h2=>by
  rw [List.getElem?_cons_succ] at h1 h2
  exact okW_at h.2 h1 h2
theorem wins_of {ops:Array Oper} {H:Nat→List AObj} (hH:∀ i,tuB ops.toList i=false→H (i+1)=H i) {i k:Nat} (hi:i < ops.size) (hw:Win ops (tuB ops.toList) i k):∃ k',k'∈wins (ancL ops.toList []) ops.toList ops.size i∧H k=H k':=by
 obtain ⟨hkn,hw⟩:=hw
 refine ⟨curK (tuB ops.toList) (fun _=>true) k, ?_, ?_⟩
 ·have hle:=curK_le (tuB ops.toList) (fun _=>true) k
  unfold wins
  rw [List.mem_filter,List.mem_range]
  refine ⟨by omega, ?_⟩
  rw [Bool.and_eq_true]
  refine ⟨?_, ?_⟩
  ·rcases curK_cases (tuB ops.toList) (fun _=>true) k with e | ⟨t,q1,q2,q3,q4⟩
   ·rw [e]
   ·rw [q4]; exact q2
  ·unfold winB
   rw [Bool.and_eq_true]
   refine ⟨by rw [ble_iff]; omega, ?_⟩
   rw [List.all_eq_true]
   intro t ht
   rw [List.mem_range] at ht
   cases htt:tuB ops.toList t with
   | false=>rfl
   | true =>
    obtain ⟨a,b⟩:=hw t ht htt
    simp only [Bool.not_true,Bool.false_or,Bool.and_eq_true,Bool.or_eq_true,Bool.not_eq_true',blt_iff,ble_iff]
    refine ⟨?_, ?_⟩
    ·cases hc1:((ancL ops.toList []).getD i []).contains t with
     | false=>exact .inl rfl
     | true=>exact .inr (curK_gt htt rfl k (a (by simpa using hc1)))
    ·cases hc1:((ancL ops.toList []).getD t []).contains i with
     | false=>exact .inl rfl
     | true=>have:=b (by simpa using hc1); exact .inr (by omega)
 ·refine chain_mem (H:=H) hH k _ (curK_le _ _ _) fun t h1 h2=>?_
  cases e:tuB ops.toList t with
  | false=>rfl
  | true=>have:=curK_gt (tu:=tuB ops.toList) (S:=fun _=>true) e rfl k h2; omega
theorem ADraw.walk {P : Program} {ops : Array Oper} {K : List AV → List AObj → Prop} {env : List AV} {h : List AObj} (W : List (List Nat)) (hm : P.follows .mixedOrders = true) (hok : okD ops = true) (hW : winL ops.toList ops.size = W)
  (hd:frL P ops.toList env h [] fun e m tr=>okW W tr tr m∧K e m):ADraw P ops K env h:=by
 obtain ⟨es,env',m',⟨hw,hK⟩,k2,k3,k4,k5,k6,k7⟩:=frL_spec _ _ _ _ hd
 rw [List.nil_append] at hw
 rw [okD,Bool.and_eq_true] at hok
 have hsz:ops.toList.length=ops.size:=by simp
 let H:Nat→List AObj:=fun k=>fmem m' (es.map (·.t)) k
 have htu:∀ i o,ops.toList[i]? = some o→tuB ops.toList i=isT o.op:=by
  intro i o ho; simp only [tuB,nthO_eq,ho]
 have hget:∀ i,i < ops.size→∃ o,ops.toList[i]? = some o:=fun i hi=>⟨_,List.getElem?_eq_getElem (by omega)⟩
 have hfar:∀ i,ops.size≤i→H i=m':=by
  have far:∀ (l:List TE) (k:Nat),l.length≤k→fmem m' l k=m':=by
   intro l
   induction l with
   | nil=>intro k _; rfl
   | cons e l ih=>intro k hk; cases k with
    | zero=>simp at hk
    | succ k=>exact ih k (by simp at hk; omega)
  intro i hi
  exact far _ _ (by simp [k2]; omega)
 have hH:∀ i,tuB ops.toList i=false→H (i+1)=H i:=by
  intro i hi
  by_cases q:i < ops.size
  ·obtain ⟨o,ho⟩:=hget i q
   rw [htu i o ho] at hi
   obtain ⟨e,e1,e2,e3,e4,e5,e6⟩:=k7 i o ho
   rcases e6.2.2 with ⟨z1,z2,_⟩ | ⟨z1,_⟩
   ·show fmem m' _ (i+1)=fmem m' _ i
    rw [z2,e3]
   ·rw [hi] at z1; cases z1
  ·rw [hfar _ (by omega),hfar _ (by omega)]
 have hlen:∀ i,(H i).length≤(H (i+1)).length:=by
  intro i
  by_cases q:i < ops.size
  ·obtain ⟨o,ho⟩:=hget i q
   obtain ⟨e,e1,e2,e3,e4,e5,e6⟩:=k7 i o ho
   have:=e6.2.1
   rw [e3] at this; exact this
  ·rw [hfar _ (by omega),hfar _ (by omega)]; exact Nat.le_refl _
 have hmix:∀ i,i≤ops.size→mix ops.toList (fx es) (fun _=>true) env i=fenv env' es i:=by
  intro i
  induction i with
  | zero=>intro _; rw [k3]; rfl
  | succ i ih =>
   intro hi
   obtain ⟨o,ho⟩:=hget i (by omega)
   obtain ⟨e,e1,e2,e3,e4,e5,e6⟩:=k7 i o ho
   simp only [mix,if_true]
   rw [ih (by omega),e5,e4]
   simp [dstAt,ho]
 have hfe:∀ i,feB ops.toList i=true→tuB ops.toList i=true:=by
  intro i hi
  unfold feB at hi; unfold tuB
  split at hi
  ·rw [Bool.and_eq_true] at hi
   have:=hi.1
   unfold isFree at this
   split at this <;> first | (rename_i e; rw [e]; rfl) | cases this
  ·cases hi
 have hfree:∀ i o,ops.toList[i]? = some o→feB ops.toList i=true→o.guard=none∧∃ (X:Nat→AV) (ob:AObj),fx es i=X (H i).length∧H (i+1)=H i++[ob]∧ob.gen=some 0∧∀ mm,NewB P o (evA (fenv env' es i)) mm X ob:=by
  intro i o ho hi
  have hi2:=hfe i hi
  rw [htu i o ho] at hi2
  unfold feB at hi
  rw [nthO_eq,ho] at hi
  simp only [Bool.and_eq_true] at hi
  obtain ⟨e,e1,e2,e3,e4,e5,e6⟩:=k7 i o ho
  refine ⟨e6.1, ?_⟩
  rcases e6.2.2 with ⟨z1,_⟩ | ⟨z1,z2⟩
  ·rw [hi2] at z1; cases z1
  ·obtain ⟨X,ob,g1,g2,g3,g4⟩:=free_aop hi.1 z2
   rw [e2] at g4
   exact ⟨X,ob,by rw [e4,g1,e3],by show fmem m' _ (i+1)=_; rw [g2,e3],g3,g4⟩
 have hO:∀ i,i < ops.size→feB ops.toList i=true→(((H (i+1)).getD (H i).length .dead).gen=some 0∧H (i+1)=H i++[(H (i+1)).getD (H i).length .dead]):=by
  intro i hi hf
  obtain ⟨o,ho⟩:=hget i hi
  obtain ⟨_,X,ob,h1,h2,h3,h4⟩:=hfree i o ho hf
  have:(H (i+1)).getD (H i).length .dead=ob:=by rw [h2]; simp
  rw [this]; exact ⟨h3,h2⟩
 have:=ADraw.free (K:=K) (tu:=tuB ops.toList) (fe:=feB ops.toList) (xs:=fx es) (H:=H) (O:=fun i=>(H (i+1)).getD (H i).length .dead) (env:=env) hm hok.1 hok.2 hH hfe hO hlen ?_ ?_ ?_ ?_
 ·have e0:H 0=h:=k4
  rw [e0] at this; exact this
 ·intro i o ho hti k hwk
  have hi:i < ops.size:=by rw [← hsz]; exact (List.getElem?_eq_some_iff.1 ho).1
  rw [htu i o ho] at hti
  rw [hmix i (by omega)]
  obtain ⟨e,e1,e2,e3,e4,e5,e6⟩:=k7 i o ho
  obtain ⟨hg,_,hz⟩:=e6
  refine ⟨true,by unfold gdv; rw [hg],fun _=>?_,fun q=>by cases q⟩
  rcases hz with ⟨z1,z2,z3,p,z4,z5⟩ | ⟨z1,_⟩
  ·obtain ⟨k',hk',hke⟩:=wins_of (H:=H) hH hi hwk
   have hws:W[i]? = some (wins (ancL ops.toList []) ops.toList ops.size i):=by rw [← hW]; simp [winL,hi]
   have hag:Agree e.t.rd e.t.m (H k):=by
    rcases okW_at hw hws (by rw [List.getElem?_map,e1]; rfl) with q | q
    ·rw [q]; intro t ht; simp at ht
    ·rw [hke]; exact q k' hk'
   rw [z3] at hag
   have:=pop_agree hag z4
   rw [e2] at this
   rw [e4]
   exact OpK.of_pop (pop_ok this) z5 ⟨rfl,rfl⟩
  ·rw [hti] at z1; cases z1
 ·intro i o ho hti _
  have hi:i < ops.size:=by rw [← hsz]; exact (List.getElem?_eq_some_iff.1 ho).1
  rw [htu i o ho] at hti
  rw [hmix i (by omega)]
  obtain ⟨e,e1,e2,e3,e4,e5,e6⟩:=k7 i o ho
  obtain ⟨hg,_,hz⟩:=e6
  refine ⟨true,by unfold gdv; rw [hg],fun _=>?_,fun q=>by cases q⟩
  rcases hz with ⟨z1,_⟩ | ⟨z1,z2⟩
  ·rw [hti] at z1; cases z1
  ·rw [e2,e3] at z2
   rw [e4]
   exact aop_ok z2
 ·intro i o ho hfi
  have hi:i < ops.size:=by rw [← hsz]; exact (List.getElem?_eq_some_iff.1 ho).1
  rw [hmix i (by omega)]
  obtain ⟨hg,X,ob,h1,h2,h3,h4⟩:=hfree i o ho hfi
  have:(H (i+1)).getD (H i).length .dead=ob:=by rw [h2]; simp
  refine ⟨hg,X,h1,fun mm=>?_⟩
  simp only [this]
  exact h4 mm
 ·rw [hmix _ (Nat.le_refl _)]
  rw [hsz] at k5 k6
  rw [k5]
  show K env' (fmem m' _ ops.size)
  rw [k6]; exact hK
def frT (P:Program) (os:List Oper) (env:List AV) (m:List AObj) (tr:List TE) (K:List AV→List AObj→List TE→Prop) (_:Tag os) (_:Tag K):Prop:=frL P os env m tr K
@[go_sem ↓] theorem frL_nil (P:Program) (env:List AV) (m:List AObj) (tr:List TE) (K:List AV→List AObj→List TE→Prop):frL P [] env m tr K=K env m tr:=nrfl rfl
@[go_sem ↓] theorem frL_cons (P:Program) (o:Oper) (os:List Oper) (env:List AV) (m:List AObj) (tr:List TE) (K:List AV→List AObj→List TE→Prop):frL P (o::os) env m tr K=frT P (o::os) env m tr K ⟨⟩ ⟨⟩:=nrfl rfl
def frX (A:AV→List AObj→Prop) (K:AV→List AObj→Prop) (_:Tag A) (_:Tag K):Prop:=∃ x m',A x m'∧K x m'
theorem frX_ext {B:AV→List AObj→Prop} {m:List AObj} {K:AV→List AObj→Prop} {s:Tag (fun (x:AV) (m':List AObj)=>m.length≤m'.length∧B x m')} {t:Tag K} (x:AV) (ext:List AObj) (a:B x (m++ext)) (k:K x (m++ext)):frX (fun x m'=>m.length≤m'.length∧B x m') K s t:=⟨x,m++ext,⟨by simp,a⟩,k⟩
theorem frX_same {B:AV→List AObj→Prop} {m:List AObj} {K:AV→List AObj→Prop} {s:Tag (fun (x:AV) (m':List AObj)=>m.length≤m'.length∧B x m')} {t:Tag K} (x:AV) (a:B x m) (k:K x m):frX (fun x m'=>m.length≤m'.length∧B x m') K s t:=⟨x,m,⟨Nat.le_refl _,a⟩,k⟩
def frQ (t:Bool) (r:PV) (c:Bool) (A:AV→List AObj→Prop) (B:Prop) (K:AV→Prop) (KC:AV→List AObj→Prop) (_:Tag A) (_:Tag B) (_:Tag K) (_:Tag KC):Prop :=
 match t with
 | false=>(match r with | some (p,x)=>p∧K x | none=>False)
 | true=>if c=true then B else frX A KC ⟨⟩ ⟨⟩
section
variable (r:PV) (c:Bool) (A:AV→List AObj→Prop) (B:Prop) (K:AV→Prop) (KC:AV→List AObj→Prop) (s1:Tag A) (s2:Tag B) (s3:Tag K) (s4:Tag KC)
@[go_sem] theorem frQ_quiet (p:Prop) (x:AV):frQ false (some (p,x)) c A B K KC s1 s2 s3 s4=(p∧K x):=nrfl rfl
@[go_sem] theorem frQ_mem:frQ true r true A B K KC s1 s2 s3 s4=B:=by simp [frQ]
@[go_sem] theorem frQ_call:frQ true r false A B K KC s1 s2 s3 s4=frX A KC ⟨⟩ ⟨⟩:=by simp [frQ]
end
@[go_sem] theorem frT_plain (P : Program) (dst : Option Nat) (op : Op) (ty : TypeId) (pos : String) (after : Array Edge) (os : List Oper) (env : List AV) (m : List AObj) (tr : List TE) (K : List AV → List AObj → List TE → Prop) : ∀ t1 t2,
  frT P (⟨dst,op,ty,pos,after,none⟩::os) env m tr K t1 t2=frQ (isT op) (pop P op (evA env) m) (isMem op) (fun x m'=>m.length≤m'.length∧aop P op (evA env) m fun y g=>y=x∧g=m') (aop P op (evA env) m fun x m'=>frL P os (putA env dst x) m' (tr++[⟨m,[]⟩]) K)
   (fun x=>frL P os (putA env dst x) m (tr++[⟨m,rdOf op (evA env)⟩]) K) (fun x m'=>frL P os (putA env dst x) m' (tr++[⟨m,[]⟩]) K) ⟨⟩ ⟨⟩ ⟨⟩ ⟨⟩:=by
 intro _ _
 unfold frT
 rw [frL]
 simp only
 unfold frQ
 cases isT op with
 | false=>cases pop P op (evA env) m <;> rfl
 | true=>simp only [frX]
section
variable (x y:Operand) (t u:TypeId)
@[go_sem] theorem isT_move:isT (.move x)=false:=nrfl rfl
@[go_sem] theorem isT_assign:isT (.assign x)=false:=nrfl rfl
@[go_sem] theorem isT_load:isT (.load t x)=false:=nrfl rfl
@[go_sem] theorem isT_nilCheck:isT (.nilCheck x)=false:=nrfl rfl
@[go_sem] theorem isT_binOp (op:BinOp):isT (.binOp op t x y u)=false:=nrfl rfl
@[go_sem] theorem isT_fieldAddr (f:Nat):isT (.fieldAddr t x f)=false:=nrfl rfl
@[go_sem] theorem isT_indexAddr:isT (.indexAddr t x y)=false:=nrfl rfl
@[go_sem] theorem isT_extract (i:Nat):isT (.extract x i)=false:=nrfl rfl
@[go_sem] theorem isT_build (p:Array (Nat × Operand)):isT (.build t p)=false:=nrfl rfl
@[go_sem] theorem isT_alloc:isT (.alloc t)=true:=nrfl rfl
@[go_sem] theorem isT_store:isT (.store t x y)=true:=nrfl rfl
@[go_sem] theorem isT_buildSlice (n:Nat) (p:Array (Nat × Operand)):isT (.buildSlice t n p)=true:=nrfl rfl
@[go_sem] theorem isT_value (a:Array Operand) (ts:Array TypeId):isT (.call ⟨.value x,a,ts⟩)=true:=nrfl rfl
@[go_sem] theorem isT_append (a:Array Operand) (ts:Array TypeId):isT (.call ⟨.builtin .append,a,ts⟩)=true:=nrfl rfl
@[go_sem] theorem okW_cons (w:List Nat) (ws:List (List Nat)) (e:TE) (es all:List TE) (m:List AObj):okW (w::ws) (e::es) all m=((e.rd=[]∨∀ k∈w,Agree e.rd e.m (fmem m all k))∧okW ws es all m):=nrfl rfl
@[go_sem] theorem okW_nil (es all:List TE) (m:List AObj):okW [] es all m=True:=by simp only [okW]
end
theorem ADrawT.walk {P : Program} {ops : Array Oper} {K : List AV → List AObj → Prop} {s : Tag ops} {t : Tag K} {env : List AV} {h : List AObj} (W : List (List Nat)) (hm : P.follows .mixedOrders = true) (hok : okD ops = true) (hW : winL ops.toList ops.size = W)
  (hd:frL P ops.toList env h [] fun e m tr=>okW W tr tr m∧K e m):ADrawT P ops K s t env h:=ADraw.walk W hm hok hW hd
end Go.Proofs.Vale
