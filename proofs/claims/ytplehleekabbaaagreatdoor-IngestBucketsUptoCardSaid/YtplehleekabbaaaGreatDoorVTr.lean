/- YtplehleekabbaaaGreatDoorVTr: a text of the proof of this claim, by its prover. -/
import Derived.Test.YtplehleekabbaaaGreatDoorVDrx
import Derived.Test.YtplehleekabbaaaGreatDoorVRk
set_option linter.unusedVariables false
set_option linter.unusedSimpArgs false
set_option maxHeartbeats 1000000
namespace Go.Proofs.Vale
def isFree2 (op:Op):Bool :=
 match op with
 | .alloc _=>true
 | .box _ _=>true
 | .makeMap _ none=>true
 | .buildSlice _ _ _=>true
 | _=>false
def feB2 (all:List Oper) (i:Nat):Bool:=match nthO all i with | some o=>isFree2 o.op && noGuard o.guard | none=>false
def okD2 (ops:Array Oper):Bool:=okDraw ops && okFree ops (tuB ops.toList) (feB2 ops.toList)
theorem free_aop2 {P : Program} {o : Oper} {ev : Operand → AV} {m m' : List AObj} {r : AV} (hf : isFree2 o.op = true) (h : aop P o.op ev m fun y g => y = r ∧ g = m') :
  ∃ (X:Nat→AV) (ob:AObj),r=X m.length∧m'=m++[ob]∧ob.gen=some 0∧∀ mm,NewB P o ev mm X ob:=by
 obtain ⟨dst,op,ty,pos,after,guard⟩:=o
 cases op
 case buildSlice t n parts =>
  simp only [aop,bsK] at h
  split at h
  ·rename_i e s by_ hei
   obtain ⟨⟨hn,hp,hsz⟩,h1,h2⟩:=h
   exact ⟨fun k=>.sl k 0 s 0 n,.arr 0 s (parts.toList.map fun x=>ev x.2),h1.symm,by rw [← h2]; simp,rfl,fun mm=>newB_build rfl hei hn hp hsz⟩
  ·cases h
 case alloc t=>exact free_aop rfl h
 case box t x=>exact free_aop rfl h
 case makeMap t z =>
  cases z with
  | some z=>cases hf
  | none=>exact free_aop rfl h
 all_goals cases hf
end Go.Proofs.Vale
namespace Go.Proofs.Vale
def grL (P:Program):List (Option Nat)→List Oper→List AV→List AObj→List TE→(List AV→List AObj→List TE→Prop)→Prop
 | _,[],env,m,tr,K=>K env m tr
 | ds,o::os,env,m,tr,K =>
  match gdv env ds o.guard with
  | some true=>(match isT o.op with
   | false=>(match pop P o.op (evA env) m with
    | some (p,x)=>p∧grL P (o.dst::ds) os (putA env o.dst x) m (tr++[⟨m,rdOf o.op (evA env)⟩]) K
    | none=>False)
   | true=>if isMem o.op=true then aop P o.op (evA env) m fun x m'=>grL P (o.dst::ds) os (putA env o.dst x) m' (tr++[⟨m,[]⟩]) K
    else ∃ x m',(m.length≤m'.length∧aop P o.op (evA env) m fun y g=>y=x∧g=m')∧grL P (o.dst::ds) os (putA env o.dst x) m' (tr++[⟨m,[]⟩]) K)
  | some false=>grL P (o.dst::ds) os (putA env o.dst (.tup [])) m (tr++[⟨m,[]⟩]) K
  | none=>False
def GS (P:Program) (ds:List (Option Nat)) (o:Oper) (env:List AV) (m m':List AObj) (x:AV) (rd:List Nat):Prop :=
 m.length≤m'.length∧((gdv env ds o.guard=some true∧((isT o.op=false∧m'=m∧rd=rdOf o.op (evA env)∧∃ p,pop P o.op (evA env) m=some (p,x)∧p)∨(isT o.op=true∧aop P o.op (evA env) m fun y g=>y=x∧g=m')))
  ∨ (gdv env ds o.guard=some false∧x=.tup []∧m'=m∧rd=[]))
theorem grL_spec {P : Program} {K : List AV → List AObj → List TE → Prop} : ∀ (os : List Oper) (ds : List (Option Nat)) (env : List AV) (m : List AObj) (tr : List TE), grL P ds os env m tr K →
  ∃ (es:List FE) (env':List AV) (m':List AObj),K env' m' (tr++es.map (·.t))∧es.length=os.length∧fenv env' es 0=env∧fmem m' (es.map (·.t)) 0=m∧fenv env' es os.length=env'∧fmem m' (es.map (·.t)) os.length=m' ∧
   ∀ j o,os[j]? = some o→∃ e,es[j]? = some e∧e.env=fenv env' es j∧e.t.m=fmem m' (es.map (·.t)) j∧fx es j=e.x∧fenv env' es (j+1)=putA (fenv env' es j) o.dst e.x∧GS P (((os.take j).map (·.dst)).reverse++ds) o e.env e.t.m (fmem m' (es.map (·.t)) (j+1)) e.x e.t.rd
 | [],ds,env,m,tr,h=>⟨[],env,m,by simpa [grL] using h,rfl,rfl,rfl,rfl,rfl,fun j o ho=>by simp at ho⟩
 | o::os,ds,env,m,tr,h=>by
  have step : ∀ x m1 rd, GS P ds o env m m1 x rd → grL P (o.dst :: ds) os (putA env o.dst x) m1 (tr ++ [⟨m, rd⟩]) K →
    ∃ (es:List FE) (env':List AV) (m':List AObj),K env' m' (tr++es.map (·.t))∧es.length=os.length+1∧fenv env' es 0=env∧fmem m' (es.map (·.t)) 0=m∧fenv env' es (os.length+1)=env'∧fmem m' (es.map (·.t)) (os.length+1)=m' ∧
     ∀ j q,(o::os)[j]? = some q→∃ e,es[j]? = some e∧e.env=fenv env' es j∧e.t.m=fmem m' (es.map (·.t)) j∧fx es j=e.x∧fenv env' es (j+1)=putA (fenv env' es j) q.dst e.x∧GS P ((((o::os).take j).map (·.dst)).reverse++ds) q e.env e.t.m (fmem m' (es.map (·.t)) (j+1)) e.x e.t.rd:=by
   intro x m1 rd hfs hk
   obtain ⟨es,env',m',k1,k2,k3,k4,k5,k6,k7⟩:=grL_spec os _ _ m1 _ hk
   refine ⟨⟨env,x,⟨m,rd⟩⟩::es,env',m',by simpa using k1,by simp [k2],rfl,rfl,k5,k6,fun j q hj=>?_⟩
   cases j with
   | zero =>
    simp only [List.getElem?_cons_zero,Option.some.injEq] at hj
    subst hj
    refine ⟨_,rfl,rfl,rfl,rfl, ?_, ?_⟩
    ·show fenv env' es 0=_
     rw [k3]; rfl
    ·show GS P _ o env m (fmem m' (es.map (·.t)) 0) x rd
     rw [k4]; simpa using hfs
   | succ j =>
    rw [List.getElem?_cons_succ] at hj
    obtain ⟨e,a1,a2,a3,a4,a5,a6⟩:=k7 j q hj
    refine ⟨e,a1,a2,a3,a4,a5, ?_⟩
    have:(((o::os).take (j+1)).map (·.dst)).reverse++ds=((os.take j).map (·.dst)).reverse++(o.dst::ds):=by simp
    rw [this]; exact a6
  simp only [grL] at h
  split at h
  ·rename_i hg
   split at h
   ·rename_i ht
    split at h
    ·rename_i p x hp
     exact step x m _ ⟨Nat.le_refl _,.inl ⟨hg,.inl ⟨ht,rfl,rfl,p,hp,h.1⟩⟩⟩ h.2
    ·exact h.elim
   ·rename_i ht
    split at h
    ·rename_i hm
     obtain ⟨x,m1,h1,h2,h3⟩:=aop_det hm h
     exact step x m1 [] ⟨h1,.inl ⟨hg,.inr ⟨ht,h2⟩⟩⟩ h3
    ·obtain ⟨x,m1,⟨h1,h2⟩,h3⟩:=h
     exact step x m1 [] ⟨h1,.inl ⟨hg,.inr ⟨ht,h2⟩⟩⟩ h3
  ·rename_i hg
   exact step (.tup []) m [] ⟨Nat.le_refl _,.inr ⟨hg,rfl,rfl,rfl⟩⟩ h
  ·exact h.elim
theorem ADraw.walk3 {P : Program} {ops : Array Oper} {K : List AV → List AObj → Prop} {env : List AV} {h : List AObj} (W : List (List Nat)) (hm : P.follows .mixedOrders = true) (hok : okD2 ops = true) (hW : winL ops.toList ops.size = W)
  (hd:grL P [] ops.toList env h [] fun e m tr=>okW W tr tr m∧K e m):ADraw P ops K env h:=by
 obtain ⟨es,env',m',⟨hw,hK⟩,k2,k3,k4,k5,k6,k7⟩:=grL_spec _ _ _ _ _ hd
 rw [List.nil_append] at hw
 rw [okD2,Bool.and_eq_true] at hok
 have hsz:ops.toList.length=ops.size:=by simp
 let H:Nat→List AObj:=fun k=>fmem m' (es.map (·.t)) k
 have htu:∀ i o,ops.toList[i]? = some o→tuB ops.toList i=isT o.op:=by
  intro i o ho; simp only [tuB,nthO_eq,ho]
 have hget:∀ i,i < ops.size→∃ o,ops.toList[i]? = some o:=fun i hi=>⟨_,List.getElem?_eq_getElem (by omega)⟩
 have hfar:∀ i,ops.size≤i→H i=m':=by
  have far:∀ (l:List TE) (k:Nat),l.length≤k→fmem m' l k=m':=by
   intro l
   induction l with
   | nil=>intro k _; rfl
   | cons e l ih=>intro k hk; cases k with
    | zero=>simp at hk
    | succ k=>exact ih k (by simp at hk; omega)
  intro i hi
  exact far _ _ (by simp [k2]; omega)
 have hH:∀ i,tuB ops.toList i=false→H (i+1)=H i:=by
  intro i hi
  by_cases q:i < ops.size
  ·obtain ⟨o,ho⟩:=hget i q
   rw [htu i o ho] at hi
   obtain ⟨e,e1,e2,e3,e4,e5,e6⟩:=k7 i o ho
   rcases e6.2 with ⟨_,⟨z1,z2,_⟩ | ⟨z1,_⟩⟩ | ⟨_,_,z2,_⟩
   ·show fmem m' _ (i+1)=fmem m' _ i
    rw [z2,e3]
   ·rw [hi] at z1; cases z1
   ·show fmem m' _ (i+1)=fmem m' _ i
    rw [z2,e3]
  ·rw [hfar _ (by omega),hfar _ (by omega)]
 have hlen:∀ i,(H i).length≤(H (i+1)).length:=by
  intro i
  by_cases q:i < ops.size
  ·obtain ⟨o,ho⟩:=hget i q
   obtain ⟨e,e1,e2,e3,e4,e5,e6⟩:=k7 i o ho
   have:=e6.1
   rw [e3] at this; exact this
  ·rw [hfar _ (by omega),hfar _ (by omega)]; exact Nat.le_refl _
 have hmix:∀ i,i≤ops.size→mix ops.toList (fx es) (fun _=>true) env i=fenv env' es i:=by
  intro i
  induction i with
  | zero=>intro _; rw [k3]; rfl
  | succ i ih =>
   intro hi
   obtain ⟨o,ho⟩:=hget i (by omega)
   obtain ⟨e,e1,e2,e3,e4,e5,e6⟩:=k7 i o ho
   simp only [mix,if_true]
   rw [ih (by omega),e5,e4]
   simp [dstAt,ho]
 have hfe:∀ i,feB2 ops.toList i=true→tuB ops.toList i=true:=by
  intro i hi
  unfold feB2 at hi; unfold tuB
  split at hi
  ·rename_i o ho
   rw [Bool.and_eq_true] at hi
   have:=hi.1
   rw [ho]
   show isT o.op=true
   revert this
   generalize o.op=q
   intro this
   cases q <;> first | rfl | (cases this; done)
  ·cases hi
 have hfree:∀ i o,ops.toList[i]? = some o→feB2 ops.toList i=true→o.guard=none∧∃ (X:Nat→AV) (ob:AObj),fx es i=X (H i).length∧H (i+1)=H i++[ob]∧ob.gen=some 0∧∀ mm,NewB P o (evA (fenv env' es i)) mm X ob:=by
  intro i o ho hi
  have hi2:=hfe i hi
  rw [htu i o ho] at hi2
  unfold feB2 at hi
  rw [nthO_eq,ho] at hi
  simp only [Bool.and_eq_true] at hi
  obtain ⟨e,e1,e2,e3,e4,e5,e6⟩:=k7 i o ho
  have hng:o.guard=none:=by
   have:=hi.2
   unfold noGuard at this
   split at this
   ·rename_i q; exact q
   ·cases this
  refine ⟨hng, ?_⟩
  rcases e6.2 with ⟨_,⟨z1,_⟩ | ⟨z1,z2⟩⟩ | ⟨z0,_⟩
  ·rw [hi2] at z1; cases z1
  rotate_left
  ·unfold gdv at z0; rw [hng] at z0; cases z0
  ·obtain ⟨X,ob,g1,g2,g3,g4⟩:=free_aop2 hi.1 z2
   rw [e2] at g4
   exact ⟨X,ob,by rw [e4,g1,e3],by show fmem m' _ (i+1)=_; rw [g2,e3],g3,g4⟩
 have hO:∀ i,i < ops.size→feB2 ops.toList i=true→(((H (i+1)).getD (H i).length .dead).gen=some 0∧H (i+1)=H i++[(H (i+1)).getD (H i).length .dead]):=by
  intro i hi hf
  obtain ⟨o,ho⟩:=hget i hi
  obtain ⟨_,X,ob,h1,h2,h3,h4⟩:=hfree i o ho hf
  have:(H (i+1)).getD (H i).length .dead=ob:=by rw [h2]; simp
  rw [this]; exact ⟨h3,h2⟩
 have:=ADraw.free (K:=K) (tu:=tuB ops.toList) (fe:=feB2 ops.toList) (xs:=fx es) (H:=H) (O:=fun i=>(H (i+1)).getD (H i).length .dead) (env:=env) hm hok.1 hok.2 hH hfe hO hlen ?_ ?_ ?_ ?_
 ·have e0:H 0=h:=k4
  rw [e0] at this; exact this
 ·intro i o ho hti k hwk
  have hi:i < ops.size:=by rw [← hsz]; exact (List.getElem?_eq_some_iff.1 ho).1
  rw [htu i o ho] at hti
  rw [hmix i (by omega)]
  obtain ⟨e,e1,e2,e3,e4,e5,e6⟩:=k7 i o ho
  rw [List.append_nil] at e6
  rcases e6.2 with ⟨hg,hz⟩ | ⟨hg,z1,z2,z3⟩
  rotate_left
  ·rw [e2] at hg
   refine ⟨false,hg,fun q=>(by cases q),fun _=>⟨by rw [e4,z1],rfl⟩⟩
  rw [e2] at hg
  refine ⟨true,hg,fun _=>?_,fun q=>by cases q⟩
  rcases hz with ⟨z1,z2,z3,p,z4,z5⟩ | ⟨z1,_⟩
  ·obtain ⟨k',hk',hke⟩:=wins_of (H:=H) hH hi hwk
   have hws:W[i]? = some (wins (ancL ops.toList []) ops.toList ops.size i):=by rw [← hW]; simp [winL,hi]
   have hag:Agree e.t.rd e.t.m (H k):=by
    rcases okW_at hw hws (by rw [List.getElem?_map,e1]; rfl) with q | q
    ·rw [q]; intro t ht; simp at ht
    ·rw [hke]; exact q k' hk'
   rw [z3] at hag
   have:=pop_agree hag z4
   rw [e2] at this
   rw [e4]
   exact OpK.of_pop (pop_ok this) z5 ⟨rfl,rfl⟩
  ·rw [hti] at z1; cases z1
 ·intro i o ho hti _
  have hi:i < ops.size:=by rw [← hsz]; exact (List.getElem?_eq_some_iff.1 ho).1
  rw [htu i o ho] at hti
  rw [hmix i (by omega)]
  obtain ⟨e,e1,e2,e3,e4,e5,e6⟩:=k7 i o ho
  rw [List.append_nil] at e6
  rcases e6.2 with ⟨hg,hz⟩ | ⟨hg,z1,z2,z3⟩
  rotate_left
  ·rw [e2] at hg
   refine ⟨false,hg,fun q=>(by cases q),fun _=>⟨by rw [e4,z1], ?_⟩⟩
   show fmem m' _ (i+1)=fmem m' _ i
   rw [z2,e3]
  rw [e2] at hg
  refine ⟨true,hg,fun _=>?_,fun q=>by cases q⟩
  rcases hz with ⟨z1,_⟩ | ⟨z1,z2⟩
  ·rw [hti] at z1; cases z1
  ·rw [e2,e3] at z2
   rw [e4]
   exact aop_ok z2
 ·intro i o ho hfi
  have hi:i < ops.size:=by rw [← hsz]; exact (List.getElem?_eq_some_iff.1 ho).1
  rw [hmix i (by omega)]
  obtain ⟨hg,X,ob,h1,h2,h3,h4⟩:=hfree i o ho hfi
  have:(H (i+1)).getD (H i).length .dead=ob:=by rw [h2]; simp
  refine ⟨hg,X,h1,fun mm=>?_⟩
  simp only [this]
  exact h4 mm
 ·rw [hmix _ (Nat.le_refl _)]
  rw [hsz] at k5 k6
  rw [k5]
  show K env' (fmem m' _ ops.size)
  rw [k6]; exact hK
theorem ADrawT.walk3 {P : Program} {ops : Array Oper} {K : List AV → List AObj → Prop} {s : Tag ops} {t : Tag K} {env : List AV} {h : List AObj} (W : List (List Nat)) (hm : P.follows .mixedOrders = true) (hok : okD2 ops = true) (hW : winL ops.toList ops.size = W)
  (hd:grL P [] ops.toList env h [] fun e m tr=>okW W tr tr m∧K e m):ADrawT P ops K s t env h:=ADraw.walk3 W hm hok hW hd
def grT (P:Program) (ds:List (Option Nat)) (os:List Oper) (env:List AV) (m:List AObj) (tr:List TE) (K:List AV→List AObj→List TE→Prop) (_:Tag os) (_:Tag K):Prop:=grL P ds os env m tr K
@[go_sem ↓] theorem grL_nil (P:Program) (ds:List (Option Nat)) (env:List AV) (m:List AObj) (tr:List TE) (K:List AV→List AObj→List TE→Prop):grL P ds [] env m tr K=K env m tr:=nrfl rfl
@[go_sem ↓] theorem grL_cons (P:Program) (ds:List (Option Nat)) (o:Oper) (os:List Oper) (env:List AV) (m:List AObj) (tr:List TE) (K:List AV→List AObj→List TE→Prop):grL P ds (o::os) env m tr K=grT P ds (o::os) env m tr K ⟨⟩ ⟨⟩:=nrfl rfl
@[go_sem] theorem grT_plain (P : Program) (ds : List (Option Nat)) (dst : Option Nat) (op : Op) (ty : TypeId) (pos : String) (after : Array Edge) (os : List Oper) (env : List AV) (m : List AObj) (tr : List TE) (K : List AV → List AObj → List TE → Prop) : ∀ t1 t2,
  grT P ds (⟨dst,op,ty,pos,after,none⟩::os) env m tr K t1 t2=frQ (isT op) (pop P op (evA env) m) (isMem op) (fun x m'=>m.length≤m'.length∧aop P op (evA env) m fun y g=>y=x∧g=m') (aop P op (evA env) m fun x m'=>grL P (dst::ds) os (putA env dst x) m' (tr++[⟨m,[]⟩]) K)
   (fun x=>grL P (dst::ds) os (putA env dst x) m (tr++[⟨m,rdOf op (evA env)⟩]) K) (fun x m'=>grL P (dst::ds) os (putA env dst x) m' (tr++[⟨m,[]⟩]) K) ⟨⟩ ⟨⟩ ⟨⟩ ⟨⟩:=by
 intro _ _
 unfold grT
 rw [grL]
 simp only [gdv]
 unfold frQ
 cases isT op with
 | false=>cases pop P op (evA env) m <;> rfl
 | true=>simp only [frX]
end Go.Proofs.Vale
namespace Go.Proofs.Vale
theorem Rep.both_aux {n:Nat} {β0 β β':Beta} {fr0 fr:Nat→Prop} {H0 H:Array Obj} (hd:∀ t g r,β0 t g=some r→t < n) (hb:∀ t g r,t < n→β t g=some r→β' t g=some r):∀ (m:Nat) (x:AV) (v0 v:Value),SizeOf.sizeOf x≤m→Rep β0 fr0 H0 x v0→Rep β fr H x v→Rep β' fr H x v:=by
 intro m
 induction m with
 | zero=>intro x v0 v hn; cases x <;> simp at hn
 | succ m ih =>
  intro x v0 v hn h0 h
  cases x <;> simp only [Rep] at h0 h ⊢ <;> (try exact h)
  case ptr x =>
   obtain ⟨a,rfl,h1,h2,hc⟩:=h
   obtain ⟨a0,-,-,-,hc0⟩:=h0
   refine ⟨a,rfl,h1,h2,fun j hj=>?_⟩
   obtain ⟨u,hu,hr⟩:=hc j hj
   obtain ⟨u0,hu0,hr0⟩:=hc0 j hj
   have h3:=AV.cells_get_le hj
   simp at hn
   exact ⟨u,hu,ih _ _ _ (by omega) hr0 hr⟩
  case fz c l =>
   obtain ⟨a,cap,rfl,h1,h2,h3⟩:=h
   obtain ⟨a0,cap0,-,-,-,h30⟩:=h0
   refine ⟨a,cap,rfl,h1,h2,fun hne=>?_⟩
   obtain ⟨ad,s,rfl,hfr,hs,hu,hc⟩:=h3 hne
   obtain ⟨ad0,s0,-,-,-,-,hc0⟩:=h30 hne
   refine ⟨ad,s,rfl,hfr,hs,hu,fun i hi j hj=>?_⟩
   obtain ⟨u,hu,hr⟩:=hc i hi j hj
   obtain ⟨u0,hu0,hr0⟩:=hc0 i hi j hj
   have h4:=AV.cells_get_le hj
   have h5:=List.sizeOf_lt_of_mem (List.getElem_mem hi)
   simp at hn
   exact ⟨u,hu,ih _ _ _ (by omega) hr0 hr⟩
  case ref t g s i j =>
   obtain ⟨b,h1,rfl⟩:=h
   obtain ⟨b0,h10,-⟩:=h0
   exact ⟨b,hb _ _ _ (hd _ _ _ h10) h1,rfl⟩
  case sl t g s off len =>
   have ht:t < n:=by
    rcases h0 with ⟨q,-⟩ | ⟨b,c,e,f,cap,q,-⟩ <;> exact hd _ _ _ q
   rcases h with ⟨h1,h2⟩ | ⟨b,c,e,f,cap,h1,h2⟩
   ·exact .inl ⟨hb _ _ _ ht h1,h2⟩
   ·exact .inr ⟨b,c,e,f,cap,hb _ _ _ ht h1,h2⟩
  case mp t =>
   obtain ⟨b,h1,rfl⟩:=h
   obtain ⟨b0,h10,-⟩:=h0
   exact ⟨b,hb _ _ _ (hd _ _ _ h10) h1,rfl⟩
  case it t =>
   obtain ⟨b,h1,rfl⟩:=h
   obtain ⟨b0,h10,-⟩:=h0
   exact ⟨b,hb _ _ _ (hd _ _ _ h10) h1,rfl⟩
  case yl t =>
   obtain ⟨b,h1,rfl⟩:=h
   obtain ⟨b0,h10,-⟩:=h0
   exact ⟨b,hb _ _ _ (hd _ _ _ h10) h1,rfl⟩
  case agg cs =>
   obtain ⟨us,rfl,hs,hc⟩:=h
   obtain ⟨us0,-,-,hc0⟩:=h0
   refine ⟨us,rfl,hs,fun j hj=>?_⟩
   obtain ⟨u,hu,hr⟩:=hc j hj
   obtain ⟨u0,hu0,hr0⟩:=hc0 j hj
   have:=List.sizeOf_lt_of_mem (List.getElem_mem hj)
   simp at hn
   exact ⟨u,hu,ih _ _ _ (by omega) hr0 hr⟩
  case tup cs =>
   obtain ⟨us,rfl,hs,hc⟩:=h
   obtain ⟨us0,-,-,hc0⟩:=h0
   refine ⟨us,rfl,hs,fun j hj=>?_⟩
   obtain ⟨u,hu,hr⟩:=hc j hj
   obtain ⟨u0,hu0,hr0⟩:=hc0 j hj
   have:=List.sizeOf_lt_of_mem (List.getElem_mem hj)
   simp at hn
   exact ⟨u,hu,ih _ _ _ (by omega) hr0 hr⟩
  case func fn fs cs =>
   obtain ⟨us,vs,rfl,hs,ht,hc,hd1⟩:=h
   obtain ⟨us0,vs0,-,-,-,hc0,hd0⟩:=h0
   refine ⟨us,vs,rfl,hs,ht,fun j hj=>?_,fun j hj=>?_⟩
   ·obtain ⟨u,hu,hr⟩:=hc j hj
    obtain ⟨u0,hu0,hr0⟩:=hc0 j hj
    have:=List.sizeOf_lt_of_mem (List.getElem_mem hj)
    simp at hn
    exact ⟨u,hu,ih _ _ _ (by omega) hr0 hr⟩
   ·obtain ⟨u,hu,hr⟩:=hd1 j hj
    obtain ⟨u0,hu0,hr0⟩:=hd0 j hj
    have:=List.sizeOf_lt_of_mem (List.getElem_mem hj)
    simp at hn
    exact ⟨u,hu,ih _ _ _ (by omega) hr0 hr⟩
  case iface t x =>
   obtain ⟨u,rfl,hr⟩:=h
   obtain ⟨u0,-,hr0⟩:=h0
   simp at hn
   exact ⟨u,rfl,ih _ _ _ (by omega) hr0 hr⟩
  case opt b x =>
   simp at hn
   exact ⟨fun q=>ih _ _ _ (by omega) (h0.1 q) (h.1 q),h.2⟩
theorem Rep.both {n:Nat} {β0 β β':Beta} {fr0 fr:Nat→Prop} {H0 H:Array Obj} {x:AV} {v0 v:Value} (hd:∀ t g r,β0 t g=some r→t < n) (hb:∀ t g r,t < n→β t g=some r→β' t g=some r) (h0:Rep β0 fr0 H0 x v0) (h:Rep β fr H x v):Rep β' fr H x v :=
 Rep.both_aux hd hb _ x v0 v (Nat.le_refl _) h0 h
theorem ObjAt.both {n:Nat} {β0 β β':Beta} {fr0 fr:Nat→Prop} {H0 H:Array Obj} (hd:∀ t g r,β0 t g=some r→t < n) (hb:∀ t g r,t < n→β t g=some r→β' t g=some r) {t:Nat} {o:AObj} (ht:t < n) (h0:ObjAt β0 fr0 H0 t o) (h:ObjAt β fr H t o):ObjAt β' fr H t o:=by
 cases o with
 | arr g s l =>
  rcases h with ⟨h1,h2⟩ | ⟨b,c,e,f,h1,h2,h3,h4,h5,h6⟩
  ·exact .inl ⟨hb _ _ _ ht h1,h2⟩
  ·refine .inr ⟨b,c,e,f,hb _ _ _ ht h1,h2,h3,h4,h5,fun i hi j hj=>?_⟩
   obtain ⟨u,hu,hr⟩:=h6 i hi j hj
   rcases h0 with ⟨-,q⟩ | ⟨b0,c0,e0,f0,-,-,-,-,-,q⟩
   ·subst q; simp at hi
   ·obtain ⟨u0,-,hr0⟩:=q i hi j hj
    exact ⟨u,hu,Rep.both hd hb hr0 hr⟩
 | map l =>
  obtain ⟨b,es,h1,h2,h3,h4⟩:=h
  obtain ⟨b0,es0,-,-,-,h40⟩:=h0
  refine ⟨b,es,hb _ _ _ ht h1,h2,h3,fun i hi=>?_⟩
  obtain ⟨e,he,hbn,hk,hv⟩:=h4 i hi
  obtain ⟨e0,-,-,hk0,hv0⟩:=h40 i hi
  exact ⟨e,he,hbn,Rep.both hd hb hk0 hk,Rep.both hd hb hv0 hv⟩
 | it s pos =>
  obtain ⟨b,by_,h1,h2,h3⟩:=h
  exact ⟨b,by_,hb _ _ _ ht h1,h2,h3⟩
 | ctl c =>
  cases c with
  | loop ps as bd env pe =>
   obtain ⟨b,r,h1,h2,h3,h4,h5,h6,h7,h8,h9⟩:=h
   obtain ⟨b0,r0,-,-,-,-,-,-,-,-,h90⟩:=h0
   refine ⟨b,r,hb _ _ _ ht h1,h2,h3,h4,h5,h6,h7,h8,fun j hj=>?_⟩
   obtain ⟨u,hu,hr⟩:=h9 j hj
   obtain ⟨u0,-,hr0⟩:=h90 j hj
   exact ⟨u,hu,Rep.both hd hb hr0 hr⟩
  | mit mt k seen =>
   obtain ⟨b,sn,o,s,c,h1,h2,h3,h4⟩:=h
   obtain ⟨b0,sn0,o0,s0,c0,-,-,-,h40⟩:=h0
   refine ⟨b,sn,o,s,c,hb _ _ _ ht h1,h2,h3,fun m hm=>?_⟩
   obtain ⟨mb,q1,q2⟩:=h4 m hm
   obtain ⟨mb0,q10,-⟩:=h40 m hm
   exact ⟨mb,hb _ _ _ (hd _ _ _ q10) q1,q2⟩
 | dead=>trivial
def lowO (n:Nat):AObj→Bool
 | .arr _ _ l=>lowL n l
 | .map l=>l.all fun e=>e.1.low n && e.2.low n
 | .dead=>true
 | _=>false
theorem ObjAt.low {n:Nat} {β β':Beta} {fr:Nat→Prop} {H:Array Obj} (hb:∀ t g r,t < n→β t g=some r→β' t g=some r) {t:Nat} {o:AObj} (ht:t < n) (hl:lowO n o=true) (h:ObjAt β fr H t o):ObjAt β' fr H t o:=by
 cases o with
 | arr g s l =>
  rcases h with ⟨h1,h2⟩ | ⟨b,c,e,f,h1,h2,h3,h4,h5,h6⟩
  ·exact .inl ⟨hb _ _ _ ht h1,h2⟩
  ·refine .inr ⟨b,c,e,f,hb _ _ _ ht h1,h2,h3,h4,h5,fun i hi j hj=>?_⟩
   obtain ⟨u,hu,hr⟩:=h6 i hi j hj
   exact ⟨u,hu,Rep.low hb (fun _ e=>e) (low_cells (lowL_mem hl _ (List.getElem_mem hi)) (List.getElem_mem hj)) hr⟩
 | map l =>
  obtain ⟨b,es,h1,h2,h3,h4⟩:=h
  refine ⟨b,es,hb _ _ _ ht h1,h2,h3,fun i hi=>?_⟩
  obtain ⟨e,he,hbn,hk,hv⟩:=h4 i hi
  have:=List.all_eq_true.1 hl _ (List.getElem_mem hi)
  rw [Bool.and_eq_true] at this
  exact ⟨e,he,hbn,Rep.low hb (fun _ e=>e) this.1 hk,Rep.low hb (fun _ e=>e) this.2 hv⟩
 | it s pos=>cases hl
 | ctl c=>cases hl
 | dead=>trivial
theorem ACall.trim {P : Program} {f : FuncId} {ar : List AV} {h : List AObj} {K K2 : AV → List AObj → Prop} (k : Nat) (a : ACall P f ar h K)
  (kk:∀ r h',K r h'→∃ base z,h'=base++z∧base.length=h.length∧(frzT (fun i=>decide (h.length≤i)) h' k r).low h.length=true∧(∀ (i:Nat) (o:AObj),base[i]? = some o→h[i]? = some o∨lowO h.length o=true)∧K2 (frzT (fun i=>decide (h.length≤i)) h' k r) base):ACall P f ar h K2:=by
 unfold ACall at a ⊢
 intro w β fr us L R
 refine (a w β fr us L R).mono ?_
 rintro e w' ⟨v,x,h',β',fr',rfl,hk,L',R',S'⟩
 obtain ⟨base,z,rfl,hbl,hlow,hob,hk2⟩:=kk _ _ hk
 obtain ⟨fr2,e1,e2,e3,e4,L2⟩:=step_part (w:=w') (h2:=base++List.replicate z.length AObj.dead) (fun i=>decide (h.length≤i)) L' (by simp) (fun i o ho=>by
  rw [List.getElem?_append] at ho
  split at ho
  ·rename_i q
   refine .inr ⟨by simp; omega,.inl ?_⟩
   rw [List.getElem?_append_left q]; exact ho
  ·rw [List.getElem?_replicate] at ho
   split at ho
   ·injection ho with ho; exact .inl ho.symm
   ·cases ho)
 have R2:=frzT_rep L' e1 e2 k x v R'
 let β2:Beta:=fun t g=>if t < h.length then β' t g else none
 have hb2:∀ t g r,t < h.length→β' t g=some r→β2 t g=some r:=fun t g r ht e=>by show (if t < h.length then β' t g else none)=_; rw [if_pos ht]; exact e
 have hb2':∀ t g r,β2 t g=some r→t < h.length∧β' t g=some r:=fun t g r e=>by
  have e':(if t < h.length then β' t g else none)=some r:=e
  by_cases q:t < h.length
  ·rw [if_pos q] at e'; exact ⟨q,e'⟩
  ·rw [if_neg q] at e'; cases e'
 have hbase:∀ t o,base[t]? = some o→(base++List.replicate z.length AObj.dead)[t]? = some o:=fun t o ho=>by
  rw [List.getElem?_append_left (List.getElem?_eq_some_iff.1 ho).1]; exact ho
 have own2:∀ b,Own base β2 b→Own (base++List.replicate z.length AObj.dead) β' b:=by
  rintro b ⟨t,o,g,h1,h2,h3⟩
  exact ⟨t,o,g,hbase t o h1,h2,(hb2' _ _ _ h3).2⟩
 have own:∀ b,Own base β2 b→Own (base++z) β' b:=by
  rintro b ⟨t,o,g,h1,h2,h3⟩
  exact ⟨t,o,g,by rw [List.getElem?_append_left (List.getElem?_eq_some_iff.1 h1).1]; exact h1,h2,(hb2' _ _ _ h3).2⟩
 have L3:Lay β2 fr2 w'.heap base:={
  frlt:=L2.frlt
  ownfr:=fun b ho=>L2.ownfr b (own2 b ho)
  lt:=fun t g b hb=>L2.lt t g b (hb2' _ _ _ hb).2
  inj:=fun t t' o o' g g' b h1 h2 h3 h4 h5 h6=>L2.inj t t' o o' g g' b (hbase t o h1) h2 (hb2' _ _ _ h3).2 (hbase t' o' h4) h5 (hb2' _ _ _ h6).2
  obj:=fun t o ho=>by
   have ht:t < h.length:=by have:=(List.getElem?_eq_some_iff.1 ho).1; omega
   have h1:=L2.obj t o (hbase t o ho)
   rcases hob t o ho with q | q
   ·exact ObjAt.both (fun t g r e=>L.dom t g r e) hb2 ht (L.obj t o q) h1
   ·exact ObjAt.low hb2 ht q h1
  dom:=fun t g r e=>by have:=(hb2' _ _ _ e).1; omega
  top:=fun t g s l ho g' hg=>by
   have:=L2.top t g s l (hbase t _ ho) g' hg
   show (if t < h.length then β' t g' else none)=none
   rw [this]; split <;> rfl
  tab:=L2.tab }
 refine ⟨v,_,_,β2,fr2,rfl,hk2,L3,Rep.low hb2 (fun _ e=>e) hlow R2, ?_⟩
 exact { ext := ⟨fun t g r e => hb2 t g r (L.dom t g r e) (S'.ext.beta t g r e), fun b e => e1 b (S'.ext.frm b e), S'.ext.cells, S'.ext.shape⟩, os := S'.os, tape := S'.tape, output := S'.output, size := S'.size, keep := S'.keep, prov := fun b e => S'.prov b (own b e)
         frz:=fun b hb=>by
          rcases e3 b hb with q | q
          ·exact S'.frz b q
          ·rcases S'.prov b q with q | q
           ·exact .inr (.inl q)
           ·exact .inr (.inr q) }
end Go.Proofs.Vale
