/- YtplehleekabbaaaGreatDoorVV: a text of the proof of this claim, by its prover. -/
import Derived.Test.YtplehleekabbaaaGreatDoorVS
set_option linter.unusedVariables false
set_option linter.unusedSimpArgs false
namespace Go.Proofs.Vale
attribute [go_sem] Nat.le_refl Bool.not_eq_true' Bool.not_eq_false'
def flat1:AV→Bool
 | .int _ _=>true
 | .bool _=>true
 | .str _=>true
 | .nilp=>true
 | .nili=>true
 | _=>false
def flatB:AV→Bool
 | .agg cs=>cs.all flat1
 | x=>flat1 x
def flatV:AV→Bool
 | .tup vs=>vs.all flatB
 | x=>flatB x
theorem flat1_rep {β β':Beta} {fr fr':Nat→Prop} {H H':Array Obj} {x:AV} {v:Value} (hf:flat1 x=true) (h:Rep β fr H x v):Rep β' fr' H' x v:=by
 cases x <;> first | (cases hf; done) | (simp only [Rep] at h ⊢; exact h)
theorem flatB_rep {β β':Beta} {fr fr':Nat→Prop} {H H':Array Obj} {x:AV} {v:Value} (hf:flatB x=true) (h:Rep β fr H x v):Rep β' fr' H' x v:=by
 cases x
 case agg cs =>
  simp only [Rep] at h ⊢
  obtain ⟨us,rfl,hs,hc⟩:=h
  refine ⟨us,rfl,hs,fun j hj=>?_⟩
  obtain ⟨u,hu,hr⟩:=hc j hj
  exact ⟨u,hu,flat1_rep (List.all_eq_true.1 hf _ (List.getElem_mem hj)) hr⟩
 all_goals exact flat1_rep hf h
theorem flatV_rep {β β':Beta} {fr fr':Nat→Prop} {H H':Array Obj} {x:AV} {v:Value} (hf:flatV x=true) (h:Rep β fr H x v):Rep β' fr' H' x v:=by
 cases x
 case tup cs =>
  simp only [Rep] at h ⊢
  obtain ⟨us,rfl,hs,hc⟩:=h
  refine ⟨us,rfl,hs,fun j hj=>?_⟩
  obtain ⟨u,hu,hr⟩:=hc j hj
  exact ⟨u,hu,flatB_rep (List.all_eq_true.1 hf _ (List.getElem_mem hj)) hr⟩
 all_goals exact flatB_rep hf h
def lendA (h:List AObj) (x:AV):Option (Prop × AV) :=
 match x with
 | .sl t g s off len=>(match h[t]? with | some (.arr g' s' l)=>some (g=g'∧s=s'∧off+len≤l.length,.fz false ((l.drop off).take len)) | _=>none)
 | .ref t g s i 0=>(match h[t]? with | some (.arr g' s' l)=>some (g=g'∧s=s'∧i < l.length,.ptr (l.getD i .any)) | _=>none)
 | .opt true x=>some (True,x)
 | x=>some (True,x)
def lends (h:List AObj):List AV→Option (Prop × List AV)
 | []=>some (True,[])
 | x::xs=>(match lendA h x,lends h xs with | some (p,y),some (q,ys)=>some (p∧q,y::ys) | _,_=>none)
def deadH (h:List AObj):List AObj:=h.map fun _=>.dead
def allFr (β:Beta) (fr:Nat→Prop) (H:Array Obj):Nat→Prop:=fun b=>b < H.size
theorem lay_dead {β:Beta} {fr:Nat→Prop} {H:Array Obj} {h:List AObj} (L:Lay β fr H h):Lay β (allFr β fr H) H (deadH h) where
 frlt:=fun _ e=>e
 ownfr:=fun b ⟨t,o,g,h1,h2,_⟩=>by
  simp only [deadH,List.getElem?_map] at h1
  cases q:h[t]? with
  | none=>rw [q] at h1; cases h1
  | some o'=>rw [q] at h1; injection h1 with h1; subst h1; cases h2
 lt:=L.lt
 inj:=fun t t' o o' g g' b h1 h2=>by
  simp only [deadH,List.getElem?_map] at h1
  cases q:h[t]? with
  | none=>rw [q] at h1; cases h1
  | some o'=>rw [q] at h1; injection h1 with h1; subst h1; cases h2
 obj:=fun t o h1=>by
  simp only [deadH,List.getElem?_map] at h1
  cases q:h[t]? with
  | none=>rw [q] at h1; cases h1
  | some o'=>rw [q] at h1; injection h1 with h1; subst h1; trivial
 dom:=fun t g r e=>by simpa [deadH] using L.dom t g r e
 top:=fun t g s l h1=>by
  simp only [deadH,List.getElem?_map] at h1
  cases q:h[t]? with
  | none=>rw [q] at h1; cases h1
  | some o'=>rw [q] at h1; cases h1
 tab:=fun b cs q=>⟨L.frlt b (L.tab b cs q).1,(L.tab b cs q).2⟩
theorem ext_all {β:Beta} {fr:Nat→Prop} {H:Array Obj} {h:List AObj} (L:Lay β fr H h):Ext β fr H β (allFr β fr H) H:=⟨fun _ _ _ e=>e,fun b e=>L.frlt b e,fun _ _=>rfl,fun _ _ _ c _ f _ e=>⟨c,f,e,rfl⟩⟩
theorem lendA_rep {β:Beta} {fr:Nat→Prop} {H:Array Obj} {h:List AObj} {x y:AV} {v:Value} {p:Prop} (L:Lay β fr H h) (he:lendA h x=some (p,y)) (hp:p) (hr:Rep β fr H x v):Rep β (allFr β fr H) H y v:=by
 unfold lendA at he
 split at he
 ·rename_i t g s off len
  split at he
  ·rename_i g' s' l ht
   injection he with he; injection he with h1 h2; subst h2; rw [← h1] at hp
   obtain ⟨rfl,rfl,hn⟩:=hp
   simp only [Rep] at hr ⊢
   have hlen:((l.drop off).take len).length=len:=by simp; omega
   rcases hr with ⟨hb,rfl,rfl,rfl⟩ | ⟨b,c,e,f,cap,hb,hH,rfl,hcs,hlc⟩
   ·exact ⟨none,0,by simp,by simp,by simp,by simp⟩
   ·refine ⟨some ⟨b,off * s,none⟩,cap,by rw [hlen],by rw [hlen]; exact hlc,by simp,fun hne=>?_⟩
    refine ⟨⟨b,off * s,none⟩,s,rfl,L.lt _ _ _ hb,rfl,fun x hx=>?_,fun i hi j hj=>?_⟩
    ·rcases L.obj t _ ht with ⟨_,z⟩ | ⟨_,_,_,_,_,_,_,h4,_⟩
     ·subst z; simp at hx
     ·exact h4 x (List.mem_of_mem_drop (List.mem_of_mem_take hx))
    ·have hi':off+i < l.length:=by simp at hi; omega
     simp only [List.getElem_take,List.getElem_drop] at hj ⊢
     obtain ⟨u,hu,hr'⟩:=L.arr ht hi' hb j hj
     refine ⟨u, ?_,hr'.ext (ext_all L)⟩
     rw [← hu]; congr 1; rw [Nat.add_mul]
  ·cases he
 ·rename_i t g s i
  split at he
  ·rename_i g' s' l ht
   injection he with he; injection he with h1 h2; subst h2; rw [← h1] at hp
   obtain ⟨rfl,rfl,hi⟩:=hp
   simp only [Rep] at hr ⊢
   obtain ⟨b,hb,rfl⟩:=hr
   rw [getD_get hi]
   refine ⟨_,rfl,L.lt _ _ _ hb,rfl,fun j hj=>?_⟩
   obtain ⟨u,hu,hr'⟩:=L.arr ht hi hb j hj
   exact ⟨u,by simpa using hu,hr'.ext (ext_all L)⟩
  ·cases he
 ·injection he with he; injection he with h1 h2; subst h2
  simp only [Rep] at hr
  exact (hr.1 trivial).ext (ext_all L)
 ·injection he with he; injection he with h1 h2; subst h2
  exact hr.ext (ext_all L)
theorem lends_rep {β:Beta} {fr:Nat→Prop} {H:Array Obj} {h:List AObj} (L:Lay β fr H h):∀ (xs ys:List AV) (vs:Array Value) (p:Prop),lends h xs=some (p,ys)→p→CellsRep β fr H xs vs→CellsRep β (allFr β fr H) H ys vs:=by
 have key:∀ (xs ys:List AV) (p:Prop),lends h xs=some (p,ys)→p→ys.length=xs.length∧∀ j (hj:j < xs.length) (hj':j < ys.length),∃ q,lendA h xs[j]=some (q,ys[j])∧q:=by
  intro xs
  induction xs with
  | nil=>intro ys p e hp; simp only [lends] at e; injection e with e; injection e with e1 e2; subst e2; exact ⟨rfl,fun j hj=>by simp at hj⟩
  | cons x xs ih =>
   intro ys p e hp
   simp only [lends] at e
   split at e
   ·rename_i p1 y q1 ys1 e1 e2
    injection e with e; injection e with e3 e4; subst e4; rw [← e3] at hp
    obtain ⟨h1,h2⟩:=ih ys1 q1 e2 hp.2
    refine ⟨by simp [h1],fun j hj hj'=>?_⟩
    cases j with
    | zero=>exact ⟨p1,e1,hp.1⟩
    | succ j=>simpa using h2 j (by simpa using hj) (by simpa using hj')
   ·cases e
 intro xs ys vs p e hp hr
 obtain ⟨h1,h2⟩:=key xs ys p e hp
 refine ⟨by rw [hr.1,h1],fun j hj=>?_⟩
 obtain ⟨u,hu,hru⟩:=hr.2 j (by omega)
 obtain ⟨q,hq,hqp⟩:=h2 j (by omega) hj
 exact ⟨u,hu,lendA_rep L hq hqp hru⟩
theorem ACall.pure {P:Program} {f:FuncId} {as as':List AV} {h:List AObj} {K:AV→List AObj→Prop} {p:Prop} (hl:lends h as=some (p,as')) (hp:p) (k:ACall P f as' (deadH h) fun r _=>flatV r=true∧K r h):ACall P f as h K:=by
 intro w β fr vs L R
 refine (k w β (allFr β fr w.heap) vs (lay_dead L) (lends_rep L _ _ _ _ hl hp R)).mono ?_
 rintro e w' ⟨v,x,h',β',fr',rfl,⟨hf,hk⟩,L',R',S'⟩
 have same:∀ b,b < w.heap.size→w'.heap[b]? = w.heap[b]? := fun b hb=>S'.ext.cells b hb
 have E:Ext β fr w.heap β fr w'.heap:=⟨fun _ _ _ e=>e,fun _ e=>e,fun b hb=>same b (L.frlt b hb),fun t g b c e f hb hc=>⟨c,f,by rw [same b (L.lt _ _ _ hb)]; exact hc,rfl⟩⟩
 refine ⟨v,x,h,β,fr,rfl,hk, ?_,flatV_rep hf R', ?_⟩
 ·exact { frlt := fun b hb => Nat.lt_of_lt_of_le (L.frlt b hb) S'.size, ownfr := L.ownfr, lt := fun t g b hb => Nat.lt_of_lt_of_le (L.lt t g b hb) S'.size, inj := L.inj
          obj:=fun t o ho=>(L.obj t o ho).ext E fun g b _ hb=>same b (L.lt _ _ _ hb),dom:=L.dom,top:=L.top,tab:=fun b cs q=>⟨(L.tab b cs q).1,by rw [E.cells b (L.tab b cs q).1]; exact (L.tab b cs q).2⟩ }
 ·exact { ext:=E,os:=S'.os,tape:=S'.tape,output:=S'.output,size:=S'.size,keep:=fun b hb _=>same b hb,prov:=fun b e=>.inl e,frz:=fun b e=>.inl e }
theorem ACallT.pure {P:Program} {f:FuncId} {as as':List AV} {h:List AObj} {K:AV→List AObj→Prop} {t:Tag K} {p:Prop} (hl:lends h as=some (p,as')) (hp:p) {K':AV→List AObj→Prop} (k:ACall P f as' (deadH h) K') (kk:∀ r h',K' r h'→flatV r=true∧K r h):ACallT P f as h K t :=
 ACall.pure hl hp (k.mono kk)
@[go_sem] theorem lends_nil (h:List AObj):lends h []=some (True,[]):=nrfl rfl
def lend2 (a:Option (Prop × AV)) (b:Option (Prop × List AV)):Option (Prop × List AV) :=
 match a,b with
 | some (p,y),some (q,ys)=>some (p∧q,y::ys)
 | _,_=>none
@[go_sem] theorem lends_cons (h:List AObj) (x:AV) (xs:List AV):lends h (x::xs)=lend2 (lendA h x) (lends h xs):=by
 rw [lends]; unfold lend2; cases lendA h x <;> cases lends h xs <;> rfl
@[go_sem] theorem lend2_some (p q:Prop) (y:AV) (ys:List AV):lend2 (some (p,y)) (some (q,ys))=some (p∧q,y::ys):=nrfl rfl
def lendO (o:Option AObj) (g s off len:Nat):Option (Prop × AV) :=
 match o with
 | some (.arr g' s' l)=>some (g=g'∧s=s'∧off+len≤l.length,.fz false ((l.drop off).take len))
 | _=>none
@[go_sem] theorem lendA_sl (h:List AObj) (t g s off len:Nat):lendA h (.sl t g s off len)=lendO h[t]? g s off len:=by
 unfold lendA lendO; simp only
@[go_sem] theorem lendO_some (g s off len g' s':Nat) (l:List AV):lendO (some (.arr g' s' l)) g s off len=some (g=g'∧s=s'∧off+len≤l.length,.fz false ((l.drop off).take len)):=nrfl rfl
section
variable (h:List AObj)
@[go_sem] theorem lendA_int (k:IntKind) (n:Int):lendA h (.int k n)=some (True,.int k n):=nrfl rfl
@[go_sem] theorem lendA_str (s:List UInt8):lendA h (.str s)=some (True,.str s):=nrfl rfl
@[go_sem] theorem lendA_agg (l:List AV):lendA h (.agg l)=some (True,.agg l):=nrfl rfl
@[go_sem] theorem lendA_func (fn:Fn) (l c:List AV):lendA h (.func fn l c)=some (True,.func fn l c):=nrfl rfl
end
attribute [go_sem] bne_self_eq_false
end Go.Proofs.Vale
namespace Go.Proofs.Vale
def QStep (P:Program) (ds:List (Option Nat)) (o:Oper) (env:List AV) (h:List AObj) (x:AV):Prop :=
 match o.guard with
 | none =>
  (match pop P o.op (evA env) h with
  | some (p,y)=>p∧x=y
  | none=>aop P o.op (evA env) h fun y h'=>y=x∧h'=h)
 | some (j,want) =>
  (match gdA (gv env ds j) want with
  | none=>False
  | some gd =>
   match popG P o.op (evA env) h with
   | some (p,y)=>(gd=true→p)∧x=.opt gd y
   | none=>(gd=true→aop P o.op (fun y=>(evA env y).stripT) h fun y h'=>y=x∧h'=h)∧(gd=false→x=.tup []))
def dopsL (P:Program):List (Option Nat)→List Oper→List AV→List AObj→(List AV→Prop)→Prop
 | _,[],env,h,K=>K env
 | ds,o::os,env,h,K=>∃ x,QStep P ds o env h x∧dopsL P (o.dst::ds) os (putA env o.dst x) h K
def dstAt (ops:List Oper) (i:Nat):Option Nat:=(ops[i]?).bind (·.dst)
def mix (ops:List Oper) (xs:Nat→AV) (S:Nat→Bool) (env:List AV):Nat→List AV
 | 0=>env
 | k+1=>if S k then putA (mix ops xs S env k) (dstAt ops k) (xs k) else mix ops xs S env k
theorem putA_length (env:List AV) (d:Option Nat) (x:AV):(putA env d x).length=env.length:=by cases d <;> simp [putA]
theorem mix_length (ops:List Oper) (xs:Nat→AV) (S:Nat→Bool) (env:List AV):∀ k,(mix ops xs S env k).length=env.length
 | 0=>rfl
 | k+1=>by simp only [mix]; split <;> simp [putA_length,mix_length ops xs S env k]
theorem putA_getD_ne {env:List AV} {d:Option Nat} {x:AV} {s:Nat} (h:d≠some s):(putA env d x).getD s .any=env.getD s .any:=by
 cases d with
 | none=>rfl
 | some d=>simp only [putA,List.getD_eq_getElem?_getD]; rw [List.getElem?_set_ne (fun e=>h (by rw [e]))]
theorem putA_getD_eq {env:List AV} {x:AV} {s:Nat} (h:s < env.length):(putA env (some s) x).getD s .any=x:=by
 simp only [putA,List.getD_eq_getElem?_getD]; rw [List.getElem?_set_self h]; rfl
theorem mix_base {ops:List Oper} {xs:Nat→AV} {S:Nat→Bool} {env:List AV} {s:Nat}:∀ k,(∀ i,i < k→S i=true→dstAt ops i≠some s)→(mix ops xs S env k).getD s .any=env.getD s .any
 | 0,_=>rfl
 | k+1,h=>by
  simp only [mix]
  have ih:=mix_base (ops:=ops) (xs:=xs) (S:=S) (env:=env) (s:=s) k fun i hi=>h i (by omega)
  split
  ·rename_i hk; rw [putA_getD_ne (h k (by omega) hk),ih]
  ·exact ih
theorem mix_hit {ops:List Oper} {xs:Nat→AV} {S:Nat→Bool} {env:List AV} {s i:Nat} (hd:dstAt ops i=some s) (hS:S i=true) (hs:s < env.length):∀ k,i < k→(∀ j,j < k→j≠i→dstAt ops j≠some s)→(mix ops xs S env k).getD s .any=xs i
 | 0,h,_=>by omega
 | k+1,h,hu=>by
  simp only [mix]
  by_cases e:k=i
  ·subst e
   rw [if_pos hS,hd,putA_getD_eq (by rw [mix_length]; exact hs)]
  ·have ih:=mix_hit (xs:=xs) hd hS hs k (by omega) fun j hj=>hu j (by omega)
   split
   ·rw [putA_getD_ne (hu k (by omega) e),ih]
   ·exact ih
theorem mix_congr {ops:List Oper} {xs ys:Nat→AV} {S T:Nat→Bool} {env:List AV}:∀ k,(∀ i,i < k→S i=T i∧xs i=ys i)→mix ops xs S env k=mix ops ys T env k
 | 0,_=>rfl
 | k+1,h=>by
  simp only [mix]
  rw [mix_congr (T:=T) (ys:=ys) k fun i hi=>h i (by omega),(h k (by omega)).1,(h k (by omega)).2]
theorem dopsL_spec {P : Program} {ops : List Oper} {env : List AV} {h : List AObj} {K : List AV → Prop} : ∀ (rest done : List Oper) (xs : Nat → AV), ops = done ++ rest →
  (∀ i o,i < done.length→ops[i]? = some o→QStep P ((ops.take i).map (·.dst)).reverse o (mix ops xs (fun _=>true) env i) h (xs i)) →
  dopsL P ((done.map (·.dst)).reverse) rest (mix ops xs (fun _=>true) env done.length) h K →
  ∃ xs:Nat→AV,(∀ i o,ops[i]? = some o→QStep P ((ops.take i).map (·.dst)).reverse o (mix ops xs (fun _=>true) env i) h (xs i))∧K (mix ops xs (fun _=>true) env ops.length)
 | [],done,xs,he,hq,hd=>by
  simp only [List.append_nil] at he
  subst he
  simp only [dopsL] at hd
  exact ⟨xs,fun i o ho=>hq i o (List.getElem?_eq_some_iff.1 ho).1 ho,hd⟩
 | o::rest,done,xs,he,hq,hd=>by
  simp only [dopsL] at hd
  obtain ⟨x,hx,hd⟩:=hd
  have ho:ops[done.length]? = some o:=by rw [he,List.getElem?_append_right (by omega)]; simp
  have htk:ops.take done.length=done:=by rw [he]; simp
  let ys:Nat→AV:=fun i=>if i=done.length then x else xs i
  have hys:∀ i,i < done.length→ys i=xs i:=fun i hi=>by simp only [ys]; rw [if_neg (by omega)]
  have hmix:∀ k,k≤done.length→mix ops ys (fun _=>true) env k=mix ops xs (fun _=>true) env k:=fun k hk=>mix_congr k fun i hi=>⟨rfl,hys i (by omega)⟩
  refine dopsL_spec rest (done++[o]) ys (by simp [he]) ?_ ?_
  ·intro i o' hi ho'
   simp only [List.length_append,List.length_cons,List.length_nil] at hi
   by_cases e:i=done.length
   ·subst e
    rw [ho] at ho'; injection ho' with ho'; subst ho'
    rw [hmix _ (Nat.le_refl _),htk]
    have:ys done.length=x:=by simp only [ys,if_true]
    rw [this]; exact hx
   ·rw [hmix i (by omega),hys i (by omega)]
    exact hq i o' (by omega) ho'
  ·have h1:mix ops ys (fun _=>true) env (done++[o]).length=putA (mix ops xs (fun _=>true) env done.length) o.dst x:=by
    simp only [List.length_append,List.length_cons,List.length_nil,Nat.zero_add,mix,if_true]
    rw [hmix _ (Nat.le_refl _)]
    simp only [dstAt,ho,ys,if_true]; rfl
   rw [h1]
   simpa using hd
def Sees (β:Beta) (fr:Nat→Prop) (H:Array Obj) (ops:Array Oper) (o:Oper) (env:List AV) (tmps:Array Value):Prop :=
 ∀ s,s∈o.looksAt ops→s < env.length→∃ u,tmps[s]? = some u∧Rep β fr H (env.getD s .any) u
theorem Sees.eval {β:Beta} {fr:Nat→Prop} {H:Array Obj} {ops:Array Oper} {o:Oper} {env:List AV} {tmps:Array Value} {dfs:List Deferred} (hs:Sees β fr H ops o env tmps) (y:Operand) (hy:y∈o.op.operands):Rep β fr H (evA env y) ((⟨tmps,dfs⟩:Act).eval y):=by
 have R0:EnvRep β fr H [] #[]:=⟨rfl,fun j hj=>by simp at hj⟩
 cases y with
 | tmp t =>
  simp only [evA,Act.eval]
  by_cases ht:t < env.length
  ·obtain ⟨u,hu,hr⟩:=hs t (List.mem_append_left _ (List.mem_filterMap.2 ⟨.tmp t,by simpa using hy,rfl⟩)) ht
   rw [Array.getD_eq_getD_getElem?, hu]; exact hr
  ·rw [List.getD_eq_getElem?_getD,List.getElem?_eq_none (Nat.le_of_not_lt ht)]
   simp only [Option.getD_none,Rep]
 | const v=>exact R0.eval (ds:=[]) (.const v)
 | global g=>exact R0.eval (ds:=[]) (.global g)
 | func f=>exact R0.eval (ds:=[]) (.func f)
theorem guard_sees {β : Beta} {fr : Nat → Prop} {H : Array Obj} {ops : Array Oper} {o : Oper} {env : List AV} {tmps : Array Value} {i j : Nat} {want gd : Bool} (hs : Sees β fr H ops o env tmps)
  (hg:gdA (gv env ((ops.toList.take i).map (·.dst)).reverse j) want=some gd) (ho:o.guard=some (j,want)):Region.wanted o (yielded ops tmps)=gd:=by
 simp only [Region.wanted,ho]
 unfold gv at hg
 rw [List.reverse_reverse] at hg
 have hget:∀ d,((ops.toList.take i).map (·.dst))[j]? = some (some d)→(ops[j]?).bind (·.dst)=some d:=by
  intro d hd
  rw [List.getElem?_map] at hd
  cases hq:(ops.toList.take i)[j]? with
  | none=>rw [hq] at hd; cases hd
  | some q =>
   rw [hq] at hd; injection hd with hd
   have hq2:=hq
   rw [List.getElem?_take] at hq2
   split at hq2
   ·have:ops[j]? = some q:=by rw [← Array.getElem?_toList]; exact hq2
    rw [this]; exact hd
   ·cases hq2
 split at hg
 ·rename_i d hd
  have hy:yielded ops tmps j=match tmps[d]? with | some (.bool b)=>some b | _=>none:=by
   unfold yielded; rw [hget d hd]; rfl
  rw [hy]
  by_cases hl:d < env.length
  ·obtain ⟨u,hu,hr⟩:=hs d (List.mem_append_right _ (by rw [ho]; simp only; rw [hget d hd]; simp)) hl
   unfold gdA at hg
   split at hg
   ·rename_i g e
    injection hg with hg; subst hg
    rw [e] at hr; simp only [Rep] at hr; subst hr
    rw [hu]; simp
   ·rename_i b g e
    injection hg with hg; subst hg
    rw [e] at hr; simp only [Rep] at hr
    cases b with
    | true=>have:=hr.1 rfl; subst this; rw [hu]; simp
    | false=>have:=hr.2 rfl; subst this; rw [hu]; simp [undef]
   ·rename_i x _ e
    injection hg with hg; subst hg
    rw [e] at hr; simp only [Rep] at hr
    have:=hr.2 (by trivial); subst this; rw [hu]; simp [undef]
   ·rename_i vs e
    injection hg with hg; subst hg
    rw [e] at hr; simp only [Rep] at hr
    obtain ⟨us,rfl,_⟩:=hr
    rw [hu]; simp
   ·cases hg
  ·rw [List.getD_eq_getElem?_getD,List.getElem?_eq_none (Nat.le_of_not_lt hl)] at hg
   simp [gdA] at hg
 ·simp [gdA] at hg
theorem qstep_run {P : Program} {ops : Array Oper} {i : Nat} {o : Oper} {env : List AV} {h : List AObj} {x : AV} {tmps : Array Value} {w : World} {β : Beta} {fr : Nat → Prop} {Q : Exit → Act → World → Prop} {ro : Option Nat} {dfs : List Deferred} {Kc : Act → World → Prop}
  (ho:ops[i]? = some o) (hq:QStep P ((ops.toList.take i).map (·.dst)).reverse o env h x) (L:Lay β fr w.heap h) (hs:Sees β fr w.heap ops o env tmps)
  (hk:∀ v w' β' fr',Lay β' fr' w'.heap h→Rep β' fr' w'.heap x v→Step1 β fr h w β' fr' h w'→Kc ((⟨tmps,dfs⟩:Act).put o.dst v) w'):wpOpIn (roF ro) 0 P ops Q i Kc ⟨tmps,dfs⟩ w:=by
 unfold wpOpIn
 rw [ho]
 simp only
 have hev:=fun y hy=>hs.eval (dfs:=dfs) y hy
 unfold QStep at hq
 cases hg:o.guard with
 | none =>
  rw [hg] at hq
  have hw:Region.wanted o (yielded ops tmps)=true:=by simp [Region.wanted,hg]
  rw [if_pos hw]
  simp only at hq
  cases hpp:pop P o.op (evA env) h with
  | none =>
   rw [hpp] at hq
   exact aop_ok hq ⟨tmps,dfs⟩ w β fr L hev _ _ _ fun v y w' h' β' fr' k L' R' S'=>by
    obtain ⟨rfl,rfl⟩:=k
    exact hk v w' β' fr' L' R' S'
  | some q =>
   obtain ⟨p,y⟩:=q
   rw [hpp] at hq
   obtain ⟨hp,rfl⟩:=hq
   exact (OpK.of_pop (K:=fun y h'=>y=x∧h'=h) (pop_ok hpp) hp ⟨rfl,rfl⟩) ⟨tmps,dfs⟩ w β fr L hev _ _ _ fun v y w' h' β' fr' k L' R' S'=>by
    obtain ⟨rfl,rfl⟩:=k
    exact hk v w' β' fr' L' R' S'
 | some jw =>
  obtain ⟨j,want⟩:=jw
  rw [hg] at hq
  simp only at hq
  cases hgd:gdA (gv env ((ops.toList.take i).map (·.dst)).reverse j) want with
  | none=>rw [hgd] at hq; exact hq.elim
  | some gd =>
   rw [hgd] at hq
   simp only at hq
   have hw:Region.wanted o (yielded ops tmps)=gd:=guard_sees hs hgd hg
   rw [hw]
   cases hpp:popG P o.op (evA env) h with
   | none =>
    rw [hpp] at hq
    simp only at hq
    cases gd with
    | true =>
     rw [if_pos rfl]
     exact aop_ok (hq.1 rfl) ⟨tmps,dfs⟩ w β fr L (fun y hy=>(hev y hy).stripT) _ _ _ fun v y w' h' β' fr' k L' R' S'=>by
      obtain ⟨rfl,rfl⟩:=k
      exact hk v w' β' fr' L' R' S'
    | false =>
     rw [if_neg (by simp)]
     refine ⟨fun _ _=>trivial, ?_⟩
     rw [hq.2 rfl] at hk
     exact hk undef w β fr L (Rep_undef _ _ _) (Step1.refl _ _ _ _)
   | some q =>
    obtain ⟨p,y⟩:=q
    rw [hpp] at hq
    simp only at hq
    obtain ⟨hp,rfl⟩:=hq
    cases gd with
    | true =>
     rw [if_pos rfl]
     exact (OpK.of_pop (K:=fun z h'=>z=y∧h'=h) (popG_ok hpp) (hp rfl) ⟨rfl,rfl⟩) ⟨tmps,dfs⟩ w β fr L hev _ _ _ fun v z w' h' β' fr' k L' R' S'=>by
      obtain ⟨rfl,rfl⟩:=k
      exact hk v w' β' fr' L' (by simp only [Rep]; exact ⟨fun _=>R',fun e=>by cases e⟩) S'
    | false =>
     rw [if_neg (by simp)]
     refine ⟨fun _ _=>trivial, ?_⟩
     exact hk undef w β fr L (by simp [Rep]) (Step1.refl _ _ _ _)
def need (o:Oper):List Nat:=(o.after.toList.filter (Region.binds .any)).map (·.on)
def ancL:List Oper→List (List Nat)→List (List Nat)
 | [],acc=>acc
 | o::os,acc=>ancL os (acc++[need o++(need o).flatMap fun j=>acc.getD j []])
def Down (ops:List Oper) (S:Nat→Bool):Prop:=∀ i o,ops[i]? = some o→S i=true→∀ k∈need o,S k=true
def GoodAnc (ops:List Oper) (i:Nat) (l:List Nat):Prop:=∀ o,ops[i]? = some o→∀ j∈l,∀ S,Down ops S→(∀ k∈need o,S k=true)→S j=true
theorem ancL_spec {ops:List Oper}:∀ (os done:List Oper) (acc:List (List Nat)),ops=done++os→acc.length=done.length→(∀ i,GoodAnc ops i (acc.getD i []))→∀ i,GoodAnc ops i ((ancL os acc).getD i [])
 | [],done,acc,he,hl,ha=>ha
 | o::os,done,acc,he,hl,ha=>by
  refine ancL_spec os (done++[o]) _ (by simp [he]) (by simp [hl]) fun i=>?_
  by_cases hi:i < acc.length
  ·rw [List.getD_eq_getElem?_getD,List.getElem?_append_left hi,← List.getD_eq_getElem?_getD]; exact ha i
  ·by_cases e:i=acc.length
   ·subst e
    intro o' ho' j hj S hD hS
    have:ops[acc.length]? = some o:=by rw [he,hl,List.getElem?_append_right (by omega)]; simp
    rw [this] at ho'; injection ho' with ho'; subst ho'
    rw [List.getD_eq_getElem?_getD,List.getElem?_append_right (by omega)] at hj
    simp only [Nat.sub_self,List.getElem?_cons_zero,Option.getD_some,List.mem_append,List.mem_flatMap] at hj
    rcases hj with hj | ⟨k,hk,hj⟩
    ·exact hS j hj
    ·have hk2:k < acc.length:=by
      by_cases q:k < acc.length
      ·exact q
      ·rw [List.getD_eq_getElem?_getD,List.getElem?_eq_none (by omega)] at hj; simp at hj
     have hko:∃ ok,ops[k]? = some ok:=by
      have:k < ops.length:=by rw [he]; simp; omega
      exact ⟨_,List.getElem?_eq_getElem this⟩
     obtain ⟨ok,hok⟩:=hko
     exact ha k ok hok j hj S hD (hD k ok hok (hS k hk))
   ·rw [List.getD_eq_getElem?_getD,List.getElem?_eq_none (by simp; omega)]
    intro o' _ j hj
    simp at hj
def okPair (ops:Array Oper) (A:List (List Nat)) (i j:Nat) (o q:Oper):Bool :=
 match q.dst with
 | none=>true
 | some d=>(o.dst != some d) && (!(o.looksAt ops).contains d || (decide (j < i) && (A.getD i []).contains j) || (decide (i < j) && (A.getD j []).contains i))
def okDraw (ops:Array Oper):Bool :=
 (List.range ops.size).all fun i=>match ops[i]? with
  | none=>false
  | some o => ((need o).all fun k => decide (k < i)) && (List.range ops.size).all fun j => j == i || match ops[j]? with
    | none=>false
    | some q=>okPair ops (ancL ops.toList []) i j o q
theorem okDraw_back {ops:Array Oper} (h:okDraw ops=true) {i:Nat} {o:Oper} (ho:ops[i]? = some o):∀ k∈need o,k < i:=by
 have hi:=(Array.getElem?_eq_some_iff.1 ho).1
 have h1:=List.all_eq_true.1 h i (by simpa using hi)
 rw [ho] at h1
 simp only [Bool.and_eq_true,List.all_eq_true,decide_eq_true_eq] at h1
 exact h1.1
theorem okDraw_pair {ops:Array Oper} (h:okDraw ops=true) {i j:Nat} {o q:Oper} (ho:ops[i]? = some o) (hq:ops[j]? = some q) (hne:j≠i):okPair ops (ancL ops.toList []) i j o q=true:=by
 have hi:=(Array.getElem?_eq_some_iff.1 ho).1
 have hj:=(Array.getElem?_eq_some_iff.1 hq).1
 have h1:=List.all_eq_true.1 h i (by simpa using hi)
 rw [ho] at h1
 simp only [Bool.and_eq_true,List.all_eq_true] at h1
 have h2:=h1.2 j (by simpa using hj)
 rw [hq] at h2
 simpa [hne] using h2
theorem dst_uniq {ops:Array Oper} (h:okDraw ops=true) {j k s:Nat} (hj:dstAt ops.toList j=some s) (hk:k≠j):dstAt ops.toList k≠some s:=by
 intro hks
 simp only [dstAt,Array.getElem?_toList] at hj hks
 cases hq:ops[j]? with
 | none=>rw [hq] at hj; cases hj
 | some q =>
  cases ho:ops[k]? with
  | none=>rw [ho] at hks; cases hks
  | some o =>
   rw [hq] at hj; rw [ho] at hks
   have hj':q.dst=some s:=hj
   have hk':o.dst=some s:=hks
   have:=okDraw_pair h ho hq (fun e=>hk e.symm)
   unfold okPair at this
   rw [hj'] at this
   simp [hk'] at this
theorem anc_good (ops:List Oper) (i:Nat):GoodAnc ops i ((ancL ops []).getD i []) :=
 ancL_spec ops [] [] rfl rfl (fun i o _ j hj=>by simp at hj) i
theorem sees_mix {β : Beta} {fr : Nat → Prop} {H : Array Obj} {ops : Array Oper} {xs : Nat → AV} {S : Nat → Bool} {env : List AV} {tmps : Array Value} {i : Nat} {o : Oper} (h : okDraw ops = true) (ho : ops[i]? = some o)
  (hD:Down ops.toList S) (hS:∀ k∈need o,S k=true) (hi:S i=false) (R:EnvRep β fr H (mix ops.toList xs S env ops.size) tmps):Sees β fr H ops o (mix ops.toList xs (fun _=>true) env i) tmps:=by
 intro s hs hl
 rw [mix_length] at hl
 have hin:=(Array.getElem?_eq_some_iff.1 ho).1
 have hoL:ops.toList[i]? = some o:=by rw [Array.getElem?_toList]; exact ho
 obtain ⟨u,hu,hr⟩:=R.2 s (by rw [mix_length]; exact hl)
 refine ⟨u,hu, ?_⟩
 have key:(mix ops.toList xs (fun _=>true) env i).getD s .any=(mix ops.toList xs S env ops.size).getD s .any:=by
  by_cases hx:∃ j,j < ops.size∧dstAt ops.toList j=some s
  ·obtain ⟨j,hj,hjs⟩:=hx
   have uniq:∀ k,k≠j→dstAt ops.toList k≠some s:=fun k hk=>dst_uniq h hjs hk
   by_cases e:j=i
   ·subst e
    rw [mix_base (S:=fun _=>true) _ fun k hk _=>uniq k (by omega),mix_base (S:=S) _ fun k hk hSk=>uniq k (fun q=>by rw [q,hi] at hSk; cases hSk)]
   ·obtain ⟨q,hq⟩:∃ q,ops[j]? = some q:=⟨_,Array.getElem?_eq_getElem hj⟩
    have hqs:q.dst=some s:=by simpa [dstAt,hq] using hjs
    have hp:=okDraw_pair h ho hq e
    unfold okPair at hp
    rw [hqs] at hp
    have hc:(o.looksAt ops).contains s=true:=by simpa using hs
    simp only [hc,Bool.not_true,Bool.false_or,Bool.and_eq_true,Bool.or_eq_true,decide_eq_true_eq] at hp
    rcases hp.2 with ⟨h1,h2⟩ | ⟨h1,h2⟩
    ·have hSj:S j=true:=anc_good ops.toList i o hoL j (by simpa using h2) S hD hS
     rw [mix_hit (S:=fun _=>true) hjs rfl hl i h1 fun k _ hk=>uniq k hk,mix_hit (S:=S) hjs hSj hl ops.size hj fun k _ hk=>uniq k hk]
    ·have hSj:¬ S j=true:=fun q1=>by
      have hqL:ops.toList[j]? = some q:=by rw [Array.getElem?_toList]; exact hq
      have:=anc_good ops.toList j q hqL i (by simpa using h2) S hD (hD j q hqL q1)
      rw [hi] at this; cases this
     rw [mix_base (S:=fun _=>true) _ fun k hk _=>uniq k (by omega),mix_base (S:=S) _ fun k hk hSk=>uniq k (fun q1=>hSj (by rw [← q1]; exact hSk))]
  ·have none':∀ k,k < ops.size→dstAt ops.toList k≠some s:=fun k hk e=>hx ⟨k,hk,e⟩
   rw [mix_base (S:=fun _=>true) _ fun k hk _=>none' k (by omega),mix_base (S:=S) _ fun k hk _=>none' k hk]
 rw [key,getD_get (by rw [mix_length]; exact hl)]
 exact hr
theorem mix_step {ops : Array Oper} {xs : Nat → AV} {S T : Nat → Bool} {env : List AV} {i : Nat} (h : okDraw ops = true) (hin : i < ops.size) (hi : S i = false) (hT : ∀ j, j < ops.size → T j = (S j || j == i)) :
  mix ops.toList xs T env ops.size=putA (mix ops.toList xs S env ops.size) (dstAt ops.toList i) (xs i):=by
 apply List.ext_getElem
 ·rw [putA_length,mix_length,mix_length]
 ·intro s h1 h2
  rw [mix_length] at h1
  have e1:(mix ops.toList xs T env ops.size)[s]=(mix ops.toList xs T env ops.size).getD s .any:=(getD_get (by rw [mix_length]; exact h1)).symm
  have e2:(putA (mix ops.toList xs S env ops.size) (dstAt ops.toList i) (xs i))[s]=(putA (mix ops.toList xs S env ops.size) (dstAt ops.toList i) (xs i)).getD s .any:=(getD_get h2).symm
  rw [e1,e2]
  by_cases hd:dstAt ops.toList i=some s
  ·rw [hd,putA_getD_eq (by rw [mix_length]; exact h1),mix_hit (S:=T) hd (by rw [hT i hin]; simp) h1 ops.size hin fun k _ hk=>dst_uniq h hd hk]
  ·rw [putA_getD_ne hd]
   by_cases hx:∃ j,j < ops.size∧dstAt ops.toList j=some s
   ·obtain ⟨j,hj,hjs⟩:=hx
    have hji:j≠i:=fun e=>hd (by rw [← e]; exact hjs)
    have uniq:∀ k,k≠j→dstAt ops.toList k≠some s:=fun k hk=>dst_uniq h hjs hk
    have hTj:T j=S j:=by rw [hT j hj]; simp [hji]
    by_cases hSj:S j=true
    ·rw [mix_hit (S:=T) hjs (hTj.trans hSj) h1 ops.size hj fun k _ hk=>uniq k hk,mix_hit (S:=S) hjs hSj h1 ops.size hj fun k _ hk=>uniq k hk]
    ·rw [mix_base (S:=T) _ fun k hk hTk=>uniq k (fun e=>hSj (by rw [← hTj,← e]; exact hTk)),mix_base (S:=S) _ fun k hk hSk=>uniq k (fun e=>hSj (by rw [← e]; exact hSk))]
   ·have none':∀ k,k < ops.size→dstAt ops.toList k≠some s:=fun k hk e=>hx ⟨k,hk,e⟩
    rw [mix_base (S:=T) _ fun k hk _=>none' k hk,mix_base (S:=S) _ fun k hk _=>none' k hk]
theorem mem_ready {ops : Array Oper} {listed : Array Bool} {i : Nat} (hsz : listed.size = ops.size) :
  i∈Region.ready .any ops listed↔∃ o,ops[i]? = some o∧listed.getD i false=false∧∀ k∈need o,listed.getD k false=true:=by
 unfold Region.ready
 simp only [List.mem_filter,List.mem_range,Bool.and_eq_true,Bool.not_eq_true']
 constructor
 ·rintro ⟨h1,h2,h3⟩
  have ho:ops[i]? = some ops[i]:=Array.getElem?_eq_getElem h1
  refine ⟨ops[i],ho, ?_, ?_⟩
  ·rw [Array.getD_eq_getD_getElem?, Array.getElem?_eq_getElem (by omega)] at h2 ⊢; exact h2
  ·rw [ho] at h3
   simp only [Option.map_some,Option.getD_some,Array.all_eq_true_iff_forall_mem,Bool.or_eq_true,Bool.not_eq_true'] at h3
   intro k hk
   simp only [need,List.mem_map,List.mem_filter] at hk
   obtain ⟨e,⟨he,hb⟩,rfl⟩:=hk
   rcases h3 e (by simpa using he) with q | q
   ·rw [hb] at q; cases q
   ·exact q
 ·rintro ⟨o,ho,h2,h3⟩
  have h1:=(Array.getElem?_eq_some_iff.1 ho).1
  refine ⟨h1, ?_, ?_⟩
  ·rw [Array.getD_eq_getD_getElem?, Array.getElem?_eq_getElem (by omega)] at h2 ⊢; exact h2
  ·rw [ho]
   simp only [Option.map_some,Option.getD_some,Array.all_eq_true_iff_forall_mem,Bool.or_eq_true,Bool.not_eq_true']
   intro e he
   by_cases hb:Region.binds .any e=true
   ·exact .inr (h3 e.on (by simp only [need,List.mem_map,List.mem_filter]; exact ⟨e,⟨by simpa using he,hb⟩,rfl⟩))
   ·exact .inl (by simpa using hb)
theorem all_listed {ops:Array Oper} {listed:Array Bool} (h:okDraw ops=true) (hsz:listed.size=ops.size) (hr:Region.ready .any ops listed=[]):∀ i,i < ops.size→listed.getD i false=true:=by
 intro i
 induction i using Nat.strongRecOn with
 | ind i ih =>
  intro hi
  by_cases q:listed.getD i false=true
  ·exact q
  ·exfalso
   have ho:ops[i]? = some ops[i]:=Array.getElem?_eq_getElem hi
   have:i∈Region.ready .any ops listed:=(mem_ready hsz).2 ⟨ops[i],ho,by simpa using q,fun k hk=>ih k (okDraw_back h ho k hk) (by have:=okDraw_back h ho k hk; omega)⟩
   rw [hr] at this; simp at this
theorem wpAny_mix {P : Program} {ops : Array Oper} {xs : Nat → AV} {env : List AV} {h : List AObj} {Q : Exit → Act → World → Prop} {ro : Option Nat} {dfs : List Deferred} (hok : okDraw ops = true)
  (hx:∀ i o,ops.toList[i]? = some o→QStep P ((ops.toList.take i).map (·.dst)).reverse o (mix ops.toList xs (fun _=>true) env i) h (xs i)) :
  ∀ (fuel:Nat) (listed:Array Bool) (tmps:Array Value) (w:World) (β:Beta) (fr:Nat→Prop),listed.size=ops.size→Down ops.toList (fun j=>listed.getD j false)→listed.toList.countP (·==false)≤fuel →
   Lay β fr w.heap h→EnvRep β fr w.heap (mix ops.toList xs (fun j=>listed.getD j false) env ops.size) tmps →
   (∀ tmps' w' β' fr',Lay β' fr' w'.heap h→EnvRep β' fr' w'.heap (mix ops.toList xs (fun _=>true) env ops.size) tmps'→Step1 β fr h w β' fr' h w'→Q .normal ⟨tmps',dfs⟩ w') →
   wpAnyIn (roF ro) 0 P .any ops Q fuel listed ⟨tmps,dfs⟩ w:=by
 have fin:∀ (listed:Array Bool),listed.size=ops.size→(∀ i,i < ops.size→listed.getD i false=true)→mix ops.toList xs (fun j=>listed.getD j false) env ops.size=mix ops.toList xs (fun _=>true) env ops.size :=
  fun listed hsz ha=>mix_congr ops.size fun i hi=>⟨ha i hi,rfl⟩
 intro fuel
 induction fuel with
 | zero =>
  intro listed tmps w β fr hsz hD hc L R hQ
  have ha:∀ i,i < ops.size→listed.getD i false=true:=by
   intro i hi
   have h0:=List.countP_eq_zero.1 (Nat.le_zero.1 hc)
   have hi':i < listed.size:=by omega
   have:=h0 listed[i] (by simp)
   rw [Array.getD_eq_getD_getElem?, Array.getElem?_eq_getElem hi']
   simpa using this
  refine ⟨?_, ?_⟩
  ·rw [List.eq_nil_iff_forall_not_mem]
   intro i hi
   obtain ⟨o,ho,h1,_⟩:=(mem_ready hsz).1 hi
   rw [ha i (Array.getElem?_eq_some_iff.1 ho).1] at h1; cases h1
  ·rw [fin listed hsz ha] at R
   exact hQ tmps w β fr L R (Step1.refl _ _ _ _)
 | succ fuel ih =>
  intro listed tmps w β fr hsz hD hc L R hQ
  refine ⟨fun hr=>?_,fun i hi=>?_⟩
  ·rw [fin listed hsz (all_listed hok hsz hr)] at R
   exact hQ tmps w β fr L R (Step1.refl _ _ _ _)
  ·obtain ⟨o,ho,h1,h2⟩:=(mem_ready hsz).1 hi
   have hin:=(Array.getElem?_eq_some_iff.1 ho).1
   have hoL:ops.toList[i]? = some o:=by rw [Array.getElem?_toList]; exact ho
   refine qstep_run ho (hx i o hoL) L (sees_mix hok ho hD h2 h1 R) fun v w' β' fr' L' R' S'=>?_
   have hT:∀ j,j < ops.size→(listed.setIfInBounds i true).getD j false=(listed.getD j false || j==i):=by
    intro j hj
    rw [Array.getD_eq_getD_getElem?, Array.getD_eq_getD_getElem?]
    by_cases e:i=j
    ·subst e
     rw [Array.getElem?_setIfInBounds_self_of_lt (by omega)]; simp
    ·rw [Array.getElem?_setIfInBounds_ne e]
     have:(j==i)=false:=by simp; omega
     rw [this,Bool.or_false]
   have hT2:∀ j,(listed.setIfInBounds i true).getD j false=true→listed.getD j false=true∨j=i:=by
    intro j hj
    by_cases q:j < ops.size
    ·rw [hT j q] at hj; simpa using hj
    ·rw [Array.getD_eq_getD_getElem?, Array.getElem?_eq_none (by simp; omega)] at hj; simp at hj
   have hT3:∀ j,listed.getD j false=true→(listed.setIfInBounds i true).getD j false=true:=by
    intro j hj
    by_cases q:j < ops.size
    ·rw [hT j q,hj]; rfl
    ·rw [Array.getD_eq_getD_getElem?, Array.getElem?_eq_none (by omega)] at hj; simp at hj
   rw [put_act]
   refine ih (listed.setIfInBounds i true) _ w' β' fr' (by simp [hsz]) ?_ ?_ L' ?_ fun t2 w2 β2 fr2 L2 R2 S2=>hQ t2 w2 β2 fr2 L2 R2 (S'.trans S2)
   ·intro j oj hj hSj k hk
    rcases hT2 j hSj with q | q
    ·exact hT3 k (hD j oj hj q k hk)
    ·subst q
     rw [hoL] at hj; injection hj with hj; subst hj
     exact hT3 k (h2 k hk)
   ·rw [Array.toList_setIfInBounds,List.countP_set (by simpa using (by omega:i < listed.size))]
    have hli:listed.toList[i]'(by simpa using (by omega:i < listed.size))=false:=by
     rw [Array.getD_eq_getD_getElem?, Array.getElem?_eq_getElem (by omega)] at h1
     simpa using h1
    rw [hli]
    have:0 < listed.toList.countP (·==false):=List.countP_pos_iff.2 ⟨false,by rw [← hli]; exact List.getElem_mem _,rfl⟩
    rw [show (false==false)=true from rfl,show (true==false)=false from rfl,if_pos rfl,if_neg (by simp)]
    omega
   ·rw [mix_step (S:=fun j=>listed.getD j false) (T:=fun j=>(listed.setIfInBounds i true).getD j false) hok hin h1 hT]
    have hd:dstAt ops.toList i=o.dst:=by simp [dstAt,ho]
    rw [hd]
    exact (R.ext S'.ext).put R' o.dst
theorem ADraw.of_quiet {P:Program} {ops:Array Oper} {K:List AV→List AObj→Prop} {env:List AV} {h:List AObj} (hm:P.follows .mixedOrders=true) (hok:okDraw ops=true) (hd:dopsL P [] ops.toList env h (fun e=>K e h)):ADraw P ops K env h:=by
 intro id n0 ro dfs tmps w β fr Su L R
 obtain ⟨xs,hx,hK⟩:=dopsL_spec (P:=P) (ops:=ops.toList) (env:=env) (h:=h) (K:=fun e=>K e h) ops.toList [] (fun _=>.any) rfl (fun i o hi=>by simp at hi) hd
 refine wpIn_region_any hm ?_
 refine wpAny_mix (xs:=xs) (env:=env) (h:=h) hok hx ops.size (Array.replicate ops.size false) tmps { w with drawn:=w.drawn+1 } β fr (by simp) ?_ (by have:=List.countP_le_length (p:=(·==false)) (l:=(Array.replicate ops.size false).toList); simpa using this) L ?_ ?_
 ·intro i o ho hS
  simp only at hS
  rw [Array.getD_eq_getD_getElem?] at hS
  by_cases q:i < ops.size
  ·rw [Array.getElem?_eq_getElem (by simpa using q)] at hS; simp at hS
  ·rw [Array.getElem?_eq_none (by simp; omega)] at hS; simp at hS
 ·have:mix ops.toList xs (fun j=>(Array.replicate ops.size false).getD j false) env ops.size=env:=by
   have h0:∀ k,mix ops.toList xs (fun j=>(Array.replicate ops.size false).getD j false) env k=env:=by
    intro k
    induction k with
    | zero=>rfl
    | succ k ih =>
     simp only [mix]
     rw [if_neg (by
      intro hS
      try simp only at hS
      rw [Array.getD_eq_getD_getElem?] at hS
      by_cases q:k < ops.size
      ·rw [Array.getElem?_eq_getElem (by simpa using q)] at hS; simp at hS
      ·rw [Array.getElem?_eq_none (by simp; omega)] at hS; simp at hS)]
     exact ih
   exact h0 _
  rw [this]; exact R
 ·intro tmps' w' β' fr' L' R' S'
  have hl:ops.toList.length=ops.size:=by simp
  rw [hl] at hK
  have SS:=(Step1.drawn (w:=w) (w':={ w with drawn:=w.drawn+1 }) rfl rfl rfl rfl).trans S'
  exact ⟨_,h,β',fr',hK,Su.step SS,L',R',SS⟩
def doX (A K:AV→Prop) (_:Tag A) (_:Tag K):Prop:=∃ x,A x∧K x
theorem doX_intro {A K:AV→Prop} {s:Tag A} {t:Tag K} (x:AV) (a:A x) (k:K x):doX A K s t:=⟨x,a,k⟩
def dopsT (P:Program) (ds:List (Option Nat)) (os:List Oper) (env:List AV) (h:List AObj) (K:List AV→Prop) (_:Tag ds) (_:Tag os) (_:Tag K):Prop:=dopsL P ds os env h K
@[go_sem ↓] theorem dopsL_nil (P:Program) (ds:List (Option Nat)) (env:List AV) (h:List AObj) (K:List AV→Prop):dopsL P ds [] env h K=K env:=nrfl rfl
@[go_sem ↓] theorem dopsL_cons (P:Program) (ds:List (Option Nat)) (o:Oper) (os:List Oper) (env:List AV) (h:List AObj) (K:List AV→Prop):dopsL P ds (o::os) env h K=dopsT P ds (o::os) env h K ⟨⟩ ⟨⟩ ⟨⟩:=nrfl rfl
def doQ (r:PV) (A:AV→Prop) (K:AV→Prop) (_:Tag A) (_:Tag K):Prop :=
 match r with
 | some (p,x)=>p∧K x
 | none=>doX A K ⟨⟩ ⟨⟩
@[go_sem] theorem doQ_some (p:Prop) (x:AV) (A K:AV→Prop) (s:Tag A) (t:Tag K):doQ (some (p,x)) A K s t=(p∧K x):=nrfl rfl
@[go_sem] theorem doQ_none (A K:AV→Prop) (s:Tag A) (t:Tag K):doQ none A K s t=doX A K s t:=nrfl rfl
def doHn (gd:Bool) (A K:AV→Prop) (_:Tag A) (_:Tag K):Prop:=(gd=true→doX A K ⟨⟩ ⟨⟩)∧(gd=false→K (.tup []))
@[go_sem] theorem doHn_true (A K:AV→Prop) (s:Tag A) (t:Tag K):doHn true A K s t=doX A K s t:=by simp [doHn,doX]
@[go_sem] theorem doHn_false (A K:AV→Prop) (s:Tag A) (t:Tag K):doHn false A K s t=K (.tup []):=by simp [doHn]
@[go_sem] theorem dopsT_plain (P : Program) (ds : List (Option Nat)) (dst : Option Nat) (op : Op) (ty : TypeId) (pos : String) (after : Array Edge) (os : List Oper) (env : List AV) (h : List AObj) (K : List AV → Prop) : ∀ t1 t2 t3,
  dopsT P ds (⟨dst,op,ty,pos,after,none⟩::os) env h K t1 t2 t3=doQ (pop P op (evA env) h) (fun x=>aop P op (evA env) h fun y h'=>y=x∧h'=h) (fun x=>dopsL P (dst::ds) os (putA env dst x) h K) ⟨⟩ ⟨⟩:=by
 intro _ _ _
 unfold dopsT
 rw [dopsL]
 simp only [QStep]
 cases pop P op (evA env) h with
 | none=>rfl
 | some q =>
  apply propext
  constructor
  ·rintro ⟨x,⟨hp,rfl⟩,hk⟩; exact ⟨hp,hk⟩
  ·rintro ⟨hp,hk⟩; exact ⟨_,⟨hp,rfl⟩,hk⟩
theorem ADrawT.quiet {P:Program} {ops:Array Oper} {K:List AV→List AObj→Prop} {s:Tag ops} {t:Tag K} {env:List AV} {h:List AObj} (hm:P.follows .mixedOrders=true) (hok:okDraw ops=true) (hd:dopsL P [] ops.toList env h (fun e=>K e h)):ADrawT P ops K s t env h:=ADraw.of_quiet hm hok hd
end Go.Proofs.Vale
namespace Go.Proofs.Vale
mutual
def AV.low (n:Nat):AV→Bool
 | .int _ _=>true
 | .bool _=>true
 | .str _=>true
 | .nilp=>true
 | .ptr x=>x.low n
 | .fz _ l=>lowL n l
 | .ref t _ _ _ _=>decide (t < n)
 | .sl t _ _ _ _=>decide (t < n)
 | .mp t=>decide (t < n)
 | .it t=>decide (t < n)
 | .yl t=>decide (t < n)
 | .nilm=>true
 | .agg cs=>lowL n cs
 | .tup vs=>lowL n vs
 | .func _ f c=>lowL n f && lowL n c
 | .nilf=>true
 | .iface _ x=>x.low n
 | .nili=>true
 | .opt _ x=>x.low n
 | .any=>true
def lowL (n:Nat):List AV→Bool
 | []=>true
 | x::xs=>x.low n && lowL n xs
end
theorem lowL_mem {n:Nat}:∀ {l:List AV},lowL n l=true→∀ x∈l,x.low n=true
 | [],_,x,hx=>by simp at hx
 | y::l,h,x,hx=>by
  rw [lowL,Bool.and_eq_true] at h
  rcases List.mem_cons.1 hx with rfl | hx
  ·exact h.1
  ·exact lowL_mem h.2 x hx
theorem low_cells {n:Nat} {x y:AV} (h:x.low n=true) (hy:y∈x.cells):y.low n=true:=by
 cases x
 case agg cs=>simp only [AV.low] at h; exact lowL_mem h y hy
 all_goals (simp only [AV.cells,List.mem_singleton] at hy; subst hy; exact h)
theorem Rep.low_aux {n:Nat} {β β':Beta} {fr fr':Nat→Prop} {H:Array Obj} (hb:∀ t g r,t < n→β t g=some r→β' t g=some r) (hf:∀ b,fr b→fr' b):∀ (m:Nat) (x:AV) (v:Value),SizeOf.sizeOf x≤m→x.low n=true→Rep β fr H x v→Rep β' fr' H x v:=by
 intro m
 induction m with
 | zero=>intro x v hn; cases x <;> simp at hn
 | succ m ih =>
  intro x v hn hl h
  cases x <;> simp only [Rep] at h ⊢ <;> (try exact h)
  case ptr x =>
   obtain ⟨a,rfl,h1,h2,hc⟩:=h
   refine ⟨a,rfl,hf _ h1,h2,fun j hj=>?_⟩
   obtain ⟨u,hu,hr⟩:=hc j hj
   have h3:=AV.cells_get_le hj
   simp at hn
   exact ⟨u,hu,ih _ _ (by omega) (low_cells (by simpa [AV.low] using hl) (List.getElem_mem hj)) hr⟩
  case fz c l =>
   obtain ⟨a,cap,rfl,h1,h2,h3⟩:=h
   refine ⟨a,cap,rfl,h1,h2,fun hne=>?_⟩
   obtain ⟨ad,s,rfl,hfr,hs,hu,hc⟩:=h3 hne
   refine ⟨ad,s,rfl,hf _ hfr,hs,hu,fun i hi j hj=>?_⟩
   obtain ⟨u,hu,hr⟩:=hc i hi j hj
   have h4:=AV.cells_get_le hj
   have h5:=List.sizeOf_lt_of_mem (List.getElem_mem hi)
   simp at hn
   exact ⟨u,hu,ih _ _ (by omega) (low_cells (lowL_mem (by simpa [AV.low] using hl) _ (List.getElem_mem hi)) (List.getElem_mem hj)) hr⟩
  case ref t g s i j =>
   obtain ⟨b,h1,rfl⟩:=h
   exact ⟨b,hb _ _ _ (by simpa [AV.low] using hl) h1,rfl⟩
  case sl t g s off len =>
   have ht:t < n:=by simpa [AV.low] using hl
   rcases h with ⟨h1,h2⟩ | ⟨b,c,e,f,cap,h1,h2⟩
   ·exact .inl ⟨hb _ _ _ ht h1,h2⟩
   ·exact .inr ⟨b,c,e,f,cap,hb _ _ _ ht h1,h2⟩
  case mp t =>
   obtain ⟨b,h1,rfl⟩:=h
   exact ⟨b,hb _ _ _ (by simpa [AV.low] using hl) h1,rfl⟩
  case it t =>
   obtain ⟨b,h1,rfl⟩:=h
   exact ⟨b,hb _ _ _ (by simpa [AV.low] using hl) h1,rfl⟩
  case yl t =>
   obtain ⟨b,h1,rfl⟩:=h
   exact ⟨b,hb _ _ _ (by simpa [AV.low] using hl) h1,rfl⟩
  case agg cs =>
   obtain ⟨us,rfl,hs,hc⟩:=h
   refine ⟨us,rfl,hs,fun j hj=>?_⟩
   obtain ⟨u,hu,hr⟩:=hc j hj
   have:=List.sizeOf_lt_of_mem (List.getElem_mem hj)
   simp at hn
   exact ⟨u,hu,ih _ _ (by omega) (lowL_mem (by simpa [AV.low] using hl) _ (List.getElem_mem hj)) hr⟩
  case tup cs =>
   obtain ⟨us,rfl,hs,hc⟩:=h
   refine ⟨us,rfl,hs,fun j hj=>?_⟩
   obtain ⟨u,hu,hr⟩:=hc j hj
   have:=List.sizeOf_lt_of_mem (List.getElem_mem hj)
   simp at hn
   exact ⟨u,hu,ih _ _ (by omega) (lowL_mem (by simpa [AV.low] using hl) _ (List.getElem_mem hj)) hr⟩
  case func fn fs cs =>
   have hl':lowL n fs=true∧lowL n cs=true:=by simpa [AV.low] using hl
   obtain ⟨us,vs,rfl,hs,ht,hc,hd⟩:=h
   refine ⟨us,vs,rfl,hs,ht,fun j hj=>?_,fun j hj=>?_⟩
   ·obtain ⟨u,hu,hr⟩:=hc j hj
    have:=List.sizeOf_lt_of_mem (List.getElem_mem hj)
    simp at hn
    exact ⟨u,hu,ih _ _ (by omega) (lowL_mem hl'.1 _ (List.getElem_mem hj)) hr⟩
   ·obtain ⟨u,hu,hr⟩:=hd j hj
    have:=List.sizeOf_lt_of_mem (List.getElem_mem hj)
    simp at hn
    exact ⟨u,hu,ih _ _ (by omega) (lowL_mem hl'.2 _ (List.getElem_mem hj)) hr⟩
  case iface t x =>
   obtain ⟨u,rfl,hr⟩:=h
   simp at hn
   exact ⟨u,rfl,ih _ _ (by omega) (by simpa [AV.low] using hl) hr⟩
  case opt b x =>
   simp at hn
   exact ⟨fun q=>ih _ _ (by omega) (by simpa [AV.low] using hl) (h.1 q),h.2⟩
theorem Rep.low {n:Nat} {β β':Beta} {fr fr':Nat→Prop} {H:Array Obj} {x:AV} {v:Value} (hb:∀ t g r,t < n→β t g=some r→β' t g=some r) (hf:∀ b,fr b→fr' b) (hl:x.low n=true) (h:Rep β fr H x v):Rep β' fr' H x v :=
 Rep.low_aux hb hf _ x v (Nat.le_refl _) hl h
theorem own_dead {h:List AObj} {β:Beta} {b:Nat} (o:Own (deadH h) β b):False:=by
 obtain ⟨t,o,g,h1,h2,_⟩:=o
 simp only [deadH,List.getElem?_map] at h1
 cases q:h[t]? with
 | none=>rw [q] at h1; cases h1
 | some o'=>rw [q] at h1; injection h1 with h1; subst h1; cases h2
theorem lay_dead2 {β:Beta} {fr:Nat→Prop} {H:Array Obj} {h:List AObj} (L:Lay β fr H h):Lay β fr H (deadH h) where
 frlt:=L.frlt
 ownfr:=fun b o=>(own_dead o).elim
 lt:=L.lt
 inj:=(lay_dead L).inj
 obj:=fun t o h1=>by
  simp only [deadH,List.getElem?_map] at h1
  cases q:h[t]? with
  | none=>rw [q] at h1; cases h1
  | some o'=>rw [q] at h1; injection h1 with h1; subst h1; trivial
 dom:=(lay_dead L).dom
 top:=(lay_dead L).top
 tab:=L.tab
theorem ACall.frame {P:Program} {f:FuncId} {as:List AV} {h:List AObj} {K:AV→List AObj→Prop} (k:ACall P f as (deadH h) fun r _=>r.low 0=true∧K r h):ACall P f as h K:=by
 intro w β fr vs L R
 refine (k w β fr vs (lay_dead2 L) R).mono ?_
 rintro e w' ⟨v,x,h',β',fr',rfl,⟨hf,hk⟩,L',R',S'⟩
 have same:∀ b,b < w.heap.size→w'.heap[b]? = w.heap[b]? := fun b hb=>S'.keep b hb own_dead
 have E:Ext β fr w.heap β fr' w'.heap:=⟨fun _ _ _ e=>e,S'.ext.frm,S'.ext.cells,fun t g b c e f hb hc=>⟨c,f,by rw [same b (L.lt _ _ _ hb)]; exact hc,rfl⟩⟩
 refine ⟨v,x,h,β,fr',rfl,hk, ?_,R'.low (n:=0) (fun t g r ht=>absurd ht (by omega)) (fun _ e=>e) hf, ?_⟩
 ·exact { frlt := L'.frlt
          ownfr:=fun b ho hb=>by
           obtain ⟨t,o,g,h1,h2,h3⟩:=ho
           have hlt:=L.lt _ _ _ h3
           rcases S'.frz b hb with q | q | q
           ·exact L.ownfr b ⟨t,o,g,h1,h2,h3⟩ q
           ·exact own_dead q
           ·omega
          lt:=fun t g b hb=>Nat.lt_of_lt_of_le (L.lt t g b hb) S'.size,inj:=L.inj
          obj:=fun t o ho=>(L.obj t o ho).ext E fun g b _ hb=>same b (L.lt _ _ _ hb),dom:=L.dom,top:=L.top,tab:=fun b cs q=>⟨E.frm b (L.tab b cs q).1,by rw [E.cells b (L.tab b cs q).1]; exact (L.tab b cs q).2⟩ }
 ·exact { ext := E, os := S'.os, tape := S'.tape, output := S'.output, size := S'.size, keep := fun b hb _ => same b hb, prov := fun b e => .inl e
          frz:=fun b hb=>by
           rcases S'.frz b hb with q | q | q
           ·exact .inl q
           ·exact (own_dead q).elim
           ·exact .inr (.inr q) }
theorem ACallT.frame {P:Program} {f:FuncId} {as:List AV} {h:List AObj} {K:AV→List AObj→Prop} {t:Tag K} {K':AV→List AObj→Prop} (k:ACall P f as (deadH h) K') (kk:∀ r h',K' r h'→r.low 0=true∧K r h):ACallT P f as h K t :=
 ACall.frame (k.mono kk)
def frzA (h:List AObj):Nat→AV→AV
 | 0,_=>.any
 | k+1,.sl t g s off len =>
  (match h[t]? with
  | some (.arr g' s' l)=>if g=g'∧s=s'∧off+len≤l.length∧(∀ y∈l,(frzA h k y).cells.length=y.cells.length) then .fz false (((l.drop off).take len).map (frzA h k)) else .any
  | _=>.any)
 | k+1,.ref t g s i j =>
  (match h[t]? with
  | some (.arr g' s' l)=>if g=g'∧s=s'∧i < l.length∧j=0∧(frzA h k (l.getD i .any)).cells.length=(l.getD i .any).cells.length then .ptr (frzA h k (l.getD i .any)) else .any
  | _=>.any)
 | k+1,.agg cs=>.agg (cs.map (frzA h k))
 | k+1,.tup cs=>.tup (cs.map (frzA h k))
 | _+1,x=>x
theorem frz_cells (h:List AObj) (k:Nat) (y:AV) (hl:(frzA h k y).cells.length=y.cells.length) (j:Nat) (hj:j < (frzA h k y).cells.length) (hj':j < y.cells.length):∃ k',k'≤k∧(frzA h k y).cells[j]=frzA h k' (y.cells[j]):=by
 cases k with
 | zero =>
  refine ⟨0,Nat.le_refl _, ?_⟩
  have hj0:j=0:=by simp only [frzA,AV.cells,List.length_singleton] at hj; omega
  subst hj0
  simp [frzA,AV.cells]
 | succ k =>
  by_cases hag:∃ cs,y=.agg cs
  ·obtain ⟨cs,rfl⟩:=hag
   exact ⟨k,by omega,by simp [frzA,AV.cells]⟩
  ·have h1:y.cells=[y]:=by cases y <;> first | rfl | exact absurd ⟨_,rfl⟩ hag
   have h2:(frzA h (k+1) y).cells=[frzA h (k+1) y]:=by
    cases y
    case agg cs=>exact absurd ⟨_,rfl⟩ hag
    case sl t g s off len=>simp only [frzA]; split <;> (try split) <;> rfl
    case ref t g s i j=>simp only [frzA]; split <;> (try split) <;> rfl
    all_goals rfl
   refine ⟨k+1,Nat.le_refl _, ?_⟩
   have hj0:j=0:=by rw [h1] at hj'; simpa using hj'
   subst hj0
   simp [h1,h2]
theorem frz_rep {β:Beta} {fr fr':Nat→Prop} {H:Array Obj} {h:List AObj} (L:Lay β fr H h) (hfr:∀ b,fr b→fr' b) (hown:∀ b,Own h β b→fr' b):∀ (k:Nat) (x:AV) (v:Value),Rep β fr H x v→Rep β fr' H (frzA h k x) v:=by
 have plain:∀ (x:AV) (v:Value),Rep β fr H x v→Rep β fr' H x v:=fun x v r=>r.ext ⟨fun _ _ _ e=>e,hfr,fun _ _=>rfl,fun _ _ _ c _ f _ e=>⟨c,f,e,rfl⟩⟩
 intro k
 induction k using Nat.strongRecOn with
 | ind k ih =>
  intro x v hr
  cases k with
  | zero=>simp only [frzA,Rep]
  | succ k =>
   cases x
   case sl t g s off len =>
    simp only [frzA]
    split
    ·rename_i g' s' l ht
     split
     ·rename_i hc
      obtain ⟨rfl,rfl,hn,hcl⟩:=hc
      simp only [Rep] at hr ⊢
      have hlen:(((l.drop off).take len).map (frzA h k)).length=len:=by simp; omega
      rcases hr with ⟨hb,rfl,rfl,rfl⟩ | ⟨b,c,e,f,cap,hb,hH,rfl,hcs,hlc⟩
      ·exact ⟨none,0,by simp,by simp,by simp,by simp⟩
      ·refine ⟨some ⟨b,off * s,none⟩,cap,by rw [hlen],by rw [hlen]; exact hlc,by simp,fun hne=>?_⟩
       refine ⟨⟨b,off * s,none⟩,s,rfl,hown b ⟨t,_,g,ht,rfl,hb⟩,rfl,fun x hx=>?_,fun i hi j hj=>?_⟩
       ·simp only [List.mem_map] at hx
        obtain ⟨y,hy,rfl⟩:=hx
        have hyl:=List.mem_of_mem_drop (List.mem_of_mem_take hy)
        rw [hcl y hyl]
        rcases L.obj t _ ht with ⟨_,z⟩ | ⟨_,_,_,_,_,_,_,h4,_⟩
        ·subst z; simp at hyl
        ·exact h4 y hyl
       ·have hi':off+i < l.length:=by simp at hi; omega
        have hge:(((l.drop off).take len).map (frzA h k))[i]=frzA h k (l[off+i]):=by simp
        have hlm:=hcl _ (List.getElem_mem hi')
        have hj1:j < (frzA h k (l[off+i])).cells.length:=by rw [hge] at hj; exact hj
        obtain ⟨k',hk',he⟩:=frz_cells h k (l[off+i]) hlm j hj1 (by omega)
        obtain ⟨u,hu,hr'⟩:=L.arr ht hi' hb j (by omega)
        refine ⟨u, ?_, ?_⟩
        ·rw [← hu]; congr 1; rw [Nat.add_mul]
        ·have:=ih k' (by omega) _ _ hr'
         rw [← he] at this
         simpa only [hge] using this
     ·simp only [Rep]
    ·simp only [Rep]
   case ref t g s i j =>
    simp only [frzA]
    split
    ·rename_i g' s' l ht
     split
     ·rename_i hc
      obtain ⟨rfl,rfl,hi,rfl,hcl⟩:=hc
      simp only [Rep] at hr ⊢
      obtain ⟨b,hb,rfl⟩:=hr
      refine ⟨_,rfl,hown b ⟨t,_,g,ht,rfl,hb⟩,rfl,fun j hj=>?_⟩
      rw [getD_get hi] at hcl
      have hge:frzA h k (l.getD i .any)=frzA h k (l[i]):=by rw [getD_get hi]
      have hj1:j < (frzA h k (l[i])).cells.length:=by rw [hge] at hj; exact hj
      obtain ⟨k',hk',he⟩:=frz_cells h k (l[i]) hcl j hj1 (by omega)
      obtain ⟨u,hu,hr'⟩:=L.arr ht hi hb j (by omega)
      refine ⟨u,by simpa using hu, ?_⟩
      have:=ih k' (by omega) _ _ hr'
      rw [← he] at this
      simpa only [hge] using this
     ·simp only [Rep]
    ·simp only [Rep]
   case agg cs =>
    simp only [frzA,Rep] at hr ⊢
    obtain ⟨us,rfl,hs,hc⟩:=hr
    refine ⟨us,rfl,by simpa using hs,fun j hj=>?_⟩
    obtain ⟨u,hu,hr⟩:=hc j (by simpa using hj)
    exact ⟨u,hu,by simpa using ih k (by omega) _ _ hr⟩
   case tup cs =>
    simp only [frzA,Rep] at hr ⊢
    obtain ⟨us,rfl,hs,hc⟩:=hr
    refine ⟨us,rfl,by simpa using hs,fun j hj=>?_⟩
    obtain ⟨u,hu,hr⟩:=hc j (by simpa using hj)
    exact ⟨u,hu,by simpa using ih k (by omega) _ _ hr⟩
   all_goals exact plain _ _ hr
theorem Close.freeze (n k:Nat) (x:AV) (h:List AObj):Close n x h (frzA h k x) (deadH h):=fun H β fr v L R=>by
 refine ⟨β,fun b=>fr b∨Own h β b, ?_,frz_rep L (fun b e=>.inl e) (fun b e=>.inr e) k x v R,fun _ _ _ _ e=>e,fun b e=>.inl e,fun b o=>(own_dead o).elim,fun b e=>e⟩
 have D:=lay_dead2 L
 exact { frlt := fun b hb => by
          rcases hb with q | ⟨t,o,g,h1,h2,h3⟩
          ·exact L.frlt b q
          ·exact L.lt _ _ _ h3
         ownfr:=fun b o=>(own_dead o).elim,lt:=D.lt,inj:=D.inj
         obj:=fun t o h1=>by
          simp only [deadH,List.getElem?_map] at h1
          cases q:h[t]? with
          | none=>rw [q] at h1; cases h1
          | some o'=>rw [q] at h1; injection h1 with h1; subst h1; trivial
         dom:=D.dom,top:=D.top,tab:=fun b cs q=>⟨.inl (L.tab b cs q).1,(L.tab b cs q).2⟩ }
theorem Fin_freeze {n:Nat} {x:AV} {h:List AObj} {K:AV→List AObj→Prop} {t:Tag K} (k:Nat) (kk:K (frzA h k x) (deadH h)):finT x n h K t:=⟨_,_,Close.freeze n k x h,kk⟩
end Go.Proofs.Vale
