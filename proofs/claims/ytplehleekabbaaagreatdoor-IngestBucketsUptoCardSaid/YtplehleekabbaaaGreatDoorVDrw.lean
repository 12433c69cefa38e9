/- YtplehleekabbaaaGreatDoorVDrw: a text of the proof of this claim, by its prover. -/
import Derived.Test.YtplehleekabbaaaGreatDoorVTurn
set_option linter.unusedVariables false
set_option linter.unusedSimpArgs false
set_option maxHeartbeats 1000000
namespace Go.Proofs.Vale
def NewB (P:Program) (o:Oper) (ev:Operand→AV) (m:List AObj) (x:Nat→AV) (ob:AObj):Prop :=
 ∀ (a:Act) (w:World) (β:Beta) (fr:Nat→Prop),Lay β fr w.heap m→(∀ y,y∈o.op.operands→Rep β fr w.heap (ev y) (a.eval y)) →
  ∃ v w' c,(execOp a.eval o).run P w=.ok (.value v) w'∧w'.heap=w.heap.push c∧w'.os=w.os∧w'.tape=w.tape∧w'.output=w.output ∧
   ∀ β' t,Ext β fr w.heap β' fr w'.heap→β' t 0=some (some w.heap.size)→ObjAt β' fr w'.heap t ob∧Rep β' fr w'.heap (x t) v
theorem newVar_core {P : Program} {w : World} {β : Beta} {fr : Nat → Prop} {x : AV} {v : Value} {t : TypeId} (hx : Rep β fr w.heap x v) (hs : x.sure = true) :
  ∃ w' c,(newVar t v).run P w=.ok ⟨w.heap.size,0,none⟩ w'∧w'.heap=w.heap.push c∧w'.os=w.os∧w'.tape=w.tape∧w'.output=w.output ∧
   ∀ β' t,Ext β fr w.heap β' fr w'.heap→β' t 0=some (some w.heap.size)→ObjAt β' fr w'.heap t (.arr 0 x.cells.length [x])∧Rep β' fr w'.heap (.ref t 0 x.cells.length 0 0) (.pointer (some ⟨w.heap.size,0,none⟩)):=by
 have hc:=Rep_cells' hx hs
 refine ⟨{ w with heap:=w.heap.push (.cells v.cells t) },_,rfl,rfl,rfl,rfl,rfl,fun β' tg E hb=>⟨?_, ?_⟩⟩
 ·refine .inr ⟨w.heap.size,v.cells,t,(0,0),hb,by simp,fun i _=>by simp,by simp,by simp [hc.1],fun i hi j hj=>?_⟩
  have:i=0:=by simpa using hi
  subst this
  obtain ⟨u,hu,hr⟩:=(hc.ext E).2 j (by simpa using hj)
  exact ⟨u,by simpa using hu,by simpa using hr⟩
 ·simp only [Rep]
  exact ⟨_,hb,by simp⟩
theorem newB_box {P:Program} {o:Oper} {t:TypeId} {x:Operand} {ev:Operand→AV} {m:List AObj} (ho:o.op=.box t x) (hs:(ev x).sure=true):NewB P o ev m (fun k=>.ref k 0 (ev x).cells.length 0 0) (.arr 0 (ev x).cells.length [ev x]):=by
 intro a w β fr L hr
 rw [ho] at hr
 obtain ⟨w',c,h1,h2,h3,h4,h5,h6⟩:=newVar_core (P:=P) (t:=t) (hr x (by simp [Op.operands])) hs
 exact ⟨_,w',c,by simp [execOp,ho,Instr.box,h1],h2,h3,h4,h5,h6⟩
theorem newB_alloc {P:Program} {o:Oper} {t:TypeId} {x:AV} {ev:Operand→AV} {m:List AObj} (ho:o.op=.alloc t) (hz:zI P t=some x) (hs:x.sure=true):NewB P o ev m (fun k=>.ref k 0 x.cells.length 0 0) (.arr 0 x.cells.length [x]):=by
 intro a w β fr L hr
 unfold zI at hz
 split at hz
 ·rename_i i hi
  split at hz
  ·rename_i z hzz
   injection hz with hz; subst hz
   obtain ⟨w',c,h1,h2,h3,h4,h5,h6⟩:=newVar_core (P:=P) (t:=t) (Rep_ofVal β fr w.heap z) hs
   exact ⟨_,w',c,by simp [execOp,ho,Instr.alloc,zeroValue,typeInfo,hi,hzz,h1],h2,h3,h4,h5,h6⟩
  ·cases hz
 ·cases hz
theorem newB_app {P : Program} {o : Oper} {c : Call} {A X : Operand} {ev : Operand → AV} {m : List AObj} {e s by_ : Nat} {p : Prop} {ys l : List AV} (ho : o.op = .call c) (hc : c.callee = .builtin .append) (ha : c.args = #[A, X]) (hei : eI P (c.argTypes.getD 0 0) = some (e, s, by_)) (hrd : rdA m (ev X) = some (p, ys)) (e1 : ev A = .fz true l)
  (hty:apTy P c.argTypes=true) (hp:p) (hlen:(l.length+ys.length+96) * by_≤140737488355328) (hby:l.length+ys.length≤4611686018427387904) (hel:ys.all (okEl s)=true) (hls:(l.all fun y=>y.cells.length==s)=true) (hz:ys≠[]) :
  NewB P o ev m (fun k=>.sl k 0 s 0 (l.length+ys.length)) (.arr 0 s (l++ys)):=by
 intro a w β fr L hr
 rw [ho] at hr
 have hA:=hr A (by simp [Op.operands,Call.operands,hc,ha])
 have hX:=hr X (by simp [Op.operands,Call.operands,hc,ha])
 have hrun:∀ {v w'},(Builtin.append_ c.argTypes o.type #[a.eval A,a.eval X]).run P w=.ok v w'→(execOp a.eval o).run P w=.ok (.value v) w':=by
  intro v w' e
  simp only [execOp,ho,Go.resolve,hc,Sem.run_bind,Sem.run_pure,Result.andThen_ok,Go.invoke,Go.builtin]
  rw [show c.args.map a.eval=#[a.eval A,a.eval X] by rw [ha]; simp,e]; rfl
 obtain ⟨hs,hone⟩:=okEl_spec hel
 obtain ⟨t0,hts⟩:∃ t0,c.argTypes[0]? = some t0:=by
  unfold apTy at hty; cases q:c.argTypes[0]? with
  | none=>rw [q] at hty; cases hty
  | some t0=>exact ⟨t0,rfl⟩
 have hei':eI P t0=some (e,s,by_):=by
  rw [Array.getD_eq_getD_getElem?, hts] at hei; exact hei
 obtain ⟨hlx,us,hus,hrow⟩:=rdA_run (P:=P) L hX hrd hp hs
 rw [e1] at hA
 have hA0:=hA
 simp only [Rep] at hA
 obtain ⟨ao,cap,hv,h4,h5,h6⟩:=hA
 have hcap:cap=l.length:=h5 trivial
 subst hcap
 have hpos:0 < ys.length:=List.length_pos_iff.2 hz
 have hls':∀ y∈l,y.cells.length=s:=fun y hy=>by simpa using List.all_eq_true.1 hls y hy
 obtain ⟨-,old,ho1,ho2⟩:=rdA_run (P:=P) (h:=m) (x:=.fz true l) (p:=True) (ys:=l) (s:=s) L hA0 rfl trivial hls'
 rw [hv] at ho1
 obtain ⟨nc,rest,w',r1,r2,r3,r4,r5,r6,r7⟩:=run_append_grow (P:=P) (w:=w) (ty:=o.type) (t1:=0) (base:=ao) (n:=l.length) (cap:=l.length) (old:=old) hts hei' hty (hlx w) ho1 hus (by omega) hlen hby
 rw [← hv] at r1
 have hboth:=ho2.append hrow
 refine ⟨_,w',_,hrun r1,r2,r3,r4,r5,fun β' t E hb=>⟨?_, ?_⟩⟩
 ·exact (hboth.ext E).obj (c:=old++us++rest) (e:=e) (f:=(0,0)) hb (by rw [r2]; simp) (fun i _=>by simp) (fun k hk=>by rw [Array.getElem?_append_left hk]) (by simp)
 ·simp only [Rep]
  refine .inr ⟨w.heap.size,old++us++rest,e,(0,0),nc,hb,by rw [r2]; simp,by simp, ?_,r6⟩
  rw [Array.size_append,r7,hboth.1,← Nat.add_mul,List.length_append]
  exact Nat.mul_le_mul_right _ (by omega)
theorem newB_build {P : Program} {o : Oper} {t : TypeId} {n : Nat} {parts : Array (Nat × Operand)} {ev : Operand → AV} {m : List AObj} {e s by_ : Nat} (ho : o.op = .buildSlice t n parts) (hei : eI P t = some (e, s, by_)) (hn : n * s ≤ 16777216) (hp : (parts.toList.map fun x => (x.1, ev x.2)).map (·.1) = List.range n) (hsz : ((parts.toList.map fun x => (x.1, ev x.2)).all fun x => x.2.sure && x.2.cells.length == s) = true) :
  NewB P o ev m (fun k=>.sl k 0 s 0 n) (.arr 0 s (parts.toList.map fun x=>ev x.2)):=by
 intro a w β fr L hr
 rw [ho] at hr
 have hh:True:=trivial
 all_goals
  obtain ⟨ht,i,z,hi,his,hib,hz,hzs⟩:=ei_full hei
  let vals:List Value:=parts.toList.map fun x=>a.eval x.2
  have hlen:parts.toList.length=n:=by
   have:=congrArg List.length hp
   simpa using this
  have hreps:∀ k (hk:k < parts.toList.length),Rep β fr w.heap (ev (parts.toList[k]).2) (a.eval (parts.toList[k]).2):=fun k hk=>by
   refine hr _ ?_
   simp [Op.operands]
   have hm:parts.toList[k]∈parts:=Array.mem_toList_iff.1 (List.getElem_mem _)
   exact ⟨_,hm⟩
  have hcr:∀ k (hk:k < parts.toList.length),CellsRep β fr w.heap (ev (parts.toList[k]).2).cells (a.eval (parts.toList[k]).2).cells∧(ev (parts.toList[k]).2).cells.length=s:=fun k hk=>by
   have:=List.all_eq_true.1 hsz (((parts.toList[k]).1,ev (parts.toList[k]).2)) (by
    simp only [List.mem_map]; exact ⟨parts.toList[k],List.getElem_mem _,rfl⟩)
   simp only [Bool.and_eq_true,beq_iff_eq] at this
   exact ⟨Rep_cells' (hreps k hk) this.1,this.2⟩
  have hvs:∀ v∈vals,v.cells.size=s:=by
   intro v hv
   obtain ⟨k,hk,rfl⟩:=List.getElem_of_mem hv
   have hk':k < parts.toList.length:=by simpa [vals] using hk
   have:=hcr k hk'
   simp only [vals,List.getElem_map]
   rw [this.1.1,this.2]
  let us:Array Value:=(Array.range (n * s)).map fun k=>(if n * s=0 then #[] else z.cells)[k % (if n * s=0 then #[] else z.cells).size]!
  obtain ⟨us',g1,g2,g3,g4⟩:=fill_row s vals 0 us hvs (by simp [us,vals]; rw [← hlen]; simp)
  have hpv:(parts.map fun (x:Nat × Operand)=>(x.1,a.eval x.2)).toList=(vals.zipIdx 0).map fun x=>(x.2,x.1):=by
   apply List.ext_getElem?
   intro k
   by_cases hk:k < parts.toList.length
   ·have hi1:(parts.toList[k]).1=k:=by
     have:=congrArg (fun l=>l[k]?) hp
     simp only [List.getElem?_map,List.getElem?_eq_getElem hk,Option.map_some] at this
     rw [List.getElem?_range (by omega)] at this
     injection this
    simp only [Array.toList_map,List.getElem?_map,List.getElem?_eq_getElem hk,Option.map_some,List.getElem?_zipIdx,vals]
    simp
    rw [Array.getElem_toList] at hi1; exact hi1
   ·rw [List.getElem?_eq_none (by simp at hk ⊢; omega),List.getElem?_eq_none (by simp [vals] at hk ⊢; omega)]
  let w':World:={ w with heap:=w.heap.push (.cells us' e) }
  have hrun:(execOp a.eval o).run P w=.ok (.value (.slice (some ⟨w.heap.size,0,none⟩) n n)) w':=by
   simp only [execOp,ho,Instr.buildSlice,Sem.run_bind,run_underlying ht,Result.andThen_ok,run_sizeOf' hi,his]
   rw [if_neg (by omega)]
   simp only [Sem.run_bind,Sem.run_pure,Result.andThen_ok]
   have hzr:(zeroValue e).run P w=.ok z w:=by simp [zeroValue,typeInfo,hi,hz]
   by_cases hz0:n * s=0
   ·have g1':Instr.fill (fun i=>some (i * s,s)) ((Array.range (n * s)).map fun x=>(#[]:Array Value)[x % (#[]:Array Value).size]!) (parts.map fun (x:Nat × Operand)=>(x.1,a.eval x.2)).toList=some us':=by
     rw [hpv]; simp only [us,if_pos hz0] at g1; exact g1
    rw [if_pos hz0]
    simp only [Sem.run_bind,Sem.run_pure,Result.andThen_ok,g1']
    rfl
   ·have g1':Instr.fill (fun i=>some (i * s,s)) ((Array.range (n * s)).map fun x=>z.cells[x % z.cells.size]!) (parts.map fun (x:Nat × Operand)=>(x.1,a.eval x.2)).toList=some us':=by
     rw [hpv]; simp only [us,if_neg hz0] at g1; exact g1
    rw [if_neg hz0]
    simp only [Sem.run_bind,Sem.run_pure,Result.andThen_ok,hzr,g1']
    rfl
  have hsize:us'.size=n * s:=by rw [g2]; simp [us]
  have hrow:RowAt β fr w.heap (parts.toList.map fun x=>ev x.2) s us':=by
   refine ⟨by rw [hsize]; simp [← hlen], ?_,fun k hk j hj=>?_⟩
   ·intro x hx
    obtain ⟨k,hk,rfl⟩:=List.getElem_of_mem hx
    have hk':k < parts.toList.length:=by simpa using hk
    simpa using (hcr k hk').2
   ·have hk':k < parts.toList.length:=by simpa using hk
    simp only [List.getElem_map] at hj ⊢
    obtain ⟨u,hu,hr'⟩:=(hcr k hk').1.2 j hj
    refine ⟨u, ?_,hr'⟩
    have:=g4 k (by simpa [vals] using hk') j (by rw [← (hcr k hk').2]; exact hj)
    simp only [Nat.zero_add] at this
    rw [this]; simpa [vals] using hu
  refine ⟨_,w',.cells us' e,hrun,rfl,rfl,rfl,rfl,fun β' t E hb=>⟨?_, ?_⟩⟩
  ·exact (hrow.ext E).obj (c:=us') (e:=e) (f:=(0,0)) hb (by simp [w']) (fun i hi=>by simp) (fun k hk=>rfl) (Nat.le_refl _)
  ·simp only [Rep]
   exact .inr ⟨w.heap.size,us',e,(0,0),n,hb,by simp [w'],by simp,by rw [hsize]; simp,Nat.le_refl _⟩
end Go.Proofs.Vale
namespace Go.Proofs.Vale
theorem Ext.fill {β:Beta} {fr:Nat→Prop} {H H':Array Obj} {m:List AObj} (L:Lay β fr H m) {k:Nat} (hn:∀ g,β k g=none) {c:Obj} (hw:H'=H.push c):Ext β fr H (betaSet β k 0 (some H.size)) fr H' where
 beta:=fun t' g' r e=>by
  rw [betaSet_other]
  ·exact e
  ·rintro ⟨rfl,rfl⟩; rw [hn] at e; cases e
 frm:=fun _ e=>e
 cells:=fun b hb=>by rw [hw,Array.getElem?_push,if_neg (by have:=L.frlt b hb; omega)]
 shape:=fun t' g' b c' e f hb hc=>⟨c',f,by rw [hw,Array.getElem?_push,if_neg (by have:=L.lt _ _ _ hb; omega)]; exact hc,rfl⟩
theorem Lay.fill {β : Beta} {fr : Nat → Prop} {w w' : World} {m : List AObj} (L : Lay β fr w.heap m) {k : Nat} (hk : m[k]? = some .dead) (hn : ∀ g, β k g = none) {c : Obj} {o : AObj} (hg : o.gen = some 0)
  (hw:w'.heap=w.heap.push c) (hos:w'.os=w.os) (ht:w'.tape=w.tape) (hp:w'.output=w.output)
  (ho:ObjAt (betaSet β k 0 (some w.heap.size)) fr w'.heap k o) :
  Lay (betaSet β k 0 (some w.heap.size)) fr w'.heap (m.set k o)∧Step1 β fr m w (betaSet β k 0 (some w.heap.size)) fr (m.set k o) w':=by
 have hkl:k < m.length:=(List.getElem?_eq_some_iff.1 hk).1
 have E:=Ext.fill L hn hw
 have hold:∀ b,b < w.heap.size→w'.heap[b]? = w.heap[b]? := fun b hb=>by rw [hw,Array.getElem?_push,if_neg (by omega)]
 have hsz:w'.heap.size=w.heap.size+1:=by rw [hw]; simp
 have hget:∀ t o1,(m.set k o)[t]? = some o1→(t=k∧o1=o)∨(t≠k∧m[t]? = some o1):=by
  intro t o1 h1
  by_cases e:t=k
  ·subst e; rw [List.getElem?_set_self hkl] at h1; injection h1 with h1; exact .inl ⟨rfl,h1.symm⟩
  ·rw [List.getElem?_set_ne (fun q=>e q.symm)] at h1; exact .inr ⟨e,h1⟩
 have hb0:∀ t g r,betaSet β k 0 (some w.heap.size) t g=some r→(t=k∧g=0∧r=some w.heap.size)∨β t g=some r:=by
  intro t g r e
  by_cases q:t=k∧g=0
  ·obtain ⟨rfl,rfl⟩:=q; rw [betaSet_same] at e; injection e with e; exact .inl ⟨rfl,rfl,e.symm⟩
  ·rw [betaSet_other q] at e; exact .inr e
 have hne:∀ t g b,t≠k→betaSet β k 0 (some w.heap.size) t g=some (some b)→β t g=some (some b):=by
  intro t g b e h
  rcases hb0 _ _ _ h with ⟨q,_⟩ | q
  ·exact absurd q e
  ·exact q
 have hkk:∀ g b,betaSet β k 0 (some w.heap.size) k g=some (some b)→b=w.heap.size:=by
  intro g b h
  rcases hb0 _ _ _ h with ⟨_,_,q⟩ | q
  ·injection q
  ·rw [hn] at q; cases q
 have hown:∀ b,Own (m.set k o) (betaSet β k 0 (some w.heap.size)) b→Own m β b∨b=w.heap.size:=by
  rintro b ⟨t,o1,g1,h1,h2,h3⟩
  rcases hget t o1 h1 with ⟨rfl,rfl⟩ | ⟨e,h1⟩
  ·exact .inr (hkk _ _ h3)
  ·exact .inl ⟨t,o1,g1,h1,h2,hne _ _ _ e h3⟩
 refine ⟨?_, ?_⟩
 ·refine { frlt:=fun b hb=>by have:=L.frlt b hb; omega,ownfr:=fun b hb hf=>?_,lt:=fun t g' b hb=>?_,inj:=?_,obj:=fun t o1 h1=>?_,dom:=fun t g' r e=>?_,top:=?_,tab:=fun b cs q=>⟨(L.tab b cs q).1,by rw [E.cells b (L.tab b cs q).1]; exact (L.tab b cs q).2⟩ }
  ·rcases hown b hb with q | q
   ·exact L.ownfr b q hf
   ·have:=L.frlt b hf; omega
  ·rcases hb0 _ _ _ hb with ⟨_,_,q⟩ | q
   ·injection q with q; omega
   ·have:=L.lt _ _ _ q; omega
  ·intro t t' o1 o2 g1 g2 b h1 h2 h3 h4 h5 h6
   rcases hget t o1 h1 with ⟨rfl,rfl⟩ | ⟨e,h1⟩ <;> rcases hget t' o2 h4 with ⟨rfl,rfl⟩ | ⟨e',h4⟩
   ·rfl
   ·exfalso
    have:=hkk _ _ h3; have:=L.lt _ _ _ (hne _ _ _ e' h6); omega
   ·exfalso
    have:=hkk _ _ h6; have:=L.lt _ _ _ (hne _ _ _ e h3); omega
   ·exact L.inj _ _ _ _ _ _ _ h1 h2 (hne _ _ _ e h3) h4 h5 (hne _ _ _ e' h6)
  ·rcases hget t o1 h1 with ⟨rfl,rfl⟩ | ⟨e,h1⟩
   ·exact ho
   ·exact (L.obj t o1 h1).ext E fun g' b hg' hb=>hold b (L.lt _ _ _ hb)
  ·rw [List.length_set]
   rcases hb0 _ _ _ e with ⟨q,_⟩ | q
   ·omega
   ·exact L.dom _ _ _ q
  ·intro t g1 s l h1 g' hg'
   rcases hget t _ h1 with ⟨rfl,q⟩ | ⟨e,h1⟩
   ·rw [betaSet_other (by omega)]; exact hn g'
   ·rw [betaSet_other (by rintro ⟨q,_⟩; exact e q)]; exact L.top t g1 s l h1 g' hg'
 ·exact ⟨E,hos,ht,hp,by omega,fun b hb _=>hold b hb,fun b hb=>by
   rcases hown b hb with q | q
   ·exact .inl q
   ·exact .inr (by omega),fun _=>.inl⟩
theorem Lay.keep {β:Beta} {fr:Nat→Prop} {w:World} {h:List AObj} (L:Lay β fr w.heap h) (n:Nat):Lay β fr w.heap (h++List.replicate n AObj.dead)∧Step1 β fr h w β fr (h++List.replicate n AObj.dead) w:=by
 have hget:∀ (t:Nat) (o:AObj),(h++List.replicate n AObj.dead)[t]? = some o→o=AObj.dead∨h[t]? = some o:=by
  intro t o ho
  by_cases q:t < h.length
  ·rw [List.getElem?_append_left q] at ho; exact .inr ho
  ·rw [List.getElem?_append_right (by omega),List.getElem?_replicate] at ho
   split at ho
   ·injection ho with ho; exact .inl ho.symm
   ·cases ho
 have hlive:∀ (t:Nat) (o:AObj) (g:Nat),(h++List.replicate n AObj.dead)[t]? = some o→o.gen=some g→h[t]? = some o:=by
  intro t o g ho hg
  rcases hget t o ho with rfl | q
  ·cases hg
  ·exact q
 refine ⟨{ frlt := L.frlt, ownfr := fun b ⟨t, o, g, h1, h2, h3⟩ => L.ownfr b ⟨t, o, g, hlive t o g h1 h2, h2, h3⟩, lt := L.lt
           inj:=fun t t' o o' g g' b h1 h2 h3 h4 h5 h6=>L.inj _ _ _ _ _ _ _ (hlive _ _ _ h1 h2) h2 h3 (hlive _ _ _ h4 h5) h5 h6
           obj:=fun t o ho=>?_,dom:=fun t g r e=>by have:=L.dom t g r e; simp; omega
           top:=fun t g s l h1=>L.top t g s l (hlive _ _ g h1 rfl),tab:=L.tab }, ?_⟩
 ·rcases hget t o ho with rfl | q
  ·trivial
  ·exact L.obj t o q
 ·exact { ext:=Ext.refl _ _ _,os:=rfl,tape:=rfl,output:=rfl,size:=Nat.le_refl _,keep:=fun _ _ _=>rfl,prov:=fun b ⟨t,o,g,h1,h2,h3⟩=>.inl ⟨t,o,g,hlive t o g h1 h2,h2,h3⟩,frz:=fun _=>.inl }
def tagO (x:AV):List Nat :=
 match x with
 | .ref t _ _ _ _=>[t]
 | .sl t _ _ _ _=>[t]
 | _=>[]
def rdOf (op:Op) (ev:Operand→AV):List Nat :=
 match op with
 | .load _ x=>tagO (ev x)
 | .convert _ _ x=>tagO (ev x)
 | .store _ a _=>tagO (ev a)
 | .call c=>(match c.callee with | .builtin .append=>(match c.args.toList with | [A,X]=>tagO (ev A)++tagO (ev X) | _=>[]) | _=>[])
 | _=>[]
def wrOf (op:Op) (ev:Operand→AV):List Nat :=
 match op with
 | .store _ a _=>tagO (ev a)
 | .call c=>(match c.callee with | .builtin .append=>(match c.args.toList with | [A,X]=>tagO (ev A) | _=>[]) | _=>[])
 | _=>[]
def Agree (rd:List Nat) (m m2:List AObj):Prop:=∀ t∈rd,∀ o,m[t]? = some o→m2[t]? = some o
theorem ld_agree {P:Program} {t:TypeId} {x:AV} {m m2:List AObj} {r:Prop × AV} (ha:Agree (tagO x) m m2) (h:ldA P t m x=some r):ldA P t m2 x=some r:=by
 cases x
 case ref tt g s i j =>
  unfold ldA at h ⊢
  cases hi:tI P t with
  | none=>rw [hi] at h; cases h
  | some ia =>
   rw [hi] at h
   obtain ⟨n,ag⟩:=ia
   simp only at h ⊢
   cases hq:m[tt]? with
   | none=>rw [hq] at h; cases h
   | some ob=>rw [ha tt (by simp [tagO]) ob hq]; rw [hq] at h; exact h
 all_goals (unfold ldA at h ⊢; cases hi:tI P t with
  | none=>rw [hi] at h; cases h
  | some ia=>rw [hi] at h; exact h)
theorem cv_agree {P:Program} {s d:TypeId} {x:AV} {m m2:List AObj} {r:Prop × AV} (ha:Agree (tagO x) m m2) (h:cvA P s d m x=some r):cvA P s d m2 x=some r:=by
 cases x
 case sl t g s' off len =>
  unfold cvA at h ⊢
  simp only at h ⊢
  cases hq:m[t]? with
  | none =>
   rw [hq] at h
   exfalso
   revert h
   cases tk P s <;> cases tk P d <;> simp
  | some ob=>rw [ha t (by simp [tagO]) ob hq]; rw [hq] at h; exact h
 all_goals exact h
theorem pop_agree {P:Program} {op:Op} {ev:Operand→AV} {m m2:List AObj} {r:Prop × AV} (ha:Agree (rdOf op ev) m m2) (h:pop P op ev m=some r):pop P op ev m2=some r:=by
 cases op
 case load t x=>exact ld_agree ha h
 case convert s d x=>exact cv_agree ha h
 all_goals exact h
theorem popG_agree {P:Program} {op:Op} {ev:Operand→AV} {m m2:List AObj} {r:Prop × AV} (ha:Agree (rdOf op fun x=>(ev x).strip) m m2) (h:popG P op ev m=some r):popG P op ev m2=some r:=by
 by_cases hn:∀ c a b,op≠.pick c a b
 ·rw [popG_other P ev m op hn] at h
  rw [popG_other P ev m2 op hn]
  cases hp:pop P op (fun x=>(ev x).strip) m with
  | none=>rw [hp] at h; cases h
  | some q=>rw [pop_agree (m2:=m2) ha hp]; rw [hp] at h; exact h
 ·cases op
  case pick c a b=>exact h
  all_goals exact absurd (fun c a b=>by simp) hn
end Go.Proofs.Vale
namespace Go.Proofs.Vale
theorem newB_zero {P : Program} {o : Oper} {c : Call} {A X : Operand} {ev : Operand → AV} {m : List AObj} {e s by_ : Nat} {k : IntKind} {n : Int} (ho : o.op = .call c) (hc : c.callee = .builtin .append) (ha : c.args = #[A, X]) (hei : eI P (c.argTypes.getD 0 0) = some (e, s, by_)) (e1 : ev A = .fz true []) (e2 : ev X = .int k n)
  (hty:mkTy P c.argTypes=true) (h0:0 < n) (hb:(n.toNat+96) * by_≤140737488355328) (hn:n≤4611686018427387904):NewB P o ev m (fun q=>.sl q 0 s 0 n.toNat) (.arr 0 s []):=by
 intro a w β fr L hr
 rw [ho] at hr
 have hA:=hr A (by simp [Op.operands,Call.operands,hc,ha])
 have hX:=hr X (by simp [Op.operands,Call.operands,hc,ha])
 have hrun:∀ {v w'},(Builtin.append_ c.argTypes o.type #[a.eval A,a.eval X]).run P w=.ok v w'→(execOp a.eval o).run P w=.ok (.value v) w':=by
  intro v w' e
  simp only [execOp,ho,Go.resolve,hc,Sem.run_bind,Sem.run_pure,Result.andThen_ok,Go.invoke,Go.builtin]
  rw [show c.args.map a.eval=#[a.eval A,a.eval X] by rw [ha]; simp,e]; rfl
 obtain ⟨t0,hts⟩:∃ t0,c.argTypes[0]? = some t0:=by
  unfold mkTy at hty; cases q:c.argTypes[1]? with
  | none=>rw [q] at hty; cases hty
  | some t1 =>
   have:=(Array.getElem?_eq_some_iff.1 q).1
   exact ⟨c.argTypes[0],Array.getElem?_eq_getElem (by omega)⟩
 have hei':eI P t0=some (e,s,by_):=by
  rw [Array.getD_eq_getD_getElem?, hts] at hei; exact hei
 rw [e1] at hA; simp only [Rep] at hA
 obtain ⟨ao,cap,hv,hlc,hcc,-⟩:=hA
 have hcap:cap=0:=hcc trivial
 subst hcap
 rw [e2] at hX; simp only [Rep] at hX
 obtain ⟨nc,cells,w',r1,r2,r3,r4,r5,r6,r7⟩:=run_append_zero (P:=P) (w:=w) (ty:=o.type) (base:=ao) (k:=k) hts hei' hty h0 hb hn
 have r1':(Builtin.append_ c.argTypes o.type #[a.eval A,a.eval X]).run P w=.ok (.slice (some ⟨w.heap.size,0,none⟩) n.toNat nc) w':=by rw [hv,hX]; exact r1
 refine ⟨_,w',_,hrun r1',r2,r3,r4,r5,fun β' t E hb=>⟨?_, ?_⟩⟩
 ·exact .inr ⟨w.heap.size,cells,e,(0,0),hb,by rw [r2]; simp,by simp,by simp,by simp,by simp⟩
 ·simp only [Rep]
  exact .inr ⟨w.heap.size,cells,e,(0,0),nc,hb,by rw [r2]; simp,by simp,by rw [r7]; simp,r6⟩
theorem newB_mm {P:Program} {o:Oper} {t:TypeId} {ev:Operand→AV} {m:List AObj} (ho:o.op=.makeMap t none):NewB P o ev m (fun k=>.mp k) (.map []):=by
 intro a w β fr L hr
 refine ⟨.map (some w.heap.size),{ w with heap:=w.heap.push (.map #[] 0) },.map #[] 0, ?_,rfl,rfl,rfl,rfl,fun β' tg E hb=>⟨?_, ?_⟩⟩
 ·simp [execOp,ho,Instr.makeMap]
 ·exact ⟨w.heap.size,#[],hb,by simp,rfl,fun i hi=>by simp at hi⟩
 ·simp only [Rep]; exact ⟨_,hb,rfl⟩
def isMem (op:Op):Bool :=
 match op with
 | .alloc _=>true
 | .box _ _=>true
 | .buildSlice _ _ _=>true
 | .store _ _ _=>true
 | .makeMap _ none=>true
 | .call c=>(match c.callee with | .builtin .append=>true | _=>false)
 | _=>false
theorem rd_agree {x:AV} {m m2:List AObj} {p:Prop} {ys:List AV} (ha:Agree (tagO x) m m2) (h:rdA m x=some (p,ys)):rdA m2 x=some (p,ys):=by
 cases x
 case sl t g s off len =>
  simp only [rdA] at h ⊢
  cases hq:m[t]? with
  | none=>rw [hq] at h; cases h
  | some ob=>rw [ha t (by simp [tagO]) ob hq]; rw [hq] at h; exact h
 all_goals exact h
theorem aop_mem {P : Program} {o : Oper} {ev : Operand → AV} {m : List AObj} {R : AV → List AObj → Prop} (ho : isMem o.op = true) (hk : aop P o.op ev m R) :
  (∃ (x:Nat→AV) (ob:AObj),R (x m.length) (m++[ob])∧ob.gen=some 0∧∀ m2,Agree (rdOf o.op ev) m m2→NewB P o ev m2 x ob) ∨
  (∃ x,R x m∧∀ m2,Agree (rdOf o.op ev) m m2→OpKs P o ev m2 fun y h'=>y=x∧h'=m2) ∨
  (∃ t x ob ob0,m[t]? = some ob0∧t∈rdOf o.op ev∧t∈wrOf o.op ev∧ob≠.dead∧R x (m.set t ob)∧∀ m2,Agree (rdOf o.op ev) m m2→OpKs P o ev m2 fun y h'=>y=x∧h'=m2.set t ob):=by
 obtain ⟨dst,op,ty,pos,after,guard⟩:=o
 cases op
 case alloc t =>
  simp only [aop] at hk
  split at hk
  ·rename_i x hz
   exact .inl ⟨_,_,hk.2,rfl,fun m2 _=>newB_alloc rfl hz hk.1⟩
  ·cases hk
 case box t x =>
  simp only [aop] at hk
  exact .inl ⟨_,_,hk.2,rfl,fun m2 _=>newB_box rfl hk.1⟩
 case buildSlice t n parts =>
  simp only [aop,bsK] at hk
  split at hk
  ·rename_i e s by_ hei
   obtain ⟨⟨hn,hp,hsz⟩,hK⟩:=hk
   have hmm:(parts.toList.map fun x=>(x.1,ev x.2)).map (·.2)=parts.toList.map fun x=>ev x.2:=by simp
   rw [hmm] at hK
   exact .inl ⟨fun k=>.sl k 0 s 0 n,_,hK,rfl,fun m2 _=>newB_build rfl hei hn hp hsz⟩
  ·cases hk
 case store t a x =>
  simp only [aop] at hk
  have hk0:=hk
  unfold stK at hk
  split at hk
  ·rename_i n ag tt g s i j hti e1
   split at hk
   ·rename_i g' s' l ht
    have hmem:tt∈rdOf (.store t a x) ev:=by simp [rdOf,e1,tagO]
    refine .inr (.inr ⟨tt,.tup [],_,_,ht,hmem,by simp [wrOf,e1,tagO],by simp,hk.2,fun m2 ha=>?_⟩)
    refine st_oks rfl ?_
    have ht2:=ha tt hmem _ ht
    unfold stK
    rw [hti,e1]
    simp only [ht2]
    exact ⟨hk.1,by trivial,by trivial⟩
   ·cases hk
  ·cases hk
 case makeMap t r =>
  cases r with
  | some r=>cases ho
  | none =>
   simp only [aop,mmK] at hk
   exact .inl ⟨fun k=>.mp k,_,hk,rfl,fun m2 _=>newB_mm rfl⟩
 case call c =>
  obtain ⟨callee,args,ts⟩:=c
  cases callee
  case builtin b =>
   cases b
   case append =>
    simp only [aop] at hk
    split at hk
    ·rename_i A X ha
     have hargs:args=#[A,X]:=by rw [← Array.toArray_toList (xs:=args),ha]
     subst hargs
     have hrdO:rdOf (.call ⟨.builtin .append,#[A,X],ts⟩) ev=tagO (ev A)++tagO (ev X):=rfl
     have hwrO:wrOf (.call ⟨.builtin .append,#[A,X],ts⟩) ev=tagO (ev A):=rfl
     unfold apK at hk
     split at hk
     ·rename_i e s by_ p ys t g s' off len hei hrd e1
      split at hk
      ·rename_i g' s'' l ht
       have hmem:t∈tagO (ev A):=by rw [e1]; simp [tagO]
       refine .inr (.inr ⟨t,_,_,_,ht,by rw [hrdO]; exact List.mem_append_left _ hmem,by rw [hwrO]; exact hmem,by simp,hk.2,fun m2 hag=>?_⟩)
       rw [hrdO] at hag
       refine ap_oks rfl rfl rfl ?_
       have ht2:=hag t (List.mem_append_left _ hmem) _ ht
       have hrd2:=rd_agree (m2:=m2) (fun t ht=>hag t (List.mem_append_right _ ht)) hrd
       unfold apK
       rw [hei,hrd2,e1]
       simp only [ht2]
       exact ⟨hk.1,by trivial,by trivial⟩
      ·cases hk
     ·rename_i e s by_ p ys l hei hrd e1
      obtain ⟨⟨hty,hp,hlen,hby,hel,hls⟩,hK0,hK1⟩:=hk
      by_cases hz:ys=[]
      ·refine .inr (.inl ⟨_,hK0 hz,fun m2 hag=>?_⟩)
       rw [hrdO] at hag
       refine ap_oks rfl rfl rfl ?_
       have hrd2:=rd_agree (m2:=m2) (fun t ht=>hag t (List.mem_append_right _ ht)) hrd
       unfold apK
       rw [hei,hrd2,e1]
       exact ⟨⟨hty,hp,hlen,hby,hel,hls⟩,fun _=>⟨rfl,rfl⟩,fun q=>absurd hz q⟩
      ·refine .inl ⟨fun k=>.sl k 0 s 0 (l.length+ys.length),_,hK1 hz,rfl,fun m2 hag=>?_⟩
       rw [hrdO] at hag
       exact newB_app rfl rfl rfl hei (rd_agree (m2:=m2) (fun t ht=>hag t (List.mem_append_right _ ht)) hrd) e1 hty hp hlen hby hel hls hz
     ·rename_i e s by_ l hei hrd e1
      split at hk
      ·rename_i k n e2
       refine .inl ⟨fun k=>.sl k 0 s 0 n.toNat,_,hk.2,rfl,fun m2 hag=>?_⟩
       exact newB_zero rfl rfl rfl hei e1 e2 hk.1.1 hk.1.2.1 hk.1.2.2.1 hk.1.2.2.2
      ·cases hk
     ·cases hk
    ·cases hk
   all_goals cases ho
  all_goals cases ho
 all_goals cases ho
end Go.Proofs.Vale
set_option maxHeartbeats 2000000
namespace Go.Proofs.Vale
theorem frame_sem {β β' : Beta} {fr fr' : Nat → Prop} {w w' : World} {m h' : List AObj} {x : AV} {v : Value} (L : Lay β fr w.heap m) (L' : Lay β' fr' w'.heap h') (R' : Rep β' fr' w'.heap x v) (S' : Step1 β fr (deadH m) w β' fr' h' w') (hf : x.low 0 = true) :
  Lay β fr' w'.heap m∧Rep β fr' w'.heap x v∧Step1 β fr m w β fr' m w':=by
 have same:∀ b,b < w.heap.size→w'.heap[b]? = w.heap[b]? := fun b hb=>S'.keep b hb own_dead
 have E:Ext β fr w.heap β fr' w'.heap:=⟨fun _ _ _ e=>e,S'.ext.frm,S'.ext.cells,fun t g b c e f hb hc=>⟨c,f,by rw [same b (L.lt _ _ _ hb)]; exact hc,rfl⟩⟩
 refine ⟨?_,R'.low (n:=0) (fun t g r ht=>absurd ht (by omega)) (fun _ e=>e) hf, ?_⟩
 ·exact { frlt := L'.frlt
          ownfr:=fun b ho hb=>by
           obtain ⟨t,o,g,h1,h2,h3⟩:=ho
           have hlt:=L.lt _ _ _ h3
           rcases S'.frz b hb with q | q | q
           ·exact L.ownfr b ⟨t,o,g,h1,h2,h3⟩ q
           ·exact own_dead q
           ·omega
          lt:=fun t g b hb=>Nat.lt_of_lt_of_le (L.lt t g b hb) S'.size,inj:=L.inj
          obj:=fun t o ho=>(L.obj t o ho).ext E fun g b _ hb=>same b (L.lt _ _ _ hb),dom:=L.dom,top:=L.top,tab:=fun b cs q=>⟨E.frm b (L.tab b cs q).1,by rw [E.cells b (L.tab b cs q).1]; exact (L.tab b cs q).2⟩ }
 ·exact { ext := E, os := S'.os, tape := S'.tape, output := S'.output, size := S'.size, keep := fun b hb _ => same b hb, prov := fun b e => .inl e
          frz:=fun b hb=>by
           rcases S'.frz b hb with q | q | q
           ·exact .inl q
           ·exact (own_dead q).elim
           ·exact .inr (.inr q) }
def QRun (P:Program) (ops:Array Oper) (i:Nat) (o:Oper) (env:List AV) (m:List AObj) (x:AV):Prop :=
 ∀ (tmps:Array Value) (w:World) (β:Beta) (fr:Nat→Prop) (Q:Exit→Act→World→Prop) (Kc:Act→World→Prop) (ro:Option Nat) (dfs:List Deferred),ops[i]? = some o→Lay β fr w.heap m→Sees β fr w.heap ops o env tmps →
  (∀ v w' fr',Lay β fr' w'.heap m→Rep β fr' w'.heap x v→Step1 β fr m w β fr' m w'→Kc ((⟨tmps,dfs⟩:Act).put o.dst v) w')→wpOpIn (roF ro) 0 P ops Q i Kc ⟨tmps,dfs⟩ w
theorem qrun_pop {P:Program} {ops:Array Oper} {i:Nat} {o:Oper} {env:List AV} {m:List AObj} {x:AV} {p:Prop} (hg:o.guard=none) (hpp:pop P o.op (evA env) m=some (p,x)) (hp:p):QRun P ops i o env m x:=by
 intro tmps w β fr Q Kc ro dfs ho L hs hk
 unfold wpOpIn
 rw [ho]
 simp only
 have hw:Region.wanted o (yielded ops tmps)=true:=by simp [Region.wanted,hg]
 rw [if_pos hw]
 obtain ⟨v,w',h1,h2,h3,h4,h5,h6⟩:=pop_ok hpp hp ⟨tmps,dfs⟩ w β fr L fun y hy=>hs.eval y hy
 refine wpIn_val h1 ?_
 exact hk v w' fr (by rw [h2]; exact L) (by rw [h2]; exact h6) (Step1.drawn h2 h3 h4 h5)
theorem qrun_popG {P:Program} {ops:Array Oper} {i:Nat} {o:Oper} {env:List AV} {m:List AObj} {y:AV} {p:Prop} {j:Nat} {want gd:Bool} (hg:o.guard=some (j,want)) (hgd:gdA (gv env ((ops.toList.take i).map (·.dst)).reverse j) want=some gd) (hpp:popG P o.op (evA env) m=some (p,y)) (hp:gd=true→p):QRun P ops i o env m (.opt gd y):=by
 intro tmps w β fr Q Kc ro dfs ho L hs hk
 unfold wpOpIn
 rw [ho]
 simp only
 have hw:Region.wanted o (yielded ops tmps)=gd:=guard_sees hs hgd hg
 rw [hw]
 cases gd with
 | true =>
  rw [if_pos rfl]
  obtain ⟨v,w',h1,h2,h3,h4,h5,h6⟩:=popG_ok hpp (hp rfl) ⟨tmps,dfs⟩ w β fr L fun y hy=>hs.eval y hy
  refine wpIn_val h1 ?_
  exact hk v w' fr (by rw [h2]; exact L) (by rw [h2]; simp only [Rep]; exact ⟨fun _=>h6,fun e=>by cases e⟩) (Step1.drawn h2 h3 h4 h5)
 | false =>
  rw [if_neg (by simp)]
  refine ⟨fun _ _=>trivial, ?_⟩
  exact hk undef w fr L (by simp [Rep]) (Step1.refl _ _ _ _)
theorem qrun_call {P:Program} {ops:Array Oper} {i:Nat} {o:Oper} {env:List AV} {m:List AObj} {x:AV} (hg:o.guard=none) (hf:x.low 0=true) (hq:aop P o.op (evA env) (deadH m) fun y _=>y=x):QRun P ops i o env m x:=by
 intro tmps w β fr Q Kc ro dfs ho L hs hk
 unfold wpOpIn
 rw [ho]
 simp only
 have hw:Region.wanted o (yielded ops tmps)=true:=by simp [Region.wanted,hg]
 rw [if_pos hw]
 exact aop_ok hq ⟨tmps,dfs⟩ w β fr (lay_dead2 L) (fun y hy=>hs.eval y hy) _ _ _ fun v y w' h' β' fr' k L' R' S'=>by
  subst k
  obtain ⟨a,b,c⟩:=frame_sem L L' R' S' hf
  exact hk v w' fr' a b c
theorem qrun_callG {P:Program} {ops:Array Oper} {i:Nat} {o:Oper} {env:List AV} {m:List AObj} {x:AV} {j:Nat} {want gd:Bool} (hg:o.guard=some (j,want)) (hgd:gdA (gv env ((ops.toList.take i).map (·.dst)).reverse j) want=some gd) (h1:gd=true→x.low 0=true∧aop P o.op (fun y=>(evA env y).stripT) (deadH m) fun y _=>y=x) (h0:gd=false→x=.tup []):QRun P ops i o env m x:=by
 intro tmps w β fr Q Kc ro dfs ho L hs hk
 unfold wpOpIn
 rw [ho]
 simp only
 have hw:Region.wanted o (yielded ops tmps)=gd:=guard_sees hs hgd hg
 rw [hw]
 cases gd with
 | true =>
  rw [if_pos rfl]
  obtain ⟨hf,hq⟩:=h1 rfl
  exact aop_ok hq ⟨tmps,dfs⟩ w β fr (lay_dead2 L) (fun y hy=>(hs.eval y hy).stripT) _ _ _ fun v y w' h' β' fr' k L' R' S'=>by
   subst k
   obtain ⟨a,b,c⟩:=frame_sem L L' R' S' hf
   exact hk v w' fr' a b c
 | false =>
  rw [if_neg (by simp)]
  refine ⟨fun _ _=>trivial, ?_⟩
  rw [h0 rfl] at hk
  exact hk undef w fr L (Rep_undef _ _ _) (Step1.refl _ _ _ _)
inductive Eff where
 | q
 | w (t:Nat) (o:AObj)
 | a (o:AObj)
def Eff.seq (m:List AObj):Eff→List AObj
 | .q=>m
 | .w t o=>m.set t o
 | .a o=>m++[o]
def memT (E:Nat→Eff) (h:List AObj):Nat→List AObj
 | 0=>h
 | k+1=>(E k).seq (memT E h k)
def slot (E:Nat→Eff) (h:List AObj) (i:Nat):Nat:=(memT E h i).length
def Eff.upd (k:Nat) (m:List AObj):Eff→List AObj
 | .q=>m
 | .w t o=>m.set t o
 | .a o=>m.set k o
def memX (E:Nat→Eff) (h:List AObj) (M:Nat) (S:Nat→Bool):Nat→List AObj
 | 0=>h++List.replicate (M - h.length) .dead
 | k+1=>if S k then (E k).upd (slot E h k) (memX E h M S k) else memX E h M S k
def hits (E:Nat→Eff) (h:List AObj) (k t:Nat):Prop :=
 match E k with
 | .q=>False
 | .w t' _=>t'=t
 | .a _=>slot E h k=t
theorem seq_le (e:Eff) (m:List AObj):m.length≤(e.seq m).length:=by cases e <;> simp [Eff.seq]
theorem memT_mono (E:Nat→Eff) (h:List AObj) {i j:Nat} (hij:i≤j):(memT E h i).length≤(memT E h j).length:=by
 induction j with
 | zero => obtain rfl : i = 0 := by omega
           exact Nat.le_refl _
 | succ j ih =>
  by_cases q:i=j+1
  ·subst q; exact Nat.le_refl _
  ·exact Nat.le_trans (ih (by omega)) (seq_le _ _)
theorem upd_len (k:Nat) (m:List AObj) (e:Eff):(e.upd k m).length=m.length:=by cases e <;> simp [Eff.upd]
theorem memX_len {E:Nat→Eff} {h:List AObj} {M:Nat} {S:Nat→Bool} (hM:h.length≤M):∀ k,(memX E h M S k).length=M
 | 0=>by simp [memX]; omega
 | k+1=>by simp only [memX]; split <;> simp [upd_len,memX_len hM k]
theorem upd_miss {E:Nat→Eff} {h:List AObj} {k t:Nat} (m:List AObj) (hn:¬ hits E h k t):((E k).upd (slot E h k) m)[t]? = m[t]? := by
 unfold hits at hn
 cases he:E k with
 | q=>rfl
 | w t' o=>rw [he] at hn; exact List.getElem?_set_ne hn
 | a o=>rw [he] at hn; exact List.getElem?_set_ne hn
theorem upd_hit {E:Nat→Eff} {h:List AObj} {k t:Nat} {m m2:List AObj} (hn:hits E h k t) (hl:m.length=m2.length):((E k).upd (slot E h k) m)[t]? = ((E k).upd (slot E h k) m2)[t]? := by
 unfold hits at hn
 cases he:E k with
 | q=>rw [he] at hn; exact hn.elim
 | w t' o =>
  rw [he] at hn; simp only at hn; subst hn
  simp only [Eff.upd,List.getElem?_set_self',hl]
  by_cases q:t' < m2.length
  ·rw [List.getElem?_eq_getElem q,List.getElem?_eq_getElem (by omega)]; rfl
  ·rw [List.getElem?_eq_none (by omega),List.getElem?_eq_none (by omega)]
 | a o =>
  rw [he] at hn; simp only at hn; subst hn
  simp only [Eff.upd,List.getElem?_set_self',hl]
  by_cases q:slot E h k < m2.length
  ·rw [List.getElem?_eq_getElem q,List.getElem?_eq_getElem (by omega)]; rfl
  ·rw [List.getElem?_eq_none (by omega),List.getElem?_eq_none (by omega)]
theorem memX_congr {E:Nat→Eff} {h:List AObj} {M t:Nat} {S T:Nat→Bool} (hM:h.length≤M):∀ k,(∀ j,j < k→hits E h j t→S j=T j)→(memX E h M S k)[t]? = (memX E h M T k)[t]?
 | 0,_=>rfl
 | k+1,hc=>by
  have ih:=memX_congr (S:=S) (T:=T) (t:=t) hM k fun j hj=>hc j (by omega)
  simp only [memX]
  by_cases hh:hits E h k t
  ·rw [hc k (by omega) hh]
   split
   ·exact upd_hit hh (by rw [memX_len hM,memX_len hM])
   ·exact ih
  ·have e:∀ (U:Nat→Bool),(if U k=true then (E k).upd (slot E h k) (memX E h M U k) else memX E h M U k)[t]? = (memX E h M U k)[t]? := fun U=>by
    split
    ·exact upd_miss _ hh
    ·rfl
   rw [e S,e T,ih]
theorem memX_none {E:Nat→Eff} {h:List AObj} {M t:Nat} {S:Nat→Bool}:∀ k i,i≤k→(∀ j,i≤j→j < k→hits E h j t→S j=false)→(memX E h M S k)[t]? = (memX E h M S i)[t]?
 | 0, i, hi, _ => by obtain rfl : i = 0 := by omega
                     rfl
 | k+1,i,hi,hc=>by
  by_cases q:i=k+1
  ·subst q; rfl
  ·rw [← memX_none k i (by omega) fun j h1 h2=>hc j h1 (by omega)]
   simp only [memX]
   by_cases hh:hits E h k t
   ·rw [if_neg (by rw [hc k (by omega) (by omega) hh]; simp)]
   ·split
    ·exact upd_miss _ hh
    ·rfl
theorem memX_all {E:Nat→Eff} {h:List AObj} {M n:Nat} (hM:(memT E h n).length≤M) (hw:∀ k t o,k < n→E k=.w t o→t < (memT E h k).length):∀ k,k≤n→memX E h M (fun _=>true) k=memT E h k++List.replicate (M - (memT E h k).length) .dead
 | 0,_=>rfl
 | k+1,hk=>by
  have ih:=memX_all hM hw k (by omega)
  have hl1:=memT_mono E h (show k+1≤n from hk)
  simp only [memX,if_true,ih]
  cases he:E k with
  | q=>simp only [Eff.upd,memT,he,Eff.seq]
  | w t o =>
   have:=hw k t o (by omega) he
   simp only [Eff.upd,memT,he,Eff.seq,List.length_set]
   rw [List.set_append_left _ _ this]
  | a o =>
   have h2:(memT E h (k+1)).length=(memT E h k).length+1:=by simp [memT,he,Eff.seq]
   simp only [Eff.upd,memT,he,Eff.seq,slot]
   rw [List.set_append_right _ _ (Nat.le_refl _),Nat.sub_self,List.append_assoc]
   congr 1
   rw [List.length_append,List.length_singleton,show M - (memT E h k).length=(M - ((memT E h k).length+1))+1 by omega,List.replicate_succ]
   rfl
end Go.Proofs.Vale
set_option maxHeartbeats 4000000
namespace Go.Proofs.Vale
structure DD where
 xs:Nat→AV
 E:Nat→Eff
 RD:Nat→List Nat
 WR:Nat→List Nat
def IStep (P:Program) (ops:Array Oper) (h:List AObj) (env:List AV) (D:DD) (i:Nat) (o:Oper):Prop :=
 (D.E i=.q∧∀ m2,Agree (D.RD i) (memT D.E h i) m2→QRun P ops i o (mix ops.toList D.xs (fun _=>true) env i) m2 (D.xs i)) ∨
 (o.guard=none∧D.E i=.q∧∀ m2,Agree (D.RD i) (memT D.E h i) m2→OpKs P o (evA (mix ops.toList D.xs (fun _=>true) env i)) m2 fun y h'=>y=D.xs i∧h'=m2) ∨
 (∃ (y:Nat→AV) (ob:AObj),o.guard=none∧D.E i=.a ob∧D.xs i=y (slot D.E h i)∧ob.gen=some 0∧slot D.E h i∈D.WR i∧∀ m2,Agree (D.RD i) (memT D.E h i) m2→NewB P o (evA (mix ops.toList D.xs (fun _=>true) env i)) m2 y ob) ∨
 (∃ t ob,o.guard=none∧D.E i=.w t ob∧t < (memT D.E h i).length∧ob≠.dead∧t∈D.RD i∧t∈D.WR i∧∀ m2,Agree (D.RD i) (memT D.E h i) m2→OpKs P o (evA (mix ops.toList D.xs (fun _=>true) env i)) m2 fun y h'=>y=D.xs i∧h'=m2.set t ob)
theorem istep_hits {P:Program} {ops:Array Oper} {h:List AObj} {env:List AV} {D:DD} {i t:Nat} {o:Oper} (s:IStep P ops h env D i o) (hh:hits D.E h i t):t∈D.WR i∧(t∈D.RD i∨t=slot D.E h i):=by
 unfold hits at hh
 rcases s with ⟨e,_⟩ | ⟨_,e,_⟩ | ⟨y,ob,_,e,_,_,hm,_⟩ | ⟨t',ob,_,e,_,_,hr,hm,_⟩
 ·rw [e] at hh; exact hh.elim
 ·rw [e] at hh; exact hh.elim
 ·rw [e] at hh; simp only at hh; subst hh; exact ⟨hm,.inr rfl⟩
 ·rw [e] at hh; simp only at hh; subst hh; exact ⟨hm,.inl hr⟩
theorem opks_run {P : Program} {ops : Array Oper} {i : Nat} {o : Oper} {env : List AV} {m m' : List AObj} {x : AV} {tmps : Array Value} {w : World} {β : Beta} {fr : Nat → Prop} {Q : Exit → Act → World → Prop} {ro : Option Nat} {dfs : List Deferred} {Kc : Act → World → Prop}
  (ho:ops[i]? = some o) (hg:o.guard=none) (hq:OpKs P o (evA env) m fun y h'=>y=x∧h'=m') (L:Lay β fr w.heap m) (hs:Sees β fr w.heap ops o env tmps)
  (hk:∀ v w' β' fr',Lay β' fr' w'.heap m'→Rep β' fr' w'.heap x v→Step1 β fr m w β' fr' m' w'→(∀ t g r,β' t g=some r→β t g=some r∨∃ o,m'[t]? = some o∧o≠.dead)→Kc ((⟨tmps,dfs⟩:Act).put o.dst v) w'):wpOpIn (roF ro) 0 P ops Q i Kc ⟨tmps,dfs⟩ w:=by
 unfold wpOpIn
 rw [ho]
 simp only
 have hw:Region.wanted o (yielded ops tmps)=true:=by simp [Region.wanted,hg]
 rw [if_pos hw]
 obtain ⟨v,y,w',h',β',fr',h1,⟨rfl,rfl⟩,h3,h4,h5,h6⟩:=hq ⟨tmps,dfs⟩ w β fr L fun y hy=>hs.eval y hy
 rcases h1 with h1 | ⟨h1,rfl⟩
 ·exact wpIn_val h1 (hk v w' β' fr' h3 h4 h5 h6)
 ·exact wpIn_skp h1 (hk _ w' β' fr' h3 h4 h5 h6)
theorem newb_run {P : Program} {ops : Array Oper} {i k : Nat} {o : Oper} {env : List AV} {m : List AObj} {y : Nat → AV} {ob : AObj} {tmps : Array Value} {w : World} {β : Beta} {fr : Nat → Prop} {Q : Exit → Act → World → Prop} {ro : Option Nat} {dfs : List Deferred} {Kc : Act → World → Prop}
  (ho:ops[i]? = some o) (hg:o.guard=none) (hq:NewB P o (evA env) m y ob) (hgen:ob.gen=some 0) (hd:m[k]? = some .dead) (hn:∀ g,β k g=none) (L:Lay β fr w.heap m) (hs:Sees β fr w.heap ops o env tmps)
  (hk:∀ v w' β' fr',Lay β' fr' w'.heap (m.set k ob)→Rep β' fr' w'.heap (y k) v→Step1 β fr m w β' fr' (m.set k ob) w'→(∀ t g r,β' t g=some r→β t g=some r∨∃ o,(m.set k ob)[t]? = some o∧o≠.dead)→Kc ((⟨tmps,dfs⟩:Act).put o.dst v) w'):wpOpIn (roF ro) 0 P ops Q i Kc ⟨tmps,dfs⟩ w:=by
 unfold wpOpIn
 rw [ho]
 simp only
 have hw:Region.wanted o (yielded ops tmps)=true:=by simp [Region.wanted,hg]
 rw [if_pos hw]
 obtain ⟨v,w',c,h1,h2,h3,h4,h5,h6⟩:=hq ⟨tmps,dfs⟩ w β fr L fun y hy=>hs.eval y hy
 have E:=Ext.fill L hn h2
 obtain ⟨hO,hR⟩:=h6 _ k E (betaSet_same _ _ _ _)
 obtain ⟨L',S'⟩:=L.fill hd hn hgen h2 h3 h4 h5 hO
 refine wpIn_val h1 ?_
 refine hk v w' _ fr L' hR S' (betaSet_J (List.getElem?_set_self (List.getElem?_eq_some_iff.1 hd).1) ?_)
 rintro rfl; cases hgen
theorem wpAny_mem {P : Program} {ops : Array Oper} {D : DD} {env : List AV} {h : List AObj} {M : Nat} {Q : Exit → Act → World → Prop} {ro : Option Nat} {dfs : List Deferred} (hok : okDraw ops = true) (hM : M = (memT D.E h ops.size).length)
  (hst:∀ i o,ops.toList[i]? = some o→IStep P ops h env D i o)
  (hcl:∀ i j,i < j→j < ops.size→i∈(ancL ops.toList []).getD j []∨((∀ t∈D.WR i,t ∉ D.RD j∧t ∉ D.WR j)∧∀ t∈D.WR j,t ∉ D.RD i)) :
  ∀ (fuel:Nat) (listed:Array Bool) (tmps:Array Value) (w:World) (β:Beta) (fr:Nat→Prop),listed.size=ops.size→Down ops.toList (fun j=>listed.getD j false)→listed.toList.countP (·==false)≤fuel →
   Lay β fr w.heap (memX D.E h M (fun j=>listed.getD j false) ops.size)→EnvRep β fr w.heap (mix ops.toList D.xs (fun j=>listed.getD j false) env ops.size) tmps →
   (∀ t g,h.length≤t→(memX D.E h M (fun j=>listed.getD j false) ops.size)[t]? = some .dead→β t g=none) →
   (∀ tmps' w' β' fr',Lay β' fr' w'.heap (memT D.E h ops.size)→EnvRep β' fr' w'.heap (mix ops.toList D.xs (fun _=>true) env ops.size) tmps'→Step1 β fr (memX D.E h M (fun j=>listed.getD j false) ops.size) w β' fr' (memT D.E h ops.size) w'→Q .normal ⟨tmps',dfs⟩ w') →
   wpAnyIn (roF ro) 0 P .any ops Q fuel listed ⟨tmps,dfs⟩ w:=by
 have hMh:h.length≤M:=by rw [hM]; exact memT_mono D.E h (Nat.zero_le _)
 have hall:=memX_all (E:=D.E) (h:=h) (M:=M) (n:=ops.size) (by omega) (fun k t o hk he=>by
  have hkL:ops.toList[k]? = some ops[k]:=by rw [Array.getElem?_toList]; exact Array.getElem?_eq_getElem hk
  rcases hst k _ hkL with ⟨e,_⟩ | ⟨_,e,_⟩ | ⟨y,ob,_,e,_⟩ | ⟨t',ob,_,e,hl,_⟩
  ·rw [e] at he; cases he
  ·rw [e] at he; cases he
  ·rw [e] at he; cases he
  ·rw [e] at he; injection he with q1 q2; subst q1; exact hl)
 have fin:∀ (listed:Array Bool),listed.size=ops.size→(∀ i,i < ops.size→listed.getD i false=true)→mix ops.toList D.xs (fun j=>listed.getD j false) env ops.size=mix ops.toList D.xs (fun _=>true) env ops.size∧memX D.E h M (fun j=>listed.getD j false) ops.size=memT D.E h ops.size:=by
  intro listed hsz ha
  refine ⟨mix_congr ops.size fun i hi=>⟨ha i hi,rfl⟩, ?_⟩
  have h1:=hall ops.size (Nat.le_refl _)
  rw [← hM,Nat.sub_self,List.replicate_zero,List.append_nil] at h1
  rw [← h1]
  apply List.ext_getElem?
  intro t
  exact memX_congr hMh _ fun j hj _=>ha j hj
 intro fuel
 induction fuel with
 | zero =>
  intro listed tmps w β fr hsz hD hc L R hf hQ
  have ha:∀ i,i < ops.size→listed.getD i false=true:=by
   intro i hi
   have h0:=List.countP_eq_zero.1 (Nat.le_zero.1 hc)
   have hi':i < listed.size:=by omega
   have:=h0 listed[i] (by simp)
   rw [Array.getD_eq_getD_getElem?, Array.getElem?_eq_getElem hi']
   simpa using this
  obtain ⟨f1,f2⟩:=fin listed hsz ha
  rw [f2] at L hQ
  rw [f1] at R
  refine ⟨?_, ?_⟩
  ·rw [List.eq_nil_iff_forall_not_mem]
   intro i hi
   obtain ⟨o,ho,h1,_⟩:=(mem_ready hsz).1 hi
   rw [ha i (Array.getElem?_eq_some_iff.1 ho).1] at h1; cases h1
  ·exact hQ tmps w β fr L R (Step1.refl _ _ _ _)
 | succ fuel ih =>
  intro listed tmps w β fr hsz hD hc L R hf hQ
  refine ⟨fun hr=>?_,fun i hi=>?_⟩
  ·have ha:=all_listed hok hsz hr
   obtain ⟨f1,f2⟩:=fin listed hsz ha
   rw [f2] at L hQ
   rw [f1] at R
   exact hQ tmps w β fr L R (Step1.refl _ _ _ _)
  ·obtain ⟨o,ho,h1,h2'⟩:=(mem_ready hsz).1 hi
   have hin:=(Array.getElem?_eq_some_iff.1 ho).1
   have hoL:ops.toList[i]? = some o:=by rw [Array.getElem?_toList]; exact ho
   have hT:∀ j,j < ops.size→(listed.setIfInBounds i true).getD j false=(listed.getD j false || j==i):=by
    intro j hj
    rw [Array.getD_eq_getD_getElem?, Array.getD_eq_getD_getElem?]
    by_cases e:i=j
    ·subst e
     rw [Array.getElem?_setIfInBounds_self_of_lt (by omega)]; simp
    ·rw [Array.getElem?_setIfInBounds_ne e]
     have:(j==i)=false:=by simp; omega
     rw [this,Bool.or_false]
   have hT2:∀ j,(listed.setIfInBounds i true).getD j false=true→listed.getD j false=true∨j=i:=by
    intro j hj
    by_cases q:j < ops.size
    ·rw [hT j q] at hj; simpa using hj
    ·rw [Array.getD_eq_getD_getElem?, Array.getElem?_eq_none (by simp; omega)] at hj; simp at hj
   have hT3:∀ j,listed.getD j false=true→(listed.setIfInBounds i true).getD j false=true:=by
    intro j hj
    by_cases q:j < ops.size
    ·rw [hT j q,hj]; rfl
    ·rw [Array.getD_eq_getD_getElem?, Array.getElem?_eq_none (by omega)] at hj; simp at hj
   have hsti:=hst i o hoL
   -- who else touches a tag of this one is on the right side
   have side:∀ t j,j < ops.size→(t∈D.RD i∨t∈D.WR i)→hits D.E h j t→(j < i→listed.getD j false=true)∧(i < j→listed.getD j false=false):=by
    intro t j hj ht hh
    have hjL:ops.toList[j]? = some ops[j]:=by rw [Array.getElem?_toList]; exact Array.getElem?_eq_getElem hj
    have hw:=(istep_hits (hst j _ hjL) hh).1
    refine ⟨fun hlt=>?_,fun hlt=>?_⟩
    ·rcases hcl j i hlt hin with q | ⟨q1,q2⟩
     ·exact anc_good ops.toList i o hoL j q (fun j=>listed.getD j false) hD h2'
     ·exfalso
      rcases ht with ht | ht
      ·exact (q1 t hw).1 ht
      ·exact (q1 t hw).2 ht
    ·rcases hcl i j hlt hj with q | ⟨q1,q2⟩
     ·cases e:listed.getD j false with
      | false=>rfl
      | true =>
       exfalso
       have:=anc_good ops.toList j _ hjL i q (fun j=>listed.getD j false) hD (fun k hk=>hD j _ hjL e k hk)
       rw [h1] at this; cases this
     ·exfalso
      rcases ht with ht | ht
      ·exact q2 t hw ht
      ·exact (q1 t ht).2 hw
   have now:∀ t,(t∈D.RD i∨t∈D.WR i)→(memX D.E h M (fun j=>listed.getD j false) ops.size)[t]? = (memX D.E h M (fun _=>true) i)[t]? := by
    intro t ht
    rw [memX_none ops.size i (by omega) fun j h3 h4 hh=>?_]
    ·exact memX_congr hMh i fun j h3 hh=>(side t j (by omega) ht hh).1 h3
    ·by_cases e:j=i
     ·subst e; exact h1
     ·exact (side t j h4 ht hh).2 (by omega)
   have agree:Agree (D.RD i) (memT D.E h i) (memX D.E h M (fun j=>listed.getD j false) ops.size):=by
    intro t ht ob hob
    rw [now t (.inl ht),hall i (by omega),List.getElem?_append_left (List.getElem?_eq_some_iff.1 hob).1]
    exact hob
   have upd:memX D.E h M (fun j=>(listed.setIfInBounds i true).getD j false) ops.size=(D.E i).upd (slot D.E h i) (memX D.E h M (fun j=>listed.getD j false) ops.size):=by
    apply List.ext_getElem?
    intro t
    by_cases hh:hits D.E h i t
    ·obtain ⟨hw,hrw⟩:=istep_hits hsti hh
     rw [memX_none ops.size (i+1) (by omega) fun j h3 h4 hj=>?_]
     ·simp only [memX]
      rw [if_pos (by rw [hT i hin]; simp)]
      exact upd_hit hh (by rw [memX_len hMh,memX_len hMh])
     ·rw [hT j h4,(side t j h4 (.inr hw) hj).2 (by omega)]
      simp; omega
    ·rw [upd_miss _ hh]
     refine memX_congr hMh _ fun j hj hj2=>?_
     rw [hT j hj]
     have:j≠i:=fun e=>by subst e; exact hh hj2
     simp [this]
   have go : ∀ v w' β' fr', Lay β' fr' w'.heap (memX D.E h M (fun j => (listed.setIfInBounds i true).getD j false) ops.size) → Rep β' fr' w'.heap (D.xs i) v → Step1 β fr (memX D.E h M (fun j => listed.getD j false) ops.size) w β' fr' (memX D.E h M (fun j => (listed.setIfInBounds i true).getD j false) ops.size) w' →
     (∀ t g,h.length≤t→(memX D.E h M (fun j=>(listed.setIfInBounds i true).getD j false) ops.size)[t]? = some .dead→β' t g=none)→wpAnyIn (roF ro) 0 P .any ops Q fuel (listed.setIfInBounds i true) ((⟨tmps,dfs⟩:Act).put o.dst v) w':=by
    intro v w' β' fr' L' R' S' hf'
    rw [put_act]
    refine ih (listed.setIfInBounds i true) _ w' β' fr' (by simp [hsz]) ?_ ?_ L' ?_ hf' fun t2 w2 β2 fr2 L2 R2 S2=>hQ t2 w2 β2 fr2 L2 R2 (S'.trans S2)
    ·intro j oj hj hSj k hk
     rcases hT2 j hSj with q | q
     ·exact hT3 k (hD j oj hj q k hk)
     ·subst q
      rw [hoL] at hj; injection hj with hj; subst hj
      exact hT3 k (h2' k hk)
    ·rw [Array.toList_setIfInBounds,List.countP_set (by simpa using (by omega:i < listed.size))]
     have hli:listed.toList[i]'(by simpa using (by omega:i < listed.size))=false:=by
      rw [Array.getD_eq_getD_getElem?, Array.getElem?_eq_getElem (by omega)] at h1
      simpa using h1
     rw [hli]
     have:0 < listed.toList.countP (·==false):=List.countP_pos_iff.2 ⟨false,by rw [← hli]; exact List.getElem_mem _,rfl⟩
     rw [show (false==false)=true from rfl,show (true==false)=false from rfl,if_pos rfl,if_neg (by simp)]
     omega
    ·rw [mix_step (S:=fun j=>listed.getD j false) (T:=fun j=>(listed.setIfInBounds i true).getD j false) hok hin h1 hT]
     have hd:dstAt ops.toList i=o.dst:=by simp [dstAt,ho]
     rw [hd]
     exact (R.ext S'.ext).put R' o.dst
   have hsees:=sees_mix hok ho hD h2' h1 R
   generalize hmx:memX D.E h M (fun j=>listed.getD j false) ops.size=mx at *
   rw [upd] at go
   have free2:∀ (β':Beta) (mx':List AObj),(∀ t:Nat,mx'[t]? = some AObj.dead→mx[t]? = some AObj.dead)→(∀ (t g:Nat) r,β' t g=some r→β t g=some r∨∃ o,mx'[t]? = some o∧o≠AObj.dead)→∀ (t g:Nat),h.length≤t→mx'[t]? = some AObj.dead→β' t g=none:=by
    intro β' mx' hdd hJ t g hl hd
    cases e:β' t g with
    | none=>rfl
    | some r =>
     rcases hJ t g r e with q | ⟨o',q1,q2⟩
     ·rw [hf t g hl (hdd t hd)] at q; cases q
     ·rw [hd] at q1; injection q1 with q1; exact absurd q1.symm q2
   rcases hsti with ⟨e,hq⟩ | ⟨hg,e,hq⟩ | ⟨y,ob,hg,e,hx,hgen,hwr,hq⟩ | ⟨t,ob,hg,e,hl,hnd,hrd,hwr,hq⟩
   ·rw [e] at go
    exact hq mx agree tmps w β fr _ _ _ _ ho L hsees fun v w' fr' L' R' S'=>go v w' β fr' L' R' S' hf
   ·rw [e] at go
    exact opks_run ho hg (hq mx agree) L hsees fun v w' β' fr' L' R' S' J=>go v w' β' fr' L' R' S' (free2 β' mx (fun _ q=>q) J)
   ·rw [e] at go
    have hsl:slot D.E h i < M:=by
     have:=memT_mono D.E h (show i+1≤ops.size from hin)
     rw [← hM] at this
     have h3:(memT D.E h (i+1)).length=slot D.E h i+1:=by simp [memT,e,Eff.seq,slot]
     omega
    have hdead:mx[slot D.E h i]? = some .dead:=by
     rw [now _ (.inr hwr),hall i (by omega),List.getElem?_append_right (by simp [slot]),List.getElem?_replicate,if_pos (by simp only [slot] at hsl ⊢; omega)]
    have hfree:∀ g,β (slot D.E h i) g=none:=fun g=>hf _ g (memT_mono D.E h (Nat.zero_le i)) hdead
    refine newb_run ho hg (hq mx agree) hgen hdead hfree L hsees fun v w' β' fr' L' R' S' J=>go v w' β' fr' L' (by rw [hx]; exact R') S' (free2 β' _ (fun t q=>?_) J)
    by_cases e2:t=slot D.E h i
    ·subst e2; exact hdead
    ·rw [Eff.upd,List.getElem?_set_ne (fun q=>e2 q.symm)] at q; exact q
   ·rw [e] at go
    refine opks_run ho hg (hq mx agree) L hsees fun v w' β' fr' L' R' S' J=>go v w' β' fr' L' R' S' (free2 β' _ (fun t' q=>?_) J)
    by_cases e2:t'=t
    ·subst e2
     rw [Eff.upd,List.getElem?_set_self'] at q
     exfalso
     cases hmt:mx[t']? with
     | none=>rw [hmt] at q; cases q
     | some z=>rw [hmt] at q; injection q with q; exact hnd q
    ·rw [Eff.upd,List.getElem?_set_ne (fun q=>e2 q.symm)] at q; exact q
end Go.Proofs.Vale
namespace Go.Proofs.Vale
structure Rec where
 i:Nat
 rd:List Nat
 wr:List Nat
def recC (i:Nat) (rd wr:List Nat) (acc:List Rec):List Rec :=
 match rd,wr with
 | [],[]=>acc
 | _,_=>⟨i,rd,wr⟩::acc
def wrs (op:Op) (ev:Operand→AV) (m m':List AObj):List Nat:=wrOf op ev++(bif decide (m.length < m'.length) then [m.length] else [])
def dmL (P:Program):List (Option Nat)→List Oper→List AV→List AObj→List Rec→(List AV→List AObj→List Rec→Prop)→Prop
 | _,[],env,m,acc,K=>K env m acc
 | ds,o::os,env,m,acc,K =>
  match o.guard with
  | none =>
   (match pop P o.op (evA env) m with
   | some (p,x)=>p∧dmL P (o.dst::ds) os (putA env o.dst x) m (recC ds.length (rdOf o.op (evA env)) [] acc) K
   | none =>
    if isMem o.op=true then aop P o.op (evA env) m fun x m'=>dmL P (o.dst::ds) os (putA env o.dst x) m' (recC ds.length (rdOf o.op (evA env)) (wrs o.op (evA env) m m') acc) K
    else ∃ x,(x.low 0=true∧∀ mm,aop P o.op (evA env) mm fun y _=>y=x)∧dmL P (o.dst::ds) os (putA env o.dst x) m acc K)
  | some (j,want) =>
   (match gdA (gv env ds j) want with
   | none=>False
   | some gd =>
    match popG P o.op (evA env) m with
    | some (p,x)=>(gd=true→p)∧dmL P (o.dst::ds) os (putA env o.dst (.opt gd x)) m (recC ds.length (rdOf o.op fun x=>(evA env x).strip) [] acc) K
    | none=>∃ x,((gd=true→x.low 0=true∧∀ mm,aop P o.op (fun y=>(evA env y).stripT) mm fun y _=>y=x)∧(gd=false→x=.tup []))∧dmL P (o.dst::ds) os (putA env o.dst x) m acc K)
theorem recC_mem (i:Nat) (rd wr:List Nat) (acc:List Rec):(rd=[]∧wr=[])∨(⟨i,rd,wr⟩:Rec)∈recC i rd wr acc:=by
 cases rd <;> cases wr <;> simp [recC]
theorem recC_sub (i:Nat) (rd wr:List Nat) (acc:List Rec):∀ r∈acc,r∈recC i rd wr acc:=by
 cases rd <;> cases wr <;> simp_all [recC]
theorem recC_fall {i:Nat} {rd wr:List Nat} {acc:List Rec} (h:acc.Pairwise fun s r=>r.i < s.i) (hl:∀ r∈acc,r.i < i):(recC i rd wr acc).Pairwise (fun s r=>r.i < s.i)∧∀ r∈recC i rd wr acc,r.i < i+1:=by
 have hl2:∀ r∈acc,r.i < i+1:=fun r hr=>Nat.lt_succ_of_lt (hl r hr)
 cases rd <;> cases wr <;> simp only [recC]
 ·exact ⟨h,hl2⟩
 all_goals
  refine ⟨List.pairwise_cons.2 ⟨hl,h⟩,fun r hr=>?_⟩
  rcases List.mem_cons.1 hr with rfl | hr
  ·exact Nat.lt_succ_self _
  ·exact hl2 r hr
theorem memT_congr {E E':Nat→Eff} {h:List AObj}:∀ k,(∀ j,j < k→E j=E' j)→memT E h k=memT E' h k
 | 0,_=>rfl
 | k+1,hc=>by simp only [memT]; rw [memT_congr k fun j hj=>hc j (by omega),hc k (by omega)]
theorem IStep.congr {P:Program} {ops:Array Oper} {h:List AObj} {env:List AV} {D D':DD} {i:Nat} {o:Oper} (hx:∀ k,k≤i→D.xs k=D'.xs k) (hE:∀ k,k≤i→D.E k=D'.E k) (hR:D.RD i=D'.RD i) (hW:D.WR i=D'.WR i) (s:IStep P ops h env D i o):IStep P ops h env D' i o:=by
 have e1:mix ops.toList D'.xs (fun _=>true) env i=mix ops.toList D.xs (fun _=>true) env i:=mix_congr i fun k hk=>⟨rfl,(hx k (by omega)).symm⟩
 have e2:memT D'.E h i=memT D.E h i:=memT_congr i fun k hk=>(hE k (by omega)).symm
 unfold IStep at s ⊢
 simp only [slot] at s ⊢
 rw [e1,e2,← hx i (Nat.le_refl _),← hE i (Nat.le_refl _),← hR,← hW]
 exact s
def DD.at (D:DD) (i:Nat) (x:AV) (e:Eff) (rd wr:List Nat):DD:=⟨fun k=>if k=i then x else D.xs k,fun k=>if k=i then e else D.E k,fun k=>if k=i then rd else D.RD k,fun k=>if k=i then wr else D.WR k⟩
theorem dmL_spec {P : Program} {ops : Array Oper} {env : List AV} {h : List AObj} {K : List AV → List AObj → List Rec → Prop} : ∀ (rest done : List Oper) (D : DD) (acc : List Rec), ops.toList = done ++ rest →
  (∀ i o,i < done.length→ops.toList[i]? = some o→IStep P ops h env D i o) →
  (∀ i,i < done.length→(D.RD i=[]∧D.WR i=[])∨(⟨i,D.RD i,D.WR i⟩:Rec)∈acc) →
  (acc.Pairwise fun s r=>r.i < s.i)→(∀ r∈acc,r.i < done.length) →
  dmL P ((done.map (·.dst)).reverse) rest (mix ops.toList D.xs (fun _=>true) env done.length) (memT D.E h done.length) acc K →
  ∃ (D:DD) (acc:List Rec),(∀ i o,ops.toList[i]? = some o→IStep P ops h env D i o)∧(∀ i,i < ops.size→(D.RD i=[]∧D.WR i=[])∨(⟨i,D.RD i,D.WR i⟩:Rec)∈acc)∧(acc.Pairwise fun s r=>r.i < s.i)∧K (mix ops.toList D.xs (fun _=>true) env ops.size) (memT D.E h ops.size) acc
 | [],done,D,acc,he,hi,hr,hp,hl,hd=>by
  simp only [List.append_nil] at he
  subst he
  simp only [dmL] at hd
  have hsz:ops.toList.length=ops.size:=by simp
  rw [hsz] at hd hr
  exact ⟨D,acc,fun i o ho=>hi i o (List.getElem?_eq_some_iff.1 ho).1 ho,hr,hp,hd⟩
 | o::rest,done,D,acc,he,hi,hr,hp,hl,hd=>by
  have ho:ops.toList[done.length]? = some o:=by rw [he,List.getElem?_append_right (Nat.le_refl _)]; simp
  have htk:ops.toList.take done.length=done:=by rw [he]; simp
  have hdl:((done.map (·.dst)).reverse).length=done.length:=by simp
  -- the step,once it is known
  have step : ∀ (x : AV) (e : Eff) (rd wr : List Nat) (acc' : List Rec), IStep P ops h env (D.at done.length x e rd wr) done.length o → ((rd = [] ∧ wr = []) ∨ (⟨done.length, rd, wr⟩ : Rec) ∈ acc') → (∀ r ∈ acc, r ∈ acc') → (acc'.Pairwise fun s r => r.i < s.i) → (∀ r ∈ acc', r.i < done.length + 1) →
    dmL P (o.dst::(done.map (·.dst)).reverse) rest (putA (mix ops.toList D.xs (fun _=>true) env done.length) o.dst x) (e.seq (memT D.E h done.length)) acc' K →
    ∃ (D:DD) (acc:List Rec),(∀ i o,ops.toList[i]? = some o→IStep P ops h env D i o)∧(∀ i,i < ops.size→(D.RD i=[]∧D.WR i=[])∨(⟨i,D.RD i,D.WR i⟩:Rec)∈acc)∧(acc.Pairwise fun s r=>r.i < s.i)∧K (mix ops.toList D.xs (fun _=>true) env ops.size) (memT D.E h ops.size) acc:=by
   intro x e rd wr acc' hs hm hsub hp' hl' hd'
   have hne:∀ i,i < done.length→i≠done.length:=fun i hi=>by omega
   refine dmL_spec rest (done++[o]) (D.at done.length x e rd wr) acc' (by rw [he]; simp) ?_ ?_ hp' (by simpa using hl') ?_
   ·intro i o' hi' ho'
    simp only [List.length_append,List.length_cons,List.length_nil] at hi'
    by_cases q:i=done.length
    ·subst q
     rw [ho] at ho'; injection ho' with ho'; subst ho'
     exact hs
    ·refine (hi i o' (by omega) ho').congr (fun k hk=>?_) (fun k hk=>?_) ?_ ?_
     all_goals simp only [DD.at]; rw [if_neg (by omega)]
   ·intro i hi'
    simp only [List.length_append,List.length_cons,List.length_nil] at hi'
    by_cases q:i=done.length
    ·subst q
     simp only [DD.at,if_true]
     exact hm
    ·simp only [DD.at,if_neg q]
     rcases hr i (by omega) with a | a
     ·exact .inl a
     ·exact .inr (hsub _ a)
   ·have e1:mix ops.toList (D.at done.length x e rd wr).xs (fun _=>true) env done.length=mix ops.toList D.xs (fun _=>true) env done.length:=mix_congr _ fun k hk=>⟨rfl,by simp only [DD.at]; rw [if_neg (by omega)]⟩
    have e2:memT (D.at done.length x e rd wr).E h done.length=memT D.E h done.length:=memT_congr _ fun k hk=>by simp only [DD.at]; rw [if_neg (by omega)]
    have e3:(D.at done.length x e rd wr).xs done.length=x:=by simp [DD.at]
    have e4:(D.at done.length x e rd wr).E done.length=e:=by simp [DD.at]
    simp only [List.length_append,List.length_cons,List.length_nil,Nat.zero_add,mix,if_true,memT,e1,e2,e3,e4]
    have e5:dstAt ops.toList done.length=o.dst:=by simp [dstAt,ho]
    rw [e5]
    simpa using hd'
  have e1:∀ x e rd wr,mix ops.toList (D.at done.length x e rd wr).xs (fun _=>true) env done.length=mix ops.toList D.xs (fun _=>true) env done.length:=fun x e rd wr=>mix_congr _ fun k hk=>⟨rfl,by simp only [DD.at]; rw [if_neg (by omega)]⟩
  have e2:∀ x e rd wr,memT (D.at done.length x e rd wr).E h done.length=memT D.E h done.length:=fun x e rd wr=>memT_congr _ fun k hk=>by simp only [DD.at]; rw [if_neg (by omega)]
  have e3:∀ x e rd wr,(D.at done.length x e rd wr).xs done.length=x:=fun x e rd wr=>by simp [DD.at]
  have e4:∀ x e rd wr,(D.at done.length x e rd wr).E done.length=e:=fun x e rd wr=>by simp [DD.at]
  have e5:∀ x e rd wr,(D.at done.length x e rd wr).RD done.length=rd:=fun x e rd wr=>by simp [DD.at]
  have e6:∀ x e rd wr,(D.at done.length x e rd wr).WR done.length=wr:=fun x e rd wr=>by simp [DD.at]
  have quiet : ∀ (x : AV) (rd : List Nat), (∀ m2, Agree rd (memT D.E h done.length) m2 → QRun P ops done.length o (mix ops.toList D.xs (fun _ => true) env done.length) m2 x) →
    dmL P (o.dst::(done.map (·.dst)).reverse) rest (putA (mix ops.toList D.xs (fun _=>true) env done.length) o.dst x) (memT D.E h done.length) (recC done.length rd [] acc) K →
    ∃ (D:DD) (acc:List Rec),(∀ i o,ops.toList[i]? = some o→IStep P ops h env D i o)∧(∀ i,i < ops.size→(D.RD i=[]∧D.WR i=[])∨(⟨i,D.RD i,D.WR i⟩:Rec)∈acc)∧(acc.Pairwise fun s r=>r.i < s.i)∧K (mix ops.toList D.xs (fun _=>true) env ops.size) (memT D.E h ops.size) acc:=by
   intro x rd hq hd'
   obtain ⟨p1,p2⟩:=recC_fall (i:=done.length) (rd:=rd) (wr:=[]) hp hl
   refine step x .q rd [] _ (.inl ⟨e4 _ _ _ _, ?_⟩) (recC_mem _ _ _ _) (recC_sub _ _ _ _) p1 p2 hd'
   rw [e1,e2,e3,e5]; exact hq
  simp only [dmL] at hd
  cases hg:o.guard with
  | none =>
   rw [hg] at hd
   simp only at hd
   cases hpp:pop P o.op (evA (mix ops.toList D.xs (fun _=>true) env done.length)) (memT D.E h done.length) with
   | some q =>
    obtain ⟨p,x⟩:=q
    rw [hpp] at hd
    simp only [hdl] at hd
    exact quiet x _ (fun m2 ha=>qrun_pop hg (pop_agree ha hpp) hd.1) hd.2
   | none =>
    rw [hpp] at hd
    simp only at hd
    by_cases hmem:isMem o.op=true
    ·rw [if_pos hmem] at hd
     simp only [hdl] at hd
     rcases aop_mem hmem hd with ⟨y,ob,hK,hgen,hB⟩ | ⟨x,hK,hB⟩ | ⟨t,x,ob,ob0,ht,hrd,hwr,hnd,hK,hB⟩
     ·obtain ⟨p1,p2⟩:=recC_fall (i:=done.length) (rd:=rdOf o.op (evA (mix ops.toList D.xs (fun _=>true) env done.length))) (wr:=wrs o.op (evA (mix ops.toList D.xs (fun _=>true) env done.length)) (memT D.E h done.length) (memT D.E h done.length++[ob])) hp hl
      refine step _ (.a ob) _ _ _ (.inr (.inr (.inl ⟨y,ob,hg,e4 _ _ _ _, ?_,hgen, ?_, ?_⟩))) (recC_mem _ _ _ _) (recC_sub _ _ _ _) p1 p2 hK
      ·rw [e3]; simp only [slot]; rw [e2]
      ·simp only [slot]; rw [e2,e6]; simp [wrs]
      ·rw [e1,e2,e5]; exact hB
     ·obtain ⟨p1,p2⟩:=recC_fall (i:=done.length) (rd:=rdOf o.op (evA (mix ops.toList D.xs (fun _=>true) env done.length))) (wr:=wrs o.op (evA (mix ops.toList D.xs (fun _=>true) env done.length)) (memT D.E h done.length) (memT D.E h done.length)) hp hl
      refine step x .q _ _ _ (.inr (.inl ⟨hg,e4 _ _ _ _, ?_⟩)) (recC_mem _ _ _ _) (recC_sub _ _ _ _) p1 p2 hK
      rw [e1,e2,e3,e5]; exact hB
     ·obtain ⟨p1,p2⟩:=recC_fall (i:=done.length) (rd:=rdOf o.op (evA (mix ops.toList D.xs (fun _=>true) env done.length))) (wr:=wrs o.op (evA (mix ops.toList D.xs (fun _=>true) env done.length)) (memT D.E h done.length) ((memT D.E h done.length).set t ob)) hp hl
      refine step x (.w t ob) _ _ _ (.inr (.inr (.inr ⟨t,ob,hg,e4 _ _ _ _, ?_,hnd, ?_, ?_, ?_⟩))) (recC_mem _ _ _ _) (recC_sub _ _ _ _) p1 p2 hK
      ·rw [e2]; exact (List.getElem?_eq_some_iff.1 ht).1
      ·rw [e5]; exact hrd
      ·rw [e6]; simp only [wrs]; exact List.mem_append_left _ hwr
      ·rw [e1,e2,e3,e5]; exact hB
    ·rw [if_neg hmem] at hd
     obtain ⟨x,⟨hf,hq⟩,hd⟩:=hd
     exact quiet x [] (fun m2 _=>qrun_call hg hf (hq _)) hd
  | some jw =>
   obtain ⟨j,want⟩:=jw
   rw [hg] at hd
   simp only at hd
   cases hgd:gdA (gv (mix ops.toList D.xs (fun _=>true) env done.length) ((done.map (·.dst)).reverse) j) want with
   | none=>rw [hgd] at hd; exact hd.elim
   | some gd =>
    rw [hgd] at hd
    simp only at hd
    have hgd':gdA (gv (mix ops.toList D.xs (fun _=>true) env done.length) ((ops.toList.take done.length).map (·.dst)).reverse j) want=some gd:=by rw [htk]; exact hgd
    cases hpp:popG P o.op (evA (mix ops.toList D.xs (fun _=>true) env done.length)) (memT D.E h done.length) with
    | some q =>
     obtain ⟨p,x⟩:=q
     rw [hpp] at hd
     simp only [hdl] at hd
     exact quiet _ _ (fun m2 ha=>qrun_popG hg hgd' (popG_agree ha hpp) hd.1) hd.2
    | none =>
     rw [hpp] at hd
     obtain ⟨x,⟨h1,h0⟩,hd⟩:=hd
     exact quiet x [] (fun m2 _=>qrun_callG hg hgd' (fun q=>⟨(h1 q).1,(h1 q).2 _⟩) h0) hd
def okAcc (A:List (Nat × Nat)) (acc:List Rec):Prop:=acc.Pairwise fun s r=>A.contains (s.i,r.i)=true∨((∀ t∈r.wr,t ∉ s.rd∧t ∉ s.wr)∧∀ t∈s.wr,t ∉ r.rd)
def okAnc (ops:Array Oper) (A:List (Nat × Nat)):Bool:=let L:=ancL ops.toList []; A.all fun p=>(L.getD p.1 []).contains p.2
theorem ADraw.mem {P : Program} {ops : Array Oper} {K : List AV → List AObj → Prop} {env : List AV} {h : List AObj} (A : List (Nat × Nat)) (hm : P.follows .mixedOrders = true) (hok : okDraw ops = true) (hA : okAnc ops A = true)
  (hd:dmL P [] ops.toList env h [] fun e m acc=>okAcc A acc∧K e m):ADraw P ops K env h:=by
 intro id n0 ro dfs tmps w β fr Su L R
 obtain ⟨D,acc,hi,hr,hfall,hacc,hK⟩:=dmL_spec (P:=P) (ops:=ops) (env:=env) (h:=h) ops.toList [] ⟨fun _=>.any,fun _=>.q,fun _=>[],fun _=>[]⟩ [] rfl (fun i o q=>by simp at q) (fun i q=>by simp at q) List.Pairwise.nil (fun r q=>by cases q) hd
 have hpair:∀ r∈acc,∀ s∈acc,r.i < s.i→A.contains (s.i,r.i)=true∨((∀ t∈r.wr,t ∉ s.rd∧t ∉ s.wr)∧∀ t∈s.wr,t ∉ r.rd):=by
  intro r hr s hs hlt
  obtain ⟨a,ha,rfl⟩:=List.getElem_of_mem hs
  obtain ⟨b,hb,rfl⟩:=List.getElem_of_mem hr
  rcases Nat.lt_trichotomy a b with q | q | q
  ·exact List.pairwise_iff_getElem.1 hacc a b ha hb q
  ·subst q; omega
  ·have:=List.pairwise_iff_getElem.1 hfall b a hb ha q; omega
 have hcl:∀ i j,i < j→j < ops.size→i∈(ancL ops.toList []).getD j []∨((∀ t∈D.WR i,t ∉ D.RD j∧t ∉ D.WR j)∧∀ t∈D.WR j,t ∉ D.RD i):=by
  intro i j hij hj
  rcases hr i (by omega) with ⟨a1,a2⟩ | a
  ·right; rw [a1,a2]; simp
  ·rcases hr j hj with ⟨b1,b2⟩ | b
   ·right; rw [b1,b2]; simp
   ·rcases hpair _ a _ b hij with q | q
    ·left
     have h1:=List.all_eq_true.1 hA _ (List.contains_iff_mem.1 q)
     simpa using h1
    ·exact .inr q
 refine wpIn_region_any hm ?_
 obtain ⟨L2,S2⟩:=(show Lay β fr ({ w with drawn:=w.drawn+1 }:World).heap h from L).keep (w:={ w with drawn:=w.drawn+1 }) ((memT D.E h ops.size).length - h.length)
 have hx0:∀ k,memX D.E h (memT D.E h ops.size).length (fun j=>(Array.replicate ops.size false).getD j false) k=h++List.replicate ((memT D.E h ops.size).length - h.length) AObj.dead:=by
  intro k
  induction k with
  | zero=>rfl
  | succ k ih =>
   simp only [memX]
   rw [if_neg (by
    rw [Array.getD_eq_getD_getElem?]
    by_cases q:k < ops.size
    ·rw [Array.getElem?_eq_getElem (by simpa using q)]; simp
    ·rw [Array.getElem?_eq_none (by simp; omega)]; simp)]
   exact ih
 refine wpAny_mem (D:=D) (env:=env) (h:=h) hok rfl hi hcl ops.size (Array.replicate ops.size false) tmps { w with drawn:=w.drawn+1 } β fr (by simp) ?_ (by have:=List.countP_le_length (p:=(·==false)) (l:=(Array.replicate ops.size false).toList); simpa using this) ?_ ?_ ?_ ?_
 ·intro i o ho hS
  simp only at hS
  rw [Array.getD_eq_getD_getElem?] at hS
  by_cases q:i < ops.size
  ·rw [Array.getElem?_eq_getElem (by simpa using q)] at hS; simp at hS
  ·rw [Array.getElem?_eq_none (by simp; omega)] at hS; simp at hS
 ·rw [hx0]; exact L2
 ·have:mix ops.toList D.xs (fun j=>(Array.replicate ops.size false).getD j false) env ops.size=env:=by
   have h0:∀ k,mix ops.toList D.xs (fun j=>(Array.replicate ops.size false).getD j false) env k=env:=by
    intro k
    induction k with
    | zero=>rfl
    | succ k ih =>
     simp only [mix]
     rw [if_neg (by
      intro hS
      try simp only at hS
      rw [Array.getD_eq_getD_getElem?] at hS
      by_cases q:k < ops.size
      ·rw [Array.getElem?_eq_getElem (by simpa using q)] at hS; simp at hS
      ·rw [Array.getElem?_eq_none (by simp; omega)] at hS; simp at hS)]
     exact ih
   exact h0 _
  rw [this]; exact R
 ·intro t g hl hdead
  cases e:β t g with
  | none=>rfl
  | some r=>have:=L.dom t g r e; omega
 ·intro tmps' w' β' fr' L' R' S'
  rw [hx0] at S'
  have SS:=(Step1.drawn (w:=w) (w':={ w with drawn:=w.drawn+1 }) rfl rfl rfl rfl).trans (S2.trans S')
  exact ⟨_,_,β',fr',hK,Su.step SS,L',R',SS⟩
theorem ADrawT.mem {P : Program} {ops : Array Oper} {K : List AV → List AObj → Prop} {s : Tag ops} {t : Tag K} {env : List AV} {h : List AObj} (A : List (Nat × Nat)) (hm : P.follows .mixedOrders = true) (hok : okDraw ops = true) (hA : okAnc ops A = true)
  (hd:dmL P [] ops.toList env h [] fun e m acc=>okAcc A acc∧K e m):ADrawT P ops K s t env h:=ADraw.mem A hm hok hA hd
def dmT (P:Program) (ds:List (Option Nat)) (os:List Oper) (env:List AV) (m:List AObj) (acc:List Rec) (K:List AV→List AObj→List Rec→Prop) (_:Tag ds) (_:Tag os) (_:Tag K):Prop:=dmL P ds os env m acc K
@[go_sem ↓] theorem dmL_nil (P:Program) (ds:List (Option Nat)) (env:List AV) (m:List AObj) (acc:List Rec) (K:List AV→List AObj→List Rec→Prop):dmL P ds [] env m acc K=K env m acc:=nrfl rfl
@[go_sem ↓] theorem dmL_cons (P:Program) (ds:List (Option Nat)) (o:Oper) (os:List Oper) (env:List AV) (m:List AObj) (acc:List Rec) (K:List AV→List AObj→List Rec→Prop):dmL P ds (o::os) env m acc K=dmT P ds (o::os) env m acc K ⟨⟩ ⟨⟩ ⟨⟩:=nrfl rfl
def dmQ (r:PV) (c:Bool) (A:AV→Prop) (B:Prop) (K KC:AV→Prop) (_:Tag A) (_:Tag B) (_:Tag K) (_:Tag KC):Prop :=
 match r with
 | some (p,x)=>p∧K x
 | none=>if c=true then B else doX A KC ⟨⟩ ⟨⟩
@[go_sem] theorem dmQ_some (p:Prop) (x:AV) (c:Bool) (A:AV→Prop) (B:Prop) (K KC:AV→Prop) (s1:Tag A) (s2:Tag B) (s3:Tag K) (s4:Tag KC):dmQ (some (p,x)) c A B K KC s1 s2 s3 s4=(p∧K x):=nrfl rfl
@[go_sem] theorem dmQ_mem (A:AV→Prop) (B:Prop) (K KC:AV→Prop) (s1:Tag A) (s2:Tag B) (s3:Tag K) (s4:Tag KC):dmQ none true A B K KC s1 s2 s3 s4=B:=by simp [dmQ]
@[go_sem] theorem dmQ_call (A:AV→Prop) (B:Prop) (K KC:AV→Prop) (s1:Tag A) (s2:Tag B) (s3:Tag K) (s4:Tag KC):dmQ none false A B K KC s1 s2 s3 s4=doX A KC ⟨⟩ ⟨⟩:=by simp [dmQ]
@[go_sem] theorem dmT_plain (P : Program) (ds : List (Option Nat)) (dst : Option Nat) (op : Op) (ty : TypeId) (pos : String) (after : Array Edge) (os : List Oper) (env : List AV) (m : List AObj) (acc : List Rec) (K : List AV → List AObj → List Rec → Prop) : ∀ t1 t2 t3,
  dmT P ds (⟨dst,op,ty,pos,after,none⟩::os) env m acc K t1 t2 t3=dmQ (pop P op (evA env) m) (isMem op) (fun x=>x.low 0=true∧∀ mm,aop P op (evA env) mm fun y _=>y=x) (aop P op (evA env) m fun x m'=>dmL P (dst::ds) os (putA env dst x) m' (recC ds.length (rdOf op (evA env)) (wrs op (evA env) m m') acc) K)
   (fun x=>dmL P (dst::ds) os (putA env dst x) m (recC ds.length (rdOf op (evA env)) [] acc) K) (fun x=>dmL P (dst::ds) os (putA env dst x) m acc K) ⟨⟩ ⟨⟩ ⟨⟩ ⟨⟩:=by
 intro _ _ _
 unfold dmT
 rw [dmL]
 simp only
 cases pop P op (evA env) m with
 | some q=>rfl
 | none=>rfl
def dmH (gd:Bool) (r:PV) (A:AV→Prop) (K KC:AV→Prop) (_:Tag A) (_:Tag K) (_:Tag KC):Prop :=
 match r with
 | some (p,x)=>(gd=true→p)∧K (.opt gd x)
 | none=>(gd=true→doX A KC ⟨⟩ ⟨⟩)∧(gd=false→KC (.tup []))
@[go_sem] theorem dmH_some (gd:Bool) (p:Prop) (x:AV) (A K KC:AV→Prop) (s:Tag A) (t:Tag K) (u:Tag KC):dmH gd (some (p,x)) A K KC s t u=((gd=true→p)∧K (.opt gd x)):=nrfl rfl
@[go_sem] theorem dmH_none (gd:Bool) (A K KC:AV→Prop) (s:Tag A) (t:Tag K) (u:Tag KC):dmH gd none A K KC s t u=doHn gd A KC ⟨⟩ ⟨⟩:=nrfl rfl
@[go_sem] theorem dmT_guard (P : Program) (ds : List (Option Nat)) (dst : Option Nat) (op : Op) (ty : TypeId) (pos : String) (after : Array Edge) (j : Nat) (want : Bool) (os : List Oper) (env : List AV) (m : List AObj) (acc : List Rec) (K : List AV → List AObj → List Rec → Prop) : ∀ t1 t2 t3,
  dmT P ds (⟨dst,op,ty,pos,after,some (j,want)⟩::os) env m acc K t1 t2 t3=doGd (gdA (gv env ds j) want) (fun gd =>
   dmH gd (popG P op (evA env) m) (fun x=>x.low 0=true∧∀ mm,aop P op (fun y=>(evA env y).stripT) mm fun y _=>y=x) (fun x=>dmL P (dst::ds) os (putA env dst x) m (recC ds.length (rdOf op fun x=>(evA env x).strip) [] acc) K) (fun x=>dmL P (dst::ds) os (putA env dst x) m acc K) ⟨⟩ ⟨⟩ ⟨⟩) ⟨⟩:=by
 intro _ _ _
 unfold dmT
 rw [dmL]
 simp only
 cases gdA (gv env ds j) want with
 | none=>simp [doGd]
 | some gd =>
  simp only [doGd]
  cases popG P op (evA env) m with
  | none =>
   simp only [dmH,doX]
   apply propext
   constructor
   ·rintro ⟨x,⟨h1,h2⟩,hk⟩
    exact ⟨fun q=>⟨x,h1 q,hk⟩,fun q=>by rw [← h2 q]; exact hk⟩
   ·rintro ⟨h1,h2⟩
    cases gd with
    | true=>obtain ⟨x,a,k⟩:=h1 rfl; exact ⟨x,⟨fun _=>a,fun q=>(nomatch q)⟩,k⟩
    | false=>exact ⟨.tup [],⟨fun q=>(nomatch q),fun _=>rfl⟩,h2 rfl⟩
  | some q=>rfl
section
variable (ev:Operand→AV)
@[go_sem] theorem rdOf_move (x:Operand):rdOf (.move x) ev=[]:=nrfl rfl
@[go_sem] theorem rdOf_assign (x:Operand):rdOf (.assign x) ev=[]:=nrfl rfl
@[go_sem] theorem rdOf_pick (c a b:Operand):rdOf (.pick c a b) ev=[]:=nrfl rfl
@[go_sem] theorem rdOf_nilCheck (x:Operand):rdOf (.nilCheck x) ev=[]:=nrfl rfl
@[go_sem] theorem rdOf_binOp (op:BinOp) (t:TypeId) (x y:Operand) (u:TypeId):rdOf (.binOp op t x y u) ev=[]:=nrfl rfl
@[go_sem] theorem rdOf_unOp (op:UnOp) (t:TypeId) (x:Operand):rdOf (.unOp op t x) ev=[]:=nrfl rfl
@[go_sem] theorem rdOf_fieldAddr (s:Nat) (x:Operand) (f:Nat):rdOf (.fieldAddr s x f) ev=[]:=nrfl rfl
@[go_sem] theorem rdOf_indexAddr (t:TypeId) (x i:Operand):rdOf (.indexAddr t x i) ev=[]:=nrfl rfl
@[go_sem] theorem rdOf_extract (x:Operand) (i:Nat):rdOf (.extract x i) ev=[]:=nrfl rfl
@[go_sem] theorem rdOf_build (t:TypeId) (p:Array (Nat × Operand)):rdOf (.build t p) ev=[]:=nrfl rfl
@[go_sem] theorem rdOf_makeMap (t:TypeId):rdOf (.makeMap t none) ev=[]:=nrfl rfl
@[go_sem] theorem rdOf_box (t:TypeId) (x:Operand):rdOf (.box t x) ev=[]:=nrfl rfl
@[go_sem] theorem rdOf_load (t:TypeId) (x:Operand):rdOf (.load t x) ev=tagO (ev x):=nrfl rfl
@[go_sem] theorem rdOf_store (t:TypeId) (a x:Operand):rdOf (.store t a x) ev=tagO (ev a):=nrfl rfl
@[go_sem] theorem rdOf_len (a:Array Operand) (ts:Array TypeId):rdOf (.call ⟨.builtin .len,a,ts⟩) ev=[]:=nrfl rfl
@[go_sem] theorem wrOf_store (t:TypeId) (a x:Operand):wrOf (.store t a x) ev=tagO (ev a):=nrfl rfl
@[go_sem] theorem wrOf_makeMap (t:TypeId):wrOf (.makeMap t none) ev=[]:=nrfl rfl
@[go_sem] theorem wrOf_box (t:TypeId) (x:Operand):wrOf (.box t x) ev=[]:=nrfl rfl
@[go_sem] theorem isMem_alloc (t:TypeId):isMem (.alloc t)=true:=nrfl rfl
@[go_sem] theorem isMem_box (t:TypeId) (x:Operand):isMem (.box t x)=true:=nrfl rfl
@[go_sem] theorem isMem_buildSlice (t n:Nat) (p:Array (Nat × Operand)):isMem (.buildSlice t n p)=true:=nrfl rfl
@[go_sem] theorem isMem_makeMap (t:TypeId):isMem (.makeMap t none)=true:=nrfl rfl
@[go_sem] theorem isMem_store (t:TypeId) (a x:Operand):isMem (.store t a x)=true:=nrfl rfl
@[go_sem] theorem isMem_append (a:Array Operand) (ts:Array TypeId):isMem (.call ⟨.builtin .append,a,ts⟩)=true:=nrfl rfl
@[go_sem] theorem isMem_value (f:Operand) (a:Array Operand) (ts:Array TypeId):isMem (.call ⟨.value f,a,ts⟩)=false:=nrfl rfl
end
@[go_sem] theorem tagO_ref (t g s i j:Nat):tagO (.ref t g s i j)=[t]:=nrfl rfl
@[go_sem] theorem tagO_ptr (x:AV):tagO (.ptr x)=[]:=nrfl rfl
@[go_sem] theorem recC_nil (i:Nat) (acc:List Rec):recC i [] [] acc=acc:=nrfl rfl
@[go_sem] theorem recC_rd (i t:Nat) (l w:List Nat) (acc:List Rec):recC i (t::l) w acc=⟨i,t::l,w⟩::acc:=nrfl rfl
@[go_sem] theorem recC_wr (i t:Nat) (w:List Nat) (acc:List Rec):recC i [] (t::w) acc=⟨i,[],t::w⟩::acc:=nrfl rfl
def wrsN (a b:Nat):List Nat:=bif decide (a < b) then [a] else []
@[go_sem] theorem wrs_eq (op:Op) (ev:Operand→AV) (m m':List AObj):wrs op ev m m'=wrOf op ev++wrsN m.length m'.length:=nrfl rfl
@[go_sem] theorem wrsN_same (a:Nat):wrsN a a=[]:=by simp [wrsN]
@[go_sem] theorem wrsN_add (n k l:Nat):wrsN (n+k) (n+l)=bif decide (k < l) then [n+k] else []:=by simp [wrsN]
attribute [go_sem] List.length_set
end Go.Proofs.Vale
