/- YtplehleekabbaaaGreatDoorVO: a text of the proof of this claim, by its prover. -/
import Derived.Test.YtplehleekabbaaaGreatDoorVL
import Derived.Maps.RangeRun
import Derived.RangeFuncLeaves
set_option linter.unusedVariables false
set_option linter.unusedSimpArgs false
namespace Go.Proofs.Vale
theorem fill_row (s : Nat) : ∀ (vals : List Value) (k : Nat) (us : Array Value), (∀ v ∈ vals, v.cells.size = s) → (k + vals.length) * s ≤ us.size →
  ∃ us',Instr.fill (fun i=>some (i * s,s)) us ((vals.zipIdx k).map fun x=>(x.2,x.1))=some us'∧us'.size=us.size∧(∀ p,p < k * s→us'[p]? = us[p]?) ∧
   ∀ i (hi:i < vals.length) j,j < s→us'[(k+i) * s+j]? = (vals[i]).cells[j]?
 | [],k,us,_,_=>⟨us,rfl,rfl,fun _ _=>rfl,fun i hi=>by simp at hi⟩
 | v::vals,k,us,hv,hl=>by
  simp only [List.length_cons] at hl
  have hvs:v.cells.size=s:=hv v (by simp)
  have hks:k * s+s≤us.size:=by
   have:(k+1) * s≤(k+(vals.length+1)) * s:=Nat.mul_le_mul_right s (by omega)
   rw [Nat.add_mul] at this; omega
  let us1:=v.cells.toList.zipIdx.foldl (fun (cs:Array Value) (x:Value × Nat)=>cs.setIfInBounds (k * s+x.2) x.1) us
  have h1s:us1.size=us.size:=by
   have:∀ (l:List (Value × Nat)) (c:Array Value),(l.foldl (fun (c:Array Value) (x:Value × Nat)=>c.setIfInBounds (k * s+x.2) x.1) c).size=c.size:=by
    intro l; induction l with
    | nil=>intro c; rfl
    | cons a l ih=>intro c; rw [List.foldl_cons,ih]; simp
   exact this _ _
  have h1:∀ p,us1[p]? = if k * s+0≤p∧p < k * s+0+v.cells.toList.length∧p < us.size then v.cells.toList[p - (k * s+0)]? else us[p]? := fun p=>fold_set us (k * s) v.cells.toList 0 p
  obtain ⟨us',g1,g2,g3,g4⟩:=fill_row s vals (k+1) us1 (fun v hv'=>hv v (by simp [hv'])) (by rw [h1s]; rw [show k+1+vals.length=k+(vals.length+1) by omega]; exact hl)
  refine ⟨us', ?_,g2.trans h1s,fun p hp=>?_,fun i hi j hj=>?_⟩
  ·simp only [List.zipIdx_cons,List.map_cons,Instr.fill,hvs]
   rw [if_neg (by simp; omega),← Array.foldl_toList,Array.toList_zipIdx]
   exact g1
  ·have hp':p < (k+1) * s:=by rw [Nat.add_mul]; omega
   rw [g3 p hp',h1 p,if_neg (by omega)]
  ·cases i with
   | zero =>
    have hlt:k * s+j < (k+1) * s:=by rw [Nat.add_mul]; omega
    simp only [Nat.add_zero,List.getElem_cons_zero]
    rw [g3 _ hlt,h1,if_pos (by simp [hvs]; omega)]
    rw [show k * s+j - (k * s+0)=j by omega]; simp
   | succ i =>
    simp only [List.getElem_cons_succ]
    have:=g4 i (by simpa using hi) j hj
    rw [show k+1+i=k+(i+1) by omega] at this
    exact this
def bsK (P:Program) (t:TypeId) (n:Nat) (parts:List (Nat × AV)) (h:List AObj) (K:AV→List AObj→Prop):Prop :=
 match eI P t with
 | some (e,s,by_)=>(n * s≤16777216∧parts.map (·.1)=List.range n∧(parts.all fun x=>x.2.sure && x.2.cells.length==s)=true)∧K (.sl h.length 0 s 0 n) (h++[.arr 0 s (parts.map (·.2))])
 | none=>False
theorem bs_ok {P:Program} {o:Oper} {t:TypeId} {n:Nat} {parts:Array (Nat × Operand)} {ev:Operand→AV} {h:List AObj} {K:AV→List AObj→Prop} (ho:o.op=.buildSlice t n parts) (hk:bsK P t n (parts.toList.map fun x=>(x.1,ev x.2)) h K):OpK P o ev h K:=by
 refine OpK.of_run fun a w β fr L hr=>?_
 rw [ho] at hr
 unfold bsK at hk
 split at hk
 ·rename_i e s by_ hei
  obtain ⟨⟨hn,hp,hsz⟩,hK⟩:=hk
  obtain ⟨ht,i,z,hi,his,hib,hz,hzs⟩:=ei_full hei
  let vals:List Value:=parts.toList.map fun x=>a.eval x.2
  have hlen:parts.toList.length=n:=by
   have:=congrArg List.length hp
   simpa using this
  have hreps:∀ k (hk:k < parts.toList.length),Rep β fr w.heap (ev (parts.toList[k]).2) (a.eval (parts.toList[k]).2):=fun k hk=>by
   refine hr _ ?_
   simp [Op.operands]
   have hm:parts.toList[k]∈parts:=Array.mem_toList_iff.1 (List.getElem_mem _)
   exact ⟨_,hm⟩
  have hcr:∀ k (hk:k < parts.toList.length),CellsRep β fr w.heap (ev (parts.toList[k]).2).cells (a.eval (parts.toList[k]).2).cells∧(ev (parts.toList[k]).2).cells.length=s:=fun k hk=>by
   have:=List.all_eq_true.1 hsz (((parts.toList[k]).1,ev (parts.toList[k]).2)) (by
    simp only [List.mem_map]; exact ⟨parts.toList[k],List.getElem_mem _,rfl⟩)
   simp only [Bool.and_eq_true,beq_iff_eq] at this
   exact ⟨Rep_cells' (hreps k hk) this.1,this.2⟩
  have hvs:∀ v∈vals,v.cells.size=s:=by
   intro v hv
   obtain ⟨k,hk,rfl⟩:=List.getElem_of_mem hv
   have hk':k < parts.toList.length:=by simpa [vals] using hk
   have:=hcr k hk'
   simp only [vals,List.getElem_map]
   rw [this.1.1,this.2]
  let us:Array Value:=(Array.range (n * s)).map fun k=>(if n * s=0 then #[] else z.cells)[k % (if n * s=0 then #[] else z.cells).size]!
  obtain ⟨us',g1,g2,g3,g4⟩:=fill_row s vals 0 us hvs (by simp [us,vals]; rw [← hlen]; simp)
  have hpv:(parts.map fun (x:Nat × Operand)=>(x.1,a.eval x.2)).toList=(vals.zipIdx 0).map fun x=>(x.2,x.1):=by
   apply List.ext_getElem?
   intro k
   by_cases hk:k < parts.toList.length
   ·have hi1:(parts.toList[k]).1=k:=by
     have:=congrArg (fun l=>l[k]?) hp
     simp only [List.getElem?_map,List.getElem?_eq_getElem hk,Option.map_some] at this
     rw [List.getElem?_range (by omega)] at this
     injection this
    simp only [Array.toList_map,List.getElem?_map,List.getElem?_eq_getElem hk,Option.map_some,List.getElem?_zipIdx,vals]
    simp
    rw [Array.getElem_toList] at hi1; exact hi1
   ·rw [List.getElem?_eq_none (by simp at hk ⊢; omega),List.getElem?_eq_none (by simp [vals] at hk ⊢; omega)]
  let w':World:={ w with heap:=w.heap.push (.cells us' e) }
  have hrun:(execOp a.eval o).run P w=.ok (.value (.slice (some ⟨w.heap.size,0,none⟩) n n)) w':=by
   simp only [execOp,ho,Instr.buildSlice,Sem.run_bind,run_underlying ht,Result.andThen_ok,run_sizeOf' hi,his]
   rw [if_neg (by omega)]
   simp only [Sem.run_bind,Sem.run_pure,Result.andThen_ok]
   have hzr:(zeroValue e).run P w=.ok z w:=by simp [zeroValue,typeInfo,hi,hz]
   by_cases hz0:n * s=0
   ·have g1':Instr.fill (fun i=>some (i * s,s)) ((Array.range (n * s)).map fun x=>(#[]:Array Value)[x % (#[]:Array Value).size]!) (parts.map fun (x:Nat × Operand)=>(x.1,a.eval x.2)).toList=some us':=by
     rw [hpv]; simp only [us,if_pos hz0] at g1; exact g1
    rw [if_pos hz0]
    simp only [Sem.run_bind,Sem.run_pure,Result.andThen_ok,g1']
    rfl
   ·have g1':Instr.fill (fun i=>some (i * s,s)) ((Array.range (n * s)).map fun x=>z.cells[x % z.cells.size]!) (parts.map fun (x:Nat × Operand)=>(x.1,a.eval x.2)).toList=some us':=by
     rw [hpv]; simp only [us,if_neg hz0] at g1; exact g1
    rw [if_neg hz0]
    simp only [Sem.run_bind,Sem.run_pure,Result.andThen_ok,hzr,g1']
    rfl
  have hsize:us'.size=n * s:=by rw [g2]; simp [us]
  have hrow:RowAt β fr w.heap (parts.toList.map fun x=>ev x.2) s us':=by
   refine ⟨by rw [hsize]; simp [← hlen], ?_,fun k hk j hj=>?_⟩
   ·intro x hx
    obtain ⟨k,hk,rfl⟩:=List.getElem_of_mem hx
    have hk':k < parts.toList.length:=by simpa using hk
    simpa using (hcr k hk').2
   ·have hk':k < parts.toList.length:=by simpa using hk
    simp only [List.getElem_map] at hj ⊢
    obtain ⟨u,hu,hr'⟩:=(hcr k hk').1.2 j hj
    refine ⟨u, ?_,hr'⟩
    have:=g4 k (by simpa [vals] using hk') j (by rw [← (hcr k hk').2]; exact hj)
    simp only [Nat.zero_add] at this
    rw [this]; simpa [vals] using hu
  have E:=Ext.push (H':=w'.heap) L 0 rfl
  have hmm:(parts.toList.map fun x=>(x.1,ev x.2)).map (·.2)=parts.toList.map fun x=>ev x.2:=by simp
  rw [hmm] at hK
  obtain ⟨L',S'⟩:=L.push (w':=w') (o:=.arr 0 s (parts.toList.map fun x=>ev x.2)) (g:=0) (c:=.cells us' e) rfl rfl rfl rfl rfl
   ((hrow.ext E).obj (c:=us') (e:=e) (f:=(0,0)) (betaSet_same _ _ _ _) (by simp [w']) (fun i hi=>by simp) (fun k hk=>rfl) (Nat.le_refl _))
  refine ⟨_,_,w',_,_,_,.inl hrun,hK,L', ?_,S'⟩
  simp only [Rep]
  exact .inr ⟨w.heap.size,us',e,(0,0),n,betaSet_same _ _ _ _,by simp [w'],by simp,by rw [hsize]; simp,Nat.le_refl _⟩
 ·cases hk
def dcA (s:List UInt8) (pos:Nat):Nat × Nat:=Utf8.decode ⟨⟨s⟩⟩ pos
def rgK (P:Program) (t:TypeId) (x:AV) (h:List AObj) (K:AV→List AObj→Prop):Prop :=
 match tk P t,x with
 | .str,.str s=>K (.it h.length) (h++[.it s 0])
 | .map _ _,.nilm=>K (.it h.length) (h++[.mit none 0 []])
 | .map _ _,.mp mt=>(match h[mt]? with | some (.map l)=>K (.it h.length) (h++[.mit (some mt) l.length []]) | _=>False)
 | _,_=>False
theorem tk_mp {P:Program} {t k e:TypeId} (h:tk P t=.map k e):P.underlying t=some (.map k e):=by
 unfold tk at h; split at h <;> simp_all
theorem rg_ok {P:Program} {o:Oper} {t:TypeId} {X:Operand} {ev:Operand→AV} {h:List AObj} {K:AV→List AObj→Prop} (ho:o.op=.range t X) (hk:rgK P t (ev X) h K):OpK P o ev h K:=by
 refine OpK.of_run fun a w β fr L hr=>?_
 rw [ho] at hr
 have hX:=hr X (by simp [Op.operands])
 unfold rgK at hk
 split at hk
 ·rename_i s ht e
  rw [e] at hX; simp only [Rep] at hX
  obtain ⟨b,hv,hb⟩:=hX
  have E:=Ext.push (H':=w.heap.push (.stringIter b 0)) L 0 rfl
  obtain ⟨L',S'⟩:=L.push (w':={ w with heap:=w.heap.push (.stringIter b 0) }) (o:=.it s 0) (g:=0) (c:=.stringIter b 0) rfl rfl rfl rfl rfl
   ⟨w.heap.size,b,betaSet_same _ _ _ _,by simp,hb⟩
  refine ⟨.pointer (some ⟨w.heap.size,0,none⟩),_,_,_,_,fr,.inl ?_,hk,L', ?_,S'⟩
  ·simp [execOp,ho,Instr.range,hv,run_underlying (tk_str ht)]
  ·simp only [Rep]; exact ⟨_,betaSet_same _ _ _ _,rfl⟩
 ·rename_i kt et ht e
  rw [e] at hX; simp only [Rep] at hX
  obtain ⟨L',S'⟩:=L.push (w':={ w with heap:=w.heap.push (.mapIter none 0 #[] 0) }) (o:=.mit none 0 []) (g:=0) (c:=.mapIter none 0 #[] 0) rfl rfl rfl rfl rfl
   ⟨w.heap.size,#[],none,0,0,betaSet_same _ _ _ _,by simp,fun _=>rfl,fun _ q=>(nomatch q)⟩
  refine ⟨.pointer (some ⟨w.heap.size,0,none⟩),_,_,_,_,fr,.inl ?_,hk,L', ?_,S'⟩
  ·simp [execOp,ho,Instr.range,hX,run_underlying (tk_mp ht)]
  ·simp only [Rep]; exact ⟨_,betaSet_same _ _ _ _,rfl⟩
 ·rename_i kt et mt ht e
  split at hk
  ·rename_i l hm
   rw [e] at hX; simp only [Rep] at hX
   obtain ⟨b,hb,hv⟩:=hX
   obtain ⟨b',es,hb',hH,hs,hes⟩:=L.obj mt _ hm
   rw [hb] at hb'; injection hb' with hb'; injection hb' with hb'; subst hb'
   have hmt:mt < h.length:=L.dom _ _ _ hb
   obtain ⟨L',S'⟩:=L.push (w':={ w with heap:=w.heap.push (.mapIter (some b) l.length #[] l.length) }) (o:=.mit (some mt) l.length []) (g:=0) (c:=.mapIter (some b) l.length #[] l.length) rfl rfl rfl rfl rfl
    ⟨w.heap.size,#[],some b,l.length,l.length,betaSet_same _ _ _ _,by simp,fun q=>(nomatch q),fun m q=>by
     injection q with q; subst q
     exact ⟨b,by rw [betaSet_other (by omega)]; exact hb,rfl,rfl,rfl,rfl⟩⟩
   refine ⟨.pointer (some ⟨w.heap.size,0,none⟩),_,_,_,_,fr,.inl ?_,hk,L', ?_,S'⟩
   ·simp [execOp,ho,Instr.range,hv,run_underlying (tk_mp ht),getObj,Sem.run,hH]
   ·simp only [Rep]; exact ⟨_,betaSet_same _ _ _ _,rfl⟩
  ·cases hk
 ·cases hk
def nxK (x:AV) (b:Bool) (h:List AObj) (K:AV→List AObj→Prop):Prop :=
 match x,b with
 | .it t,true=>(match h[t]? with
  | some (.it s pos)=>(pos < s.length→K (.tup [.bool true,.int .i64 pos,.int .i32 (dcA s pos).1]) (h.set t (.it s (pos+(dcA s pos).2))))∧(s.length≤pos→K (.tup [.bool false]) h)
  | _=>False)
 | .it t,false=>(match h[t]? with
  | some (.ctl (.mit none _ _))=>K (.tup [.bool false]) h
  | some (.ctl (.mit (some mt) n seen))=>(match h[mt]? with
   | some (.map l)=>l.length=n∧(∀ i,i < n→i ∉ seen→K (.tup [.bool true,(l.getD i (.any,.any)).1,(l.getD i (.any,.any)).2]) (h.set t (.mit (some mt) n (seen++[i]))))∧((∀ i,i < n→i∈seen)→K (.tup [.bool false]) h)
   | _=>False)
  | _=>False)
 | _,_=>False
theorem map_born {es:Array MapEntry} (hn:∀ i,i < es.size→∃ e,es[i]? = some e∧e.born=i):es.toList.map (·.born)=List.range es.size:=by
 apply List.ext_getElem
 ·simp
 ·intro i h1 h2
  have hi:i < es.size:=by simpa using h1
  obtain ⟨e,he,hb⟩:=hn i hi
  have:es[i]=e:=by rw [Array.getElem?_eq_getElem hi] at he; injection he
  simp [this,hb]
theorem left_mem {es:Array MapEntry} {sn:Array Nat} (hn:∀ i,i < es.size→∃ e,es[i]? = some e∧e.born=i) {e:MapEntry} (h:e∈(leftOf es sn).toList):∃ i,i < es.size∧es[i]? = some e∧e.born=i∧i ∉ sn.toList:=by
 unfold leftOf at h
 simp only [Array.toList_filter,List.mem_filter,Bool.not_eq_true',Array.mem_toList_iff] at h
 obtain ⟨h1,h2⟩:=h
 obtain ⟨i,hi,he⟩:=Array.mem_iff_getElem.1 h1
 obtain ⟨e',q1,q2⟩:=hn i hi
 have:e'=e:=by rw [Array.getElem?_eq_getElem hi,he] at q1; injection q1 with q1; exact q1.symm
 subst this
 refine ⟨i,hi,q1,q2, ?_⟩
 rw [q2] at h2
 intro q
 have:sn.contains i=true:=by simpa using q
 rw [this] at h2; cases h2
theorem left_none {es:Array MapEntry} {sn:Array Nat} (hn:∀ i,i < es.size→∃ e,es[i]? = some e∧e.born=i) (h:(leftOf es sn).size=0):∀ i,i < es.size→i∈sn.toList:=by
 intro i hi
 obtain ⟨e,he,hb⟩:=hn i hi
 have h0:leftOf es sn=#[]:=Array.eq_empty_of_size_eq_zero h
 by_cases q:sn.contains i=true
 ·simpa using q
 ·exfalso
  have:e∈leftOf es sn:=by
   unfold leftOf
   rw [Array.mem_filter]
   refine ⟨Array.mem_of_getElem? he, ?_⟩
   rw [hb]; simpa using q
  rw [h0] at this; simp at this
theorem run_next_some {P : Program} (w : World) (k : Nat) (s : ByteArray) (pos : Nat) (ty : TypeId) (hk : w.heap[k]? = some (.stringIter s pos)) (h : pos < s.size) :
  (Instr.next (.pointer (some ⟨k,0,none⟩)) true ty).run P w =
   .ok (.tuple #[.bool true,.int .i64 pos,.int .i32 (Utf8.decode s pos).1]) { w with heap:=w.heap.setIfInBounds k (.stringIter s (pos+(Utf8.decode s pos).2)) }:=by
 simp only [Instr.next,getObj,setObj,Sem.run_bind,Sem.run,hk,Result.andThen,h,if_true]
 simp [goInt]
theorem run_next_none {P : Program} (w : World) (k : Nat) (s : ByteArray) (pos : Nat) (ty : TypeId) (hk : w.heap[k]? = some (.stringIter s pos)) (h : ¬ pos < s.size) :
  (Instr.next (.pointer (some ⟨k,0,none⟩)) true ty).run P w=.ok (.tuple #[.bool false]) w:=by
 simp [Instr.next,getObj,Sem.run,hk,h]
theorem nx_ok {P:Program} {o:Oper} {X:Operand} {b:Bool} {ev:Operand→AV} {h:List AObj} {K:AV→List AObj→Prop} (ho:o.op=.next X b) (hk:nxK (ev X) b h K):OpK P o ev h K:=by
 refine OpK.of_run fun a w β fr L hr=>?_
 rw [ho] at hr
 have hX:=hr X (by simp [Op.operands])
 unfold nxK at hk
 split at hk
 ·rename_i t e
  split at hk
  ·rename_i s pos ht
   rw [e] at hX; simp only [Rep] at hX
   obtain ⟨b,hb,hv⟩:=hX
   obtain ⟨b',by_,hb',hH,hs⟩:=L.obj t _ ht
   rw [hb] at hb'; injection hb' with hb'; injection hb' with hb'; subst hb'
   have hby:by_=⟨⟨s⟩⟩:=by rw [← hs]
   subst hby
   have hlt:b < w.heap.size:=L.lt _ _ _ hb
   have hsz:(⟨⟨s⟩⟩:ByteArray).size=s.length:=by simp [ByteArray.size]
   by_cases hp:pos < s.length
   ·have hrun:=run_next_some (P:=P) w b ⟨⟨s⟩⟩ pos o.type hH (by omega)
    obtain ⟨L',S'⟩:=L.turn0 (w':={ w with heap:=w.heap.setIfInBounds b (Obj.stringIter ⟨⟨s⟩⟩ (pos+(dcA s pos).2)) }) (β':=β) (g':=0) (o':=.it s (pos+(dcA s pos).2)) (r:=some b) ht rfl rfl (fun _ _ _=>.inr trivial)
     (fun _ _ _ e=>e) (fun _ _ _ e=>.inl e) hb (fun b1 e1=>by injection e1 with e1; subst e1; exact ⟨.inl hb,by simpa using hlt⟩)
     (fun k _ hk=>by simp only [Array.getElem?_setIfInBounds]; rw [if_neg (fun q=>hk (by rw [← q]; exact hb))]) (by simp)
     (fun b1 c1 e1 f1 q q'=>by
      rw [hb] at q; injection q with q; injection q with q; subst q
      rw [hH] at q'; cases q') rfl rfl rfl
     (fun E=>⟨b,⟨⟨s⟩⟩,hb,by simp [Array.getElem?_setIfInBounds,hlt],hs⟩)
     (fun ⟨_,_,_,q⟩=>by cases q)
    ·refine ⟨.tuple #[.bool true,.int .i64 pos,.int .i32 (dcA s pos).1],_,_,_,β,fr,.inl ?_,hk.1 hp,L', ?_,S'⟩
     ·simp [execOp,ho,hv,hrun,dcA]
     ·simp only [Rep]
      refine ⟨_,rfl,rfl,fun j hj=>?_⟩
      have:j=0∨j=1∨j=2:=by simp at hj; omega
      rcases this with rfl | rfl | rfl <;> simp [Rep]
   ·have hrun:=run_next_none (P:=P) w b ⟨⟨s⟩⟩ pos o.type hH (by omega)
    refine ⟨.tuple #[.bool false],_,_,_,β,fr,.inl ?_,hk.2 (by omega),L, ?_,Step1.refl _ _ _ _⟩
    ·simp [execOp,ho,hv,hrun]
    ·simp only [Rep]
     refine ⟨_,rfl,rfl,fun j hj=>?_⟩
     have:j=0:=by simp at hj; omega
     subst this; simp [Rep]
  ·cases hk
 ·rename_i t e
  rw [e] at hX; simp only [Rep] at hX
  obtain ⟨b,hb,hv⟩:=hX
  have hlt:b < w.heap.size:=L.lt _ _ _ hb
  split at hk
  ·rename_i n0 seen0 ht
   obtain ⟨b',sn,o1,s1,c1,hb',hH,ho1,-⟩:=L.obj t _ ht
   rw [hb] at hb'; injection hb' with hb'; injection hb' with hb'; subst hb'
   obtain rfl:=ho1 rfl
   refine ⟨.tuple #[.bool false],_,_,_,β,fr,.inl ?_,hk,L, ?_,Step1.refl _ _ _ _⟩
   ·simp [execOp,ho,hv,Instr.next,getObj,Sem.run,hH]
   ·simp only [Rep]
    refine ⟨_,rfl,rfl,fun j hj=>?_⟩
    have:j=0:=by simp at hj; omega
    subst this; simp [Rep]
  ·rename_i mt n seen ht
   obtain ⟨b',sn,o1,s1,c1,hb',hH,-,ho1⟩:=L.obj t _ ht
   rw [hb] at hb'; injection hb' with hb'; injection hb' with hb'; subst hb'
   obtain ⟨mb,hmb,rfl,rfl,rfl,hsn⟩:=ho1 mt rfl
   split at hk
   ·rename_i l hm
    obtain ⟨hln,hk1,hk2⟩:=hk
    obtain ⟨mb',es,hmb',hM,hs,hes⟩:=L.obj mt _ hm
    rw [hmb] at hmb'; injection hmb' with hmb'; injection hmb' with hmb'; subst hmb'
    have hborn:∀ i,i < es.size→∃ e,es[i]? = some e∧e.born=i:=fun i hi=>by
     obtain ⟨e,q1,q2,-⟩:=hes i (by omega)
     exact ⟨e,q1,q2⟩
    rw [hln] at hM
    rcases run_next_at (P:=P) w o.type b mb c1 c1 sn es c1 hH hM (fun x hx=>by
     obtain ⟨i,hi,he⟩:=List.mem_iff_getElem.1 hx
     have hi':i < es.size:=by simpa using hi
     obtain ⟨e,q1,q2⟩:=hborn i hi'
     have:e=x:=by rw [Array.getElem?_eq_getElem hi'] at q1; injection q1 with q1; rw [← q1,← he]; simp
     subst this; omega) (Nat.le_refl _) with ⟨h0,hrun⟩ | ⟨e1,he1,w1,hw1,hrun⟩
    ·refine ⟨.tuple #[.bool false],_,_,_,β,fr,.inl ?_,hk2 (fun i hi=>by rw [← hsn]; exact left_none hborn h0 i (by omega)),L, ?_,Step1.refl _ _ _ _⟩
     ·simp [execOp,ho,hv,hrun]
     ·simp only [Rep]
      refine ⟨_,rfl,rfl,fun j hj=>?_⟩
      have:j=0:=by simp at hj; omega
      subst this; simp [Rep]
    ·obtain ⟨i,hi,q1,q2,q3⟩:=left_mem hborn he1
     obtain ⟨e2,r1,r2,r3,r4⟩:=hes i (by omega)
     rw [q1] at r1; injection r1 with r1; subst r1
     have hw1h:w1.heap=w.heap∧w1.os=w.os∧w1.tape=w.tape∧w1.output=w.output:=by rcases hw1 with rfl | rfl <;> exact ⟨rfl,rfl,rfl,rfl⟩
     obtain ⟨z1,z2,z3,z4⟩:=hw1h
     obtain ⟨L',S'⟩:=L.turn0 (w':=ChangeMaps.setBlock w1 b (.mapIter (some mb) c1 (sn.push e1.born) c1)) (β':=β) (g':=0) (o':=.mit (some mt) c1 (seen++[i])) (r:=some b) ht rfl rfl (fun _ _ _=>.inr trivial)
      (fun _ _ _ e=>e) (fun _ _ _ e=>.inl e) hb (fun b1 e1=>by injection e1 with e1; subst e1; exact ⟨.inl hb,by simpa [ChangeMaps.setBlock,z1] using hlt⟩)
      (fun k _ hk=>by
       show (w1.heap.setIfInBounds b _)[k]? = _
       rw [z1]; simp only [Array.getElem?_setIfInBounds]; rw [if_neg (fun q=>hk (by rw [← q]; exact hb))]) (by simp [ChangeMaps.setBlock,z1])
      (fun b1 c1 e1 f1 q q'=>by
       rw [hb] at q; injection q with q; injection q with q; subst q
       rw [hH] at q'; cases q') z2 z3 z4
      (fun E => ⟨b, _, _, _, _, hb, by
        show (w1.heap.setIfInBounds b _)[b]? = _
        rw [z1]; simp [Array.getElem?_setIfInBounds,hlt]; exact ⟨rfl,rfl,rfl,rfl⟩,fun q=>(nomatch q),fun m q=>by
        injection q with q; subst q
        exact ⟨mb,hmb,rfl,rfl,rfl,by simp [hsn,q2]⟩⟩)
      (fun ⟨_,_,_,q⟩=>by cases q)
     have hE:=S'.ext
     refine ⟨.tuple #[.bool true,e1.key,e1.val],_,_,_,β,fr,.inl ?_,hk1 i (by omega) (by rw [← hsn]; exact q3),L', ?_,S'⟩
     ·simp [execOp,ho,hv,hrun]
     ·simp only [Rep]
      refine ⟨_,rfl,rfl,fun j hj=>?_⟩
      have hil:i < l.length:=by omega
      have hg:l.getD i (.any,.any)=l[i]:=by simp [List.getD_eq_getElem?_getD,hil]
      have:j=0∨j=1∨j=2:=by simp at hj; omega
      rcases this with rfl | rfl | rfl
      ·simp [Rep]
      ·exact ⟨_,rfl,by simp only [List.getElem_cons_succ,List.getElem_cons_zero]; rw [hg]; exact r3.ext hE⟩
      ·exact ⟨_,rfl,by simp only [List.getElem_cons_succ,List.getElem_cons_zero]; rw [hg]; exact r4.ext hE⟩
   ·cases hk
  ·cases hk
 ·cases hk
def enK (x:AV) (h:List AObj) (K:AV→List AObj→Prop):Prop :=
 match x with
 | .it t=>(match h[t]? with
  | some (.ctl (.mit (some mt) n seen))=>(match seen.getLast?, h[mt]? with
   | some i,some (.map l)=>(l.length=n∧i < n)∧K (.tup [(l.getD i (.any,.any)).1,(l.getD i (.any,.any)).2]) h
   | _,_=>False)
  | _=>False)
 | _=>False
theorem en_ok {P:Program} {o:Oper} {X:Operand} {ev:Operand→AV} {h:List AObj} {K:AV→List AObj→Prop} (ho:o.op=.entry X) (hk:enK (ev X) h K):OpK P o ev h K:=by
 refine OpK.of_run fun a w β fr L hr=>?_
 rw [ho] at hr
 have hX:=hr X (by simp [Op.operands])
 unfold enK at hk
 split at hk
 case h_2=>exact hk.elim
 rename_i t e
 rw [e] at hX; simp only [Rep] at hX
 obtain ⟨b,hb,hv⟩:=hX
 split at hk
 case h_2=>exact hk.elim
 rename_i mt n seen ht
 split at hk
 case h_2=>exact hk.elim
 rename_i i l hi hm
 obtain ⟨⟨hln,hin⟩,hk⟩:=hk
 obtain ⟨b',sn,o1,s1,c1,hb',hH,-,ho1⟩:=L.obj t _ ht
 rw [hb] at hb'; injection hb' with hb'; injection hb' with hb'; subst hb'
 obtain ⟨mb,hmb,rfl,rfl,rfl,hsn⟩:=ho1 mt rfl
 obtain ⟨mb',es,hmb',hM,hs,hes⟩:=L.obj mt _ hm
 rw [hmb] at hmb'; injection hmb' with hmb'; injection hmb' with hmb'; subst hmb'
 rw [hln] at hM
 obtain ⟨e2,r1,r2,r3,r4⟩:=hes i (by omega)
 have hborn:∀ i,i < es.size→∃ e,es[i]? = some e∧e.born=i:=fun i hi=>by
  obtain ⟨e,q1,q2,-⟩:=hes i (by omega)
  exact ⟨e,q1,q2⟩
 obtain ⟨s0,hs0⟩:=List.getLast?_eq_some_iff.1 hi
 have hsn2:sn=(⟨s0⟩:Array Nat).push e2.born:=by
  rw [r2]; apply Array.toList_inj.1; rw [hsn,hs0]; simp
 rw [hsn2] at hH
 have hrun:=run_entry_at (P:=P) w b mb c1 ⟨s0⟩ es c1 e2 hH hM (Array.mem_toList_iff.2 (Array.mem_of_getElem? r1)) (by rw [map_born hborn]; exact List.nodup_range)
 refine ⟨.tuple #[e2.key,e2.val],_,w,h,β,fr,.inl ?_,hk,L, ?_,Step1.refl _ _ _ _⟩
 ·simp [execOp,ho,hv,hrun]
 ·simp only [Rep]
  refine ⟨_,rfl,rfl,fun j hj=>?_⟩
  have hil:i < l.length:=by omega
  have hg:l.getD i (.any,.any)=l[i]:=by simp [List.getD_eq_getElem?_getD,hil]
  have:j=0∨j=1:=by simp at hj; omega
  rcases this with rfl | rfl
  ·exact ⟨_,rfl,by simp only [List.getElem_cons_zero]; rw [hg]; exact r3⟩
  ·exact ⟨_,rfl,by simp only [List.getElem_cons_succ,List.getElem_cons_zero]; rw [hg]; exact r4⟩
end Go.Proofs.Vale
namespace Go.Proofs.Vale
def kq:AV→AV→Option Bool
 | .str a,.str b=>some (a==b)
 | .int j a,.int k b=>if j=k then some (a==b) else none
 | _,_=>none
def findM (k:AV):List (AV × AV)→Nat→Option (Option Nat)
 | [],_=>some none
 | e::es,i=>match kq k e.1 with
  | some true=>some (some i)
  | some false=>findM k es (i+1)
  | none=>none
def keyOk (kd:TK) (k:AV):Bool :=
 match kd,k with
 | .str,.str _=>true
 | .int _,.int _ _=>true
 | _,_=>false
theorem tk_mapd {P:Program} {t k e:TypeId} (h:tk P t=.map k e):P.underlying t=some (.map k e):=by
 unfold tk at h; split at h <;> simp_all
theorem bytes_eq {a b:ByteArray} (h:a.data.toList=b.data.toList):a=b:=by
 have:a.data=b.data:=by rw [← Array.toArray_toList (xs:=a.data),h,Array.toArray_toList]
 cases a; cases b; simp_all
theorem findM_range (k:AV):∀ (l:List (AV × AV)) (i j:Nat),findM k l i=some (some j)→i≤j∧j < i+l.length
 | [],i,j,h=>by cases h
 | e::es,i,j,h=>by
  simp only [findM] at h
  split at h
  ·injection h with h; injection h with h; subst h; exact ⟨Nat.le_refl _,by simp⟩
  ·have:=findM_range k es (i+1) j h; simp only [List.length_cons]; omega
  ·cases h
theorem kq_same {β : Beta} {fr : Nat → Prop} {H : Array Obj} {kd : TypeDesc} {x y : AV} {u v : Value} {b : Bool} (hkd : (kd = .string ∧ ∃ s, x = .str s) ∨ (∃ ik j n, kd = .int ik ∧ x = .int j n)) (hx : Rep β fr H x u) (hy : Rep β fr H y v) (hq : kq x y = some b) :
  Instr.sameNow kd u v=some b∧(b=true→u=v):=by
 rcases hkd with ⟨rfl,s,rfl⟩ | ⟨ik,j,n,rfl,rfl⟩
 ·cases y <;> try (cases hq; done)
  rename_i t
  simp only [kq,Option.some.injEq] at hq
  subst hq
  simp only [Rep] at hx hy
  obtain ⟨a,rfl,ha⟩:=hx
  obtain ⟨c,rfl,hc⟩:=hy
  have hbe:(a==c)=(a.data==c.data):=by cases a; cases c; rfl
  have hac:(a==c)=(s==t):=by
   rw [hbe,← ha,← hc,Bool.eq_iff_iff,beq_iff_eq,beq_iff_eq,Array.toList_inj]
  refine ⟨by simp only [Instr.sameNow,hac],fun q=>?_⟩
  have:s=t:=by simpa using q
  rw [bytes_eq (a:=a) (b:=c) (by rw [ha,hc,this])]
 ·cases y <;> try (cases hq; done)
  rename_i k m
  simp only [kq] at hq
  split at hq
  ·rename_i e
   subst e
   injection hq with hq; subst hq
   simp only [Rep] at hx hy
   subst hx hy
   refine ⟨by simp [Instr.sameNow],fun q=>?_⟩
   have:n=m:=by simpa using q
   rw [this]
  ·cases hq
theorem findNow_ok {β : Beta} {fr : Nat → Prop} {H : Array Obj} {kd : TypeDesc} {k : AV} {kv : Value} (hkd : (kd = .string ∧ ∃ s, k = .str s) ∨ (∃ ik j n, kd = .int ik ∧ k = .int j n)) (hv : Rep β fr H k kv) :
  ∀ (l:List (AV × AV)) (es:List MapEntry) (i:Nat) (r:Option Nat),es.length=l.length→(∀ j (hj:j < l.length),∃ e,es[j]? = some e∧Rep β fr H (l[j]).1 e.key)→findM k l i=some r →
   ∃ q,Instr.findNow kd kv es i=some q∧match r with
    | none=>q=none
    | some j=>∃ e,es[j - i]? = some e∧q=some (j,e.val)∧e.key=kv
 | [],es,i,r,hl,_,h=>by
  have:es=[]:=List.length_eq_zero_iff.1 hl
  subst this
  simp only [findM,Option.some.injEq] at h
  subst h
  exact ⟨none,rfl,rfl⟩
 | e::l,es,i,r,hl,hr,h=>by
  cases es with
  | nil=>simp at hl
  | cons m es =>
   obtain ⟨m',hm',hk⟩:=hr 0 (by simp)
   simp only [List.getElem?_cons_zero,Option.some.injEq] at hm'
   subst hm'
   simp only [List.getElem_cons_zero] at hk
   simp only [findM] at h
   rcases hq:kq k e.1 with _ | _ | _
   ·rw [hq] at h; cases h
   ·rw [hq] at h
    obtain ⟨s1,-⟩:=kq_same hkd hv hk hq
    obtain ⟨q,h1,h2⟩:=findNow_ok hkd hv l es (i+1) r (by simpa using hl) (fun j hj=>by
     obtain ⟨e',he,hr'⟩:=hr (j+1) (by simp; omega)
     exact ⟨e',by simpa using he,by simpa using hr'⟩) h
    refine ⟨q,by rw [Instr.findNow,s1]; exact h1, ?_⟩
    cases r with
    | none=>exact h2
    | some j =>
     obtain ⟨e',he,hq',hk'⟩:=h2
     have hb:=findM_range k l (i+1) j h
     refine ⟨e', ?_,hq',hk'⟩
     rw [show j - i=(j - (i+1))+1 by omega,List.getElem?_cons_succ]; exact he
   ·rw [hq] at h
    injection h with h
    subst h
    obtain ⟨s1,s2⟩:=kq_same hkd hv hk hq
    refine ⟨some (i,m.val),by rw [Instr.findNow,s1],m,by simp,rfl,(s2 rfl).symm⟩
theorem keyOk_kind {P:Program} {kt:TypeId} {k:AV} (h:keyOk (tk P kt) k=true):∃ kd,P.underlying kt=some kd∧((kd=.string∧∃ s,k=.str s)∨(∃ ik j n,kd=.int ik∧k=.int j n)):=by
 unfold keyOk at h
 split at h
 ·rename_i hk; exact ⟨_,tk_str hk,.inl ⟨rfl,_,rfl⟩⟩
 ·rename_i ik j n hk; exact ⟨_,tk_int hk,.inr ⟨_,_,_,rfl,rfl⟩⟩
 ·cases h
theorem run_checkKey {P:Program} {w:World} {kt:TypeId} {kd:TypeDesc} {kv:Value} {b:Bool} (hu:P.underlying kt=some kd) (hkd:kd=.string∨∃ ik,kd=.int ik):(Instr.checkKey b 10000 kt kv).run P w=.ok () w:=by
 rw [show (10000:Nat)=9999+1 from rfl,Instr.checkKey]
 rcases hkd with rfl | ⟨ik,rfl⟩ <;> simp only [Sem.run_bind,run_underlying hu,Result.andThen_ok,Sem.run_pure]
theorem run_findKey {P:Program} {w:World} {kt:TypeId} {kd:TypeDesc} {kv:Value} {es:List MapEntry} {q:Option (Nat × Value)} (hu:P.underlying kt=some kd) (h:Instr.findNow kd kv es 0=some q):(Instr.findKey kt kv es).run P w=.ok q w:=by
 simp only [Instr.findKey,Sem.run_bind,run_underlying hu,Result.andThen_ok,h,Sem.run_pure]
theorem run_getMap {P:Program} {w:World} {b:Nat} {es:Array MapEntry} {c:Nat} (h:w.heap[b]? = some (.map es c)):(getObj b).run P w=.ok (.map es c) w:=by
 simp [getObj,Sem.run,h]
theorem run_setMap {P:Program} {w:World} {b:Nat} {es:Array MapEntry} {c:Nat} {o:Obj} (h:w.heap[b]? = some (.map es c)):(setObj b o).run P w=.ok () { w with heap:=w.heap.setIfInBounds b o }:=by
 simp [setObj,Sem.run,h]
def mmK (h:List AObj) (K:AV→List AObj→Prop):Prop:=K (.mp h.length) (h++[.map []])
theorem mm_ok {P:Program} {o:Oper} {t:TypeId} {ev:Operand→AV} {h:List AObj} {K:AV→List AObj→Prop} (ho:o.op=.makeMap t none) (hk:mmK h K):OpK P o ev h K:=by
 refine OpK.of_run fun a w β fr L hr=>?_
 unfold mmK at hk
 obtain ⟨L',S'⟩:=L.push (w':=w.alloc (.map #[] 0)) (o:=.map []) (g:=0) (c:=.map #[] 0) rfl rfl rfl rfl rfl
  ⟨w.heap.size,#[],betaSet_same _ _ _ _,by show (w.heap.push (Obj.map #[] 0))[w.heap.size]? = some _; simp,rfl,fun i hi=>by simp at hi⟩
 refine ⟨.map (some w.heap.size),_,_,_,_,fr,.inl ?_,hk,L', ?_,S'⟩
 ·simp only [execOp,ho,Instr.makeMap,newObj,Option.map_none]; rfl
 ·simp only [Rep]; exact ⟨_,betaSet_same _ _ _ _,rfl⟩
def luR (ok:Bool) (v:AV) (b:Bool):AV:=if ok then .tup [v,.bool b] else v
def luG (k z:AV) (ok:Bool) (l:List (AV × AV)) (h:List AObj) (K:AV→List AObj→Prop):Prop :=
 match findM k l 0 with
 | some (some i)=>K (luR ok (l.getD i (.any,.any)).2 true) h
 | some none=>K (luR ok z false) h
 | none=>False
def luK (P:Program) (t:TypeId) (x k:AV) (ok:Bool) (h:List AObj) (K:AV→List AObj→Prop):Prop :=
 match tk P t with
 | .map kt et=>keyOk (tk P kt) k=true∧(match zI P et with
  | some z=>(match x with
   | .mp tg=>(match h[tg]? with
    | some (.map l)=>luG k z ok l h K
    | _=>False)
   | .nilm=>K (luR ok z false) h
   | _=>False)
  | none=>False)
 | _=>False
theorem run_zI {P:Program} {w:World} {t:TypeId} {z:AV} (β:Beta) (fr:Nat→Prop) (hz:zI P t=some z):∃ v,(zeroValue t).run P w=.ok v w∧∀ H,Rep β fr H z v:=by
 unfold zI at hz
 split at hz
 ·rename_i i hi
  split at hz
  ·rename_i v hv
   injection hz with hz; subst hz
   exact ⟨v,by simp [zeroValue,typeInfo,hi,hv],fun H=>Rep_ofVal β fr H v⟩
  ·cases hz
 ·cases hz
theorem luR_rep {β:Beta} {fr:Nat→Prop} {H:Array Obj} {ok b:Bool} {v:AV} {u:Value} (h:Rep β fr H v u):Rep β fr H (luR ok v b) (if ok=true then .tuple #[u,.bool b] else u):=by
 unfold luR
 cases ok
 ·exact h
 ·simp only [if_true,Rep]
  refine ⟨_,rfl,rfl,fun j hj=>?_⟩
  have:j=0∨j=1:=by simp at hj; omega
  rcases this with rfl | rfl
  ·exact ⟨u,rfl,h⟩
  ·exact ⟨.bool b,rfl,by simp [Rep]⟩
theorem getD_pair {l:List (AV × AV)} {i:Nat} (h:i < l.length):l.getD i (.any,.any)=l[i]:=by
 rw [List.getD_eq_getElem?_getD,List.getElem?_eq_getElem h]; rfl
theorem lu_ok {P:Program} {o:Oper} {t:TypeId} {X Y:Operand} {ok:Bool} {ev:Operand→AV} {h:List AObj} {K:AV→List AObj→Prop} (ho:o.op=.lookup t X Y ok) (hk:luK P t (ev X) (ev Y) ok h K):OpK P o ev h K:=by
 refine OpK.of_run fun a w β fr L hr=>?_
 rw [ho] at hr
 have hX:=hr X (by simp [Op.operands])
 have hY:=hr Y (by simp [Op.operands])
 unfold luK at hk
 split at hk
 ·rename_i kt et htk
  obtain ⟨hko,hk⟩:=hk
  obtain ⟨kd,hu,hkd⟩:=keyOk_kind hko
  have hkd':kd=.string∨∃ ik,kd=.int ik:=by
   rcases hkd with ⟨q,-⟩ | ⟨ik,j,n,q,-⟩
   ·exact .inl q
   ·exact .inr ⟨ik,q⟩
  split at hk
  ·rename_i z hz
   obtain ⟨zv,hzr,hzR⟩:=run_zI (w:=w) β fr hz
   split at hk
   ·rename_i tg e1
    rw [e1] at hX; simp only [Rep] at hX
    obtain ⟨b,hb,hv⟩:=hX
    split at hk
    ·rename_i l hl
     obtain ⟨b',es,hb',hH,hes,hent⟩:=L.obj tg _ hl
     rw [hb] at hb'; injection hb' with hb'; injection hb' with hb'; subst hb'
     have hent':∀ j (hj:j < l.length),∃ e,es.toList[j]? = some e∧Rep β fr w.heap (l[j]).1 e.key:=by
      intro j hj
      obtain ⟨e,he,-,hr1,-⟩:=hent j hj
      exact ⟨e,by simpa using he,hr1⟩
     unfold luG at hk
     split at hk
     ·rename_i i hf
      obtain ⟨q,hq,e,he,rfl,-⟩:=findNow_ok hkd hY l es.toList 0 (some i) (by simpa using hes) hent' hf
      have hi:=findM_range _ _ _ _ hf
      have hil:i < l.length:=by omega
      obtain ⟨e',he',-,-,hr2⟩:=hent i hil
      have:e'=e:=by
       rw [Nat.sub_zero] at he
       have h2:es[i]? = some e:=by simpa using he
       rw [h2] at he'; injection he' with he'; exact he'.symm
      subst this
      rw [getD_pair hil] at hk
      refine ⟨_,_,w,h,β,fr,.inl ?_,hk,L,luR_rep hr2,Step1.refl _ _ _ _⟩
      simp only [execOp,ho,Instr.lookup,hv,Sem.run_bind,run_underlying (tk_mapd htk),Result.andThen_ok,run_getMap hH,Sem.run_pure,run_checkKey hu hkd',run_findKey hu hq]
      try (cases ok <;> rfl)
     ·rename_i hf
      obtain ⟨q,hq,rfl⟩:=findNow_ok hkd hY l es.toList 0 none (by simpa using hes) hent' hf
      refine ⟨_,_,w,h,β,fr,.inl ?_,hk,L,luR_rep (hzR _),Step1.refl _ _ _ _⟩
      simp only [execOp,ho,Instr.lookup,hv,Sem.run_bind,run_underlying (tk_mapd htk),Result.andThen_ok,run_getMap hH,Sem.run_pure,run_checkKey hu hkd',run_findKey hu hq,hzr]
      try (cases ok <;> rfl)
     ·cases hk
    ·cases hk
   ·rename_i e1
    rw [e1] at hX; simp only [Rep] at hX
    refine ⟨_,_,w,h,β,fr,.inl ?_,hk,L,luR_rep (hzR _),Step1.refl _ _ _ _⟩
    have hq:Instr.findNow kd (a.eval Y) [] 0=some none:=rfl
    simp only [execOp,ho,Instr.lookup,hX,Sem.run_bind,run_underlying (tk_mapd htk),Result.andThen_ok,Sem.run_pure,run_checkKey hu hkd',run_findKey (es:=(#[]:Array MapEntry).toList) hu hq,hzr]
    try (cases ok <;> rfl)
   ·cases hk
  ·cases hk
 ·cases hk
theorem Lay.mapTurn {β : Beta} {fr : Nat → Prop} {w : World} {h : List AObj} (L : Lay β fr w.heap h) {tg b c : Nat} {l l' : List (AV × AV)} {es es' : Array MapEntry}
  (ht:h[tg]? = some (.map l)) (hb:β tg 0=some (some b)) (hH:w.heap[b]? = some (.map es c)) (hs:es'.size=l'.length)
  (he:∀ i (hi:i < l'.length),∃ e,es'[i]? = some e∧e.born=i∧Rep β fr w.heap (l'[i]).1 e.key∧Rep β fr w.heap (l'[i]).2 e.val) :
  Lay β fr (w.heap.setIfInBounds b (.map es' l'.length)) (h.set tg (.map l'))∧Step1 β fr h w β fr (h.set tg (.map l')) { w with heap:=w.heap.setIfInBounds b (.map es' l'.length) }:=by
 have hlt:b < w.heap.size:=L.lt _ _ _ hb
 exact L.turn0 (w':={ w with heap:=w.heap.setIfInBounds b (.map es' l'.length) }) (β':=β) (g':=0) (o':=.map l') (r:=some b) ht rfl rfl (fun _ _ _=>.inr trivial)
  (fun _ _ _ e=>e) (fun _ _ _ e=>.inl e) hb (fun b1 e1=>by injection e1 with e1; subst e1; exact ⟨.inl hb,by simpa using hlt⟩)
  (fun k _ hk=>by simp only [Array.getElem?_setIfInBounds]; rw [if_neg (fun q=>hk (by rw [← q]; exact hb))]) (by simp)
  (fun b1 c1 e1 f1 q q'=>by
   rw [hb] at q; injection q with q; injection q with q; subst q
   rw [hH] at q'; cases q') rfl rfl rfl
  (fun E=>⟨b,es',hb,by simp [Array.getElem?_setIfInBounds,hlt],hs,fun i hi=>by
   obtain ⟨e,h1,h2,h3,h4⟩:=he i hi
   exact ⟨e,h1,h2,h3.ext E,h4.ext E⟩⟩)
  (fun ⟨_,_,_,q⟩=>by cases q)
def muG (k v:AV) (l:List (AV × AV)) (K:List (AV × AV)→Prop):Prop :=
 match findM k l 0 with
 | some (some i)=>K (l.set i (k,v))
 | some none=>K (l++[(k,v)])
 | none=>False
def muK (P:Program) (t:TypeId) (x k v:AV) (h:List AObj) (K:AV→List AObj→Prop):Prop :=
 match tk P t,x with
 | .map kt et,.mp tg=>keyOk (tk P kt) k=true∧(match h[tg]? with
  | some (.map l)=>muG k v l fun l'=>K (.tup []) (h.set tg (.map l'))
  | _=>False)
 | _,_=>False
theorem sameBits_refl {kd:TypeDesc} {k:AV} {β:Beta} {fr:Nat→Prop} {H:Array Obj} {u:Value} (hkd:(kd=.string∧∃ s,k=.str s)∨(∃ ik j n,kd=.int ik∧k=.int j n)) (hu:Rep β fr H k u):Instr.sameBits 10000 u u=true:=by
 rcases hkd with ⟨-,s,rfl⟩ | ⟨ik,j,n,-,rfl⟩
 ·simp only [Rep] at hu
  obtain ⟨a,rfl,-⟩:=hu
  have hbe:(a==a)=(a.data==a.data):=by cases a; rfl
  simp only [Instr.sameBits,hbe,beq_self_eq_true]
 ·simp only [Rep] at hu
  subst hu
  simp [Instr.sameBits]
theorem undef_rep {β:Beta} {fr:Nat→Prop} {H:Array Obj}:Rep β fr H (.tup []) undef:=by
 simp only [Rep]; exact ⟨#[],rfl,rfl,fun j hj=>by simp at hj⟩
theorem set_entries {β : Beta} {fr : Nat → Prop} {H : Array Obj} {l : List (AV × AV)} {es : Array MapEntry} (hs : es.size = l.length)
  (he:∀ i (hi:i < l.length),∃ e,es[i]? = some e∧e.born=i∧Rep β fr H (l[i]).1 e.key∧Rep β fr H (l[i]).2 e.val) {i:Nat} (hi:i < l.length) {k v:AV} (f:MapEntry→MapEntry)
  (hf:∀ e,es[i]? = some e→(f e).born=e.born∧Rep β fr H k (f e).key∧Rep β fr H v (f e).val) :
  ∀ j (hj:j < (l.set i (k,v)).length),∃ e,(es.modify i f)[j]? = some e∧e.born=j∧Rep β fr H ((l.set i (k,v))[j]).1 e.key∧Rep β fr H ((l.set i (k,v))[j]).2 e.val:=by
 intro j hj
 rw [List.length_set] at hj
 obtain ⟨e,h1,h2,h3,h4⟩:=he j hj
 rw [Array.getElem?_modify,h1]
 by_cases q:i=j
 ·subst q
  obtain ⟨f1,f2,f3⟩:=hf e h1
  rw [if_pos rfl]
  simp only [List.getElem_set_self,Option.map_some]
  exact ⟨_,rfl,by rw [f1,h2],f2,f3⟩
 ·rw [if_neg q]
  simp only [List.getElem_set_ne q]
  exact ⟨e,rfl,h2,h3,h4⟩
theorem push_entries {β : Beta} {fr : Nat → Prop} {H : Array Obj} {l : List (AV × AV)} {es : Array MapEntry} (hs : es.size = l.length)
  (he:∀ i (hi:i < l.length),∃ e,es[i]? = some e∧e.born=i∧Rep β fr H (l[i]).1 e.key∧Rep β fr H (l[i]).2 e.val) {k v:AV} {m:MapEntry}
  (hm:m.born=l.length∧Rep β fr H k m.key∧Rep β fr H v m.val) :
  ∀ j (hj:j < (l++[(k,v)]).length),∃ e,(es.push m)[j]? = some e∧e.born=j∧Rep β fr H ((l++[(k,v)])[j]).1 e.key∧Rep β fr H ((l++[(k,v)])[j]).2 e.val:=by
 intro j hj
 rw [List.length_append,List.length_singleton] at hj
 rw [Array.getElem?_push,hs]
 by_cases q:j=l.length
 ·subst q
  rw [if_pos rfl]
  simp only [List.getElem_concat_length]
  exact ⟨m,rfl,hm⟩
 ·rw [if_neg q]
  have hj':j < l.length:=by omega
  obtain ⟨e,h1,h2⟩:=he j hj'
  rw [List.getElem_append_left hj']
  exact ⟨e,h1,h2⟩
theorem mu_ok {P:Program} {o:Oper} {t:TypeId} {X Y Z:Operand} {ev:Operand→AV} {h:List AObj} {K:AV→List AObj→Prop} (ho:o.op=.mapUpdate t X Y Z∨o.op=.insert t X Y Z) (hk:muK P t (ev X) (ev Y) (ev Z) h K):OpK P o ev h K:=by
 refine OpK.of_run fun a w β fr L hr=>?_
 have hX:Rep β fr w.heap (ev X) (a.eval X):=by rcases ho with ho | ho <;> (rw [ho] at hr; exact hr X (by simp [Op.operands]))
 have hY:Rep β fr w.heap (ev Y) (a.eval Y):=by rcases ho with ho | ho <;> (rw [ho] at hr; exact hr Y (by simp [Op.operands]))
 have hZ:Rep β fr w.heap (ev Z) (a.eval Z):=by rcases ho with ho | ho <;> (rw [ho] at hr; exact hr Z (by simp [Op.operands]))
 have hex:(execOp a.eval o).run P w=((Instr.mapUpdate t (a.eval X) (a.eval Y) (a.eval Z)).run P w).andThen fun _ w'=>.ok .skip w':=by
  rcases ho with ho | ho <;> simp only [execOp,ho,Sem.run_bind,Sem.run_pure]
 unfold muK at hk
 split at hk
 ·rename_i kt et tg htk e1
  obtain ⟨hko,hk⟩:=hk
  obtain ⟨kd,hu,hkd⟩:=keyOk_kind hko
  have hkd':kd=.string∨∃ ik,kd=.int ik:=by
   rcases hkd with ⟨q,-⟩ | ⟨ik,j,n,q,-⟩
   ·exact .inl q
   ·exact .inr ⟨ik,q⟩
  rw [e1] at hX; simp only [Rep] at hX
  obtain ⟨b,hb,hv⟩:=hX
  split at hk
  ·rename_i l hl
   obtain ⟨b',es,hb',hH,hes,hent⟩:=L.obj tg _ hl
   rw [hb] at hb'; injection hb' with hb'; injection hb' with hb'; subst hb'
   have hent':∀ j (hj:j < l.length),∃ e,es.toList[j]? = some e∧Rep β fr w.heap (l[j]).1 e.key:=by
    intro j hj
    obtain ⟨e,he,-,hr1,-⟩:=hent j hj
    exact ⟨e,by simpa using he,hr1⟩
   unfold muG at hk
   split at hk
   ·rename_i i hf
    obtain ⟨q,hq,e,he,rfl,hke⟩:=findNow_ok hkd hY l es.toList 0 (some i) (by simpa using hes) hent' hf
    have hi:=findM_range _ _ _ _ hf
    have hil:i < l.length:=by omega
    have hei:es[i]? = some e:=by rw [Nat.sub_zero] at he; simpa using he
    have hsb:=sameBits_refl hkd hY
    obtain ⟨L',S'⟩:=L.mapTurn (l':=l.set i (ev Y,ev Z)) (es':=es.modify i fun e=>{ e with key:=a.eval Y,val:=a.eval Z }) hl hb hH (by simp [hes]) (set_entries hes hent hil _ (fun e _=>⟨rfl,hY,hZ⟩))
    refine ⟨_,_,_,_,β,fr,.inr ⟨?_,rfl⟩,hk,L',undef_rep,S'⟩
    rw [hex]
    simp only [Instr.mapUpdate,hv,Sem.run_bind,run_underlying (tk_mapd htk),Result.andThen_ok,run_getMap hH,Sem.run_pure,run_checkKey hu hkd',run_findKey hu hq,Instr.keyThatStays,hei,Option.map_some,Option.getD_some,hke,hsb,if_true,run_setMap hH,List.length_set]
   ·rename_i hf
    obtain ⟨q,hq,rfl⟩:=findNow_ok hkd hY l es.toList 0 none (by simpa using hes) hent' hf
    obtain ⟨L',S'⟩:=L.mapTurn (l':=l++[(ev Y,ev Z)]) (es':=es.push { key:=a.eval Y,val:=a.eval Z,born:=l.length }) hl hb hH (by simp [hes]) (push_entries hes hent ⟨rfl,hY,hZ⟩)
    refine ⟨_,_,_,_,β,fr,.inr ⟨?_,rfl⟩,hk,L',undef_rep,S'⟩
    rw [hex]
    simp only [Instr.mapUpdate,hv,Sem.run_bind,run_underlying (tk_mapd htk),Result.andThen_ok,run_getMap hH,Sem.run_pure,run_checkKey hu hkd',run_findKey hu hq,run_setMap hH,List.length_append,List.length_singleton]
   ·cases hk
  ·cases hk
 ·cases hk
def meG (k z:AV) (l:List (AV × AV)) (K:AV→List (AV × AV)→Prop):Prop :=
 match findM k l 0 with
 | some (some i)=>K (.tup [(l.getD i (.any,.any)).2,.int .i64 (i:Int)]) (l.set i (k,(l.getD i (.any,.any)).2))
 | some none=>K (.tup [z,.int .i64 (l.length:Int)]) (l++[(k,z)])
 | none=>False
def meK (P:Program) (t:TypeId) (x k:AV) (h:List AObj) (K:AV→List AObj→Prop):Prop :=
 match tk P t,x with
 | .map kt et,.mp tg=>keyOk (tk P kt) k=true∧(match zI P et with
  | some z=>(match h[tg]? with
   | some (.map l)=>meG k z l fun r l'=>K r (h.set tg (.map l'))
   | _=>False)
  | none=>False)
 | _,_=>False
theorem pair_rep {β:Beta} {fr:Nat→Prop} {H:Array Obj} {v:AV} {u:Value} {n:Int} (h:Rep β fr H v u):Rep β fr H (.tup [v,.int .i64 n]) (.tuple #[u,.int .i64 n]):=by
 simp only [Rep]
 refine ⟨_,rfl,rfl,fun j hj=>?_⟩
 have:j=0∨j=1:=by simp at hj; omega
 rcases this with rfl | rfl
 ·exact ⟨u,rfl,h⟩
 ·exact ⟨_,rfl,by simp [Rep]⟩
theorem me_ok {P:Program} {o:Oper} {t:TypeId} {X Y:Operand} {ev:Operand→AV} {h:List AObj} {K:AV→List AObj→Prop} (ho:o.op=.mapEntry t X Y) (hk:meK P t (ev X) (ev Y) h K):OpK P o ev h K:=by
 refine OpK.of_run fun a w β fr L hr=>?_
 rw [ho] at hr
 have hX:=hr X (by simp [Op.operands])
 have hY:=hr Y (by simp [Op.operands])
 unfold meK at hk
 split at hk
 ·rename_i kt et tg htk e1
  obtain ⟨hko,hk⟩:=hk
  obtain ⟨kd,hu,hkd⟩:=keyOk_kind hko
  have hkd':kd=.string∨∃ ik,kd=.int ik:=by
   rcases hkd with ⟨q,-⟩ | ⟨ik,j,n,q,-⟩
   ·exact .inl q
   ·exact .inr ⟨ik,q⟩
  rw [e1] at hX; simp only [Rep] at hX
  obtain ⟨b,hb,hv⟩:=hX
  split at hk
  ·rename_i z hz
   obtain ⟨zv,hzr,hzR⟩:=run_zI (w:=w) β fr hz
   split at hk
   ·rename_i l hl
    obtain ⟨b',es,hb',hH,hes,hent⟩:=L.obj tg _ hl
    rw [hb] at hb'; injection hb' with hb'; injection hb' with hb'; subst hb'
    have hent':∀ j (hj:j < l.length),∃ e,es.toList[j]? = some e∧Rep β fr w.heap (l[j]).1 e.key:=by
     intro j hj
     obtain ⟨e,he,-,hr1,-⟩:=hent j hj
     exact ⟨e,by simpa using he,hr1⟩
    unfold meG at hk
    split at hk
    ·rename_i i hf
     obtain ⟨q,hq,e,he,rfl,hke⟩:=findNow_ok hkd hY l es.toList 0 (some i) (by simpa using hes) hent' hf
     have hi:=findM_range _ _ _ _ hf
     have hil:i < l.length:=by omega
     have hei:es[i]? = some e:=by rw [Nat.sub_zero] at he; simpa using he
     obtain ⟨e',he',hbn,-,hr2⟩:=hent i hil
     rw [hei] at he'; injection he' with he'; subst he'
     rw [getD_pair hil] at hk
     have hsb:=sameBits_refl hkd hY
     obtain ⟨L',S'⟩:=L.mapTurn (l':=l.set i (ev Y,(l[i]).2)) (es':=es.modify i fun e=>{ e with key:=a.eval Y }) hl hb hH (by simp [hes]) (set_entries hes hent hil _ (fun e2 h2=>by rw [hei] at h2; injection h2 with h2; subst h2; exact ⟨rfl,hY,hr2⟩))
     refine ⟨.tuple #[e.val,.int .i64 (i:Int)],_,_,_,β,fr,.inl ?_,hk,L', ?_,S'⟩
     ·simp only [execOp,ho,Instr.mapEntry,hv,Sem.run_bind,run_underlying (tk_mapd htk),Result.andThen_ok,run_getMap hH,Sem.run_pure,run_checkKey hu hkd',run_findKey hu hq,Instr.keyThatStays,hei,Option.map_some,Option.getD_some,hke,hsb,if_true,run_setMap hH,List.length_set,hbn]
      rfl
     ·exact pair_rep (hr2.ext S'.ext)
    ·rename_i hf
     obtain ⟨q,hq,rfl⟩:=findNow_ok hkd hY l es.toList 0 none (by simpa using hes) hent' hf
     obtain ⟨L',S'⟩:=L.mapTurn (l':=l++[(ev Y,z)]) (es':=es.push { key:=a.eval Y,val:=zv,born:=l.length }) hl hb hH (by simp [hes]) (push_entries hes hent ⟨rfl,hY,hzR _⟩)
     refine ⟨.tuple #[zv,.int .i64 (l.length:Int)],_,_,_,β,fr,.inl ?_,hk,L',pair_rep (hzR _),S'⟩
     simp only [execOp,ho,Instr.mapEntry,hv,Sem.run_bind,run_underlying (tk_mapd htk),Result.andThen_ok,run_getMap hH,Sem.run_pure,run_checkKey hu hkd',run_findKey hu hq,hzr,run_setMap hH,List.length_append,List.length_singleton]
     rfl
    ·cases hk
   ·cases hk
  ·cases hk
 ·cases hk
def esK (x s v:AV) (h:List AObj) (K:AV→List AObj→Prop):Prop :=
 match x,s with
 | .mp tg,.int .i64 n=>(match h[tg]? with
  | some (.map l)=>(0≤n∧n < (l.length:Int))∧K (.tup []) (h.set tg (.map (l.set n.toNat ((l.getD n.toNat (.any,.any)).1,v))))
  | _=>False)
 | _,_=>False
theorem find_born {es:Array MapEntry} {n:Nat} (hn:n < es.size) (hb:∀ (j:Nat) (e:MapEntry),es[j]? = some e→e.born=j):es.findIdx? (fun e=>(e.born:Int)==(n:Int))=some n:=by
 rw [Array.findIdx?_eq_some_iff_getElem]
 refine ⟨hn, ?_,fun j hj=>?_⟩
 ·have:=hb n es[n] (Array.getElem?_eq_getElem hn)
  simp [this]
 ·have:=hb j es[j] (Array.getElem?_eq_getElem (by omega))
  simp only [this,beq_iff_eq,Int.natCast_inj]
  omega
theorem es_ok {P:Program} {o:Oper} {t:TypeId} {X Y Z:Operand} {ev:Operand→AV} {h:List AObj} {K:AV→List AObj→Prop} (ho:o.op=.entryStore t X Y Z) (hk:esK (ev X) (ev Y) (ev Z) h K):OpK P o ev h K:=by
 refine OpK.of_run fun a w β fr L hr=>?_
 rw [ho] at hr
 have hX:=hr X (by simp [Op.operands])
 have hY:=hr Y (by simp [Op.operands])
 have hZ:=hr Z (by simp [Op.operands])
 unfold esK at hk
 split at hk
 ·rename_i tg n e1 e2
  rw [e1] at hX; simp only [Rep] at hX
  rw [e2] at hY; simp only [Rep] at hY
  obtain ⟨b,hb,hv⟩:=hX
  split at hk
  ·rename_i l hl
   obtain ⟨⟨h0,hn⟩,hk⟩:=hk
   obtain ⟨m,rfl⟩:∃ m:Nat,n=(m:Int):=⟨n.toNat,by omega⟩
   rw [Int.toNat_natCast] at hk
   have hml:m < l.length:=by omega
   obtain ⟨b',es,hb',hH,hes,hent⟩:=L.obj tg _ hl
   rw [hb] at hb'; injection hb' with hb'; injection hb' with hb'; subst hb'
   have hfi:=find_born (es:=es) (n:=m) (by omega) (fun j e he=>by
    have hj:j < es.size:=by
     rcases Nat.lt_or_ge j es.size with q | q
     ·exact q
     ·rw [Array.getElem?_eq_none q] at he; cases he
    obtain ⟨e',h1,h2,-⟩:=hent j (by omega)
    rw [he] at h1; injection h1 with h1; subst h1; exact h2)
   obtain ⟨e',he',hbn,hr1,hr2⟩:=hent m hml
   rw [getD_pair hml] at hk
   obtain ⟨L',S'⟩:=L.mapTurn (l':=l.set m ((l[m]).1,ev Z)) (es':=es.modify m fun e=>{ e with val:=a.eval Z }) hl hb hH (by simp [hes]) (set_entries hes hent hml _ (fun e2 h2=>by rw [he'] at h2; injection h2 with h2; subst h2; exact ⟨rfl,hr1,hZ⟩))
   refine ⟨_,_,_,_,β,fr,.inr ⟨?_,rfl⟩,hk,L',undef_rep,S'⟩
   simp only [execOp,ho,Instr.entryStore,hv,hY,Sem.run_bind,Result.andThen_ok,run_getMap hH,Sem.run_pure,asInt,asIntOf,hfi,run_setMap hH,List.length_set]
  ·cases hk
 ·cases hk
end Go.Proofs.Vale
namespace Go.Proofs.Vale
theorem set_same {α:Type} {l:List α} {t:Nat} {o:α} (h:l[t]? = some o):l.set t o=l:=by
 apply List.ext_getElem?
 intro i
 rw [List.getElem?_set]
 split
 ·rename_i e; subst e
  rw [h,if_pos (List.getElem?_eq_some_iff.1 h).1]
 ·rfl
theorem write_row {P : Program} {w : World} {β : Beta} {fr : Nat → Prop} {h : List AObj} {t g s off b : Nat} {l ys : List AV} {us : Array Value} (L : Lay β fr w.heap h) (ht : h[t]? = some (.arr g s l)) (hb : β t g = some (some b)) (hrow : RowAt β fr w.heap ys s us)
  (hone:∀ y∈ys,∀ c∈y.cells,c.one=true) (hle:off+ys.length≤l.length) :
  ∃ w',(storeCells ⟨b,off * s,none⟩ us.toList).run P w=.ok () w'∧Lay β fr w'.heap (h.set t (.arr g s (l.take off++ys++l.drop (off+ys.length))))∧Step1 β fr h w β fr (h.set t (.arr g s (l.take off++ys++l.drop (off+ys.length)))) w':=by
 obtain ⟨hus,hcl,hrc⟩:=hrow
 have hone2:=RowAt.one ⟨hus,hcl,hrc⟩ hone
 rcases L.obj t _ ht with ⟨q,z⟩ | ⟨b',c,el,f,hb',hH,hfz,hls,hln,hlc⟩
 ·rw [hb] at q; cases q
 rw [hb] at hb'; injection hb' with hb'; injection hb' with hb'; subst hb'
 have hul:us.toList.length=ys.length * s:=by simp [hus]
 have hroom:off * s+0+us.toList.length≤c.size:=by
  have:(off+ys.length) * s≤l.length * s:=Nat.mul_le_mul_right s hle
  rw [Nat.add_mul] at this; omega
 obtain ⟨c2,w',s1,s2,s3,s4,s5,s6,s7,s8,s9⟩:=run_storeCells (P:=P) b (off * s) el f us.toList 0 c w hH hone2 hroom hfz
 have hlen:(l.take off++ys++l.drop (off+ys.length)).length=l.length:=by simp; omega
 have hget:∀ k (hk:k < (l.take off++ys++l.drop (off+ys.length)).length),(∀ q:off≤k∧k < off+ys.length,(l.take off++ys++l.drop (off+ys.length))[k]=ys[k - off]'(by omega))∧(∀ q:¬ (off≤k∧k < off+ys.length),∃ hl:k < l.length,(l.take off++ys++l.drop (off+ys.length))[k]=l[k]):=by
  intro k hk
  have hto:(l.take off).length=off:=by simp; omega
  refine ⟨fun q=>?_,fun q=>⟨by omega, ?_⟩⟩
  ·rw [List.getElem_append_left (by simp; omega),List.getElem_append_right (by omega)]
   congr 1; omega
  ·by_cases q2:k < off
   ·rw [List.getElem_append_left (by simp; omega),List.getElem_append_left (by omega)]; simp
   ·rw [List.getElem_append_right (by simp; omega)]
    simp only [List.getElem_drop]
    congr 1; simp; omega
 obtain ⟨L',S'⟩:=L.turn (w':=w') (β':=β) (g':=g) (o':=.arr g s (l.take off++ys++l.drop (off+ys.length))) (r:=some b) ht rfl rfl (fun _ _ _=>.inr trivial)
  (fun _ _ _ e=>e) (fun _ _ _ e=>.inl e) hb (fun b e=>by injection e with e; subst e; exact ⟨.inl hb,by rw [s4]; exact L.lt _ _ _ hb⟩) (fun k _ hk=>s3 k (fun q=>hk (by rw [q]; exact hb))) (by omega)
  (fun b1 c1 e1 f1 q q'=>by
   rw [hb] at q; injection q with q; injection q with q; subst q
   rw [hH] at q'; injection q' with q'; injection q' with q1 q2 q3; subst q1 q2 q3
   exact ⟨c2,f,s2,s8⟩) s5 s6 s7
  (fun E=>by
   have hcells:∀ x∈l.take off++ys++l.drop (off+ys.length),x.cells.length=s:=by
    intro x hx
    simp only [List.mem_append] at hx
    rcases hx with (hx | hx) | hx
    ·exact hls _ (List.mem_of_mem_take hx)
    ·exact hcl _ hx
    ·exact hls _ (List.mem_of_mem_drop hx)
   refine .inr ⟨b,c2,el,f,hb,s2,by rw [s8]; exact hfz,hcells,by rw [s8,hlen]; exact hln,fun k hk m hm=>?_⟩
   have hms:m < s:=by rw [← hcells _ (List.getElem_mem hk)]; exact hm
   obtain ⟨g1,g2⟩:=hget k hk
   by_cases q:off≤k∧k < off+ys.length
   ·have e:=g1 q
    have hki:k - off < ys.length:=by omega
    have hm2:m < (ys[k - off]).cells.length:=by rw [hcl _ (List.getElem_mem hki)]; exact hms
    obtain ⟨u,hu,hr⟩:=hrc (k - off) hki m hm2
    refine ⟨u, ?_, ?_⟩
    ·rw [s9]
     have h1:(k - off) * s+m < ys.length * s:=idx_lt hki hms
     have h2:k * s=off * s+(k - off) * s:=by rw [← Nat.add_mul]; congr 1; omega
     rw [if_pos (by omega)]
     have h3:k * s+m - (off * s+0)=(k - off) * s+m:=by omega
     rw [h3]
     simpa using hu
    ·have:(l.take off++ys++l.drop (off+ys.length))[k].cells[m]=(ys[k - off]).cells[m]:=by simp only [e]
     rw [this]; exact hr.ext E
   ·obtain ⟨hkl,e⟩:=g2 q
    have hm2:m < (l[k]).cells.length:=by rw [hls _ (List.getElem_mem hkl)]; exact hms
    obtain ⟨u,hu,hr⟩:=hlc k hkl m hm2
    refine ⟨u, ?_, ?_⟩
    ·rw [s9,if_neg]
     ·exact hu
     ·rintro ⟨q1,q2⟩
      rcases Nat.lt_or_ge k off with a | a
      ·have:(k+1) * s≤off * s:=Nat.mul_le_mul_right s a
       rw [Nat.add_mul] at this; omega
      ·have:off+ys.length≤k:=by omega
       have:(off+ys.length) * s≤k * s:=Nat.mul_le_mul_right s this
       rw [Nat.add_mul] at this; omega
    ·have:(l.take off++ys++l.drop (off+ys.length))[k].cells[m]=(l[k]).cells[m]:=by simp only [e]
     rw [this]; exact hr.ext E) (fun g1 hg1=>L.top t g s l ht g1 hg1)
 exact ⟨w',s1,L',S'⟩
theorem zero_row {β:Beta} {fr:Nat→Prop} {H:Array Obj} {z:AV} {zv:Value} {s:Nat} (n:Nat) (hz:Rep β fr H z zv) (hs:z.sure=true) (hn:z.cells.length=s):RowAt β fr H (List.replicate n z) s (Builtin.zeroCells zv.cells n):=by
 have hc:=Rep_cells' hz hs
 have hzs:zv.cells.size=s:=by rw [hc.1,hn]
 refine ⟨by simp [Builtin.zeroCells,hzs],fun x hx=>by rw [List.eq_of_mem_replicate hx]; exact hn,fun i hi j hj=>?_⟩
 have hi':i < n:=by simpa using hi
 simp only [List.getElem_replicate] at hj ⊢
 obtain ⟨u,hu,hr⟩:=hc.2 j hj
 refine ⟨u, ?_,hr⟩
 have hlt:i * s+j < n * s:=idx_lt hi' (by omega)
 have hmod:(i * s+j) % s=j:=by rw [Nat.add_comm,Nat.add_mul_mod_self_right,Nat.mod_eq_of_lt (by omega)]
 simp only [Builtin.zeroCells,hzs]
 rw [Array.getElem?_map,Array.getElem?_range,if_pos hlt]
 simp only [Option.map_some,hmod]
 rw [getElem!_pos zv.cells j (by omega)]
 rw [Array.getElem?_eq_getElem (by omega)] at hu
 rw [← hu]
def msK (P:Program) (t:TypeId) (l c:AV) (h:List AObj) (K:AV→List AObj→Prop):Prop :=
 match eI P t,l,c with
 | some (e,s,by_),.int .i64 n,.int .i64 m=>(match zI P e with
  | some z=>(0≤n∧n≤m∧m.toNat * by_≤140737488355328∧m≤9223372036854775807∧z.cells.length=s∧z.sure=true)∧K (.sl h.length 0 s 0 n.toNat) (h++[.arr 0 s (List.replicate n.toNat z)])
  | none=>False)
 | _,_,_=>False
theorem ms_ok {P:Program} {o:Oper} {t:TypeId} {X Y:Operand} {ev:Operand→AV} {h:List AObj} {K:AV→List AObj→Prop} (ho:o.op=.makeSlice t X Y) (hk:msK P t (ev X) (ev Y) h K):OpK P o ev h K:=by
 refine OpK.of_run fun a w β fr L hr=>?_
 rw [ho] at hr
 have hX:=hr X (by simp [Op.operands])
 have hY:=hr Y (by simp [Op.operands])
 unfold msK at hk
 split at hk
 ·rename_i e s by_ n m hei e1 e2
  split at hk
  ·rename_i z hz
   obtain ⟨⟨h0,h1,h2,h3,h4,h5⟩,hK⟩:=hk
   rw [e1] at hX; rw [e2] at hY; simp only [Rep] at hX hY
   obtain ⟨ht,i,zv,hi,his,hib,hzv,hzs⟩:=ei_full hei
   obtain ⟨zv',hzr,hzrep⟩:=run_zI (P:=P) (w:=w) β fr hz
   have hzz:zv'=zv:=by
    simp [zeroValue,typeInfo,hi,hzv] at hzr; exact hzr.symm
   subst hzz
   obtain ⟨M,rfl⟩:∃ M:Nat,m=(M:Int):=⟨m.toNat,by omega⟩
   obtain ⟨N,rfl⟩:∃ N:Nat,n=(N:Int):=⟨n.toNat,by omega⟩
   simp only [Int.toNat_natCast] at h2 hK ⊢
   have hw1:IntKind.i64.wrap (M:Int)=M:=by simp [IntKind.wrap,IntKind.signed,IntKind.bits]; omega
   have hw2:IntKind.i64.wrap (N:Int)=N:=by simp [IntKind.wrap,IntKind.signed,IntKind.bits]; omega
   let cells:Array Value:=Builtin.zeroCells zv'.cells M
   have hcells:∀ w',((if M * s=0 then (pure #[]:Sem (Array Value)) else (do pure (← zeroValue e).cells)).run P w').andThen (fun zero w''=>Result.ok ((Array.range (M * s)).map (zero[· % zero.size]!)) w'')=.ok cells w':=by
    intro w'
    by_cases hq:M * s=0
    ·simp [hq,cells,Builtin.zeroCells,hzs]
    ·simp [hq,zeroValue,typeInfo,hi,hzv,cells,Builtin.zeroCells,hzs]
   have hbig:¬ ((by_:Int) * (M:Int) > 2 ^ 48):=by
    have:(by_:Int) * (M:Int)=((M * by_:Nat):Int):=by simp [Int.mul_comm]
    rw [this]; omega
   have hrun:(execOp a.eval o).run P w=.ok (.value (.slice (some ⟨w.heap.size,0,none⟩) N M)) { w with heap:=w.heap.push (.cells cells e) }:=by
    have hlt:¬ ((M:Int) < 0):=by omega
    have hlt2:¬ ((N:Int) < 0):=by omega
    have hgt:¬ ((N:Int) > M):=by omega
    have hc:=hcells w
    simp only [execOp,ho,Instr.makeSlice,hX,hY,Sem.run_bind,run_underlying ht,Result.andThen_ok,asInt,asIntOf,Sem.run_pure,run_typeInfo' hi,hib,hw1,hw2,hlt,hlt2,hgt,hbig,run_sizeOf' hi,his]
    simp only [decide_false,Bool.or_self,Bool.false_or,Bool.false_eq_true,if_false,Sem.run_bind,Sem.run_pure,Result.andThen_ok,run_askRoom,Int.toNat_natCast]
    rw [run_sizeOf' hi,his]
    simp only [Result.andThen_ok]
    have hzr2:(zeroValue e).run P w=.ok zv' w:=by simp [zeroValue,typeInfo,hi,hzv]
    by_cases hq:M * s=0
    ·rw [if_pos hq]
     simp only [Sem.run_bind,Sem.run_pure,Result.andThen_ok,newRow,run_newObj]
     simp [cells,Builtin.zeroCells,hzs,his,hq]
     rw [show Array.range 0=#[] from rfl]; simp
    ·rw [if_neg hq]
     simp only [Sem.run_bind,Sem.run_pure,Result.andThen_ok,newRow,run_newObj,hzr2]
     simp [cells,Builtin.zeroCells,hzs,his]
   have hrow:RowAt β fr w.heap (List.replicate N z) s (Builtin.zeroCells zv'.cells N):=zero_row N (hzrep _) h5 h4
   obtain ⟨L',S'⟩:=L.push (w':={ w with heap:=w.heap.push (.cells cells e) }) (g:=0) (o:=.arr 0 s (List.replicate N z)) (c:=.cells cells e) rfl rfl rfl rfl rfl
    ((hrow.ext (Ext.push L 0 rfl)).obj (c:=cells) (e:=e) (f:=(0,0)) (betaSet_same _ _ _ _) (by simp) (fun i _=>by simp) (fun k hk=>by
     have hk2:k < N * s:=by simpa [Builtin.zeroCells,hzs,his] using hk
     have hk3:N * s≤M * s:=Nat.mul_le_mul_right s (by omega)
     simp only [cells,Builtin.zeroCells,hzs]
     rw [Array.getElem?_map,Array.getElem?_map,Array.getElem?_range,Array.getElem?_range]
     rw [his] at *
     rw [if_pos (by omega),if_pos (by omega)]) (by
     have hk3:N * s≤M * s:=Nat.mul_le_mul_right s (by omega)
     simp [cells,Builtin.zeroCells,hzs,his]; exact hk3))
   refine ⟨_,_,_,_,_,_,.inl hrun,hK,L', ?_,S'⟩
   simp only [Rep]
   refine .inr ⟨w.heap.size,cells,e,(0,0),M,betaSet_same _ _ _ _,by simp,by simp, ?_,by omega⟩
   simp [cells,Builtin.zeroCells,hzs,his]
  ·cases hk
 ·cases hk
def crK (P:Program) (ts:Array TypeId) (x:AV) (h:List AObj) (K:AV→List AObj→Prop):Prop :=
 match eI P (ts.getD 0 0),x with
 | some (e,s,by_),.sl t g s' off len=>(match h[t]?, zI P e with
  | some (.arr g' s'' l),some z=>(ts.size≠0∧g=g'∧s'=s∧s''=s∧off+len≤l.length∧z.cells.length=s∧z.sure=true∧z.cells.all AV.one=true)∧K (.tup []) (h.set t (.arr g' s'' (l.take off++List.replicate len z++l.drop (off+len))))
  | _,_=>False)
 | some _,.fz c l=>(ts.size≠0∧l=[])∧K (.tup []) h
 | _,_=>False
theorem cr_ok {P:Program} {o:Oper} {c:Call} {X:Operand} {ev:Operand→AV} {h:List AObj} {K:AV→List AObj→Prop} (ho:o.op=.call c) (hc:c.callee=.builtin .clear) (ha:c.args=#[X]) (hk:crK P c.argTypes (ev X) h K):OpK P o ev h K:=by
 refine OpK.of_run fun a w β fr L hr=>?_
 rw [ho] at hr
 have hX:=hr X (by simp [Op.operands,Call.operands,hc,ha])
 have hrun:∀ {v w'},(Builtin.clear_ c.argTypes o.type #[a.eval X]).run P w=.ok v w'→(execOp a.eval o).run P w=.ok (.value v) w':=by
  intro v w' e
  simp only [execOp,ho,Go.resolve,hc,Sem.run_bind,Sem.run_pure,Result.andThen_ok,Go.invoke,Go.builtin]
  rw [show c.args.map a.eval=#[a.eval X] by rw [ha]; simp,e]; rfl
 unfold crK at hk
 split at hk
 ·rename_i e s by_ t g s' off len hei e1
  split at hk
  ·rename_i g' s'' l z ht hz
   obtain ⟨⟨hts,rfl,rfl,rfl,hle,hzc,hzs,hone⟩,hK⟩:=hk
   obtain ⟨t0,h0,ht0⟩:∃ t0,c.argTypes[0]? = some t0∧c.argTypes.getD 0 0=t0:=⟨c.argTypes[0],Array.getElem?_eq_getElem (by omega),by rw [Array.getD_eq_getD_getElem?, Array.getElem?_eq_getElem (by omega)]; rfl⟩
   rw [ht0] at hei
   obtain ⟨htt,i,zv,hi,his,hib,hzv,hzvs⟩:=ei_full hei
   obtain ⟨zv',hzr,hzrep⟩:=run_zI (P:=P) (w:=w) β fr hz
   have hzz:zv'=zv:=by
    simp [zeroValue,typeInfo,hi,hzv] at hzr; exact hzr.symm
   subst hzz
   rw [e1] at hX; simp only [Rep] at hX
   rcases hX with ⟨hb,hoff,hl0,hv⟩ | ⟨b,cc,el,f,cap,hb,hH,hv,hcs,hlc⟩
   ·subst hoff hl0
    have hsame:h.set t (.arr g s'' (l.take 0++List.replicate 0 z++l.drop (0+0)))=h:=by
     simp only [List.take_zero,List.replicate_zero,List.nil_append,Nat.add_zero,List.drop_zero]
     exact set_same ht
    rw [hsame] at hK
    refine ⟨.tuple #[],.tup [],w,h,β,fr,.inl (hrun ?_),hK,L,by simp [Rep],Step1.refl _ _ _ _⟩
    simp [Builtin.clear_,h0,run_underlying htt,hv]
   ·have hrow:RowAt β fr w.heap (List.replicate len z) s'' (Builtin.zeroCells zv'.cells len):=zero_row len (hzrep _) hzs hzc
    by_cases hlen:len=0
    ·subst hlen
     have hsame:h.set t (.arr g s'' (l.take off++List.replicate 0 z++l.drop (off+0)))=h:=by
      simp only [List.replicate_zero,List.append_nil,Nat.add_zero,List.take_append_drop]
      exact set_same ht
     rw [hsame] at hK
     refine ⟨.tuple #[],.tup [],w,h,β,fr,.inl (hrun ?_),hK,L,by simp [Rep],Step1.refl _ _ _ _⟩
     simp [Builtin.clear_,h0,run_underlying htt,hv]
    ·obtain ⟨w',r1,L',S'⟩:=write_row (P:=P) (off:=off) L ht hb hrow (fun y hy c hc=>by rw [List.eq_of_mem_replicate hy] at hc; exact List.all_eq_true.1 hone c hc) (by simp; omega)
     rw [List.length_replicate] at L' S'
     refine ⟨.tuple #[],.tup [],w',_,β,fr,.inl (hrun ?_),hK,L',by simp [Rep],S'⟩
     unfold Builtin.clear_
     obtain ⟨n,rfl⟩:∃ n,len=n+1:=⟨len - 1,by omega⟩
     simp only [h0,hv,List.getElem?_toArray,List.getElem?_cons_zero,Sem.run_bind,run_underlying htt,Result.andThen_ok,hzr,r1,Sem.run_pure]
  ·cases hk
 ·rename_i c0 l hei e1
  obtain ⟨⟨hts,rfl⟩,hK⟩:=hk
  obtain ⟨t0,h0,ht0⟩:∃ t0,c.argTypes[0]? = some t0∧c.argTypes.getD 0 0=t0:=⟨c.argTypes[0],Array.getElem?_eq_getElem (by omega),by rw [Array.getD_eq_getD_getElem?, Array.getElem?_eq_getElem (by omega)]; rfl⟩
  rw [ht0] at hei
  obtain ⟨htt,-⟩:=ei_full (show eI P t0=some (_,_,_) from hei)
  rw [e1] at hX; simp only [Rep] at hX
  obtain ⟨ao,cap,hv,-⟩:=hX
  refine ⟨.tuple #[],.tup [],w,h,β,fr,.inl (hrun ?_),hK,L,by simp [Rep],Step1.refl _ _ _ _⟩
  cases ao <;> simp [Builtin.clear_,h0,run_underlying htt,hv]
 ·cases hk
theorem rdA_take {P : Program} {w : World} {β : Beta} {fr : Nat → Prop} {h : List AObj} {x : AV} {v : Value} {p : Prop} {ys : List AV} {s n : Nat} (L : Lay β fr w.heap h) (hx : Rep β fr w.heap x v) (he : rdA h x = some (p, ys)) (hp : p) (hs : ∀ y ∈ ys, y.cells.length = s) (hn : n ≤ ys.length) :
  ∃ us,(∀ w':World,w'.heap=w.heap→(Builtin.firstCells s n v).run P w'=.ok us w')∧RowAt β fr w.heap (ys.take n) s us:=by
 have hl:(ys.take n).length=n:=by simp; omega
 unfold rdA at he
 split at he
 ·rename_i c l
  injection he with he; injection he with h1 h2; subst h2
  simp only [Rep] at hx
  obtain ⟨ao,cap,rfl,h3,h4,h5⟩:=hx
  cases l with
  | nil =>
   have hn0:n=0:=by simpa using hn
   subst hn0
   cases ao with
   | none=>exact ⟨#[],fun _ _=>rfl,by simp,by simp,by simp⟩
   | some ad=>exact ⟨#[],fun _ _=>by simp [Builtin.firstCells,loadCells,loadCellsFrom],by simp,by simp,by simp⟩
  | cons y l =>
   obtain ⟨ad,s',rfl,hf,hsp,hu,hc⟩:=h5 (by simp)
   have:s'=s:=by rw [← hu y (by simp),hs y (by simp)]
   subst this
   obtain ⟨bk,of,sp⟩:=ad
   simp only at hsp; subst hsp
   have:=run_loadRow (P:=P) (w:=w) (β:=β) (fr:=fr) (l:=(y::l).take n) (s:=s') (b:=bk) (o:=of) (fun x hx=>hs x (List.mem_of_mem_take hx)) (fun i hi j hj=>by
    have hi2:i < (y::l).length:=by simp at hi ⊢; omega
    have e:((y::l).take n)[i]=(y::l)[i]:=by simp
    have hj2:j < ((y::l)[i]).cells.length:=by rw [← e]; exact hj
    obtain ⟨u,h6,h7⟩:=hc i hi2 j hj2
    exact ⟨u, h6, by have : (((y :: l).take n)[i]).cells[j] = ((y :: l)[i]).cells[j] := by simp only [e]
                     rw [this]; exact h7⟩)
   rw [hl] at this
   exact this
 ·rename_i t g s' off len
  split at he
  ·rename_i g' s'' l ht
   injection he with he; injection he with h1 h2; subst h2; rw [← h1] at hp
   obtain ⟨rfl,rfl,hnn⟩:=hp
   simp only [Rep] at hx
   rcases hx with ⟨hb,rfl,rfl,rfl⟩ | ⟨b,c,e,f,cap,hb,hH,rfl,hcs,hlc⟩
   ·have hn0:n=0:=by simp at hn; omega
    subst hn0
    exact ⟨#[],fun _ _=>by simp [Builtin.firstCells],by simp,by simp,by simp⟩
   ·have hlen:((l.drop off).take len).length=len:=by simp; omega
    rw [hlen] at hn
    have htk:((l.drop off).take len).take n=(l.drop off).take n:=by rw [List.take_take,Nat.min_eq_left hn]
    rw [htk] at hl ⊢
    have:=run_loadRow (P:=P) (w:=w) (β:=β) (fr:=fr) (l:=(l.drop off).take n) (s:=s) (b:=b) (o:=off * s') (fun x hx=>hs x (by rw [← htk] at hx; exact List.mem_of_mem_take hx)) (fun i hi j hj=>by
     have hi':off+i < l.length:=by simp at hi; omega
     have hi2:i < len:=by simp at hi; omega
     simp only [List.getElem_take,List.getElem_drop] at hj ⊢
     obtain ⟨u,hu,hr⟩:=L.arr ht hi' hb j hj
     refine ⟨u, ?_,hr⟩
     have hss:s'=s:=by
      have ho:=L.obj t _ ht
      rcases ho with ⟨_,z⟩ | ⟨_,_,_,_,_,_,_,h4,_⟩
      ·subst z; simp at hi'
      ·rw [← h4 _ (List.getElem_mem hi'),← hs (l[off+i]) (by
        have:=List.getElem_mem (l:=(l.drop off).take len) (n:=i) (by rw [hlen]; exact hi2)
        simpa only [List.getElem_take,List.getElem_drop] using this)]
     subst hss
     rw [← hu]; congr 1; rw [Nat.add_mul])
    rw [hl] at this
    simpa [Builtin.firstCells] using this
  ·cases he
 ·rename_i bs
  injection he with he; injection he with h1 h2; subst h2
  simp only [Rep] at hx
  obtain ⟨b,rfl,rfl⟩:=hx
  have hbl:(bytesA b.data.toList).length=b.size:=by simp [bytesA]
  rw [hbl] at hn
  refine ⟨((b.extract 0 n).data.map fun b=>.int .u8 b.toNat),fun _ _=>by simp [Builtin.firstCells], ?_⟩
  have hs1:n=0∨s=1:=by
   rcases Nat.eq_zero_or_pos n with q | q
   ·exact .inl q
   ·right
    have hne:bytesA b.data.toList≠[]:=fun e=>by rw [e] at hbl; simp at hbl; omega
    obtain ⟨y,hy⟩:=List.exists_mem_of_ne_nil _ hne
    rw [← hs y hy]
    simp only [bytesA,List.mem_map] at hy
    obtain ⟨c,_,rfl⟩:=hy
    rfl
  have hsz:(b.extract 0 n).data.size=n:=by
   have:(b.extract 0 n).size=n:=by simp; omega
   exact this
  refine ⟨by rw [Array.size_map,hsz,hl]; rcases hs1 with q | q <;> rw [q] <;> simp,fun x hx=>hs x (List.mem_of_mem_take hx),fun i hi j hj=>?_⟩
  have hin:i < n:=by rw [hl] at hi; exact hi
  have hs1:s=1:=by rcases hs1 with q | q; omega; exact q
  subst hs1
  have e:((bytesA b.data.toList).take n)[i]=.int .u8 (b.data[i]'(by have:b.size=b.data.size:=rfl; omega)).toNat:=by
   simp [bytesA]
  have hj0:j=0:=by rw [e] at hj; simp [AV.cells] at hj; omega
  subst hj0
  refine ⟨.int .u8 (b.data[i]'(by have:b.size=b.data.size:=rfl; omega)).toNat, ?_, ?_⟩
  ·have hlt:i < (b.extract 0 n).data.size:=by rw [hsz]; exact hin
   rw [Nat.mul_one,Nat.add_zero,Array.getElem?_map,Array.getElem?_eq_getElem hlt]
   simp
  ·have:(((bytesA b.data.toList).take n)[i]).cells[0]=.int .u8 (b.data[i]'(by have:b.size=b.data.size:=rfl; omega)).toNat:=by simp only [e,AV.cells,List.getElem_cons_zero]
   rw [this]; simp [Rep]
 ·cases he
def cpK (P:Program) (ts:Array TypeId) (d x:AV) (h:List AObj) (K:AV→List AObj→Prop):Prop :=
 match eI P (ts.getD 0 0),d,rdA h x with
 | some (e,s,by_),.sl t g s' off len,some (p,ys)=>(match h[t]? with
  | some (.arr g' s'' l)=>(ts.size≠0∧p∧g=g'∧s'=s∧s''=s∧off+len≤l.length∧ys.all (okEl s)=true)∧K (.int .i64 (min ys.length len:Nat)) (h.set t (.arr g' s'' (l.take off++ys.take len++l.drop (off+min ys.length len))))
  | _=>False)
 | _,_,_=>False
theorem cp_ok {P:Program} {o:Oper} {c:Call} {D X:Operand} {ev:Operand→AV} {h:List AObj} {K:AV→List AObj→Prop} (ho:o.op=.call c) (hc:c.callee=.builtin .copy) (ha:c.args=#[D,X]) (hk:cpK P c.argTypes (ev D) (ev X) h K):OpK P o ev h K:=by
 refine OpK.of_run fun a w β fr L hr=>?_
 rw [ho] at hr
 have hD:=hr D (by simp [Op.operands,Call.operands,hc,ha])
 have hX:=hr X (by simp [Op.operands,Call.operands,hc,ha])
 have hrun:∀ {v w'},(Builtin.copy_ c.argTypes o.type #[a.eval D,a.eval X]).run P w=.ok v w'→(execOp a.eval o).run P w=.ok (.value v) w':=by
  intro v w' e
  simp only [execOp,ho,Go.resolve,hc,Sem.run_bind,Sem.run_pure,Result.andThen_ok,Go.invoke,Go.builtin]
  rw [show c.args.map a.eval=#[a.eval D,a.eval X] by rw [ha]; simp,e]; rfl
 unfold cpK at hk
 split at hk
 ·rename_i e s by_ t g s' off len p ys hei e1 hrd
  split at hk
  ·rename_i g' s'' l ht
   obtain ⟨⟨hts,hp,rfl,rfl,rfl,hle,hel⟩,hK⟩:=hk
   obtain ⟨hs,hone⟩:=okEl_spec hel
   obtain ⟨t0,h0,ht0⟩:∃ t0,c.argTypes[0]? = some t0∧c.argTypes.getD 0 0=t0:=⟨c.argTypes[0],Array.getElem?_eq_getElem (by omega),by rw [Array.getD_eq_getD_getElem?, Array.getElem?_eq_getElem (by omega)]; rfl⟩
   rw [ht0] at hei
   obtain ⟨htt,i,zv,hi,his,hib,hzv,hzvs⟩:=ei_full hei
   obtain ⟨hlx,-⟩:=rdA_run (P:=P) L hX hrd hp hs
   obtain ⟨us,hus,hrow⟩:=rdA_take (P:=P) (n:=min ys.length len) L hX hrd hp hs (by omega)
   rw [e1] at hD; simp only [Rep] at hD
   rcases hD with ⟨hb,hoff,hl0,hv⟩ | ⟨b,cc,el,f,cap,hb,hH,hv,hcs,hlc⟩
   ·subst hoff hl0
    have hsame:h.set t (.arr g s'' (l.take 0++ys.take 0++l.drop (0+min ys.length 0)))=h:=by
     simp only [List.take_zero,List.nil_append,Nat.add_zero,Nat.min_zero,List.drop_zero]
     exact set_same ht
    rw [hsame] at hK
    simp only [Nat.min_zero] at hK hus hrow
    refine ⟨.int .i64 (0:Nat),_,w,h,β,fr,.inl (hrun ?_),hK,L,by simp [Rep],Step1.refl _ _ _ _⟩
    simp only [Builtin.copy_,h0,hv,List.getElem?_toArray,List.getElem?_cons_zero,List.getElem?_cons_succ,Sem.run_bind,run_underlying htt,Result.andThen_ok,hlx,run_sizeOf' hi,his,Nat.min_zero,hus w rfl,Sem.run_pure,goInt]
   ·have htk:ys.take len=ys.take (min ys.length len):=by
     rcases Nat.le_total ys.length len with q | q
     ·rw [Nat.min_eq_left q,List.take_of_length_le q,List.take_length]
     ·rw [Nat.min_eq_right q]
    have hyl:(ys.take (min ys.length len)).length=min ys.length len:=by rw [List.length_take]; omega
    obtain ⟨w',r1,L',S'⟩:=write_row (P:=P) (off:=off) L ht hb hrow (fun y hy c hc=>hone y (List.mem_of_mem_take hy) c hc) (by rw [hyl]; omega)
    rw [hyl] at L' S'
    rw [htk] at hK
    refine ⟨.int .i64 (min ys.length len:Nat),_,w',_,β,fr,.inl (hrun ?_),hK,L',by simp [Rep],S'⟩
    simp only [Builtin.copy_,h0,hv,List.getElem?_toArray,List.getElem?_cons_zero,List.getElem?_cons_succ,Sem.run_bind,run_underlying htt,Result.andThen_ok,hlx,run_sizeOf' hi,his]
    have:Nat.min ys.length len=min ys.length len:=rfl
    simp only [this,hus w rfl,Result.andThen_ok,r1,Sem.run_pure,goInt]
  ·cases hk
 ·cases hk
def mI (P:Program) (t:TypeId) (name:String):Option FuncId :=
 match P.info? t with
 | some i=>(match i.methods.find? (·.name==name) with
  | some m=>(match m.path.toList,m.func with
   | [],some (f,ptr)=>(match P.underlying t with
    | some (.pointer _)=>if ptr then some f else none
    | some _=>if ptr then none else some f
    | none=>none)
   | _,_=>none)
  | none=>none)
 | none=>none
def ivK (P:Program) (x:AV) (name:String) (args:List AV) (h:List AObj) (K:AV→List AObj→Prop):Prop :=
 match x with
 | .iface t y=>(match mI P t name with
  | some f=>entersB P f=true∧ACall P f (y::args) h K
  | none=>False)
 | _=>False
theorem run_method {P:Program} {w:World} {t:TypeId} {v:Value} {name:String} {f:FuncId} (h:mI P t name=some f) (d:Nat):(Go.method (d+1) t v name).run P w=.ok (f,v) w:=by
 unfold mI at h
 split at h
 ·rename_i i hi
  split at h
  ·rename_i m hm
   split at h
   ·rename_i f' ptr hp hf
    have hpa:m.path.toList=[]:=hp
    split at h
    ·rename_i e hu
     split at h
     ·injection h with h; subst h
      rename_i hptr
      simp [Go.method,typeInfo,hi,hm,hpa,Go.follow,hf,receiverAt,run_underlying hu,hptr,Place.get]
     ·cases h
    ·rename_i d2 hn hu
     split at h
     ·cases h
     ·rename_i hptr
      injection h with h; subst h
      have hptr:ptr=false:=by simpa using hptr
      subst hptr
      cases d2 <;> first | exact absurd rfl (hn _) | simp [Go.method,typeInfo,hi,hm,hpa,Go.follow,hf,receiverAt,run_underlying hu,Place.get]
    ·cases h
   ·cases h
  ·cases h
 ·cases h
theorem cs1 {β:Beta} {fr:Nat→Prop} {H:Array Obj} {x:AV} {v:Value} (h:Rep β fr H x v):CellsRep β fr H [x] #[v]:=⟨rfl,fun j hj=>by
 have:j=0:=by simp at hj; omega
 subst this; exact ⟨v,rfl,h⟩⟩
theorem iv_ok {P:Program} {o:Oper} {c:Call} {R:Operand} {name:String} {ev:Operand→AV} {h:List AObj} {K:AV→List AObj→Prop} (ho:o.op=.call c) (hc:c.callee=.invoke R name) (hk:ivK P (ev R) name (c.args.toList.map ev) h K):OpK P o ev h K:=by
 intro a w β fr L hr ro next Q hQ
 rw [ho] at hr
 have hR:=hr R (by simp [Op.operands,Call.operands,hc])
 have hA:∀ y,y∈c.args→Rep β fr w.heap (ev y) (a.eval y):=fun y hy=>hr y (by simp [Op.operands,Call.operands,hc,hy])
 unfold ivK at hk
 split at hk
 ·rename_i t y e1
  split at hk
  ·rename_i f hm
   obtain ⟨hent,hcall⟩:=hk
   rw [e1] at hR; simp only [Rep] at hR
   obtain ⟨u,hv,hru⟩:=hR
   have hargs:CellsRep β fr w.heap (c.args.toList.map ev) (c.args.map a.eval):=by
    refine ⟨by simp,fun j hj=>?_⟩
    have hj':j < c.args.size:=by simpa using hj
    exact ⟨a.eval c.args[j],by simp [hj'],by simp; exact hA _ (by simp)⟩
   have hext:(#[Value.iface t u]++c.args.map a.eval).extract 1 (#[Value.iface t u]++c.args.map a.eval).size=c.args.map a.eval:=by
    apply Array.ext_getElem?
    intro i
    rw [Array.getElem?_extract]
    by_cases q:i < (c.args.map a.eval).size
    ·rw [if_pos (by simp at q ⊢; omega),Array.getElem?_append_right (by simp)]
     simp
    ·rw [if_neg (by simp at q ⊢; omega),Array.getElem?_eq_none (by omega)]
   have hdep : ∃ d, P.types.size + Made.depth = d + 1 := ⟨P.types.size + Made.depth - 1, by have : 0 < Made.depth := by decide
                                                                                            omega⟩
   obtain ⟨d,hd⟩:=hdep
   have hrun:(execOp a.eval o).run P w=.ok (.enter f (#[u]++c.args.map a.eval)) w:=by
    unfold entersB at hent
    split at hent
    ·rename_i fn hfn
     simp only [Bool.and_eq_true,bne_iff_ne,ne_eq] at hent
     obtain ⟨hb,hnm⟩:=hent
     have hbn:fn.body.isNone=false:=by cases q:fn.body <;> simp_all
     have h0:(#[Value.iface t u]++c.args.map a.eval)[0]? = some (Value.iface t u):=by rw [Array.getElem?_append_left (by simp)]; rfl
     simp only [execOp,ho,Go.resolve,hc,hv,Sem.run_bind,Sem.run_pure,Result.andThen_ok,Go.invoke,h0,hext,callMethod,run_program,hd,run_method hm d,callFunc,hfn]
     simp [hnm,hbn]
    ·cases hent
   refine wpIn_ent hrun ?_
   refine (hcall w β fr _ L (CellsRep.append (cs1 hru) hargs)).mono ?_
   rintro e w' ⟨v,x,h',β',fr',rfl,k1,k2,k3,k4⟩
   exact ⟨v,rfl,hQ v x w' h' β' fr' k1 k2 k3 k4⟩
  ·cases hk
 ·cases hk
end Go.Proofs.Vale
namespace Go.Proofs.Vale
abbrev Post:=Exit→List AV→List AObj→Prop
structure Sur (n0:Nat) (ro:Option Nat) (ds:List Deferred) (β:Beta) (fr:Nat→Prop) (h:List AObj) (w:World):Prop where
 le:n0≤w.heap.size
 nodup:ds.Pairwise (fun x y=>x.target≠y.target)
 mark:∀ d∈ds,∃ D,d={ target:=.collected D,args:=#[] }∧n0≤D∧w.heap[D]? = some (.deferred (some []))∧¬ Own h β D∧¬ fr D
 rnd:∀ l,ro=some l→∃ r,w.heap[l]? = some (.loop r)∧¬ Own h β l
theorem Sur.step {n0:Nat} {ro:Option Nat} {ds:List Deferred} {β β':Beta} {fr fr':Nat→Prop} {h h':List AObj} {w w':World} (s:Sur n0 ro ds β fr h w) (S:Step1 β fr h w β' fr' h' w'):Sur n0 ro ds β' fr' h' w' where
 le:=Nat.le_trans s.le S.size
 nodup:=s.nodup
 mark d hd:=by
  obtain ⟨D,e,h1,h2,h3,h4⟩:=s.mark d hd
  have hlt:D < w.heap.size:=(Array.getElem?_eq_some_iff.1 h2).1
  refine ⟨D,e,h1,(S.keep D hlt h3).trans h2,fun o=>?_,fun f=>?_⟩
  ·rcases S.prov D o with q | q
   ·exact h3 q
   ·omega
  ·rcases S.frz D f with q | q | q
   ·exact h4 q
   ·exact h3 q
   ·omega
 rnd l e:=by
  obtain ⟨r,h1,h2⟩:=s.rnd l e
  have hlt:l < w.heap.size:=(Array.getElem?_eq_some_iff.1 h1).1
  refine ⟨r,(S.keep l hlt h2).trans h1,fun o=>?_⟩
  rcases S.prov l o with q | q
  ·exact h2 q
  ·omega
theorem Sur.plain (β:Beta) (fr:Nat→Prop) (h:List AObj) (w:World):Sur w.heap.size none [] β fr h w :=
 ⟨Nat.le_refl _,.nil,fun _ hd=>(nomatch hd),fun _ e=>(nomatch e)⟩
def AWP (P:Program) (c:Code) (Q:Post) (env:List AV) (h:List AObj):Prop :=
 ∀ (n0:Nat) (ro:Option Nat) (ds:List Deferred) (tmps:Array Value) (w:World) (β:Beta) (fr:Nat→Prop),Sur n0 ro ds β fr h w→Lay β fr w.heap h→EnvRep β fr w.heap env tmps →
  c.wpIn (roF ro) 0 P (fun e a' w'=>∃ env' h' β' fr',Q e env' h'∧Sur n0 ro a'.defers β' fr' h' w'∧Lay β' fr' w'.heap h'∧EnvRep β' fr' w'.heap env' a'.tmps∧Step1 β fr h w β' fr' h' w') ⟨tmps,ds⟩ w
theorem Ext.poke {β:Beta} {fr:Nat→Prop} {H:Array Obj} {l:Nat} {r:Loop} (hl:H[l]? = some (.loop r)) (hf:¬ fr l) (o:Obj):Ext β fr H β fr (H.setIfInBounds l o) where
 beta _ _ _ e:=e
 frm _ e:=e
 cells b hb:=Array.getElem?_setIfInBounds_ne (fun e:l=b=>hf (by rw [e]; exact hb))
 shape t g b c e f hb hc:=by
  have hne:l≠b:=fun q=>by rw [← q,hl] at hc; cases hc
  exact ⟨c,f,by rw [Array.getElem?_setIfInBounds_ne hne]; exact hc,rfl⟩
theorem getElem?_poke {H:Array Obj} {l b:Nat} {o:Obj} (h:b≠l):(H.setIfInBounds l o)[b]? = H[b]? := Array.getElem?_setIfInBounds_ne (Ne.symm h)
theorem Lay.poke {β:Beta} {fr:Nat→Prop} {H:Array Obj} {h:List AObj} (L:Lay β fr H h) {l:Nat} {r:Loop} (hl:H[l]? = some (.loop r)) (hf:¬ fr l) (ho:¬ Own h β l) (o:Obj):Lay β fr (H.setIfInBounds l o) h where
 frlt b hb:=by simp; exact L.frlt b hb
 ownfr:=L.ownfr
 lt t g b e:=by simp; exact L.lt t g b e
 inj:=L.inj
 obj t ob ht:=(L.obj t ob ht).ext (Ext.poke hl hf o) fun g b hg hb=>getElem?_poke fun e=>ho ⟨t,ob,g,ht,hg,e ▸ hb⟩
 dom:=L.dom
 top:=L.top
 tab b p q:=by
  obtain ⟨h1,h2⟩:=L.tab b p q
  exact ⟨h1,by rw [getElem?_poke (fun e:b=l=>hf (by rw [← e]; exact h1))]; exact h2⟩
theorem Lay.drop {β:Beta} {fr:Nat→Prop} {H:Array Obj} {h:List AObj} (L:Lay β fr H h) (t:Nat):Lay β fr H (h.set t .dead):=by
 have key:∀ (k:Nat) (o:AObj),(h.set t .dead)[k]? = some o→(∃ g,o.gen=some g)→h[k]? = some o:=by
  rintro k o hk ⟨g,hg⟩
  rw [List.getElem?_set] at hk
  split at hk
  ·split at hk
   ·injection hk with hk; subst hk; cases hg
   ·cases hk
  ·exact hk
 refine { frlt:=L.frlt,ownfr:=?_,lt:=L.lt,inj:=?_,obj:=?_,dom:=?_,top:=?_,tab:=L.tab }
 ·rintro b ⟨k,o,g,h1,h2,h3⟩ hb
  exact L.ownfr b ⟨k,o,g,key k o h1 ⟨g,h2⟩,h2,h3⟩ hb
 ·intro k k' o o' g g' b h1 h2 h3 h4 h5 h6
  exact L.inj k k' o o' g g' b (key _ _ h1 ⟨g,h2⟩) h2 h3 (key _ _ h4 ⟨g',h5⟩) h5 h6
 ·intro k o hk
  cases ho:o.gen with
  | none=>cases o <;> first | (cases ho; done) | (simp only [ObjAt])
  | some g=>exact L.obj k o (key k o hk ⟨g,ho⟩)
 ·intro k g r e; simp; exact L.dom k g r e
 ·intro k g s l hk g' hg'
  exact L.top k g s l (key k _ hk ⟨g,rfl⟩) g' hg'
theorem own_drop {h:List AObj} {β:Beta} {t b:Nat} (o:Own (h.set t .dead) β b):Own h β b:=by
 obtain ⟨k,ob,g,h1,h2,h3⟩:=o
 rw [List.getElem?_set] at h1
 split at h1
 ·split at h1
  ·injection h1 with h1; subst h1; cases h2
  ·cases h1
 ·exact ⟨k,ob,g,h1,h2,h3⟩
theorem own_dropped {β:Beta} {fr:Nat→Prop} {H:Array Obj} {h:List AObj} (L:Lay β fr H h) {t g b:Nat} {o:AObj} (ht:h[t]? = some o) (hg:o.gen=some g) (hb:β t g=some (some b)):¬ Own (h.set t .dead) β b:=by
 rintro ⟨k,ob,g',h1,h2,h3⟩
 rw [List.getElem?_set] at h1
 split at h1
 ·split at h1
  ·injection h1 with h1; subst h1; cases h2
  ·cases h1
 ·rename_i hne
  exact hne (L.inj _ _ _ _ _ _ _ ht hg hb h1 h2 h3)
theorem Step1.undrop {β β':Beta} {fr fr':Nat→Prop} {h h':List AObj} {w w':World} {t:Nat} (S:Step1 β fr (h.set t .dead) w β' fr' h' w'):Step1 β fr h w β' fr' h' w' :=
 { S with
   keep:=fun b hb ho=>S.keep b hb fun q=>ho (own_drop q)
   prov:=fun b o=>by
    rcases S.prov b o with q | q
    ·exact .inl (own_drop q)
    ·exact .inr q
   frz:=fun b o=>by
    rcases S.frz b o with q | q | q
    ·exact .inl q
    ·exact .inr (.inl (own_drop q))
    ·exact .inr (.inr q) }
theorem Step1.poke {β β':Beta} {fr fr':Nat→Prop} {h h':List AObj} {w w':World} (S:Step1 β fr h w β' fr' h' w') {l:Nat} {r:Loop} (hl:w'.heap[l]? = some (.loop r)) (hf:¬ fr' l) (ho:Own h β l) (o:Obj):Step1 β fr h w β' fr' h' (w'.putObj l o) where
 ext:=S.ext.trans (Ext.poke hl hf o)
 os:=S.os
 tape:=S.tape
 output:=S.output
 size:=by rw [World.putObj_size]; exact S.size
 keep b hb hn:=by
  refine Eq.trans ?_ (S.keep b hb hn)
  exact getElem?_poke fun e=>hn (e ▸ ho)
 prov:=S.prov
 frz:=S.frz
theorem Lay.revive {β : Beta} {fr : Nat → Prop} {H : Array Obj} {h : List AObj} (L : Lay β fr H h) {t l : Nat} {r r' : Loop} {ps : Array Tmp} {as bd : Code} {env : List AV} {pe : Option Code} (hl : H[l]? = some (.loop r)) (hf : ¬ fr l) (ho : ¬ Own h β l)
  (ht:h[t]? = some .dead) (hb:β t 0=some (some l)) (hO:ObjAt β fr (H.setIfInBounds l (.loop r')) t (.loop ps as bd env pe)):Lay β fr (H.setIfInBounds l (.loop r')) (h.set t (.loop ps as bd env pe)):=by
 have htl:t < h.length:=(List.getElem?_eq_some_iff.1 ht).1
 have L1:=L.poke hl hf ho (.loop r')
 have key:∀ k o,(h.set t (.loop ps as bd env pe))[k]? = some o→(k=t∧o=.loop ps as bd env pe)∨(k≠t∧h[k]? = some o):=by
  intro k o hk
  by_cases e:t=k
  ·subst e
   rw [List.getElem?_set_self htl] at hk
   injection hk with hk; exact .inl ⟨rfl,hk.symm⟩
  ·rw [List.getElem?_set_ne e] at hk
   exact .inr ⟨fun q=>e q.symm,hk⟩
 refine { frlt:=L1.frlt,ownfr:=?_,lt:=L1.lt,inj:=?_,obj:=?_,dom:=?_,top:=?_,tab:=L1.tab }
 ·rintro b ⟨k,o,g,h1,h2,h3⟩ hfb
  rcases key k o h1 with ⟨rfl,rfl⟩ | ⟨hne,q⟩
  ·injection h2 with h2; subst h2
   rw [hb] at h3; injection h3 with h3; injection h3 with h3; subst h3; exact hf hfb
  ·exact L1.ownfr b ⟨k,o,g,q,h2,h3⟩ hfb
 ·intro k k' o o' g g' b h1 h2 h3 h4 h5 h6
  rcases key k o h1 with ⟨rfl,rfl⟩ | ⟨hne,q⟩ <;> rcases key k' o' h4 with ⟨rfl,rfl⟩ | ⟨hne',q'⟩
  ·rfl
  ·injection h2 with h2; subst h2
   rw [hb] at h3; injection h3 with h3; injection h3 with h3; subst h3
   exact absurd ⟨k',o',g',q',h5,h6⟩ ho
  ·injection h5 with h5; subst h5
   rw [hb] at h6; injection h6 with h6; injection h6 with h6; subst h6
   exact absurd ⟨k,o,g,q,h2,h3⟩ ho
  ·exact L1.inj _ _ _ _ _ _ _ q h2 h3 q' h5 h6
 ·intro k o hk
  rcases key k o hk with ⟨rfl,rfl⟩ | ⟨hne,q⟩
  ·exact hO
  ·exact L1.obj k o q
 ·intro k g r e; simp; exact L1.dom k g r e
 ·intro k g s l' hk g' hg'
  rcases key k _ hk with ⟨rfl,q⟩ | ⟨hne,q⟩
  ·cases q
  ·exact L1.top k g s l' q g' hg'
theorem own_revived {h:List AObj} {β:Beta} {t l b:Nat} {ps:Array Tmp} {as bd:Code} {env:List AV} {pe:Option Code} (hb:β t 0=some (some l)) (o:Own (h.set t (.loop ps as bd env pe)) β b):b=l∨Own h β b:=by
 obtain ⟨k,ob,g,h1,h2,h3⟩:=o
 rw [List.getElem?_set] at h1
 split at h1
 ·rename_i e
  split at h1
  ·injection h1 with h1; subst h1
   injection h2 with h2; subst h2
   rw [← e,hb] at h3; injection h3 with h3; injection h3 with h3; exact .inl h3.symm
  ·cases h1
 ·exact .inr ⟨k,ob,g,h1,h2,h3⟩
def putsA (env:List AV):List Nat→List AV→List AV
 | p::ps,x::xs=>putsA (env.set p x) ps xs
 | _,_=>env
theorem EnvRep.puts {β : Beta} {fr : Nat → Prop} {H : Array Obj} : ∀ (ps : List Nat) (xs : List AV) (vs : List Value) (env : List AV) (tmps : Array Value), EnvRep β fr H env tmps → vs.length = xs.length → (∀ j (h : j < xs.length), ∃ u, vs[j]? = some u ∧ Rep β fr H (xs[j]) u) →
  EnvRep β fr H (putsA env ps xs) ((ps.zip vs).foldl (fun t (p,v)=>t.setIfInBounds p v) tmps)
 | [],xs,vs,env,tmps,R,_,_=>by simpa [putsA] using R
 | p::ps,[],vs,env,tmps,R,hl,_=>by
  have:vs=[]:=by simpa using hl
  subst this; simpa [putsA] using R
 | p::ps,x::xs,[],env,tmps,R,hl,_=>by simp at hl
 | p::ps,x::xs,v::vs,env,tmps,R,hl,hx=>by
  obtain ⟨u,hu,hr⟩:=hx 0 (by simp)
  simp at hu; subst hu
  simp only [putsA,List.zip_cons_cons,List.foldl_cons]
  refine EnvRep.puts ps xs vs _ _ ?_ (by simpa using hl) fun j hj=>?_
  ·exact R.put (ds:=[]) hr (some p)
  ·obtain ⟨u,hu,hr⟩:=hx (j+1) (by simpa using hj)
   exact ⟨u,by simpa using hu,by simpa using hr⟩
def rdEnd (t:Nat) (ps:Array Tmp) (as bd:Code) (env:List AV) (K:AV→List AObj→Prop) (e:Exit) (h2:List AObj):Prop :=
 h2[t]? = some .dead∧match e with
 | .normal=>K (.bool true) (h2.set t (.loop ps as bd env none))
 | .ret=>K (.bool false) (h2.set t (.loop ps as bd env (some .ret)))
 | .exit i=>K (.bool false) (h2.set t (.loop ps as bd env (some (.exit i))))
 | .goto i=>K (.bool false) (h2.set t (.loop ps as bd env (some (.goto i))))
 | _=>False
def ARound (P:Program) (t:Nat) (ps:Array Tmp) (as bd:Code) (env args:List AV) (h:List AObj) (K:AV→List AObj→Prop):Prop :=
 AWP P as (fun e env1 h1=>e=.normal∧AWP P bd (fun e2 _ h2=>rdEnd t ps as bd env K e2 h2) env1 h1) (putsA env ps.toList args) (h.set t .dead)
def ylK (P:Program) (t:Nat) (args:List AV) (h:List AObj) (K:AV→List AObj→Prop):Prop :=
 match h[t]? with
 | some (.ctl (.loop ps as bd env none))=>args.length=ps.size∧ARound P t ps as bd env args h K
 | _=>False
theorem yl_ok {P:Program} {o:Oper} {c:Call} {F:Operand} {ev:Operand→AV} {h:List AObj} {K:AV→List AObj→Prop} {t:Nat} (ho:o.op=.call c) (hc:c.callee=.value F) (hF:ev F=.yl t) (hk:ylK P t (c.args.toList.map ev) h K):OpK P o ev h K:=by
 intro a w β fr L hr ro next Q hn
 rw [ho] at hr
 have hF':=hr F (by simp [Op.operands,Call.operands,hc])
 rw [hF] at hF'; simp only [Rep] at hF'
 obtain ⟨l,hbl,hv⟩:=hF'
 unfold ylK at hk
 split at hk
 case h_2=>exact hk.elim
 rename_i ps as bd env ht
 obtain ⟨hsz,hk⟩:=hk
 obtain ⟨l',r,g1,g2,g3,g4,g5,g6,g7,g8,g9⟩:=L.obj t _ ht
 rw [hbl] at g1; injection g1 with g1; injection g1 with g1; subst g1
 have hown:Own h β l:=⟨t,_,0,ht,rfl,hbl⟩
 have hnf:¬ fr l:=L.ownfr l hown
 have hnd:¬ Own (h.set t .dead) β l:=own_dropped L ht rfl hbl
 have hargs:(c.args.map a.eval).size=r.params.size:=by
  rw [g3,← hsz]; simp
 have hrun:(execOp a.eval o).run P w=.ok (.round l r.fn ((r.params.zip (c.args.map a.eval)).foldl (fun tmps (t,a)=>tmps.setIfInBounds t a) r.tmps) r.assign r.body) w:=by
  simp only [execOp,ho,Go.resolve,hc,hv,Deferred.ofValue,Sem.run_bind,Sem.run_pure,Result.andThen_ok,Go.invoke]
  have:=run_yield (P:=P) g2 hargs
  simpa using this
 refine wpIn_of_run hrun ⟨fun _ _ e=>(nomatch e),fun _ _ e=>(nomatch e)⟩ ?_
 rw [Oper.uponIn_round]
 refine ⟨fun q=>(nomatch q), ?_⟩
 refine roundIn_of_wpIn trivial ?_
 rw [roF_some]
 have Lr:Lay β fr w.heap (h.set t .dead):=L.drop t
 have Renv:EnvRep β fr w.heap (putsA env ps.toList (c.args.toList.map ev)) ((r.params.zip (c.args.map a.eval)).foldl (fun tmps (t,a)=>tmps.setIfInBounds t a) r.tmps):=by
  have:=EnvRep.puts (β:=β) (fr:=fr) (H:=w.heap) ps.toList (c.args.toList.map ev) (c.args.toList.map a.eval) env r.tmps ⟨g8,g9⟩ (by simp) (fun j hj=>by
   have hj':j < c.args.toList.length:=by simpa using hj
   have hj2:j < c.args.size:=by simpa using hj'
   refine ⟨a.eval (c.args.toList[j]),by simp [hj2], ?_⟩
   simp only [List.getElem_map]
   exact hr _ (by simp [Op.operands,Call.operands,hc]))
  rw [g3,← Array.foldl_toList,Array.toList_zip,Array.toList_map]
  exact this
 have S0:Sur w.heap.size (some l) [] β fr (h.set t .dead) w:=⟨Nat.le_refl _,.nil,fun _ hd=>(nomatch hd),fun l1 e=>by
  injection e with e; subst e; exact ⟨r,g2,hnd⟩⟩
 rw [g4,g5]
 refine wpIn_mono (hk w.heap.size (some l) [] _ w β fr S0 Lr Renv) ?_
 rintro e1 a1 w1 ⟨env1,h1,β1,fr1,⟨rfl,hb⟩,Su1,L1,R1,St1⟩
 have hl1:w1.heap[l]? = some (.loop r):=(St1.keep l (Array.getElem?_eq_some_iff.1 g2).1 hnd).trans g2
 have ho1:¬ Own h1 β1 l:=fun q=>by
  rcases St1.prov l q with q | q
  ·exact hnd q
  ·have:=(Array.getElem?_eq_some_iff.1 g2).1; omega
 have hf1:¬ fr1 l:=fun q=>by
  rcases St1.frz l q with q | q | q
  ·exact hnf q
  ·exact hnd q
  ·have:=(Array.getElem?_eq_some_iff.1 g2).1; omega
 show ∃ w₂,_
 refine ⟨_,run_beginRound hl1 (by rw [g7]; rfl), ?_⟩
 have L2:Lay β1 fr1 (w1.putObj l (.loop { r with state:=.busy })).heap h1:=L1.poke hl1 hf1 ho1 _
 have E2:Ext β1 fr1 w1.heap β1 fr1 (w1.putObj l (.loop { r with state:=.busy })).heap:=Ext.poke hl1 hf1 _
 have R2:EnvRep β1 fr1 (w1.putObj l (.loop { r with state:=.busy })).heap env1 a1.tmps:=R1.ext E2
 have St2:Step1 β fr h w β1 fr1 h1 (w1.putObj l (.loop { r with state:=.busy })):=St1.undrop.poke hl1 hf1 hown _
 have hl2:(w1.putObj l (.loop { r with state:=.busy })).heap[l]? = some (.loop { r with state:=.busy }):=World.putObj_heap_same (Array.getElem?_eq_some_iff.1 hl1).1
 have Su2:Sur w.heap.size (some l) a1.defers β1 fr1 h1 (w1.putObj l (.loop { r with state:=.busy })):=by
  refine ⟨?_,Su1.nodup,fun d hd=>?_,fun l1 e=>?_⟩
  ·rw [World.putObj_size]; exact Su1.le
  ·obtain ⟨D,e,q1,q2,q3⟩:=Su1.mark d hd
   refine ⟨D,e,q1, ?_,q3⟩
   refine Eq.trans (getElem?_poke ?_) q2
   rintro rfl; rw [hl1] at q2; cases q2
  ·injection e with e; subst e; exact ⟨_,hl2,ho1⟩
 have:=hb w.heap.size (some l) a1.defers a1.tmps _ β1 fr1 Su2 L2 R2
 refine wpIn_mono this ?_
 rintro e2 a2 w3 ⟨env2,h2,β3,fr3,q,Su3,L3,R3,St3⟩
 obtain ⟨hd2,q⟩:=q
 have hl3:w3.heap[l]? = some (.loop { r with state:=.busy }):=(St3.keep l (Array.getElem?_eq_some_iff.1 hl2).1 ho1).trans hl2
 have ho3:¬ Own h2 β3 l:=fun q=>by
  rcases St3.prov l q with q | q
  ·exact ho1 q
  ·have:=(Array.getElem?_eq_some_iff.1 hl2).1; omega
 have hf3:¬ fr3 l:=fun q=>by
  rcases St3.frz l q with q | q | q
  ·exact hf1 q
  ·exact ho1 q
  ·have:=(Array.getElem?_eq_some_iff.1 hl2).1; omega
 have St:Step1 β fr h w β3 fr3 h2 w3:=St2.trans St3
 have hb3:β3 t 0=some (some l):=St.ext.beta _ _ _ hbl
 have fin : ∀ (jump : Option Code), K (.bool jump.isNone) (h2.set t (.loop ps as bd env jump)) →
   ∃ v w',(Instr.endRound l jump).run P w3=.ok v w'∧next (a.put o.dst v) w':=by
  intro jump kk
  refine ⟨_,_,run_endRound jump hl3, ?_⟩
  have hO:ObjAt β3 fr3 (w3.putObj l (.loop { r with state:=if jump.isNone then .ready else .done,pending:=jump })).heap t (.loop ps as bd env jump):=by
   refine ⟨l,_,hb3,World.putObj_heap_same (Array.getElem?_eq_some_iff.1 hl3).1,g3,g4,g5,rfl,rfl,g8,fun j hj=>?_⟩
   obtain ⟨u,hu,hru⟩:=g9 j hj
   exact ⟨u,hu,(hru.ext St.ext).ext (Ext.poke hl3 hf3 _)⟩
  refine hn _ (.bool jump.isNone) _ _ β3 fr3 kk (L3.revive hl3 hf3 ho3 hd2 hb3 hO) (by simp [Rep]) ?_
  have S5:=St.poke hl3 hf3 hown (.loop { r with state:=if jump.isNone then .ready else .done,pending:=jump })
  refine { S5 with prov:=fun b ob=>?_ }
  rcases own_revived hb3 ob with rfl | q
  ·exact .inl hown
  ·exact S5.prov b q
 cases e2 with
 | normal=>exact fin none q
 | ret=>exact fin (some .ret) q
 | exit i=>exact fin (some (.exit i)) q
 | goto i=>exact fin (some (.goto i)) q
 | panic ch=>exact q.elim
 | outgrown=>exact q.elim
end Go.Proofs.Vale
namespace Go.Proofs.Vale
def cyK (P:Program) (x:AV) (args:List AV) (h:List AObj) (K:AV→List AObj→Prop):Prop :=
 match x with
 | .yl t=>ylK P t args h K
 | x=>clK P x args h K
theorem cy_ok {P:Program} {o:Oper} {c:Call} {F:Operand} {ev:Operand→AV} {h:List AObj} {K:AV→List AObj→Prop} (ho:o.op=.call c) (hc:c.callee=.value F) (hk:cyK P (ev F) (c.args.toList.map ev) h K):OpK P o ev h K:=by
 unfold cyK at hk
 split at hk
 ·rename_i t e; exact yl_ok ho hc e hk
 ·exact cl_ok ho hc hk
def lnK (P:Program) (ts:Array TypeId) (x:AV) (h:List AObj) (K:AV→List AObj→Prop):Prop :=
 match ts.toList,x with
 | [t],.mp m=>(match tk P t,h[m]? with
  | .map _ _,some (.map l)=>K (.int .i64 l.length) h
  | _,_=>False)
 | _,_=>False
theorem ln_ok {P:Program} {o:Oper} {c:Call} {X:Operand} {ev:Operand→AV} {h:List AObj} {K:AV→List AObj→Prop} (ho:o.op=.call c) (hc:c.callee=.builtin .len) (ha:c.args=#[X]) (hk:lnK P c.argTypes (ev X) h K):OpK P o ev h K:=by
 refine OpK.of_run fun a w β fr L hr=>?_
 rw [ho] at hr
 have hX:Rep β fr w.heap (ev X) (a.eval X):=hr X (by simp [Op.operands,Call.operands,hc,ha])
 unfold lnK at hk
 split at hk
 ·rename_i t m ht e1
  have hts:c.argTypes=#[t]:=by rw [← Array.toArray_toList (xs:=c.argTypes),ht]
  rw [e1] at hX; simp only [Rep] at hX
  obtain ⟨b,hb,hv⟩:=hX
  split at hk
  ·rename_i kt et l htk hl
   obtain ⟨b',es,hb',hH,hes,-⟩:=L.obj m _ hl
   rw [hb] at hb'; injection hb' with hb'; injection hb' with hb'; subst hb'
   refine ⟨.int .i64 l.length,.int .i64 l.length,w,h,β,fr,.inl ?_,hk,L,by simp [Rep],Step1.refl _ _ _ _⟩
   simp only [execOp,ho,Go.resolve,hc,Sem.run_bind,Sem.run_pure,Result.andThen_ok,Go.invoke]
   simp [Go.builtin,Builtin.len_,ha,hts,hv,run_underlying (tk_mapd htk),goInt,run_getMap hH,hes,Result.andThen]
  ·cases hk
 ·cases hk
def aop (P:Program) (op:Op) (ev:Operand→AV) (h:List AObj) (K:AV→List AObj→Prop):Prop :=
 match op with
 | .alloc t=>(match zI P t with | some x=>bxK x h K | none=>False)
 | .box t v=>bxK (ev v) h K
 | .buildSlice t n parts=>bsK P t n (parts.toList.map fun x=>(x.1,ev x.2)) h K
 | .store t a x=>stK P t (ev a) (ev x) h K
 | .convert s d x=>(∃ dd,P.underlying s=some dd)∧sbK P d (ev x) h K
 | .range t x=>rgK P t (ev x) h K
 | .next x b=>nxK (ev x) b h K
 | .entry x=>enK (ev x) h K
 | .makeMap _ none=>mmK h K
 | .makeSlice t l c=>msK P t (ev l) (ev c) h K
 | .lookup t x k ok=>luK P t (ev x) (ev k) ok h K
 | .mapUpdate t m k v=>muK P t (ev m) (ev k) (ev v) h K
 | .insert t m k v=>muK P t (ev m) (ev k) (ev v) h K
 | .mapEntry t m k=>meK P t (ev m) (ev k) h K
 | .entryStore t m s v=>esK (ev m) (ev s) (ev v) h K
 | .binOp op t x y _=>(match op,y with
  | .eql,.const (.slice none 0 0)=>nqK P .eql t (ev x) h K
  | .neq,.const (.slice none 0 0)=>nqK P .neq t (ev x) h K
  | .eql,.const .nilIface=>niK P .eql t (ev x) h K
  | .neq,.const .nilIface=>niK P .neq t (ev x) h K
  | _,_=>False)
 | .call c=>(match c.callee with
  | .builtin .append=>(match c.args.toList with | [A,X]=>apK P c.argTypes (ev A) (ev X) h K | _=>False)
  | .builtin .clear=>(match c.args.toList with | [X]=>crK P c.argTypes (ev X) h K | _=>False)
  | .builtin .copy=>(match c.args.toList with | [D,X]=>cpK P c.argTypes (ev D) (ev X) h K | _=>False)
  | .builtin .len=>(match c.args.toList with | [X]=>lnK P c.argTypes (ev X) h K | _=>False)
  | .value f=>cyK P (ev f) (c.args.toList.map ev) h K
  | .invoke r m=>ivK P (ev r) m (c.args.toList.map ev) h K
  | _=>False)
 | _=>False
theorem aop_ok {P:Program} {o:Oper} {ev:Operand→AV} {h:List AObj} {K:AV→List AObj→Prop} (hk:aop P o.op ev h K):OpK P o ev h K:=by
 unfold aop at hk
 split at hk
 ·rename_i t ho
  split at hk
  ·rename_i x hz; exact al_ok ho hz hk
  ·cases hk
 ·rename_i t v ho; exact bx_ok ho hk
 ·rename_i t n parts ho; exact bs_ok ho hk
 ·rename_i t a x ho; exact st_ok ho hk
 ·rename_i s d x ho; exact sb_ok ho hk.1 hk.2
 ·rename_i t x ho; exact rg_ok ho hk
 ·rename_i x b ho; exact nx_ok ho hk
 ·rename_i x ho; exact en_ok ho hk
 ·rename_i t ho; exact mm_ok ho hk
 ·rename_i t l c ho; exact ms_ok ho hk
 ·rename_i t x k ok ho; exact lu_ok ho hk
 ·rename_i t m k v ho; exact mu_ok (.inl ho) hk
 ·rename_i t m k v ho; exact mu_ok (.inr ho) hk
 ·rename_i t m k ho; exact me_ok ho hk
 ·rename_i t m s v ho; exact es_ok ho hk
 ·rename_i op t x y yt ho
  split at hk
  ·exact nq_ok ho (.inl rfl) hk
  ·exact nq_ok ho (.inr rfl) hk
  ·exact ni_ok ho (.inl rfl) hk
  ·exact ni_ok ho (.inr rfl) hk
  ·cases hk
 ·rename_i c ho
  split at hk
  ·rename_i hc
   split at hk
   ·rename_i A X ha
    exact ap_ok ho hc (by rw [← Array.toArray_toList (xs:=c.args),ha]) hk
   ·cases hk
  ·rename_i hc
   split at hk
   ·rename_i X ha
    exact cr_ok ho hc (by rw [← Array.toArray_toList (xs:=c.args),ha]) hk
   ·cases hk
  ·rename_i hc
   split at hk
   ·rename_i D X ha
    exact cp_ok ho hc (by rw [← Array.toArray_toList (xs:=c.args),ha]) hk
   ·cases hk
  ·rename_i hc
   split at hk
   ·rename_i X ha
    exact ln_ok ho hc (by rw [← Array.toArray_toList (xs:=c.args),ha]) hk
   ·cases hk
  ·rename_i f hc; exact cy_ok ho hc hk
  ·rename_i r m hc; exact iv_ok ho hc hk
  ·cases hk
 ·cases hk
def gv (env:List AV) (ds:List (Option Nat)) (j:Nat):AV :=
 match ds.reverse[j]? with
 | some (some d)=>env.getD d .any
 | _=>.any
def gdA (x:AV) (want:Bool):Option Bool :=
 match x with
 | .bool g=>some (g==want)
 | .opt b (.bool g)=>some (b && (g==want))
 | .opt false _=>some false
 | .tup _=>some false
 | _=>none
def AV.stripT:AV→AV
 | .opt true x=>x
 | x=>x
theorem Rep.stripT {β:Beta} {fr:Nat→Prop} {H:Array Obj} {x:AV} {v:Value} (h:Rep β fr H x v):Rep β fr H x.stripT v:=by
 cases x <;> try exact h
 case opt b x=>cases b <;> first | exact h | (simp only [Rep] at h; exact h.1 trivial)
def aopsL (P:Program):List (Option Nat)→List Oper→List AV→List AObj→(List AV→List AObj→Prop)→Prop
 | _,[],env,h,K=>K env h
 | ds,o::os,env,h,K =>
  match o.guard with
  | none =>
   (match pop P o.op (evA env) h with
   | some (p,x)=>p∧aopsL P (o.dst::ds) os (putA env o.dst x) h K
   | none=>aop P o.op (evA env) h fun x h'=>aopsL P (o.dst::ds) os (putA env o.dst x) h' K)
  | some (j,want) =>
   (match gdA (gv env ds j) want with
   | none=>False
   | some gd =>
    match popG P o.op (evA env) h with
    | some (p,x)=>(gd=true→p)∧aopsL P (o.dst::ds) os (putA env o.dst (.opt gd x)) h K
    | none=>(gd=true→aop P o.op (fun y=>(evA env y).stripT) h fun x h'=>aopsL P (o.dst::ds) os (putA env o.dst x) h' K)∧(gd=false→aopsL P (o.dst::ds) os (putA env o.dst (.tup [])) h K))
theorem guard_spec {β : Beta} {fr : Nat → Prop} {H : Array Obj} {env : List AV} {tmps : Array Value} {ops : Array Oper} {done rest : List Oper} {j : Nat} {want gd : Bool} {o : Oper} (hops : ops.toList = done ++ rest) (R : EnvRep β fr H env tmps)
  (hg:gdA (gv env ((done.map (·.dst)).reverse) j) want=some gd) (ho:o.guard=some (j,want)):Region.wanted o (yielded ops tmps)=gd:=by
 simp only [Region.wanted,ho]
 unfold gv at hg
 rw [List.reverse_reverse] at hg
 have hget:∀ d,(done.map (·.dst))[j]? = some (some d)→(ops[j]?).bind (·.dst)=some d:=by
  intro d hd
  rw [List.getElem?_map] at hd
  cases hq:done[j]? with
  | none=>rw [hq] at hd; cases hd
  | some q =>
   rw [hq] at hd; injection hd with hd
   have:ops[j]? = some q:=by
    rw [← Array.getElem?_toList,hops,List.getElem?_append_left (List.getElem?_eq_some_iff.1 hq).1]; exact hq
   rw [this]; exact hd
 split at hg
 ·rename_i d hd
  have hy:yielded ops tmps j=match tmps[d]? with | some (.bool b)=>some b | _=>none:=by
   unfold yielded; rw [hget d hd]; rfl
  rw [hy]
  by_cases hl:d < env.length
  ·obtain ⟨u,hu,hr⟩:=R.2 d hl
   rw [getD_get hl] at hg
   unfold gdA at hg
   split at hg
   ·rename_i g e
    injection hg with hg; subst hg
    rw [e] at hr; simp only [Rep] at hr; subst hr
    rw [hu]; simp
   ·rename_i b g e
    injection hg with hg; subst hg
    rw [e] at hr; simp only [Rep] at hr
    cases b with
    | true=>have:=hr.1 rfl; subst this; rw [hu]; simp
    | false=>have:=hr.2 rfl; subst this; rw [hu]; simp [undef]
   ·rename_i x _ e
    injection hg with hg; subst hg
    rw [e] at hr; simp only [Rep] at hr
    have:=hr.2 (by trivial); subst this; rw [hu]; simp [undef]
   ·rename_i vs e
    injection hg with hg; subst hg
    rw [e] at hr; simp only [Rep] at hr
    obtain ⟨us,rfl,_⟩:=hr
    rw [hu]; simp
   ·cases hg
  ·rw [List.getD_eq_getElem?_getD,List.getElem?_eq_none (Nat.le_of_not_lt hl)] at hg
   simp [gdA] at hg
 ·simp [gdA] at hg
theorem put_act (tmps:Array Value) (ds:List Deferred) (dst:Option Nat) (v:Value):(⟨tmps,ds⟩:Act).put dst v=⟨((⟨tmps,[]⟩:Act).put dst v).tmps,ds⟩:=by cases dst <;> rfl
theorem Rep_undef (β:Beta) (fr:Nat→Prop) (H:Array Obj):Rep β fr H (.tup []) undef:=by simp [Rep,undef]
theorem aopsL_ok {P : Program} {ops : Array Oper} {K : List AV → List AObj → Prop} {Q : Exit → Act → World → Prop} {ro : Option Nat} {dfs : List Deferred} : ∀ (rest done : List Oper) (env : List AV) (h : List AObj) (tmps : Array Value) (w : World) (β : Beta) (fr : Nat → Prop), ops.toList = done ++ rest →
  aopsL P (done.map (·.dst)).reverse rest env h K→Lay β fr w.heap h→EnvRep β fr w.heap env tmps →
  (∀ env' h' β' fr' tmps' w',K env' h'→Lay β' fr' w'.heap h'→EnvRep β' fr' w'.heap env' tmps'→Step1 β fr h w β' fr' h' w'→Q .normal ⟨tmps',dfs⟩ w') →
  wpListIn (roF ro) 0 P ops Q rest ⟨tmps,dfs⟩ w
 | [],done,env,h,tmps,w,β,fr,hops,hk,L,R,hQ=>by
  simp only [aopsL] at hk
  exact hQ env h β fr tmps w hk L R (Step1.refl _ _ _ _)
 | o::rest,done,env,h,tmps,w,β,fr,hops,hk,L,R,hQ=>by
  have hops':ops.toList=(done++[o])++rest:=by simp [hops]
  have hds:(o.dst::(done.map (·.dst)).reverse)=((done++[o]).map (·.dst)).reverse:=by simp
  have next:∀ v x w' h' β' fr',aopsL P (o.dst::(done.map (·.dst)).reverse) rest (putA env o.dst x) h' K→Lay β' fr' w'.heap h'→Rep β' fr' w'.heap x v→Step1 β fr h w β' fr' h' w'→wpListIn (roF ro) 0 P ops Q rest ((⟨tmps,dfs⟩:Act).put o.dst v) w':=by
   intro v x w' h' β' fr' k L' R' S'
   rw [put_act]
   rw [hds] at k
   exact aopsL_ok rest (done++[o]) _ h' _ w' β' fr' hops' k L' ((R.ext S'.ext).put R' o.dst) fun env2 h2 β2 fr2 t2 w2 k2 L2 R2 S2=>hQ env2 h2 β2 fr2 t2 w2 k2 L2 R2 (S'.trans S2)
  have hev:∀ y,y∈o.op.operands→Rep β fr w.heap (evA env y) ((⟨tmps,dfs⟩:Act).eval y):=fun y _=>R.eval y
  have hop:∀ {K':AV→List AObj→Prop},OpK P o (evA env) h K'→(∀ x h',K' x h'→aopsL P (o.dst::(done.map (·.dst)).reverse) rest (putA env o.dst x) h' K)→o.wpIn (roF ro) 0 P ⟨tmps,dfs⟩ w (wpListIn (roF ro) 0 P ops Q rest) Q:=by
   intro K' ok hK
   exact ok ⟨tmps,dfs⟩ w β fr L hev _ _ _ fun v x w' h' β' fr' k L' R' S'=>next v x w' h' β' fr' (hK x h' k) L' R' S'
  simp only [aopsL] at hk
  unfold wpListIn
  cases hg:o.guard with
  | none =>
   rw [hg] at hk
   have hw:Region.wanted o (yielded ops (⟨tmps,dfs⟩:Act).tmps)=true:=by simp [Region.wanted,hg]
   rw [if_pos hw]
   simp only at hk
   cases hpp:pop P o.op (evA env) h with
   | none =>
    rw [hpp] at hk
    exact hop (aop_ok hk) fun x h' k=>k
   | some q =>
    obtain ⟨p,x⟩:=q
    rw [hpp] at hk
    exact hop (K':=fun y h'=>y=x∧h'=h) (OpK.of_pop (pop_ok hpp) hk.1 ⟨rfl,rfl⟩) fun y h' ⟨e1,e2⟩=>by subst e1 e2; exact hk.2
  | some jw =>
   obtain ⟨j,want⟩:=jw
   rw [hg] at hk
   simp only at hk
   cases hgd:gdA (gv env (done.map (·.dst)).reverse j) want with
   | none=>rw [hgd] at hk; exact hk.elim
   | some gd =>
    rw [hgd] at hk
    simp only at hk
    have hw:Region.wanted o (yielded ops (⟨tmps,dfs⟩:Act).tmps)=gd:=guard_spec hops R hgd hg
    rw [hw]
    cases hpp:popG P o.op (evA env) h with
    | none =>
     rw [hpp] at hk
     simp only at hk
     cases gd with
     | true =>
      rw [if_pos rfl]
      exact aop_ok (hk.1 rfl) ⟨tmps,dfs⟩ w β fr L (fun y hy=>(hev y hy).stripT) _ _ _ fun v x w' h' β' fr' k L' R' S'=>next v x w' h' β' fr' k L' R' S'
     | false =>
      rw [if_neg (by simp)]
      refine ⟨fun _ _=>trivial, ?_⟩
      exact next undef _ w h β fr (hk.2 rfl) L (Rep_undef _ _ _) (Step1.refl _ _ _ _)
    | some q =>
     obtain ⟨p,x⟩:=q
     rw [hpp] at hk
     simp only at hk
     cases gd with
     | true =>
      rw [if_pos rfl]
      refine (OpK.of_pop (K:=fun y h'=>y=x∧h'=h) (popG_ok hpp) (hk.1 rfl) ⟨rfl,rfl⟩) ⟨tmps,dfs⟩ w β fr L hev _ _ _ fun v y w' h' β' fr' k L' R' S'=>?_
      obtain ⟨rfl,rfl⟩:=k
      exact next v (.opt true y) w' _ β' fr' hk.2 L' (by simp only [Rep]; exact ⟨fun _=>R',fun e=>by cases e⟩) S'
     | false =>
      rw [if_neg (by simp)]
      refine ⟨fun _ _=>trivial, ?_⟩
      exact next undef _ w h β fr hk.2 L (by simp [Rep]) (Step1.refl _ _ _ _)
end Go.Proofs.Vale
namespace Go.Proofs.Vale
def ADraw (P:Program) (ops:Array Oper) (K:List AV→List AObj→Prop) (env:List AV) (h:List AObj):Prop :=
 ∀ id,AWP P (.region id ops true) (fun e env h=>match e with | .normal=>K env h | _=>False) env h
def ALoop (P:Program) (c:Code) (Q:Post) (env:List AV) (h:List AObj):Prop:=AWP P (.loop c) Q env h
def acond (c:AV) (A B:Prop):Prop :=
 match c with
 | .bool b=>(b=true→A)∧(b=false→B)
 | _=>False
def rfEnd (t:Nat) (env:List AV) (Q:Post) (h':List AObj):Prop :=
 match h'[t]? with
 | some (.ctl (.loop _ _ _ _ none))=>Q .normal env (h'.set t .dead)
 | some (.ctl (.loop _ _ _ _ (some .ret)))=>Q .ret env (h'.set t .dead)
 | some (.ctl (.loop _ _ _ _ (some (.exit i))))=>Q (.exit i) env (h'.set t .dead)
 | some (.ctl (.loop _ _ _ _ (some (.goto i))))=>Q (.goto i) env (h'.set t .dead)
 | _=>False
def rfK (P:Program) (x:AV) (ps:Array Tmp) (as bd:Code) (env:List AV) (h:List AObj) (Q:Post):Prop :=
 match x with
 | .func (.func f) first cap=>entersB P f=true∧ACall P f (first++[.yl h.length]++cap) (h++[.loop ps as bd env none]) fun _ h'=>rfEnd h.length env Q h'
 | _=>False
theorem Lay.grow {β:Beta} {fr:Nat→Prop} {h:List AObj} {w:World} (L:Lay β fr w.heap h) (o:Obj):Lay β fr (w.alloc o).heap h∧Step1 β fr h w β fr h (w.alloc o):=by
 have hh:(w.alloc o).heap=w.heap.push o:=rfl
 have hold:∀ b,b < w.heap.size→(w.alloc o).heap[b]? = w.heap[b]? := fun b hb=>by rw [hh,Array.getElem?_push,if_neg (by omega)]
 have E:Ext β fr w.heap β fr (w.alloc o).heap :=
  { beta := fun t g' r e => e, frm := fun _ e => e, cells := fun b hb => hold b (L.frlt b hb)
    shape:=fun t g' b c' e f hb hc=>⟨c',f,by rw [hold b (L.lt _ _ _ hb)]; exact hc,rfl⟩ }
 have hsz:(w.alloc o).heap.size=w.heap.size+1:=by rw [hh]; simp
 refine ⟨{ frlt:=fun b hb=>by have:=L.frlt b hb; omega,ownfr:=L.ownfr,lt:=fun t g b hb=>by have:=L.lt t g b hb; omega,inj:=L.inj,obj:=fun t o1 h1=>(L.obj t o1 h1).ext E fun g b hg hb=>hold b (L.lt _ _ _ hb),dom:=L.dom,top:=L.top,tab:=fun b p q=>⟨(L.tab b p q).1,by rw [E.cells b (L.tab b p q).1]; exact (L.tab b p q).2⟩ }, ?_⟩
 exact ⟨E,rfl,rfl,rfl,by omega,fun b hb _=>hold b hb,fun b q=>.inl q,fun b q=>.inl q⟩
theorem rf_ok {P:Program} {g:Operand} {ps:Array Tmp} {as bd:Code} {env:List AV} {h:List AObj} {Q:Post} (hk:rfK P (evA env g) ps as bd env h Q):AWP P (.rangeFunc g ps as bd) Q env h:=by
 intro n0 ro ds tmps w β fr Su L R
 have hg:=R.eval (ds:=ds) g
 unfold rfK at hk
 split at hk
 case h_2=>exact hk.elim
 rename_i f first cap e1
 obtain ⟨hen,hcall⟩:=hk
 rw [e1] at hg; simp only [Rep] at hg
 obtain ⟨us,vs,hv,s1,s2,s3,s4⟩:=hg
 refine wpIn_rangeFunc ?_
 intro fn _
 -- the record is laid
 obtain ⟨l, mark, w0, rec, hrun, hle, L0, S0, hrec, hr1, hmark⟩ : ∃ (l : Nat) (mark : List Deferred) (w0 : World) (rec : Loop),
   (Instr.enterLoop fn tmps ps as bd (roF ro).round).run P w=.ok (l,mark) (w0.alloc (.loop rec))∧l=w0.heap.size∧Lay β fr w0.heap h∧Step1 β fr h w β fr h w0 ∧
   (rec.params=ps∧rec.assign=as∧rec.body=bd∧rec.pending=none∧rec.state=.ready∧rec.tmps=tmps)∧w.heap.size≤w0.heap.size ∧
   (mark=[]∨mark=[{ target:=.collected w.heap.size,args:=#[] }]∧w0.heap[w.heap.size]? = some (.deferred (some []))):=by
  cases ro with
  | none =>
   obtain ⟨L1,S1⟩:=L.grow (.deferred (some []))
   refine ⟨_,_,w.alloc (.deferred (some [])),_,run_enterLoop_outer (P:=P) (w:=w) fn tmps ps as bd,by simp,L1,S1,⟨rfl,rfl,rfl,rfl,rfl,rfl⟩,by simp,.inr ⟨rfl,World.alloc_heap_new _ _⟩⟩
  | some l0 =>
   obtain ⟨r0,h1,h2⟩:=Su.rnd l0 rfl
   exact ⟨_,_,w,_,run_enterLoop_inner (P:=P) h1 fn tmps ps as bd,rfl,L,Step1.refl _ _ _ _,⟨rfl,rfl,rfl,rfl,rfl,rfl⟩,Nat.le_refl _,.inl rfl⟩
 obtain ⟨c1,c2,c3,c4,c5,c6⟩:=hrec
 subst hle
 have R0:EnvRep β fr w0.heap env tmps:=R.ext S0.ext
 have hpush:=L0.push (w':=w0.alloc (.loop rec)) (o:=.loop ps as bd env none) (g:=0) (c:=.loop rec) rfl rfl rfl rfl rfl (by
  have E:Ext β fr w0.heap (betaSet β h.length 0 (some w0.heap.size)) fr (w0.alloc (.loop rec)).heap :=
   { beta := fun t g' r e => by rw [betaSet_other (by have := L0.dom _ _ _ e; omega)]; exact e
     frm:=fun _ e=>e
     cells:=fun b hb=>by
      have:=L0.frlt b hb
      show (w0.heap.push _)[b]? = _
      rw [Array.getElem?_push,if_neg (by omega)]
     shape:=fun t g' b c' e f hb hc=>⟨c',f,by
      have:=L0.lt _ _ _ hb
      show (w0.heap.push _)[b]? = _
      rw [Array.getElem?_push,if_neg (by omega)]; exact hc,rfl⟩ }
  refine ⟨w0.heap.size,rec,betaSet_same _ _ _ _,World.alloc_heap_new _ _,c1,c2,c3,c4,by rw [c5]; rfl,by rw [c6]; exact R0.1,fun j hj=>?_⟩
  obtain ⟨u,hu,hr⟩:=R0.2 j hj
  exact ⟨u,by rw [c6]; exact hu,hr.ext E⟩)
 obtain ⟨L1,S1⟩:=hpush
 have St1:=S0.trans S1
 generalize hβ1:betaSet β h.length 0 (some w0.heap.size)=β1 at *
 have hbt:β1 h.length 0=some (some w0.heap.size):=by rw [← hβ1]; exact betaSet_same _ _ _ _
 -- the iterator is called
 obtain ⟨W1,hW1⟩:∃ W1,W1=w0.alloc (.loop rec):=⟨_,rfl⟩
 rw [← hW1] at hrun L1 S1 St1
 have hargs:CellsRep β1 fr W1.heap (first++[.yl h.length]++cap) (us++#[.func (.yield w0.heap.size) #[] #[]]++vs):=by
  refine CellsRep.append (CellsRep.append ⟨s1,fun j hj=>?_⟩ (cs1 ?_)) ⟨s2,fun j hj=>?_⟩
  ·obtain ⟨u,hu,hr⟩:=s3 j hj; exact ⟨u,hu,hr.ext St1.ext⟩
  ·simp only [Rep]; exact ⟨_,hbt,rfl⟩
  ·obtain ⟨u,hu,hr⟩:=s4 j hj; exact ⟨u,hu,hr.ext St1.ext⟩
 refine ⟨w0.heap.size,mark,W1,{ target:=.fn (.func f) vs,args:=us++#[.func (.yield w0.heap.size) #[] #[]] },W1,f,us++#[.func (.yield w0.heap.size) #[] #[]]++vs,W1,hrun, ?_,fun _ _=>trivial, ?_,fun q=>(nomatch q), ?_⟩
 ·simp only [Go.resolve,hv,Deferred.ofValue,Sem.run_pure]
  simp [Act.eval]
 ·unfold entersB at hen
  split at hen
  ·rename_i fn1 hfn
   simp only [Bool.and_eq_true,bne_iff_ne,ne_eq] at hen
   obtain ⟨hb,hnm⟩:=hen
   have hbn:fn1.body.isNone=false:=by cases q:fn1.body <;> simp_all
   simp only [Go.invoke,callFunc,run_program,hfn,Sem.run_bind,Result.andThen_ok]
   simp [hnm,hbn]
  ·cases hen
 ·refine callsIn_ro ro ((hcall W1 β1 fr _ L1 hargs).mono ?_)
  rintro e w2 ⟨v,x,h2,β2,fr2,rfl,k,L2,R2,S2⟩
  have hb2:β2 h.length 0=some (some w0.heap.size):=S2.ext.beta _ _ _ hbt
  have fin : ∀ {ps' : Array Tmp} {as' bd' : Code} {env' : List AV} {pe : Option Code}, h2[h.length]? = some (.loop ps' as' bd' env' pe) →
    ∃ w4,(Instr.endLoop w0.heap.size).run P w2=.ok pe w4∧Lay β2 fr2 w4.heap (h2.set h.length .dead)∧Step1 β fr h w β2 fr2 (h2.set h.length .dead) w4∧Sur n0 ro (mark++ds) β2 fr2 (h2.set h.length .dead) w4:=by
   intro ps' as' bd' env' pe hq
   obtain ⟨l',r',g1,g2,g3,g4,g5,g6,g7,g8,g9⟩:=L2.obj _ _ hq
   rw [hb2] at g1; injection g1 with g1; injection g1 with g1; subst g1
   have hown2:Own h2 β2 w0.heap.size:=⟨_,_,0,hq,rfl,hb2⟩
   have hnf2:¬ fr2 w0.heap.size:=L2.ownfr _ hown2
   have hnd2:¬ Own (h2.set h.length .dead) β2 w0.heap.size:=own_dropped L2 hq rfl hb2
   refine ⟨w2.putObj w0.heap.size (.loop { r' with state:=.exhausted }), ?_,(L2.drop h.length).poke g2 hnf2 hnd2 _, ?_, ?_⟩
   ·have:=run_endLoop (P:=P) g2 (by rw [g7]; split <;> simp)
    exact this.trans (by rw [g6])
   ·have T:=S1.trans S2
    have T2:Step1 β1 fr (h++[.loop ps as bd env none]) W1 β2 fr2 h2 (w2.putObj w0.heap.size (.loop { r' with state:=.exhausted })):=S2.poke g2 hnf2 ⟨_,_,0,List.getElem?_concat_length,rfl,hbt⟩ _
    have T3:=St1.trans T2
    exact { T3 with prov:=fun b ob=>T3.prov b (own_drop ob) }
   ·have Sm:Sur n0 ro (mark++ds) β1 fr (h++[.loop ps as bd env none]) W1:=by
     have Sb:=Su.step St1
     rcases hmark with rfl | ⟨rfl,hd⟩
     ·exact Sb
     ·have hW:W1.heap[w.heap.size]? = some (.deferred (some [])):=by
       rw [hW1]
       show (w0.heap.push _)[w.heap.size]? = _
       rw [Array.getElem?_push,if_neg (by have:=(Array.getElem?_eq_some_iff.1 hd).1; omega)]
       exact hd
      refine ⟨Sb.le, ?_, ?_,Sb.rnd⟩
      ·refine List.Pairwise.cons (fun d hdm e=>?_) Sb.nodup
       obtain ⟨D,rfl,q1,q2,q3⟩:=Su.mark d hdm
       injection e with e
       have:=(Array.getElem?_eq_some_iff.1 q2).1; omega
      ·intro d hdm
       rcases List.mem_cons.1 hdm with rfl | hdm
       ·refine ⟨w.heap.size,rfl,Su.le,hW,fun o=>?_,fun q=>?_⟩
        ·obtain ⟨t,ob,g',e1,e2,e3⟩:=o
         have hob:=L1.obj _ _ e1
         cases ob with
         | arr g s l =>
          injection e2 with e2; subst e2
          rcases hob with ⟨q1,-⟩ | ⟨b,c,e,f,q1,q2,-⟩
          ·rw [q1] at e3; cases e3
          ·rw [q1] at e3; injection e3 with e3; injection e3 with e3; subst e3; rw [hW] at q2; cases q2
         | map l =>
          injection e2 with e2; subst e2
          obtain ⟨b,es,q1,q2,-⟩:=hob
          rw [q1] at e3; injection e3 with e3; injection e3 with e3; subst e3; rw [hW] at q2; cases q2
         | it s pos =>
          injection e2 with e2; subst e2
          obtain ⟨b,es,q1,q2,-⟩:=hob
          rw [q1] at e3; injection e3 with e3; injection e3 with e3; subst e3; rw [hW] at q2; cases q2
         | ctl c =>
          injection e2 with e2; subst e2
          cases c with
          | loop _ _ _ _ _ =>
           obtain ⟨b,es,q1,q2,-⟩:=hob
           rw [q1] at e3; injection e3 with e3; injection e3 with e3; subst e3; rw [hW] at q2; cases q2
          | mit _ _ _ =>
           obtain ⟨b,sn,o,s,c,q1,q2,-⟩:=hob
           rw [q1] at e3; injection e3 with e3; injection e3 with e3; subst e3; rw [hW] at q2; cases q2
         | dead=>cases e2
        ·have:=L.frlt _ q; omega
       ·exact Sb.mark d hdm
    have S6:=Sm.step S2
    have hle2:=S6.le
    refine ⟨by rw [World.putObj_size]; exact hle2,S6.nodup,fun d hdm=>?_,fun l1 e=>?_⟩
    ·obtain ⟨D,e,q1,q2,q3,q4⟩:=S6.mark d hdm
     refine ⟨D,e,q1, ?_,fun o=>q3 (own_drop o),q4⟩
     refine Eq.trans (getElem?_poke ?_) q2
     rintro rfl; rw [g2] at q2; cases q2
    ·obtain ⟨r1,q1,q2⟩:=S6.rnd l1 e
     refine ⟨r1, ?_,fun o=>q2 (own_drop o)⟩
     refine Eq.trans (getElem?_poke ?_) q1
     rintro rfl; exact q2 hown2
  show ∃ jump w₄,_
  unfold rfEnd at k
  split at k
  ·rename_i hq
   obtain ⟨w4,e1,e2,e3,e4⟩:=fin hq
   exact ⟨_,_,e1,env,_,β2,fr2,k,e4,e2,R.ext e3.ext,e3⟩
  ·rename_i hq
   obtain ⟨w4,e1,e2,e3,e4⟩:=fin hq
   exact ⟨_,_,e1,wpIn_ret ⟨env,_,β2,fr2,k,e4,e2,R.ext e3.ext,e3⟩⟩
  ·rename_i hq
   obtain ⟨w4,e1,e2,e3,e4⟩:=fin hq
   exact ⟨_,_,e1,wpIn_exit ⟨env,_,β2,fr2,k,e4,e2,R.ext e3.ext,e3⟩⟩
  ·rename_i hq
   obtain ⟨w4,e1,e2,e3,e4⟩:=fin hq
   exact ⟨_,_,e1,wpIn_goto ⟨env,_,β2,fr2,k,e4,e2,R.ext e3.ext,e3⟩⟩
  ·exact k.elim
def acode (P:Program):Code→List AV→List AObj→Post→Prop
 | .skip,env,h,Q=>Q .normal env h
 | .region _ ops false,env,h,Q=>aopsL P [] ops.toList env h (Q .normal)
 | .region _ ops true,env,h,Q=>ADraw P ops (Q .normal) env h
 | .seq a b,env,h,Q=>acode P a env h fun e env h=>match e with | .normal=>acode P b env h Q | e=>Q e env h
 | .cond c a b,env,h,Q=>acond (evA env c) (acode P a env h Q) (acode P b env h Q)
 | .block id c,env,h,Q=>acode P c env h fun e env h=>match e with | .exit i=>if i=id then Q .normal env h else Q (.exit i) env h | e=>Q e env h
 | .loop c,env,h,Q=>ALoop P c Q env h
 | .rangeFunc g ps as b,env,h,Q=>rfK P (evA env g) ps as b env h Q
 | .exit id,env,h,Q=>Q (.exit id) env h
 | .ret,env,h,Q=>Q .ret env h
 | .scope c,env,h,Q=>acode P c env h fun e env h=>match e with | .goto _=>False | e=>Q e env h
 | .label _,env,h,Q=>Q .normal env h
 | _,_,_,_=>False
theorem AWP.mono {P:Program} {c:Code} {Q Q':Post} {env:List AV} {h:List AObj} (a:AWP P c Q env h) (k:∀ e env h,Q e env h→Q' e env h):AWP P c Q' env h :=
 fun n0 ro ds tmps w β fr Su L R=>wpIn_mono (a n0 ro ds tmps w β fr Su L R) fun _ _ _ ⟨env',h',β',fr',q,r⟩=>⟨env',h',β',fr',k _ _ _ q,r⟩
theorem wpIn_scope_straight {F:Fence} {n:Nat} {P:Program} {Q:Exit→Act→World→Prop} {a:Act} {w:World} {c:Code} (h:c.wpIn F n P (Exit.noGoto Q) a w):(Code.scope c).wpIn F n P Q a w:=by
 intro b k cs hro hb hr
 have s1:∀ {a w},step P (lone (b.atR a (.code (.scope c)::k)) cs w)=.next (lone (b.atR a (.code c::.inScope c::k)) cs w) :=
  step_lone_go (by simp [stepG,stepG.exec,Frame.atR])
 have s2:∀ {a w},step P (lone (b.atR a (.inScope c::k)) cs w)=.next (lone (b.atR a k) cs w) :=
  step_lone_go (by simp [stepG,stepG.exec,Frame.atR])
 have i1:StepsIn (Machine.fenced P F) P (lone (b.atR a (.code (.scope c)::k)) cs w) (lone (b.atR a (.code c::.inScope c::k)) cs w):=.one (fenced_calm hb hr rfl) s1
 obtain ⟨e,a₁,w₁,hq,harr⟩:=h b (.inScope c::k) cs hro hb hr
 cases e with
 | normal=>exact ⟨.normal,a₁,w₁,hq,StepsIn.trans i1 (StepsIn.trans harr (.one (fenced_calm hb hr rfl) s2))⟩
 | exit id => exact ⟨.exit id, a₁, w₁, hq, fun k' hk => StepsIn.trans i1 (harr.1 k' (by simp [exitTo, hk])), fun hro2 hk => by
   obtain ⟨k₁,h1,h2⟩:=harr.2 hro2 (by simp [exitTo,hk])
   exact ⟨k₁,h1,StepsIn.trans i1 h2⟩⟩
 | goto l=>exact hq.elim
 | ret=>exact ⟨_,a₁,w₁,hq,.of_steps i1 harr⟩
 | panic ch=>exact ⟨_,a₁,w₁,hq,.of_steps i1 harr⟩
 | outgrown=>exact ⟨_,a₁,w₁,hq,.of_steps i1 harr⟩
theorem acode_ok {P:Program}:∀ (c:Code) (env:List AV) (h:List AObj) (Q:Post),acode P c env h Q→AWP P c Q env h:=by
 intro c
 induction c with
 | skip =>
  intro env h Q k n0 ro ds tmps w β fr Su L R
  exact wpIn_skip ⟨env,h,β,fr,k,Su,L,R,Step1.refl _ _ _ _⟩
 | region id ops d =>
  intro env h Q k
  cases d with
  | false =>
   intro n0 ro ds tmps w β fr Su L R
   refine wpIn_region_list (aopsL_ok ops.toList [] env h tmps w β fr rfl k L R ?_)
   intro env' h' β' fr' tmps' w' kk L' R' S'
   exact ⟨env',h',β',fr',kk,Su.step S',L',R',S'⟩
  | true =>
   refine AWP.mono (k id) fun e env h q=>?_
   cases e <;> first | exact q | exact q.elim
 | seq a b iha ihb =>
  intro env h Q k n0 ro ds tmps w β fr Su L R
  refine wpIn_seq (wpIn_mono (iha env h _ k n0 ro ds tmps w β fr Su L R) ?_)
  rintro e ⟨t',d'⟩ w' ⟨env',h',β',fr',q,Su',L',R',S'⟩
  cases e with
  | normal =>
   refine wpIn_mono (ihb env' h' Q q n0 ro d' t' w' β' fr' Su' L' R') ?_
   rintro e2 a2 w2 ⟨env2,h2,β2,fr2,q2,Su2,L2,R2,S2⟩
   exact ⟨env2,h2,β2,fr2,q2,Su2,L2,R2,S'.trans S2⟩
  | exit i=>exact ⟨env',h',β',fr',q,Su',L',R',S'⟩
  | goto l=>exact ⟨env',h',β',fr',q,Su',L',R',S'⟩
  | ret=>exact ⟨env',h',β',fr',q,Su',L',R',S'⟩
  | panic ch=>exact ⟨env',h',β',fr',q,Su',L',R',S'⟩
  | outgrown=>exact ⟨env',h',β',fr',q,Su',L',R',S'⟩
 | cond c a b iha ihb =>
  intro env h Q k n0 ro ds tmps w β fr Su L R
  have hc:=R.eval (ds:=ds) c
  simp only [acode] at k
  unfold acond at k
  split at k
  ·rename_i t e
   rw [e] at hc; simp only [Rep] at hc
   refine wpIn_cond hc ?_
   cases t with
   | true=>exact iha env h Q (k.1 rfl) n0 ro ds tmps w β fr Su L R
   | false=>exact ihb env h Q (k.2 rfl) n0 ro ds tmps w β fr Su L R
  ·exact k.elim
 | block id c ih =>
  intro env h Q k n0 ro ds tmps w β fr Su L R
  refine wpIn_block (wpIn_mono (ih env h _ k n0 ro ds tmps w β fr Su L R) ?_)
  rintro e a' w' ⟨env',h',β',fr',q,r⟩
  cases e with
  | exit i =>
   simp only at q
   show Exit.inBlock id _ (.exit i) a' w'
   unfold Exit.inBlock
   simp only
   split
   ·rename_i hi; rw [if_pos hi] at q; exact ⟨env',h',β',fr',q,r⟩
   ·rename_i hi; rw [if_neg hi] at q; exact ⟨env',h',β',fr',q,r⟩
  | normal=>exact ⟨env',h',β',fr',q,r⟩
  | goto l=>exact ⟨env',h',β',fr',q,r⟩
  | ret=>exact ⟨env',h',β',fr',q,r⟩
  | panic ch=>exact ⟨env',h',β',fr',q,r⟩
  | outgrown=>exact ⟨env',h',β',fr',q,r⟩
 | loop c ih=>intro env h Q k; exact k
 | exit id =>
  intro env h Q k n0 ro ds tmps w β fr Su L R
  exact wpIn_exit ⟨env,h,β,fr,k,Su,L,R,Step1.refl _ _ _ _⟩
 | ret =>
  intro env h Q k n0 ro ds tmps w β fr Su L R
  exact wpIn_ret ⟨env,h,β,fr,k,Su,L,R,Step1.refl _ _ _ _⟩
 | scope c ih =>
  intro env h Q k n0 ro ds tmps w β fr Su L R
  refine wpIn_scope_straight (wpIn_mono (ih env h _ k n0 ro ds tmps w β fr Su L R) ?_)
  rintro e a' w' ⟨env',h',β',fr',q,r⟩
  cases e <;> first | exact ⟨env',h',β',fr',q,r⟩ | exact q.elim
 | label l =>
  intro env h Q k n0 ro ds tmps w β fr Su L R
  exact wpIn_label ⟨env,h,β,fr,k,Su,L,R,Step1.refl _ _ _ _⟩
 | goto l=>intro env h Q k; exact k.elim
 | rangeFunc f ps as b iha ihb=>intro env h Q k; exact rf_ok k
 | refuse why=>intro env h Q k; exact k.elim
theorem ALoop.intro {P : Program} {c : Code} {Q : Post} {env : List AV} {h : List AObj} (I : List AV → List AObj → Prop) (μ : List AV → List AObj → Nat) (h0 : I env h)
  (round:∀ env h,I env h→AWP P c (fun e env' h'=>match e with | .normal=>I env' h'∧μ env' h' < μ env h | e=>Q e env' h') env h):ALoop P c Q env h:=by
 intro n0 ro ds tmps w β fr Su L R
 have key : ∀ n env1 h1 (ds1 : List Deferred) (tmps1 : Array Value) (w1 : World) β1 fr1, μ env1 h1 < n → I env1 h1 → Sur n0 ro ds1 β1 fr1 h1 w1 → Lay β1 fr1 w1.heap h1 → EnvRep β1 fr1 w1.heap env1 tmps1 → Step1 β fr h w β1 fr1 h1 w1 →
   Code.roundsIn (roF ro) 0 P c (fun e a' w'=>∃ env' h' β' fr',Q e env' h'∧Sur n0 ro a'.defers β' fr' h' w'∧Lay β' fr' w'.heap h'∧EnvRep β' fr' w'.heap env' a'.tmps∧Step1 β fr h w β' fr' h' w') n ⟨tmps1,ds1⟩ w1:=by
  intro n
  induction n with
  | zero=>intro env1 h1 ds1 tmps1 w1 β1 fr1 hn; omega
  | succ n ih =>
   intro env1 h1 ds1 tmps1 w1 β1 fr1 hn hI Su1 L1 R1 S1
   rw [roundsIn_succ]
   refine wpIn_mono (round env1 h1 hI n0 ro ds1 tmps1 w1 β1 fr1 Su1 L1 R1) ?_
   rintro e ⟨t2,d2⟩ w2 ⟨env2,h2,β2,fr2,q,Su2,L2,R2,S2⟩
   cases e with
   | normal=>exact ih env2 h2 d2 t2 w2 β2 fr2 (by have:=q.2; omega) q.1 Su2 L2 R2 (S1.trans S2)
   | exit i=>exact ⟨env2,h2,β2,fr2,q,Su2,L2,R2,S1.trans S2⟩
   | goto l=>exact ⟨env2,h2,β2,fr2,q,Su2,L2,R2,S1.trans S2⟩
   | ret=>exact ⟨env2,h2,β2,fr2,q,Su2,L2,R2,S1.trans S2⟩
   | panic ch=>exact ⟨env2,h2,β2,fr2,q,Su2,L2,R2,S1.trans S2⟩
   | outgrown=>exact ⟨env2,h2,β2,fr2,q,Su2,L2,R2,S1.trans S2⟩
 exact wpIn_loop_rounds (μ env h+1) (key _ env h ds tmps w β fr (by omega) h0 Su L R (Step1.refl _ _ _ _))
def Close (n:Nat) (x1:AV) (h1:List AObj) (x2:AV) (h2:List AObj):Prop :=
 ∀ (H:Array Obj) (β:Beta) (fr:Nat→Prop) (v:Value),Lay β fr H h1→Rep β fr H x1 v →
  ∃ β' fr',Lay β' fr' H h2∧Rep β' fr' H x2 v∧(∀ t g r,t < n→β t g=some r→β' t g=some r)∧(∀ b,fr b→fr' b)∧(∀ b,Own h2 β' b→Own h1 β b)∧(∀ b,fr' b→fr b∨Own h1 β b)
theorem Close.refl (n:Nat) (x:AV) (h:List AObj):Close n x h x h:=fun _ β fr _ L R=>⟨β,fr,L,R,fun _ _ _ _ e=>e,fun _ e=>e,fun _ e=>e,fun _=>.inl⟩
theorem Close.trans {n:Nat} {x1 x2 x3:AV} {h1 h2 h3:List AObj} (a:Close n x1 h1 x2 h2) (b:Close n x2 h2 x3 h3):Close n x1 h1 x3 h3:=fun H β fr v L R=>by
 obtain ⟨β',fr',L',R',e1,e2,e3,e4⟩:=a H β fr v L R
 obtain ⟨β2,fr2,L2,R2,f1,f2,f3,f4⟩:=b H β' fr' v L' R'
 exact ⟨β2,fr2,L2,R2,fun t g r ht e=>f1 t g r ht (e1 t g r ht e),fun b e=>f2 b (e2 b e),fun b e=>e3 b (f3 b e),fun b e=>by
  rcases f4 b e with q | q
  ·exact e4 b q
  ·exact .inr (e3 b q)⟩
theorem run_loadVar_world {P:Program} {t:TypeId} {a:Addr} {w w':World} {v:Value} (h:(loadVar t a).run P w=.ok v w'):w'=w:=by
 have hcells:∀ (n i:Nat) (acc arr:Array Value) (w w':World),(loadCellsFrom a i n acc).run P w=.ok arr w'→w'=w:=by
  intro n
  induction n with
  | zero=>intro i acc arr w w' h; simp [loadCellsFrom] at h; exact h.2.symm
  | succ n ih =>
   intro i acc arr w w' h
   simp only [loadCellsFrom,Sem.run_bind,run_load] at h
   split at h
   ·simp only [Result.andThen_ok] at h; exact ih _ _ _ _ _ h
   ·split at h
    ·simp only [Result.andThen_ok] at h; exact ih _ _ _ _ _ h
    ·simp at h
 have hinfo:∀ (w w':World) (i:TypeInfo),(typeInfo t).run P w=.ok i w'→w'=w:=by
  intro w w' i h
  simp only [typeInfo,Sem.run_bind,run_program,Result.andThen_ok] at h
  split at h
  ·simp at h; exact h.2.symm
  ·simp at h
 have hund:∀ (w w':World) (d:TypeDesc),(underlying t).run P w=.ok d w'→w'=w:=by
  intro w w' d h
  simp only [Go.underlying,Sem.run_bind,run_program,Result.andThen_ok] at h
  split at h
  ·simp at h; exact h.2.symm
  ·simp at h
 have hag:∀ (w w':World) (b:Bool),(isAgg t).run P w=.ok b w'→w'=w:=by
  intro w w' b h
  simp only [isAgg,Sem.run_bind] at h
  cases hq:(underlying t).run P w with
  | ok d w1 =>
   have:=hund _ _ _ hq; subst this
   rw [hq] at h
   simp only [Result.andThen_ok] at h
   split at h <;> (simp at h; exact h.2.symm)
  | halt x w1=>rw [hq] at h; simp at h
 simp only [loadVar,Sem.run_bind] at h
 cases hq:(isAgg t).run P w with
 | ok b w1 =>
  have:=hag _ _ _ hq; subst this
  rw [hq] at h
  simp only [Result.andThen_ok] at h
  split at h
  ·simp only [Go.sizeOf,Sem.run_bind] at h
   cases hi:(typeInfo t).run P w1 with
   | ok i w2 =>
    have:=hinfo _ _ _ hi; subst this
    rw [hi] at h
    simp only [Result.andThen_ok,Sem.run_pure] at h
    cases hl:(loadCells a i.size).run P w2 with
    | ok arr w3 =>
     have:=hcells _ _ _ _ _ _ hl; subst this
     rw [hl] at h; simp at h; exact h.2.symm
    | halt x w3=>rw [hl] at h; simp at h
   | halt x w2=>rw [hi] at h; simp at h
  ·simp only [run_load] at h
   split at h
   ·simp at h; exact h.2.symm
   ·split at h
    ·simp at h; exact h.2.symm
    ·simp at h
 | halt x w1=>rw [hq] at h; simp at h
def resE (P:Program) (h:List AObj) (env:List AV):ResultVar→PV
 | .tmp t=>some (True,env.getD t .any)
 | .cell a t=>ldA P t h (env.getD a .any)
def resL (P:Program) (h:List AObj) (env:List AV):List ResultVar→Option (Prop × List AV)
 | []=>some (True,[])
 | r::rs =>
  match resE P h env r,resL P h env rs with
  | some (p,x),some (q,xs)=>some (p∧q,x::xs)
  | _,_=>none
def resA (P:Program) (rs:List ResultVar) (env:List AV) (h:List AObj):PV :=
 match resL P h env rs with
 | some (p,[x])=>some (p,x)
 | some (p,xs)=>some (p,.tup xs)
 | none=>none
def resR (tmps:Array Value):ResultVar→Sem Value
 | .tmp t=>pure (tmps.getD t undef)
 | .cell a t=>do loadVar t (← asAddr (tmps.getD a undef))
theorem run_resL {P : Program} {w : World} {β : Beta} {fr : Nat → Prop} {h : List AObj} {env : List AV} {tmps : Array Value} (L : Lay β fr w.heap h) (R : EnvRep β fr w.heap env tmps) : ∀ (rs : List ResultVar) (xs : List AV) (p : Prop), resL P h env rs = some (p, xs) → p →
  ∃ vs:List Value,(rs.mapM (resR tmps)).run P w=.ok vs w∧CellsRep β fr w.heap xs vs.toArray
 | [],xs,p,e,hp=>by
  simp only [resL] at e; injection e with e; injection e with e1 e2; subst e2
  exact ⟨[],rfl,rfl,fun j hj=>by simp at hj⟩
 | r::rs,xs,p,e,hp=>by
  simp only [resL] at e
  split at e
  ·rename_i p1 x q1 ys e1 e2
   injection e with e; injection e with e3 e4; subst e4; rw [← e3] at hp
   obtain ⟨vs,h1,h2⟩:=run_resL L R rs ys q1 e2 hp.2
   have h3:∃ v,(resR tmps r).run P w=.ok v w∧Rep β fr w.heap x v:=by
    cases r with
    | tmp t =>
     simp only [resE] at e1; injection e1 with e1; injection e1 with e5 e6; subst e6
     exact ⟨tmps.getD t undef,rfl,R.eval (ds:=[]) (.tmp t)⟩
    | cell a t =>
     simp only [resE] at e1
     have hx:=R.eval (ds:=[]) (.tmp a)
     simp only [evA] at hx
     let o:Oper:={ dst:=none,op:=.load t (.tmp a),type:=0,pos := "",after:=#[],guard:=none }
     obtain ⟨v,w',r1,r2,r3,r4,r5,r6⟩:=ld_ok (o:=o) (x:=.tmp a) (ev:=evA env) (P:=P) rfl e1 hp.1 ⟨tmps,[]⟩ w β fr L (fun y hy=>R.eval y)
     have hw:w'=w∧(resR tmps (.cell a t)).run P w=.ok v w:=by
      simp only [execOp,o,Instr.loadAt,Sem.run_bind] at r1
      have ha:(⟨tmps,[]⟩:Act).eval (.tmp a)=tmps.getD a undef:=rfl
      rw [ha] at r1
      simp only [resR,Sem.run_bind]
      cases hv:tmps.getD a undef with
      | pointer ad =>
       cases ad with
       | none=>rw [hv] at r1; simp [Instr.sureAddr] at r1
       | some ad =>
        rw [hv] at r1
        simp only [Instr.sureAddr,asAddr,Sem.run_pure,Result.andThen_ok] at r1 ⊢
        cases hl:(loadVar t ad).run P w with
        | ok v2 w2 =>
         rw [hl] at r1
         simp only [Result.andThen_ok,Sem.run_pure,Result.ok.injEq,Next.value.injEq] at r1
         obtain ⟨q1,q2⟩:=r1
         have hq:w2=w:=run_loadVar_world hl
         rw [q1,hq]
         exact ⟨by rw [← q2,hq],rfl⟩
        | halt x w2=>rw [hl] at r1; simp at r1
      | _=>rw [hv] at r1; simp [Instr.sureAddr] at r1
     exact ⟨v,hw.2,r6⟩
   obtain ⟨v,h3,h4⟩:=h3
   refine ⟨v::vs, ?_, ?_⟩
   ·rw [List.mapM_cons]; simp only [Sem.run_bind,h3,Result.andThen_ok,h1,Sem.run_pure]
   ·have:=CellsRep.append (xs:=[x]) (us:=#[v]) ⟨rfl,fun j hj=>by
     have:j=0:=by simpa using hj
     subst this; exact ⟨v,rfl,h4⟩⟩ h2
    simpa using this
  ·cases e
theorem run_results {P:Program} {w:World} {β:Beta} {fr:Nat→Prop} {h:List AObj} {fn:Func} {env:List AV} {tmps:Array Value} {p:Prop} {x:AV} (L:Lay β fr w.heap h) (hr:resA P fn.results.toList env h=some (p,x)) (hp:p) (R:EnvRep β fr w.heap env tmps):∃ v,(results fn tmps).run P w=.ok v w∧Rep β fr w.heap x v:=by
 have hdef:results fn tmps=(do let vs ← fn.results.mapM (resR tmps); pure (if h:vs.size=1 then vs[0] else .tuple vs)):=by
  unfold results
  congr 1
 rw [hdef,Array.mapM_eq_mapM_toList]
 unfold resA at hr
 split at hr
 ·rename_i p1 y e
  injection hr with hr; injection hr with h1 h2; subst h2; rw [← h1] at hp
  obtain ⟨vs,h3,h4⟩:=run_resL L R _ _ _ e hp
  have hl:vs.length=1:=by have:=h4.1; simpa using this
  obtain ⟨v,rfl⟩:∃ v,vs=[v]:=by
   match vs,hl with
   | [v],_=>exact ⟨v,rfl⟩
  refine ⟨v,by simp [h3], ?_⟩
  obtain ⟨u,hu,hru⟩:=h4.2 0 (by simp)
  simp at hu; subst hu; exact hru
 ·rename_i p1 ys hne e
  injection hr with hr; injection hr with h1 h2; subst h2; rw [← h1] at hp
  obtain ⟨vs,h3,h4⟩:=run_resL L R _ _ _ e hp
  have hl:vs.length≠1:=by
   intro q
   have:=h4.1
   simp only [List.size_toArray] at this
   rw [q] at this
   match ys,this with
   | [y],_=>exact hne _ rfl
  refine ⟨.tuple vs.toArray,by simp [h3,hl], ?_⟩
  simp only [Rep]
  exact ⟨_,rfl,h4.1,h4.2⟩
 ·cases hr
def finR (r:PV) (n:Nat) (h:List AObj) (K:AV→List AObj→Prop):Prop :=
 match r with
 | some (p,x)=>p∧∃ x2 h2,Close n x h x2 h2∧K x2 h2
 | none=>False
def AFin (P:Program) (rs:List ResultVar) (n:Nat) (K:AV→List AObj→Prop) (e:Exit) (env:List AV) (h:List AObj):Prop :=
 match e with
 | .ret=>finR (resA P rs env h) n h K
 | .normal=>finR (resA P rs env h) n h K
 | _=>False
theorem leaves_marks {P : Program} {fn : Func} {tmps : Array Value} {R : Ending → World → Prop} {n0 : Nat} {β β1 : Beta} {fr fr1 : Nat → Prop} {h h1 : List AObj} {w0 : World} (hn0 : n0 = w0.heap.size) : ∀ (ds : List Deferred) (w : World), Sur n0 none ds β1 fr1 h1 w → Lay β1 fr1 w.heap h1 → Step1 β fr h w0 β1 fr1 h1 w →
  (∀ w',Lay β1 fr1 w'.heap h1→Ext β1 fr1 w.heap β1 fr1 w'.heap→Step1 β fr h w0 β1 fr1 h1 w'→∃ v,(results fn tmps).run P w'=.ok v w'∧R (.returned v) w') →
  LeavesInM Fence.wide 0 P fn tmps R ds .returning w
 | [],w,Su,L,S,k=>k w L (Ext.refl _ _ _) S
 | d::ds,w,Su,L,S,k=>by
  obtain ⟨D,rfl,q1,q2,q3,q4⟩:=Su.mark _ List.mem_cons_self
  refine ⟨by simp,.inl ⟨D,_,rfl,run_takeDeferred q2, ?_⟩⟩
  have E:Ext β1 fr1 w.heap β1 fr1 (w.putObj D (.deferred none)).heap :=
   { beta := fun _ _ _ e => e, frm := fun _ e => e
     cells:=fun b hb=>getElem?_poke (fun e=>q4 (e ▸ hb))
     shape:=fun t g b c e f hb hc=>⟨c,f,by
      rw [show (w.putObj D (.deferred none)).heap[b]? = w.heap[b]? from getElem?_poke (fun e=>by rw [e,q2] at hc; cases hc)]; exact hc,rfl⟩ }
  have L':Lay β1 fr1 (w.putObj D (.deferred none)).heap h1 :=
   { frlt := fun b hb => by rw [World.putObj_size]; exact L.frlt b hb, ownfr := L.ownfr, lt := fun t g b e => by rw [World.putObj_size]; exact L.lt t g b e, inj := L.inj
     obj:=fun t ob ht=>(L.obj t ob ht).ext E fun g b hg hb=>getElem?_poke fun e=>q3 ⟨t,ob,g,ht,hg,e ▸ hb⟩
     dom:=L.dom,top:=L.top
     tab:=fun b p q=>⟨(L.tab b p q).1,by rw [E.cells b (L.tab b p q).1]; exact (L.tab b p q).2⟩ }
  have S':Step1 β fr h w0 β1 fr1 h1 (w.putObj D (.deferred none)) :=
   { ext := S.ext.trans E, os := S.os, tape := S.tape, output := S.output, size := by rw [World.putObj_size]; exact S.size
     keep:=fun b hb hn=>(show (w.putObj D (.deferred none)).heap[b]? = w.heap[b]? from getElem?_poke (by omega)).trans (S.keep b hb hn)
     prov:=S.prov,frz:=S.frz }
  refine leaves_marks hn0 ds _ ⟨by rw [World.putObj_size]; exact Su.le,Su.nodup.of_cons,fun d hd=>?_,fun _ e=>(nomatch e)⟩ L' S' fun w' L2 E2 S2=>k w' L2 (E.trans E2) S2
  obtain ⟨D',rfl,r1,r2,r3⟩:=Su.mark d (List.mem_cons_of_mem _ hd)
  refine ⟨D',rfl,r1, ?_,r3⟩
  refine (getElem?_poke ?_).trans r2
  rintro rfl
  exact (List.pairwise_cons.1 Su.nodup).1 _ hd rfl
theorem ACall.of_AWP {P : Program} {f : FuncId} {fn : Func} {c : Code} {args : List AV} {h : List AObj} {K : AV → List AObj → Prop} (hf : P.funcs[f]? = some fn) (hb : fn.body = some c)
  (k:AWP P c (AFin P fn.results.toList h.length K) (args++List.replicate (fn.ntmps - args.length) (.tup [])) h):ACall P f args h K:=by
 intro w β fr vs L R
 refine (callsIn_wide (n:=0)).1 (callsIn_of_wp_marks hf hb trivial (wpIn_mono (k w.heap.size none [] (vs++Array.replicate (fn.ntmps - vs.size) undef) w β fr (Sur.plain _ _ _ _) L ?_) ?_))
 ·refine CellsRep.append R ?_
  rw [R.1]
  refine ⟨by simp,fun j hj=>?_⟩
  have hj':j < fn.ntmps - args.length:=by simpa using hj
  exact ⟨undef,by simp [hj'],by simp [Rep,undef]⟩
 ·rintro e a' w' ⟨env',h',β',fr',q,Su',L',R',S'⟩
  have fin:finR (resA P fn.results.toList env' h') h.length h' K→LeavesInM Fence.wide 0 P fn a'.tmps (fun e w'=>∃ v x h' β' fr',e=.returned v∧K x h'∧Lay β' fr' w'.heap h'∧Rep β' fr' w'.heap x v∧Step1 β fr h w β' fr' h' w') a'.defers .returning w':=by
   intro hfin
   refine leaves_marks rfl a'.defers w' Su' L' S' fun w' L' E' S'=>?_
   have R':=R'.ext E'
   unfold finR at hfin
   split at hfin
   ·rename_i p x1 hres
    obtain ⟨hp,x2,h2,hc,hk⟩:=hfin
    obtain ⟨v,hv,hrv⟩:=run_results (P:=P) L' hres hp R'
    obtain ⟨β2,fr2,L2,R2,e1,e2,e3,e4⟩:=hc w'.heap β' fr' v L' hrv
    refine ⟨v,hv,v,x2,h2,β2,fr2,rfl,hk,L2,R2, ?_⟩
    exact { ext := { beta := fun t g r e => e1 t g r (L.dom _ _ _ e) (S'.ext.beta _ _ _ e), frm := fun b e => e2 b (S'.ext.frm b e), cells := S'.ext.cells, shape := S'.ext.shape }
            os:=S'.os,tape:=S'.tape,output:=S'.output,size:=S'.size,keep:=S'.keep,prov:=fun b e=>S'.prov b (e3 b e),frz:=fun b e=>by
             rcases e4 b e with q | q
             ·exact S'.frz b q
             ·exact .inr (S'.prov b q) }
   ·exact hfin.elim
  cases e with
  | normal=>exact fin q
  | ret=>exact fin q
  | exit i=>exact q.elim
  | goto l=>exact q.elim
  | panic ch=>exact q.elim
  | outgrown=>exact q.elim
theorem ACall.of_code {P : Program} {f : FuncId} {fn : Func} {c : Code} {args : List AV} {h : List AObj} {K : AV → List AObj → Prop} (hf : P.funcs[f]? = some fn) (hb : fn.body = some c)
  (k:acode P c (args++List.replicate (fn.ntmps - args.length) (.tup [])) h (AFin P fn.results.toList h.length K)):ACall P f args h K:=by
 refine ACall.of_AWP hf hb (acode_ok c _ h _ k)
end Go.Proofs.Vale
