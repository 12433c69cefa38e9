/- YtplehleekabbaaaGreatDoorVL: a text of the proof of this claim, by its prover. -/
import Derived.Test.YtplehleekabbaaaGreatDoorVF
import Derived.Laws.Build
set_option linter.unusedVariables false
set_option linter.unusedSimpArgs false
namespace Go.Proofs.Vale
def plI (P:Program) (fs:List Field):Option (List (Nat × Nat)):=fs.mapM fun f=>(P.info? f.type).map fun j=>(f.offset,j.size)
def bI (P:Program) (t:TypeId):Option (List (Nat × Nat) × List AV) :=
 match P.underlying t,P.info? t with
 | some (.struct fs),some i =>
  match i.zero,plI P fs.toList with
  | some z,some ps=>some (ps,z.cells.toList.map ofVal1)
  | _,_=>none
 | some (.array n e),some i =>
  match i.zero,P.info? e with
  | some z,some j=>some ((List.range n).map fun k=>(k * j.size,j.size),z.cells.toList.map ofVal1)
  | _,_=>none
 | _,_=>none
def fillA (ps:List (Nat × Nat)):List AV→List (Nat × AV)→Option (List AV)
 | cs,[]=>some cs
 | cs,(i,x)::r =>
  match ps[i]? with
  | some (off,n)=>if x.cells.length=n∧off+n≤cs.length then fillA ps (cs.take off++x.cells++cs.drop (off+n)) r else none
  | none=>none
theorem run_places {P:Program} (w:World):∀ (fs:List Field) (ps:List (Nat × Nat)),plI P fs=some ps→(fs.mapM fun f=>(do pure (f.offset,← Go.sizeOf f.type):Sem (Nat × Nat))).run P w=.ok ps w
 | [],ps,h=>by simp [plI] at h; subst h; rfl
 | f::fs,ps,h=>by
  simp only [plI,List.mapM_cons] at h
  cases hi:P.info? f.type with
  | none=>simp [hi] at h
  | some j =>
   simp only [hi,Option.map_some] at h
   cases hr:plI P fs with
   | none=>simp only [plI] at hr; simp [hr] at h
   | some qs =>
    have ih:=run_places w fs qs hr
    simp only [plI] at hr
    simp [hr] at h; subst h
    rw [List.mapM_cons]
    simp only [Sem.run_bind,run_sizeOf' hi,Result.andThen_ok,Sem.run_pure,ih]
theorem fold_set (c:Array Value) (off:Nat):∀ (vs:List Value) (k:Nat) (i:Nat),((vs.zipIdx k).foldl (fun cs (x:Value × Nat)=>cs.setIfInBounds (off+x.2) x.1) c)[i]? = if off+k≤i∧i < off+k+vs.length∧i < c.size then vs[i - (off+k)]? else c[i]?
 | [],k,i=>by simp; intro h1 h2; omega
 | v::vs,k,i=>by
  simp only [List.zipIdx_cons,List.foldl_cons]
  rw [fold_set (c.setIfInBounds (off+k) v) off vs (k+1) i]
  simp only [Array.size_setIfInBounds,List.length_cons]
  by_cases h1:i=off+k
  ·subst h1
   rw [if_neg (by omega)]
   by_cases h2:off+k < c.size
   ·rw [if_pos (by omega)]; simp [h2]
   ·rw [if_neg (by omega)]; simp [h2]
  ·by_cases h2:off+(k+1)≤i∧i < off+(k+1)+vs.length∧i < c.size
   ·rw [if_pos h2,if_pos (by omega)]
    rw [show i - (off+k)=(i - (off+(k+1)))+1 by omega]; simp
   ·rw [if_neg h2,if_neg (by omega)]
    rw [Array.getElem?_setIfInBounds_ne (by omega)]
def CellsRep (β:Beta) (fr:Nat→Prop) (H:Array Obj) (cs:List AV) (us:Array Value):Prop:=us.size=cs.length∧∀ j (h:j < cs.length),∃ u,us[j]? = some u∧Rep β fr H (cs[j]) u
theorem Rep_cells {β:Beta} {fr:Nat→Prop} {H:Array Obj} {x:AV} {v:Value} (h:Rep β fr H x v) (hx:∀ b y,x≠.opt b y) (ha:x≠.any):CellsRep β fr H x.cells v.cells:=by
 cases x
 case agg cs =>
  simp only [Rep] at h
  obtain ⟨us,rfl,h1,h2⟩:=h
  exact ⟨h1,h2⟩
 case opt b y=>exact absurd rfl (hx b y)
 case any=>exact absurd rfl ha
 all_goals
  have hv:v.cells=#[v]:=by
   simp only [Rep] at h
   first
    | (subst h; rfl)
    | (obtain ⟨_,rfl,_⟩:=h; rfl)
    | (obtain ⟨_,_,rfl,_⟩:=h; rfl)
    | (obtain ⟨_,_,rfl⟩:=h; rfl)
    | (rcases h with ⟨_,_,_,rfl⟩ | ⟨_,_,_,_,_,_,_,rfl,_⟩ <;> rfl)
  rw [hv]
  refine ⟨rfl,fun j hj=>?_⟩
  simp only [AV.cells,List.length_singleton] at hj
  have:j=0:=by omega
  subst this
  exact ⟨v,rfl,h⟩
def AV.sure:AV→Bool
 | .opt _ _=>false
 | .any=>false
 | _=>true
theorem Rep_cells' {β:Beta} {fr:Nat→Prop} {H:Array Obj} {x:AV} {v:Value} (h:Rep β fr H x v) (hs:x.sure=true):CellsRep β fr H x.cells v.cells :=
 Rep_cells h (fun b y e=>by subst e; cases hs) (fun e=>by subst e; cases hs)
theorem splice_rep {β : Beta} {fr : Nat → Prop} {H : Array Obj} {cs xs : List AV} {us vs : Array Value} {off n : Nat} (hc : CellsRep β fr H cs us) (hx : CellsRep β fr H xs vs) (hn : xs.length = n) (ho : off + n ≤ cs.length) :
  CellsRep β fr H (cs.take off++xs++cs.drop (off+n)) (vs.toList.zipIdx.foldl (fun c (x:Value × Nat)=>c.setIfInBounds (off+x.2) x.1) us):=by
 have hsz:∀ (l:List (Value × Nat)) (c:Array Value),(l.foldl (fun c (x:Value × Nat)=>c.setIfInBounds (off+x.2) x.1) c).size=c.size:=by
  intro l; induction l with
  | nil=>intro c; rfl
  | cons a l ih=>intro c; rw [List.foldl_cons,ih]; simp
 refine ⟨by rw [hsz,hc.1]; simp; omega,fun j hj=>?_⟩
 have hj':j < cs.length:=by simp at hj; omega
 rw [fold_set us off vs.toList 0 j]
 have hv:vs.toList.length=n:=by simp [hx.1,hn]
 simp only [hv,hc.1,Nat.add_zero]
 by_cases h1:off≤j∧j < off+n∧j < cs.length
 ·rw [if_pos h1]
  obtain ⟨u,hu,hr⟩:=hx.2 (j - off) (by omega)
  refine ⟨u,by simpa using hu, ?_⟩
  have:(cs.take off++xs++cs.drop (off+n))[j]'hj=xs[j - off]'(by omega):=by
   rw [List.getElem_append_left (by simp; omega),List.getElem_append_right (by simp; omega)]
   congr 1; simp; omega
  rw [this]; exact hr
 ·rw [if_neg h1]
  obtain ⟨u,hu,hr⟩:=hc.2 j hj'
  refine ⟨u,hu, ?_⟩
  have:(cs.take off++xs++cs.drop (off+n))[j]'hj=cs[j]:=by
   by_cases h2:j < off
   ·rw [List.getElem_append_left (by simp; omega),List.getElem_append_left (by simp; omega)]
    simp
   ·rw [List.getElem_append_right (by simp; omega)]
    simp only [List.getElem_drop]
    congr 1; simp; omega
  rw [this]; exact hr
theorem fill_rep {β : Beta} {fr : Nat → Prop} {H : Array Obj} {ps : List (Nat × Nat)} {place : Nat → Option (Nat × Nat)} (hpl : ∀ i q, ps[i]? = some q → place i = some q) : ∀ (parts : List (Nat × AV)) (vals : List (Nat × Value)) (cs : List AV) (us : Array Value) (r : List AV),
  parts.length=vals.length→(∀ i (h:i < parts.length) (h':i < vals.length),(parts[i]).1=(vals[i]).1∧Rep β fr H (parts[i]).2 (vals[i]).2)→(parts.all fun x=>x.2.sure)=true→CellsRep β fr H cs us→fillA ps cs parts=some r →
  ∃ us',Instr.fill place us vals=some us'∧CellsRep β fr H r us'
 | [],vals,cs,us,r,hl,hr,hs,hc,hf=>by
  cases vals with
  | nil=>simp [fillA] at hf; subst hf; exact ⟨us,by simp [Instr.fill],hc⟩
  | cons v vals=>simp at hl
 | (i,x)::parts,vals,cs,us,r,hl,hr,hs,hc,hf=>by
  cases vals with
  | nil=>simp at hl
  | cons v vals =>
   obtain ⟨i',v⟩:=v
   obtain ⟨h1,h2⟩:=hr 0 (by simp) (by simp)
   simp only [List.getElem_cons_zero] at h1 h2; subst h1
   simp only [List.all_cons,Bool.and_eq_true] at hs
   simp only [fillA] at hf
   split at hf
   ·rename_i off n hp
    split at hf
    ·rename_i hn
     have hx:=Rep_cells' h2 hs.1
     have hsz:v.cells.size=n:=by rw [hx.1]; exact hn.1
     have:=splice_rep hc hx hn.1 hn.2
     obtain ⟨us',h3,h4⟩:=fill_rep hpl parts vals _ _ r (by simpa using hl) (fun k hk hk'=>by have:=hr (k+1) (by simp; omega) (by simp; omega); simpa using this) hs.2 this hf
     refine ⟨us', ?_,h4⟩
     rw [Instr.fill,hpl i _ hp]
     simp only [hsz,hc.1]
     rw [if_neg (by simp; omega)]
     rw [← Array.foldl_toList,Array.toList_zipIdx]
     exact h3
    ·cases hf
   ·cases hf
def buA (P:Program) (t:TypeId) (parts:List (Nat × AV)):PV :=
 match bI P t with
 | some (ps,z)=>(match fillA ps z parts with | some r=>some ((parts.all fun x=>x.2.sure)=true,.agg r) | none=>none)
 | none=>none
theorem bu_ok {P:Program} {o:Oper} {t:TypeId} {parts:Array (Nat × Operand)} {ev:Operand→AV} {h:List AObj} {p:Prop} {r:AV} (ho:o.op=.build t parts) (hb:buA P t (parts.toList.map fun x=>(x.1,ev x.2))=some (p,r)):PopOk P o ev h p r:=by
 intro hp a w β fr L hr
 rw [ho] at hr
 simp only [execOp,ho]
 unfold buA at hb
 split at hb
 ·rename_i ps z hbi
  split at hb
  ·rename_i rr hf
   injection hb with hb; injection hb with hq hr'; subst hr'; rw [← hq] at hp
   unfold bI at hbi
   split at hbi
   ·rename_i fs inf e1 e2
    split at hbi
    ·rename_i zv ps' e3 e4
     injection hbi with hbi; injection hbi with h1 h2; subst h1 h2
     have hz:CellsRep β fr w.heap (zv.cells.toList.map ofVal1) zv.cells:=by
      refine ⟨by simp,fun j hj=>?_⟩
      have hj':j < zv.cells.size:=by simpa using hj
      exact ⟨zv.cells[j],by simp [hj'],by simp; exact Rep_ofVal1 _ _ _ _⟩
     obtain ⟨us',h3,h4⟩:=fill_rep (β:=β) (fr:=fr) (H:=w.heap) (ps:=ps') (place:=fun i=>(ps'.toArray)[i]?) (fun i q e=>by simpa using e) (parts.toList.map fun x=>(x.1,ev x.2)) (parts.toList.map fun x=>(x.1,a.eval x.2)) _ _ rr (by simp) (fun i hi hi'=>by
      simp only [List.getElem_map,true_and]
      refine hr _ ?_
      simp [Op.operands]
      have hm:parts.toList[i]'(by rw [List.length_map] at hi; exact hi)∈parts:=Array.mem_toList_iff.1 (List.getElem_mem _)
      exact ⟨_,hm⟩) hp hz hf
     refine ⟨.agg us',w, ?_,rfl,rfl,rfl,rfl,by simp only [Rep]; exact ⟨us',rfl,h4.1,h4.2⟩⟩
     have hm:(fs.mapM fun f=>(do pure (f.offset,← Go.sizeOf f.type):Sem (Nat × Nat))).run P w=.ok ps'.toArray w:=by
      rw [Array.mapM_eq_mapM_toList]
      simp only [Sem.run_map,run_places w fs.toList ps' e4,Result.andThen_ok]
     have hzr:(zeroValue t).run P w=.ok zv w:=by simp [zeroValue,typeInfo,e2,e3]
     simp only [Instr.build,Sem.run_bind,hzr,Result.andThen_ok,run_underlying e1,hm]
     simp only [Array.toList_map]
     rw [h3]; rfl
    ·cases hbi
   ·rename_i n el inf e1 e2
    split at hbi
    ·rename_i zv j e3 e4
     injection hbi with hbi; injection hbi with h1 h2; subst h1 h2
     have hz:CellsRep β fr w.heap (zv.cells.toList.map ofVal1) zv.cells:=by
      refine ⟨by simp,fun j hj=>?_⟩
      have hj':j < zv.cells.size:=by simpa using hj
      exact ⟨zv.cells[j],by simp [hj'],by simp; exact Rep_ofVal1 _ _ _ _⟩
     obtain ⟨us',h3,h4⟩:=fill_rep (β:=β) (fr:=fr) (H:=w.heap) (ps:=(List.range n).map fun k=>(k * j.size,j.size)) (place:=fun i=>some (i * j.size,j.size)) (fun i q e=>by
      rw [List.getElem?_map] at e
      by_cases hi:i < n
      ·simp [List.getElem?_range hi] at e; rw [e]
      ·rw [List.getElem?_eq_none (by simp; omega)] at e; cases e) (parts.toList.map fun x=>(x.1,ev x.2)) (parts.toList.map fun x=>(x.1,a.eval x.2)) _ _ rr (by simp) (fun i hi hi'=>by
      simp only [List.getElem_map,true_and]
      refine hr _ ?_
      simp [Op.operands]
      have hm:parts.toList[i]'(by rw [List.length_map] at hi; exact hi)∈parts:=Array.mem_toList_iff.1 (List.getElem_mem _)
      exact ⟨_,hm⟩) hp hz hf
     refine ⟨.agg us',w, ?_,rfl,rfl,rfl,rfl,by simp only [Rep]; exact ⟨us',rfl,h4.1,h4.2⟩⟩
     have hzr:(zeroValue t).run P w=.ok zv w:=by simp [zeroValue,typeInfo,e2,e3]
     simp only [Instr.build,Sem.run_bind,hzr,Result.andThen_ok,run_underlying e1,run_sizeOf' e4]
     simp only [Array.toList_map]
     rw [h3]; rfl
    ·cases hbi
   ·cases hbi
  ·cases hb
 ·cases hb
def exA (x:AV) (i:Nat):PV :=
 match x with
 | .tup vs=>some (i < vs.length,vs.getD i .any)
 | _=>none
theorem ex_ok {P:Program} {o:Oper} {x:Operand} {i:Nat} {ev:Operand→AV} {h:List AObj} {p:Prop} {r:AV} (ho:o.op=.extract x i) (hb:exA (ev x) i=some (p,r)):PopOk P o ev h p r:=by
 intro hp a w β fr L hr
 rw [ho] at hr
 have hx:=hr x (by simp [Op.operands])
 simp only [execOp,ho]
 unfold exA at hb
 split at hb
 ·rename_i vs e1
  injection hb with hb; injection hb with hq hr'; subst hr'; rw [← hq] at hp
  rw [e1] at hx; simp only [Rep] at hx
  obtain ⟨us,hv,h1,h2⟩:=hx
  obtain ⟨u,hu,hru⟩:=h2 i hp
  exact ⟨u,w,by simp [hv,Instr.extract,hu],rfl,rfl,rfl,rfl,by rw [getD_get hp]; exact hru⟩
 ·cases hb
def unA (op:UnOp) (x:AV):PV :=
 match op,x with
 | .neg,.int k n=>some (True,.int k (k.wrap (0 - n)))
 | .not,.bool b=>some (True,.bool (!b))
 | .xor,.int k n=>some (True,.int k (intBitsA .xor k (if k.signed then -1 else k.max) n))
 | _,_=>none
theorem un_ok {P:Program} {o:Oper} {op:UnOp} {t:TypeId} {x:Operand} {ev:Operand→AV} {h:List AObj} {p:Prop} {r:AV} (ho:o.op=.unOp op t x) (hb:unA op (ev x)=some (p,r)):PopOk P o ev h p r:=by
 intro hp a w β fr L hr
 rw [ho] at hr
 have hx:=hr x (by simp [Op.operands])
 simp only [execOp,ho]
 unfold unA at hb
 split at hb
 ·rename_i k n e1
  injection hb with hb; injection hb with hq hr'; subst hr'
  rw [e1] at hx; simp only [Rep] at hx
  exact ⟨_,w,by rw [hx]; simp [Op.unary,Op.intArith]; rfl,rfl,rfl,rfl,rfl,by simp [Rep]⟩
 ·rename_i b e1
  injection hb with hb; injection hb with hq hr'; subst hr'
  rw [e1] at hx; simp only [Rep] at hx
  exact ⟨_,w,by rw [hx]; simp [Op.unary]; rfl,rfl,rfl,rfl,rfl,by simp [Rep]⟩
 ·rename_i k n e1
  injection hb with hb; injection hb with hq hr'; subst hr'
  rw [e1] at hx; simp only [Rep] at hx
  exact ⟨_,w,by rw [hx]; simp [Op.unary,Op.intBits]; rfl,rfl,rfl,rfl,rfl,by simp [Rep,intBitsA]⟩
 ·cases hb
def ncA (x:AV):PV :=
 match x with
 | .ptr y=>some (True,.ptr y)
 | .ref t g s i j=>some (True,.ref t g s i j)
 | .func (.func f) fs cs=>some (True,.func (.func f) fs cs)
 | _=>none
theorem nc_ok {P:Program} {o:Oper} {x:Operand} {ev:Operand→AV} {h:List AObj} {p:Prop} {r:AV} (ho:o.op=.nilCheck x) (hb:ncA (ev x)=some (p,r)):PopOk P o ev h p r:=by
 intro hp a w β fr L hr
 rw [ho] at hr
 have hx:=hr x (by simp [Op.operands])
 simp only [execOp,ho]
 unfold ncA at hb
 split at hb
 ·rename_i y e1
  injection hb with hb; injection hb with hq hr'; subst hr'
  rw [e1] at hx
  have hx':=hx
  simp only [Rep] at hx; obtain ⟨ad,hv,-⟩:=hx
  exact ⟨a.eval x,w,by rw [hv]; rfl,rfl,rfl,rfl,rfl,hx'⟩
 ·rename_i t g s i j e1
  injection hb with hb; injection hb with hq hr'; subst hr'
  rw [e1] at hx
  have hx':=hx
  simp only [Rep] at hx; obtain ⟨b,-,hv⟩:=hx
  exact ⟨a.eval x,w,by rw [hv]; rfl,rfl,rfl,rfl,rfl,hx'⟩
 ·rename_i f fs cs e1
  injection hb with hb; injection hb with hq hr'; subst hr'
  rw [e1] at hx
  have hx':=hx
  simp only [Rep] at hx; obtain ⟨us,vs,hv,-⟩:=hx
  exact ⟨a.eval x,w,by rw [hv]; rfl,rfl,rfl,rfl,rfl,hx'⟩
 ·cases hb
def mfA (fn:Fn) (first cap:List AV):PV:=some (True,.func fn first cap)
theorem mf_ok {P:Program} {o:Oper} {fn:Fn} {first cap:Array Operand} {ev:Operand→AV} {h:List AObj} {p:Prop} {r:AV} (ho:o.op=.makeFunc fn first cap) (hb:mfA fn (first.toList.map ev) (cap.toList.map ev)=some (p,r)):PopOk P o ev h p r:=by
 intro hp a w β fr L hr
 rw [ho] at hr
 simp only [execOp,ho]
 injection hb with hb; injection hb with hq hr'; subst hr'
 refine ⟨.func fn (first.map a.eval) (cap.map a.eval),w,by simp [Instr.makeFunc],rfl,rfl,rfl,rfl, ?_⟩
 simp only [Rep]
 refine ⟨_,_,rfl,by simp,by simp,fun j hj=>?_,fun j hj=>?_⟩
 ·have hj':j < first.size:=by simpa using hj
  exact ⟨a.eval first[j],by simp [hj'],by simp; exact hr _ (by simp [Op.operands])⟩
 ·have hj':j < cap.size:=by simpa using hj
  exact ⟨a.eval cap[j],by simp [hj'],by simp; exact hr _ (by simp [Op.operands])⟩
def miA (P:Program) (t:TypeId) (x:AV):PV:=some (P.concrete t=true,.iface t x)
theorem mi_ok {P:Program} {o:Oper} {t:TypeId} {x:Operand} {ev:Operand→AV} {h:List AObj} {p:Prop} {r:AV} (ho:o.op=.makeInterface t x) (hb:miA P t (ev x)=some (p,r)):PopOk P o ev h p r:=by
 intro hp a w β fr L hr
 rw [ho] at hr
 have hx:=hr x (by simp [Op.operands])
 simp only [execOp,ho]
 injection hb with hb; injection hb with hq hr'; subst hr'; rw [← hq] at hp
 exact ⟨_,w,by simp [run_makeInterface w t _ hp]; rfl,rfl,rfl,rfl,rfl,by simp only [Rep]; exact ⟨_,rfl,hx⟩⟩
def taA (P:Program) (x:AV) (t:TypeId) (ok:Bool):PV :=
 match x with
 | .iface t' y=>some (t'=t∧P.concrete t=true,if ok then .tup [y,.bool true] else y)
 | _=>none
theorem ta_ok {P:Program} {o:Oper} {x:Operand} {t0 t:TypeId} {ok:Bool} {ev:Operand→AV} {h:List AObj} {p:Prop} {r:AV} (ho:o.op=.typeAssert x t0 t ok) (hb:taA P (ev x) t ok=some (p,r)):PopOk P o ev h p r:=by
 intro hp a w β fr L hr
 rw [ho] at hr
 have hx:=hr x (by simp [Op.operands])
 simp only [execOp,ho]
 unfold taA at hb
 split at hb
 ·rename_i t' y e1
  injection hb with hb; injection hb with hq hr'; subst hr'; rw [← hq] at hp
  obtain ⟨rfl,hc⟩:=hp
  rw [e1] at hx; simp only [Rep] at hx
  obtain ⟨u,hv,hu⟩:=hx
  have hd:∃ d,P.underlying t'=some d∧∀ ms,d≠.interface ms:=by
   unfold Program.concrete at hc
   cases hd:P.underlying t' with
   | none=>simp [hd] at hc
   | some d=>exact ⟨d,rfl,fun ms e=>by subst e; simp [hd] at hc⟩
  obtain ⟨d,hd,hn⟩:=hd
  cases ok
  ·refine ⟨u,w, ?_,rfl,rfl,rfl,rfl,by simpa using hu⟩
   rw [hv]
   cases d <;> first | exact absurd rfl (hn _) | simp [Instr.typeAssert,run_underlying hd]
  ·refine ⟨.tuple #[u,.bool true],w, ?_,rfl,rfl,rfl,rfl, ?_⟩
   ·rw [hv]
    cases d <;> first | exact absurd rfl (hn _) | simp [Instr.typeAssert,run_underlying hd]
   ·simp only [if_true,Rep]
    refine ⟨_,rfl,rfl,fun j hj=>?_⟩
    match j,hj with
    | 0,_=>exact ⟨u,rfl,hu⟩
    | 1,_=>exact ⟨.bool true,rfl,by simp [Rep]⟩
 ·cases hb
def pkA (c a b:AV):PV :=
 match c,a,b with
 | .bool c,.bool x,.bool y=>some (True,.bool (bif c then x else y))
 | .bool c,.opt g (.bool x),.bool y=>some (c=true→g=true,.bool (bif c then x else y))
 | .bool c,.bool x,.opt g (.bool y)=>some (c=false→g=true,.bool (bif c then x else y))
 | .bool true,.bool x,_=>some (True,.bool x)
 | .bool false,_,.bool y=>some (True,.bool y)
 | _,_,_=>none
theorem pk_ok {P:Program} {o:Oper} {c x y:Operand} {ev:Operand→AV} {h:List AObj} {p:Prop} {r:AV} (ho:o.op=.pick c x y) (hb:pkA (ev c) (ev x) (ev y)=some (p,r)):PopOk P o ev h p r:=by
 intro hp a w β fr L hr
 rw [ho] at hr
 have hc:=hr c (by simp [Op.operands])
 have hx:=hr x (by simp [Op.operands])
 have hy:=hr y (by simp [Op.operands])
 simp only [execOp,ho]
 unfold pkA at hb
 split at hb
 ·rename_i c1 x1 y1 e1 e2 e3
  injection hb with hb; injection hb with hq hr'; subst hr'
  rw [e1] at hc; rw [e2] at hx; rw [e3] at hy
  simp only [Rep] at hc hx hy
  refine ⟨.bool (bif c1 then x1 else y1),w, ?_,rfl,rfl,rfl,rfl,by simp [Rep]⟩
  cases c1 <;> simp [hc,hx,hy,asBool]
 ·rename_i c1 g x1 y1 e1 e2 e3
  injection hb with hb; injection hb with hq hr'; subst hr'; rw [← hq] at hp
  rw [e1] at hc; rw [e2] at hx; rw [e3] at hy
  simp only [Rep] at hc hx hy
  refine ⟨.bool (bif c1 then x1 else y1),w, ?_,rfl,rfl,rfl,rfl,by simp [Rep]⟩
  cases c1
  ·simp [hc,hy,asBool]
  ·simp [hc,hx.1 (hp rfl),asBool]
 ·rename_i c1 x1 g y1 e1 e2 e3
  injection hb with hb; injection hb with hq hr'; subst hr'; rw [← hq] at hp
  rw [e1] at hc; rw [e2] at hx; rw [e3] at hy
  simp only [Rep] at hc hx hy
  refine ⟨.bool (bif c1 then x1 else y1),w, ?_,rfl,rfl,rfl,rfl,by simp [Rep]⟩
  cases c1
  ·simp [hc,hy.1 (hp rfl),asBool]
  ·simp [hc,hx,asBool]
 ·rename_i x1 e1 e2 n1 n2
  injection hb with hb; injection hb with hq hr'; subst hr'
  rw [e1] at hc; rw [e2] at hx
  simp only [Rep] at hc hx
  exact ⟨.bool x1,w,by simp [hc,hx,asBool],rfl,rfl,rfl,rfl,by simp [Rep]⟩
 ·rename_i y1 e1 e3 n1 n2
  injection hb with hb; injection hb with hq hr'; subst hr'
  rw [e1] at hc; rw [e3] at hy
  simp only [Rep] at hc hy
  exact ⟨.bool y1,w,by simp [hc,hy,asBool],rfl,rfl,rfl,rfl,by simp [Rep]⟩
 ·cases hb
def lenA (P:Program) (t:TypeId) (x:AV):PV :=
 match x with
 | .str s=>some (tk P t=.str,.int .i64 s.length)
 | .fz c l=>some ((∃ e,tk P t=.sl e),.int .i64 l.length)
 | .sl _ _ _ _ n=>some ((∃ e,tk P t=.sl e),.int .i64 n)
 | _=>none
def mnA (x y:AV):PV :=
 match x,y with
 | .int k a,.int k' b=>some (True,.int k (if b < a then b else a))
 | _,_=>none
def mxA (x y:AV):PV :=
 match x,y with
 | .int k a,.int k' b=>some (True,.int k (if b > a then b else a))
 | _,_=>none
def capA (P:Program) (t:TypeId) (x:AV):PV :=
 match x with
 | .fz true l=>some ((∃ e,tk P t=.sl e),.int .i64 l.length)
 | _=>none
def bltA (P:Program) (b:Builtin) (ts:Array TypeId) (xs:List AV):PV :=
 match b,xs with
 | .len,[x]=>lenA P (ts.getD 0 0) x
 | .min,[x,y]=>mnA x y
 | .max,[x,y]=>mxA x y
 | .cap,[x]=>capA P (ts.getD 0 0) x
 | _,_=>none
theorem arr1 {l:Array Operand} {ev:Operand→AV} {x:AV} (he:l.toList.map ev=[x]):∃ y,l=#[y]∧ev y=x:=by
 obtain ⟨l⟩:=l
 match l,he with
 | [y],he=>simp at he; exact ⟨y,rfl,he⟩
theorem arr2 {l:Array Operand} {ev:Operand→AV} {x z:AV} (he:l.toList.map ev=[x,z]):∃ y u,l=#[y,u]∧ev y=x∧ev u=z:=by
 obtain ⟨l⟩:=l
 match l,he with
 | [y,u],he=>simp at he; exact ⟨y,u,rfl,he.1,he.2⟩
theorem blt_ok {P:Program} {o:Oper} {b:Builtin} {c:Call} {ev:Operand→AV} {h:List AObj} {p:Prop} {r:AV} (ho:o.op=.call c) (hc:c.callee=.builtin b) (ht:c.argTypes.size≠0) (hb:bltA P b c.argTypes (c.args.toList.map ev)=some (p,r)):PopOk P o ev h p r:=by
 intro hp a w β fr L hr
 rw [ho] at hr
 have hr':∀ y,y∈c.args→Rep β fr w.heap (ev y) (a.eval y):=fun y hy=>hr y (by simp [Op.operands,Call.operands,hc,hy])
 simp only [execOp,ho]
 obtain ⟨t0,h0,ht0⟩:∃ t0,c.argTypes[0]? = some t0∧c.argTypes.getD 0 0=t0:=⟨c.argTypes[0],Array.getElem?_eq_getElem (by omega),by rw [Array.getD_eq_getD_getElem?, Array.getElem?_eq_getElem (by omega)]; rfl⟩
 suffices key:∃ v,(Go.builtin b c.argTypes o.type (c.args.map fun | .const _=>true | _=>false) (c.args.map a.eval)).run P w=.ok (.value v) w∧Rep β fr w.heap r v by
  obtain ⟨v,h1,h2⟩:=key
  refine ⟨v,w, ?_,rfl,rfl,rfl,rfl,h2⟩
  simp only [Go.resolve,hc,Sem.run_bind,Sem.run_pure,Result.andThen_ok,Go.invoke]
  exact h1
 unfold bltA at hb
 split at hb
 ·rename_i x he
  obtain ⟨y,hy,rfl⟩:=arr1 he
  have hx:=hr' y (by simp [hy])
  rw [ht0] at hb
  unfold lenA at hb
  split at hb
  ·rename_i s e1
   injection hb with hb; injection hb with hq hr''; subst hr''; rw [← hq] at hp
   rw [e1] at hx; simp only [Rep] at hx
   obtain ⟨bb,hv,rfl⟩:=hx
   refine ⟨.int .i64 bb.size, ?_,by simp [Rep]⟩
   simp [Go.builtin,Builtin.len_,hy,h0,hv,run_underlying (tk_str hp),goInt]
  ·rename_i cc l e1
   injection hb with hb; injection hb with hq hr''; subst hr''; rw [← hq] at hp
   obtain ⟨e,hp⟩:=hp
   rw [e1] at hx; simp only [Rep] at hx
   obtain ⟨ao,cap,hv,-⟩:=hx
   refine ⟨.int .i64 l.length, ?_,by simp [Rep]⟩
   simp [Go.builtin,Builtin.len_,hy,h0,hv,run_underlying (tk_sl hp),goInt]
  ·rename_i t g s off n e1
   injection hb with hb; injection hb with hq hr''; subst hr''; rw [← hq] at hp
   obtain ⟨e,hp⟩:=hp
   rw [e1] at hx; simp only [Rep] at hx
   refine ⟨.int .i64 n, ?_,by simp [Rep]⟩
   rcases hx with ⟨-,-,rfl,hv⟩ | ⟨b,c',ele,f,cap,-,-,hv,-,-⟩
   ·simp [Go.builtin,Builtin.len_,hy,h0,hv,run_underlying (tk_sl hp),goInt]
   ·simp [Go.builtin,Builtin.len_,hy,h0,hv,run_underlying (tk_sl hp),goInt]
  ·cases hb
 ·rename_i x z he
  obtain ⟨y,u,hy,rfl,rfl⟩:=arr2 he
  have hx:=hr' y (by simp [hy])
  have hz:=hr' u (by simp [hy])
  unfold mnA at hb
  split at hb
  ·rename_i k n k' m e1 e2
   injection hb with hb; injection hb with hq hr''; subst hr''
   rw [e1] at hx; rw [e2] at hz; simp only [Rep] at hx hz
   refine ⟨_, ?_,by simp only [Rep]; rfl⟩
   simp [Go.builtin,Builtin.min_,Builtin.min2,hy,hx,hz]
  ·cases hb
 ·rename_i x z he
  obtain ⟨y,u,hy,rfl,rfl⟩:=arr2 he
  have hx:=hr' y (by simp [hy])
  have hz:=hr' u (by simp [hy])
  unfold mxA at hb
  split at hb
  ·rename_i k n k' m e1 e2
   injection hb with hb; injection hb with hq hr''; subst hr''
   rw [e1] at hx; rw [e2] at hz; simp only [Rep] at hx hz
   refine ⟨_, ?_,by simp only [Rep]; rfl⟩
   simp [Go.builtin,Builtin.max_,Builtin.max2,hy,hx,hz]
  ·cases hb
 ·rename_i x he
  obtain ⟨y,hy,rfl⟩:=arr1 he
  have hx:=hr' y (by simp [hy])
  rw [ht0] at hb
  unfold capA at hb
  split at hb
  ·rename_i l e1
   injection hb with hb; injection hb with hq hr''; subst hr''; rw [← hq] at hp
   obtain ⟨e,hp⟩:=hp
   rw [e1] at hx; simp only [Rep] at hx
   obtain ⟨ao,cap,hv,-,hcap,-⟩:=hx
   have hcap:=hcap trivial
   subst hcap
   refine ⟨.int .i64 l.length, ?_,by simp [Rep]⟩
   simp [Go.builtin,Builtin.cap_,hy,h0,hv,run_underlying (tk_sl hp),goInt]
  ·cases hb
 ·cases hb
end Go.Proofs.Vale
namespace Go.Proofs.Vale
def eqR (op:BinOp) (r:Option (Prop × Bool)):PV :=
 match op,r with
 | .eql,some (p,b)=>some (p,.bool b)
 | .neq,some (p,b)=>some (p,.bool (!b))
 | _,_=>none
def orP (a b:PV):PV :=
 match a with
 | some r=>some r
 | none=>b
def pop (P:Program) (op:Op) (ev:Operand→AV) (h:List AObj):PV :=
 match op with
 | .move x=>some (True,ev x)
 | .assign x=>some (True,ev x)
 | .pick c a b=>pkA (ev c) (ev a) (ev b)
 | .load t x=>ldA P t h (ev x)
 | .nilCheck x=>ncA (ev x)
 | .binOp op t x y _=>orP (bin op (ev x) (ev y)) (eqR op (eqo P t (ev x) (ev y)))
 | .unOp op _ x=>unA op (ev x)
 | .convert s d x=>cvA P s d h (ev x)
 | .makeInterface t x=>miA P t (ev x)
 | .makeFunc fn f c=>mfA fn (f.toList.map ev) (c.toList.map ev)
 | .slice t x lo hi mx=>slA P t (ev x) (lo.map ev) (hi.map ev) (mx.map ev)
 | .fieldAddr s x f=>faA P s f (ev x)
 | .field s x f=>fdA P s f (ev x)
 | .indexAddr t x i=>ixA P t (ev x) (ev i)
 | .index t x i=>inA P t (ev x) (ev i)
 | .typeAssert x _ t ok=>taA P (ev x) t ok
 | .extract x i=>exA (ev x) i
 | .build t parts=>buA P t (parts.toList.map fun x=>(x.1,ev x.2))
 | .call c=>(match c.callee with | .builtin b=>if c.argTypes.size=0 then none else bltA P b c.argTypes (c.args.toList.map ev) | _=>none)
 | _=>none
theorem eq_ok {P:Program} {o:Oper} {op:BinOp} {t yt:TypeId} {x y:Operand} {ev:Operand→AV} {h:List AObj} {p:Prop} {r:AV} (ho:o.op=.binOp op t x y yt) (hn:bin op (ev x) (ev y)=none) (hb:eqR op (eqo P t (ev x) (ev y))=some (p,r)):PopOk P o ev h p r:=by
 intro hp a w β fr L hr
 rw [ho] at hr
 have hx:=hr x (by simp [Op.operands])
 have hy:=hr y (by simp [Op.operands])
 simp only [execOp,ho]
 cases he:eqo P t (ev x) (ev y) with
 | none=>rw [he] at hb; cases op <;> cases hb
 | some q =>
  obtain ⟨p',b⟩:=q
  rw [he] at hb
  have key:p'→∃ c,r=.bool c∧(Go.binOp op t (a.eval x) (a.eval y)).run P w=.ok (.bool c) w∧p'=p:=by
   intro hp'
   have hpt:=run_equal he hp' hx hy op x y
   have hk:∀ op',(op'=BinOp.eql∨op'=BinOp.neq)→Go.binOp op' t (a.eval x) (a.eval y)=(do let b ← Op.equal t (a.eval x) (a.eval y); pure (.bool (if op'=.eql then b else !b))):=by
    intro op' ho'
    unfold eqo at he
    split at he
    ·rename_i e1 e2; rw [e1] at hx; rw [e2] at hy; simp only [Rep] at hx hy; rw [hx,hy]; rcases ho' with rfl | rfl <;> rfl
    ·rename_i e1 e2; rw [e1] at hx; rw [e2] at hy; simp only [Rep] at hx hy; rw [hx,hy]; rcases ho' with rfl | rfl <;> rfl
    ·rename_i e1 e2; rw [e1] at hx; rw [e2] at hy; simp only [Rep] at hx hy; obtain ⟨_,hy,-⟩:=hy; rw [hx,hy]; rcases ho' with rfl | rfl <;> rfl
    ·rename_i e1 e2; rw [e1] at hx; rw [e2] at hy; simp only [Rep] at hx hy; obtain ⟨_,hx,-⟩:=hx; rw [hx,hy]; rcases ho' with rfl | rfl <;> rfl
    ·rename_i e1 e2; rw [e1] at hx; rw [e2] at hy; simp only [Rep] at hx hy; obtain ⟨_,-,hy⟩:=hy; rw [hx,hy]; rcases ho' with rfl | rfl <;> rfl
    ·rename_i e1 e2; rw [e1] at hx; rw [e2] at hy; simp only [Rep] at hx hy; obtain ⟨_,-,hx⟩:=hx; rw [hx,hy]; rcases ho' with rfl | rfl <;> rfl
    ·rename_i e1 e2; rw [e1] at hx; rw [e2] at hy; simp only [Rep] at hx hy; obtain ⟨_,hx,-⟩:=hx; obtain ⟨_,hy,-⟩:=hy; rw [hx,hy]; rcases ho' with rfl | rfl <;> rfl
    ·cases he
   cases op
   case eql =>
    injection hb with hb; injection hb with h1 h2
    exact ⟨b,h2.symm,by rw [hk .eql (.inl rfl)]; simp [hpt.2],h1⟩
   case neq =>
    injection hb with hb; injection hb with h1 h2
    exact ⟨!b,h2.symm,by rw [hk .neq (.inr rfl)]; simp [hpt.2],h1⟩
   all_goals cases hb
  have hpp:p':=by
   cases op <;> first | (injection hb with hb; injection hb with h1 h2; rw [h1]; exact hp) | cases hb
  obtain ⟨c,rfl,hrun,-⟩:=key hpp
  refine ⟨.bool c,w, ?_,rfl,rfl,rfl,rfl,by simp [Rep]⟩
  simp [(run_equal he hpp hx hy op x y).1,hrun]
theorem pop_ok {P:Program} {o:Oper} {ev:Operand→AV} {h:List AObj} {p:Prop} {r:AV} (hb:pop P o.op ev h=some (p,r)):PopOk P o ev h p r:=by
 unfold pop at hb
 split at hb
 case h_1 x ho =>
  intro hp a w β fr L hr
  injection hb with hb; injection hb with h1 h2; subst h2
  rw [ho] at hr
  exact ⟨a.eval x,w,by simp [execOp,ho],rfl,rfl,rfl,rfl,hr x (by simp [Op.operands])⟩
 case h_2 x ho =>
  intro hp a w β fr L hr
  injection hb with hb; injection hb with h1 h2; subst h2
  rw [ho] at hr
  exact ⟨a.eval x,w,by simp [execOp,ho],rfl,rfl,rfl,rfl,hr x (by simp [Op.operands])⟩
 case h_3 ho=>exact pk_ok ho hb
 case h_4 ho=>exact ld_ok ho hb
 case h_5 ho=>exact nc_ok ho hb
 case h_6 op t x y yt ho =>
  cases hbin:bin op (ev x) (ev y) with
  | none=>rw [hbin] at hb; exact eq_ok ho hbin hb
  | some q=>rw [hbin] at hb; injection hb with hb; subst hb; exact bin_ok ho hbin
 case h_7 ho=>exact un_ok ho hb
 case h_8 ho=>exact cv_ok ho hb
 case h_9 ho=>exact mi_ok ho hb
 case h_10 ho=>exact mf_ok ho hb
 case h_11 ho=>exact sl_ok ho hb
 case h_12 ho=>exact fa_ok ho hb
 case h_13 ho=>exact fd_ok ho hb
 case h_14 ho=>exact ix_ok ho hb
 case h_15 ho=>exact in_ok ho hb
 case h_16 ho=>exact ta_ok ho hb
 case h_17 ho=>exact ex_ok ho hb
 case h_18 ho=>exact bu_ok ho hb
 case h_19 c ho =>
  split at hb
  ·rename_i b hc
   split at hb
   ·cases hb
   ·rename_i hz; exact blt_ok ho hc hz hb
  ·cases hb
 case h_20=>cases hb
def AV.strip:AV→AV
 | .opt _ x=>x
 | x=>x
def AV.okS:AV→Prop
 | .opt b _=>b=true
 | _=>True
theorem Rep.strip {β:Beta} {fr:Nat→Prop} {H:Array Obj} {x:AV} {v:Value} (h:Rep β fr H x v) (ok:x.okS):Rep β fr H x.strip v:=by
 cases x <;> first | exact h | (simp only [Rep] at h; exact h.1 ok)
def andL:List Prop→Prop
 | []=>True
 | p::ps=>p∧andL ps
theorem andL_mem:∀ {l:List Prop},andL l→∀ p,p∈l→p
 | [],_,p,h=>by cases h
 | q::l,⟨h1,h2⟩,p,h=>by
  cases h with
  | head=>exact h1
  | tail _ h=>exact andL_mem h2 p h
def addP (q:Prop) (a:PV):PV :=
 match a with
 | some (p,r)=>some (q∧p,r)
 | none=>none
def popG (P:Program) (op:Op) (ev:Operand→AV) (h:List AObj):PV :=
 match op with
 | .pick c a b=>addP (ev c).okS (pkA (ev c).strip (ev a) (ev b))
 | op=>addP (andL (op.operands.toList.map fun x=>(ev x).okS)) (pop P op (fun x=>(ev x).strip) h)
theorem popG_ok {P:Program} {o:Oper} {ev:Operand→AV} {h:List AObj} {p:Prop} {r:AV} (hb:popG P o.op ev h=some (p,r)):PopOk P o ev h p r:=by
 unfold popG at hb
 split at hb
 ·rename_i c x y ho
  cases hk:pkA (ev c).strip (ev x) (ev y) with
  | none=>rw [hk] at hb; cases hb
  | some q =>
   obtain ⟨p',r'⟩:=q
   rw [hk] at hb; simp only [addP] at hb; injection hb with hb; injection hb with h1 h2; subst h2
   intro hp a w β fr L hr
   rw [← h1] at hp
   rw [ho] at hr
   have hc:=(hr c (by simp [Op.operands])).strip hp.1
   have hx:=hr x (by simp [Op.operands])
   have hy:=hr y (by simp [Op.operands])
   -- the same as pk_ok,at the stripped first operand
   unfold pkA at hk
   simp only [execOp,ho]
   split at hk
   ·rename_i c1 x1 y1 e1 e2 e3
    injection hk with hk; injection hk with hq hr'; subst hr'
    rw [e1] at hc; rw [e2] at hx; rw [e3] at hy
    simp only [Rep] at hc hx hy
    refine ⟨.bool (bif c1 then x1 else y1),w, ?_,rfl,rfl,rfl,rfl,by simp [Rep]⟩
    cases c1 <;> simp [hc,hx,hy,asBool]
   ·rename_i c1 g x1 y1 e1 e2 e3
    injection hk with hk; injection hk with hq hr'; subst hr'; rw [← hq] at hp
    rw [e1] at hc; rw [e2] at hx; rw [e3] at hy
    simp only [Rep] at hc hx hy
    refine ⟨.bool (bif c1 then x1 else y1),w, ?_,rfl,rfl,rfl,rfl,by simp [Rep]⟩
    cases c1
    ·simp [hc,hy,asBool]
    ·simp [hc,hx.1 (hp.2 rfl),asBool]
   ·rename_i c1 x1 g y1 e1 e2 e3
    injection hk with hk; injection hk with hq hr'; subst hr'; rw [← hq] at hp
    rw [e1] at hc; rw [e2] at hx; rw [e3] at hy
    simp only [Rep] at hc hx hy
    refine ⟨.bool (bif c1 then x1 else y1),w, ?_,rfl,rfl,rfl,rfl,by simp [Rep]⟩
    cases c1
    ·simp [hc,hy.1 (hp.2 rfl),asBool]
    ·simp [hc,hx,asBool]
   ·rename_i x1 e1 e2 n1 n2
    injection hk with hk; injection hk with hq hr'; subst hr'
    rw [e1] at hc; rw [e2] at hx
    simp only [Rep] at hc hx
    exact ⟨.bool x1,w,by simp [hc,hx,asBool],rfl,rfl,rfl,rfl,by simp [Rep]⟩
   ·rename_i y1 e1 e3 n1 n2
    injection hk with hk; injection hk with hq hr'; subst hr'
    rw [e1] at hc; rw [e3] at hy
    simp only [Rep] at hc hy
    exact ⟨.bool y1,w,by simp [hc,hy,asBool],rfl,rfl,rfl,rfl,by simp [Rep]⟩
   ·cases hk
 ·cases hk:pop P o.op (fun x=>(ev x).strip) h with
  | none=>rw [hk] at hb; cases hb
  | some q =>
   obtain ⟨p',r'⟩:=q
   rw [hk] at hb; simp only [addP] at hb; injection hb with hb; injection hb with h1 h2; subst h2
   intro hp a w β fr L hr
   rw [← h1] at hp
   refine pop_ok hk hp.2 a w β fr L fun y hy=>(hr y hy).strip (andL_mem hp.1 _ ?_)
   simp only [List.mem_map]
   exact ⟨y,Array.mem_toList_iff.2 hy,rfl⟩
def ACall (P:Program) (f:FuncId) (args:List AV) (h:List AObj) (K:AV→List AObj→Prop):Prop :=
 ∀ (w:World) (β:Beta) (fr:Nat→Prop) (vs:Array Value),Lay β fr w.heap h→CellsRep β fr w.heap args vs →
  Calls P f vs w fun e w'=>∃ v x h' β' fr',e=.returned v∧K x h'∧Lay β' fr' w'.heap h'∧Rep β' fr' w'.heap x v∧Step1 β fr h w β' fr' h' w'
theorem ACall.mono {P:Program} {f:FuncId} {args:List AV} {h:List AObj} {K K':AV→List AObj→Prop} (a:ACall P f args h K) (hk:∀ x h',K x h'→K' x h'):ACall P f args h K' :=
 fun w β fr vs L R=>(a w β fr vs L R).mono fun _ _ ⟨v,x,h',β',fr',e,k,r⟩=>⟨v,x,h',β',fr',e,hk _ _ k,r⟩
def roF (ro:Option Nat):Fence:={ Fence.wide with round:=ro }
theorem roF_some (l:Nat) (ro:Option Nat):(roF ro).inRound l=roF (some l):=rfl
theorem execOp_defer {P:Program} {ρ:Operand→Value} {o:Oper} {c:Call} (ho:o.op=.defer c) (w:World):(∃ d w',(execOp ρ o).run P w=.ok (.defer d) w')∨∃ x w',(execOp ρ o).run P w=.halt x w':=by
 simp only [execOp,ho,Sem.run_bind]
 cases (Go.resolve ρ c o.type).run P w with
 | ok d w'=>left; exact ⟨d,w',by simp [Result.andThen]⟩
 | halt x w'=>right; exact ⟨x,w',by simp [Result.andThen]⟩
theorem wpIn_of_run {P : Program} {o : Oper} {a : Act} {w : World} {ro : Option Nat} {next : Act → World → Prop} {Q : Exit → Act → World → Prop} {r : Result Next} (hr : (execOp a.eval o).run P w = r)
  (hd:(∀ d w',r≠.ok (.defer d) w')∧∀ x w',r≠.halt x w') (k:o.uponIn (roF ro) 0 P a next Q r):o.wpIn (roF ro) 0 P a w next Q:=by
 refine ⟨fun _ _=>trivial, ?_⟩
 rw [Oper.semAt_eq (roF ro).round a.eval o,hr]
 ·exact k
 ·intro c hc
  rcases execOp_defer (P:=P) (ρ:=a.eval) hc w with ⟨d,w',e⟩ | ⟨x,w',e⟩
  ·exact hd.1 d w' (hr.symm.trans e)
  ·exact hd.2 x w' (hr.symm.trans e)
theorem wpIn_val {P:Program} {o:Oper} {a:Act} {w w':World} {v:Value} {ro:Option Nat} {next:Act→World→Prop} {Q:Exit→Act→World→Prop} (hr:(execOp a.eval o).run P w=.ok (.value v) w') (k:next (a.put o.dst v) w'):o.wpIn (roF ro) 0 P a w next Q :=
 wpIn_of_run hr ⟨fun _ _ e=>(nomatch e),fun _ _ e=>(nomatch e)⟩ k
theorem wpIn_skp {P:Program} {o:Oper} {a:Act} {w w':World} {ro:Option Nat} {next:Act→World→Prop} {Q:Exit→Act→World→Prop} (hr:(execOp a.eval o).run P w=.ok .skip w') (k:next (a.put o.dst undef) w'):o.wpIn (roF ro) 0 P a w next Q :=
 wpIn_of_run hr ⟨fun _ _ e=>(nomatch e),fun _ _ e=>(nomatch e)⟩ k
theorem callsIn_ro {P:Program} {f:FuncId} {args:Array Value} {w:World} {R:Ending→World→Prop} {n:Nat} (ro:Option Nat) (h:Calls P f args w R):CallsIn (roF ro) n P f args w R:=by
 have:=callsIn_wide (n:=n) |>.2 h
 exact this
theorem wpIn_ent {P : Program} {o : Oper} {a : Act} {w w' : World} {f : FuncId} {args : Array Value} {ro : Option Nat} {next : Act → World → Prop} {Q : Exit → Act → World → Prop} (hr : (execOp a.eval o).run P w = .ok (.enter f args) w')
  (k:Calls P f args w' fun e w2=>∃ v,e=.returned v∧next (a.put o.dst v) w2):o.wpIn (roF ro) 0 P a w next Q:=by
 refine wpIn_of_run hr ⟨fun _ _ e=>(nomatch e),fun _ _ e=>(nomatch e)⟩ ?_
 rw [Oper.uponIn_enter]
 refine ⟨fun h=>(nomatch h),CallsIn.mono (callsIn_ro ro k) ?_⟩
 rintro e w2 ⟨v,rfl,q⟩
 exact q
def OpK (P:Program) (o:Oper) (ev:Operand→AV) (h:List AObj) (K:AV→List AObj→Prop):Prop :=
 ∀ (a:Act) (w:World) (β:Beta) (fr:Nat→Prop),Lay β fr w.heap h→(∀ y,y∈o.op.operands→Rep β fr w.heap (ev y) (a.eval y)) →
  ∀ (ro:Option Nat) (next:Act→World→Prop) (Q:Exit→Act→World→Prop),
   (∀ v x w' h' β' fr',K x h'→Lay β' fr' w'.heap h'→Rep β' fr' w'.heap x v→Step1 β fr h w β' fr' h' w'→next (a.put o.dst v) w')→o.wpIn (roF ro) 0 P a w next Q
theorem OpK.of_pop {P:Program} {o:Oper} {ev:Operand→AV} {h:List AObj} {p:Prop} {r:AV} {K:AV→List AObj→Prop} (hk:PopOk P o ev h p r) (hp:p) (k:K r h):OpK P o ev h K:=by
 intro a w β fr L hr ro next Q hn
 obtain ⟨v,w',h1,h2,h3,h4,h5,h6⟩:=hk hp a w β fr L hr
 refine wpIn_val h1 ?_
 exact hn v r w' h β fr k (by rw [h2]; exact L) (by rw [h2]; exact h6) (Step1.drawn h2 h3 h4 h5)
theorem OpK.of_run {P : Program} {o : Oper} {ev : Operand → AV} {h : List AObj} {K : AV → List AObj → Prop}
  (hk:∀ (a:Act) (w:World) (β:Beta) (fr:Nat→Prop),Lay β fr w.heap h→(∀ y,y∈o.op.operands→Rep β fr w.heap (ev y) (a.eval y)) →
   ∃ v x w' h' β' fr',((execOp a.eval o).run P w=.ok (.value v) w'∨((execOp a.eval o).run P w=.ok .skip w'∧v=undef))∧K x h'∧Lay β' fr' w'.heap h'∧Rep β' fr' w'.heap x v∧Step1 β fr h w β' fr' h' w'):OpK P o ev h K:=by
 intro a w β fr L hr ro next Q hn
 obtain ⟨v,x,w',h',β',fr',h1,h2,h3,h4,h5⟩:=hk a w β fr L hr
 rcases h1 with h1 | ⟨h1,rfl⟩
 ·exact wpIn_val h1 (hn v x w' h' β' fr' h2 h3 h4 h5)
 ·exact wpIn_skp h1 (hn _ x w' h' β' fr' h2 h3 h4 h5)
def OpKs (P:Program) (o:Oper) (ev:Operand→AV) (h:List AObj) (K:AV→List AObj→Prop):Prop :=
 ∀ (a:Act) (w:World) (β:Beta) (fr:Nat→Prop),Lay β fr w.heap h→(∀ y,y∈o.op.operands→Rep β fr w.heap (ev y) (a.eval y)) →
  ∃ v x w' h' β' fr',((execOp a.eval o).run P w=.ok (.value v) w'∨((execOp a.eval o).run P w=.ok .skip w'∧v=undef))∧K x h'∧Lay β' fr' w'.heap h'∧Rep β' fr' w'.heap x v∧Step1 β fr h w β' fr' h' w' ∧
   ∀ t g r,β' t g=some r→β t g=some r∨∃ o,h'[t]? = some o∧o≠.dead
theorem OpKs.toOpK {P:Program} {o:Oper} {ev:Operand→AV} {h:List AObj} {K:AV→List AObj→Prop} (k:OpKs P o ev h K):OpK P o ev h K :=
 OpK.of_run fun a w β fr L hr=>let ⟨v,x,w',h',β',fr',h1,h2,h3,h4,h5,_⟩:=k a w β fr L hr; ⟨v,x,w',h',β',fr',h1,h2,h3,h4,h5⟩
theorem betaSet_J {β:Beta} {t g:Nat} {r:Option Nat} {h':List AObj} {o:AObj} (ht:h'[t]? = some o) (hn:o≠.dead):∀ t1 g1 x,betaSet β t g r t1 g1=some x→β t1 g1=some x∨∃ o,h'[t1]? = some o∧o≠.dead:=by
 intro t1 g1 x e
 by_cases q:t1=t∧g1=g
 ·obtain ⟨rfl,rfl⟩:=q; exact .inr ⟨o,ht,hn⟩
 ·rw [betaSet_other q] at e; exact .inl e
end Go.Proofs.Vale
namespace Go.Proofs.Vale
theorem Lay.push {β : Beta} {fr : Nat → Prop} {w w' : World} {h : List AObj} (L : Lay β fr w.heap h) {c : Obj} {o : AObj} {g : Nat} (hg : o.gen = some g)
  (hw:w'.heap=w.heap.push c) (hos:w'.os=w.os) (ht:w'.tape=w.tape) (hp:w'.output=w.output)
  (ho:ObjAt (betaSet β h.length g (some w.heap.size)) fr w'.heap h.length o) :
  Lay (betaSet β h.length g (some w.heap.size)) fr w'.heap (h++[o])∧Step1 β fr h w (betaSet β h.length g (some w.heap.size)) fr (h++[o]) w':=by
 have hlt:∀ t g' r,β t g'=some r→t < h.length:=L.dom
 have hold:∀ b,b < w.heap.size→w'.heap[b]? = w.heap[b]? := fun b hb=>by rw [hw,Array.getElem?_push,if_neg (by omega)]
 have hother:∀ t g',t < h.length→betaSet β h.length g (some w.heap.size) t g'=β t g':=fun t g' h1=>betaSet_other (by omega)
 have E:Ext β fr w.heap (betaSet β h.length g (some w.heap.size)) fr w'.heap :=
  { beta := fun t g' r e => by rw [hother t g' (hlt _ _ _ e)]; exact e
    frm:=fun _ e=>e
    cells:=fun b hb=>hold b (L.frlt b hb)
    shape:=fun t g' b c' e f hb hc=>⟨c',f,by rw [hold b (L.lt _ _ _ hb)]; exact hc,rfl⟩ }
 have hsz:w'.heap.size=w.heap.size+1:=by rw [hw]; simp
 have hown:∀ b,Own (h++[o]) (betaSet β h.length g (some w.heap.size)) b→Own h β b∨b=w.heap.size:=by
  rintro b ⟨t,o1,g1,h1,h2,h3⟩
  by_cases hl:t < h.length
  ·rw [List.getElem?_append_left hl] at h1
   rw [hother t g1 hl] at h3
   exact .inl ⟨t,o1,g1,h1,h2,h3⟩
  ·rw [List.getElem?_append_right (by omega)] at h1
   have:t=h.length:=by
    rcases Nat.eq_zero_or_pos (t - h.length) with z | z
    ·omega
    ·rw [List.getElem?_eq_none (by simp; omega)] at h1; cases h1
   subst this
   simp at h1; subst h1
   rw [hg] at h2; injection h2 with h2; subst h2
   rw [betaSet_same] at h3; injection h3 with h3; injection h3 with h3
   exact .inr h3.symm
 refine ⟨?_, ?_⟩
 ·refine { frlt:=fun b hb=>by have:=L.frlt b hb; omega,ownfr:=fun b hb hf=>?_,lt:=fun t g' b hb=>?_,inj:=?_,obj:=fun t o1 h1=>?_,dom:=fun t g' r e=>?_,top:=?_,tab:=fun b cs q=>⟨(L.tab b cs q).1,by rw [E.cells b (L.tab b cs q).1]; exact (L.tab b cs q).2⟩ }
  ·rcases hown b hb with q | q
   ·exact L.ownfr b q hf
   ·have:=L.frlt b hf; omega
  ·by_cases e:t=h.length∧g'=g
   ·obtain ⟨rfl,rfl⟩:=e
    rw [betaSet_same] at hb; injection hb with hb; injection hb with hb; omega
   ·rw [betaSet_other e] at hb; have:=L.lt _ _ _ hb; omega
  ·intro t t' o1 o2 g1 g2 b h1 h2 h3 h4 h5 h6
   by_cases hl:t < h.length <;> by_cases hl':t' < h.length
   ·rw [List.getElem?_append_left hl] at h1
    rw [List.getElem?_append_left hl'] at h4
    rw [hother t g1 hl] at h3
    rw [hother t' g2 hl'] at h6
    exact L.inj _ _ _ _ _ _ _ h1 h2 h3 h4 h5 h6
   ·exfalso
    rw [hother t g1 hl] at h3
    have hb:=L.lt _ _ _ h3
    by_cases e:t'=h.length∧g2=g
    ·obtain ⟨rfl,rfl⟩:=e
     rw [betaSet_same] at h6; injection h6 with h6; injection h6 with h6; omega
    ·rw [betaSet_other e] at h6; exact hl' (hlt _ _ _ h6)
   ·exfalso
    rw [hother t' g2 hl'] at h6
    have hb:=L.lt _ _ _ h6
    by_cases e:t=h.length∧g1=g
    ·obtain ⟨rfl,rfl⟩:=e
     rw [betaSet_same] at h3; injection h3 with h3; injection h3 with h3; omega
    ·rw [betaSet_other e] at h3; exact hl (hlt _ _ _ h3)
   ·have:=(List.getElem?_eq_some_iff.1 h1).1
    have:=(List.getElem?_eq_some_iff.1 h4).1
    simp at *; omega
  ·by_cases hl:t < h.length
   ·rw [List.getElem?_append_left hl] at h1
    exact (L.obj t o1 h1).ext E fun g' b hg' hb=>hold b (L.lt _ _ _ hb)
   ·have hlt':=(List.getElem?_eq_some_iff.1 h1).1
    have:t=h.length:=by simp at hlt'; omega
    subst this
    rw [List.getElem?_append_right (by omega)] at h1
    simp at h1; subst h1; exact ho
  ·by_cases e':t=h.length∧g'=g
   ·simp; omega
   ·rw [betaSet_other e'] at e; have:=hlt _ _ _ e; simp; omega
  ·intro t g1 s l h1 g' hg'
   by_cases hl:t < h.length
   ·rw [List.getElem?_append_left hl] at h1
    rw [hother t g' hl]; exact L.top t g1 s l h1 g' hg'
   ·have hlt':=(List.getElem?_eq_some_iff.1 h1).1
    have:t=h.length:=by simp at hlt'; omega
    subst this
    rw [List.getElem?_append_right (by omega)] at h1
    simp at h1; subst h1
    simp only [AObj.gen] at hg; injection hg with hg; subst hg
    rw [betaSet_other (by omega)]
    cases hb:β h.length g' with
    | none=>rfl
    | some r=>exact absurd (hlt _ _ _ hb) (by omega)
 ·exact ⟨E,hos,ht,hp,by omega,fun b hb _=>hold b hb,fun b hb=>by
   rcases hown b hb with q | q
   ·exact .inl q
   ·exact .inr (by omega),fun _=>.inl⟩
theorem Lay.turn0 {β β' : Beta} {fr : Nat → Prop} {w w' : World} {h : List AObj} (L : Lay β fr w.heap h) {t g0 g' : Nat} {o o' : AObj} {r : Option Nat}
  (ht:h[t]? = some o) (hg0:o.gen=some g0) (hg':o'.gen=some g') (hd:∀ gg s l,o'≠.arr gg s l∨True)
  (hβ:∀ t1 g1 x,β t1 g1=some x→β' t1 g1=some x) (hβ2:∀ t1 g1 x,β' t1 g1=some x→β t1 g1=some x∨(t1=t∧g1=g'))
  (hr:β' t g'=some r) (hloc:∀ b,r=some b→(β t g0=some (some b)∨w.heap.size≤b)∧b < w'.heap.size)
  (hsame:∀ b,b < w.heap.size→β t g0≠some (some b)→w'.heap[b]? = w.heap[b]?) (hsz:w.heap.size≤w'.heap.size)
  (hshape:∀ b c e f,β t g0=some (some b)→w.heap[b]? = some (.cells c e f)→∃ c' f',w'.heap[b]? = some (.cells c' e f')∧c'.size=c.size)
  (hos:w'.os=w.os) (htp:w'.tape=w.tape) (hp:w'.output=w.output)
  (ho:Ext β fr w.heap β' fr w'.heap→ObjAt β' fr w'.heap t o') (htop:(∃ gg s l,o'=.arr gg s l)→∀ g1,g' < g1→β' t g1=none) :
  Lay β' fr w'.heap (h.set t o')∧Step1 β fr h w β' fr (h.set t o') w':=by
 have htl:t < h.length:=(List.getElem?_eq_some_iff.1 ht).1
 have hfrne:∀ b,fr b→β t g0≠some (some b):=fun b hb e=>L.ownfr b ⟨t,o,g0,ht,hg0,e⟩ hb
 have E:Ext β fr w.heap β' fr w'.heap :=
  { beta := hβ
    frm:=fun _ e=>e
    cells:=fun b hb=>hsame b (L.frlt b hb) (hfrne b hb)
    shape:=fun t1 g1 b c e f hb hc=>by
     by_cases q:β t g0=some (some b)
     ·exact hshape b c e f q hc
     ·exact ⟨c,f,by rw [hsame b (L.lt _ _ _ hb) q]; exact hc,rfl⟩ }
 have hown:∀ b,Own (h.set t o') β' b→Own h β b∨w.heap.size≤b:=by
  rintro b ⟨t1,o1,g1,h1,h2,h3⟩
  by_cases e:t1=t
  ·subst e
   rw [List.getElem?_set_self htl] at h1; injection h1 with h1; subst h1
   rw [hg'] at h2; injection h2 with h2; subst h2
   rw [hr] at h3; injection h3 with h3
   rcases (hloc b h3).1 with q | q
   ·exact .inl ⟨t1,o,g0,ht,hg0,q⟩
   ·exact .inr q
  ·rw [List.getElem?_set_ne (fun q=>e q.symm)] at h1
   rcases hβ2 _ _ _ h3 with q | ⟨q,_⟩
   ·exact .inl ⟨t1,o1,g1,h1,h2,q⟩
   ·exact absurd q e
 have hltb:∀ t1 g1 b,β' t1 g1=some (some b)→b < w'.heap.size:=by
  intro t1 g1 b hb
  rcases hβ2 _ _ _ hb with q | ⟨rfl,rfl⟩
  ·have:=L.lt _ _ _ q; omega
  ·rw [hr] at hb; injection hb with hb; exact (hloc b hb).2
 refine ⟨?_,E,hos,htp,hp,hsz,fun b hb hn=>hsame b hb (fun q=>hn ⟨t,o,g0,ht,hg0,q⟩),hown,fun _=>.inl⟩
 refine { frlt:=fun b hb=>by have:=L.frlt b hb; omega,ownfr:=fun b hb hf=>?_,lt:=hltb,inj:=?_,obj:=?_,dom:=fun t1 g1 x e=>?_,top:=?_,tab:=fun b cs q=>⟨(L.tab b cs q).1,by rw [E.cells b (L.tab b cs q).1]; exact (L.tab b cs q).2⟩ }
 ·rcases hown b hb with q | q
  ·exact L.ownfr b q hf
  ·have:=L.frlt b hf; omega
 ·have key:∀ t1 o1 g1 b,t1≠t→(h.set t o')[t1]? = some o1→o1.gen=some g1→β' t1 g1=some (some b)→h[t1]? = some o1∧β t1 g1=some (some b):=by
   intro t1 o1 g1 b e h1 h2 h3
   rw [List.getElem?_set_ne (fun q=>e q.symm)] at h1
   rcases hβ2 _ _ _ h3 with q | ⟨q,_⟩
   ·exact ⟨h1,q⟩
   ·exact absurd q e
  have self:∀ o1 g1 b,(h.set t o')[t]? = some o1→o1.gen=some g1→β' t g1=some (some b)→β t g0=some (some b)∨w.heap.size≤b:=by
   intro o1 g1 b h1 h2 h3
   rw [List.getElem?_set_self htl] at h1; injection h1 with h1; subst h1
   rw [hg'] at h2; injection h2 with h2; subst h2
   rw [hr] at h3; injection h3 with h3; exact (hloc b h3).1
  intro t1 t2 o1 o2 g1 g2 b h1 h2 h3 h4 h5 h6
  by_cases e1:t1=t <;> by_cases e2:t2=t
  ·omega
  ·exfalso
   subst e1
   obtain ⟨k1,k2⟩:=key t2 o2 g2 b e2 h4 h5 h6
   rcases self o1 g1 b h1 h2 h3 with q | q
   ·exact e2 (L.inj _ _ _ _ _ _ _ k1 h5 k2 ht hg0 q)
   ·have:=L.lt _ _ _ k2; omega
  ·exfalso
   subst e2
   obtain ⟨k1,k2⟩:=key t1 o1 g1 b e1 h1 h2 h3
   rcases self o2 g2 b h4 h5 h6 with q | q
   ·exact e1 (L.inj _ _ _ _ _ _ _ k1 h2 k2 ht hg0 q)
   ·have:=L.lt _ _ _ k2; omega
  ·obtain ⟨k1,k2⟩:=key t1 o1 g1 b e1 h1 h2 h3
   obtain ⟨k3,k4⟩:=key t2 o2 g2 b e2 h4 h5 h6
   exact L.inj _ _ _ _ _ _ _ k1 h2 k2 k3 h5 k4
 ·intro t1 o1 h1
  by_cases e:t1=t
  ·subst e
   rw [List.getElem?_set_self htl] at h1; injection h1 with h1; subst h1
   exact ho E
  ·rw [List.getElem?_set_ne (fun q=>e q.symm)] at h1
   refine (L.obj t1 o1 h1).ext E fun g1 b hg1 hb=>hsame b (L.lt _ _ _ hb) fun q=>e ?_
   exact L.inj _ _ _ _ _ _ _ h1 hg1 hb ht hg0 q
 ·rw [List.length_set]
  rcases hβ2 _ _ _ e with q | ⟨rfl,_⟩
  ·exact L.dom _ _ _ q
  ·exact htl
 ·intro t1 g1 s l h1 g2 hg2
  by_cases e:t1=t
  ·subst e
   rw [List.getElem?_set_self htl] at h1; injection h1 with h1
   have:g1=g':=by rw [h1] at hg'; simpa [AObj.gen] using hg'
   subst this
   exact htop ⟨_,_,_,h1⟩ g2 hg2
  ·rw [List.getElem?_set_ne (fun q=>e q.symm)] at h1
   cases hb:β' t1 g2 with
   | none=>rfl
   | some x =>
    rcases hβ2 _ _ _ hb with q | ⟨q,_⟩
    ·rw [L.top t1 g1 s l h1 g2 hg2] at q; cases q
    ·exact absurd q e
theorem Lay.turn {β β' : Beta} {fr : Nat → Prop} {w w' : World} {h : List AObj} (L : Lay β fr w.heap h) {t g0 g' : Nat} {o o' : AObj} {r : Option Nat}
  (ht:h[t]? = some o) (hg0:o.gen=some g0) (hg':o'.gen=some g') (hd:∀ gg s l,o'≠.arr gg s l∨True)
  (hβ:∀ t1 g1 x,β t1 g1=some x→β' t1 g1=some x) (hβ2:∀ t1 g1 x,β' t1 g1=some x→β t1 g1=some x∨(t1=t∧g1=g'))
  (hr:β' t g'=some r) (hloc:∀ b,r=some b→(β t g0=some (some b)∨w.heap.size≤b)∧b < w'.heap.size)
  (hsame:∀ b,b < w.heap.size→β t g0≠some (some b)→w'.heap[b]? = w.heap[b]?) (hsz:w.heap.size≤w'.heap.size)
  (hshape:∀ b c e f,β t g0=some (some b)→w.heap[b]? = some (.cells c e f)→∃ c' f',w'.heap[b]? = some (.cells c' e f')∧c'.size=c.size)
  (hos:w'.os=w.os) (htp:w'.tape=w.tape) (hp:w'.output=w.output)
  (ho:Ext β fr w.heap β' fr w'.heap→ObjAt β' fr w'.heap t o') (htop:∀ g1,g' < g1→β' t g1=none) :
  Lay β' fr w'.heap (h.set t o')∧Step1 β fr h w β' fr (h.set t o') w' :=
 L.turn0 ht hg0 hg' hd hβ hβ2 hr hloc hsame hsz hshape hos htp hp ho (fun _=>htop)
end Go.Proofs.Vale
namespace Go.Proofs.Vale
def AV.one:AV→Bool
 | .agg _=>false
 | .tup _=>false
 | .opt _ _=>false
 | .any=>false
 | _=>true
theorem Rep_one {β:Beta} {fr:Nat→Prop} {H:Array Obj} {x:AV} {v:Value} (h:Rep β fr H x v) (ho:x.one=true):v.oneCell'=true:=by
 cases x <;> first | (cases ho; done) | skip
 all_goals
  simp only [Rep] at h
  first
   | (subst h; rfl)
   | (obtain ⟨_,rfl,_⟩:=h; rfl)
   | (obtain ⟨_,_,rfl,_⟩:=h; rfl)
   | (obtain ⟨_,_,rfl⟩:=h; rfl)
   | (rcases h with ⟨_,_,_,rfl⟩ | ⟨_,_,_,_,_,_,_,rfl,_⟩ <;> rfl)
theorem run_storeCells {P : Program} (b o : Nat) (e : TypeId) (f : Nat × Nat) : ∀ (vs : List Value) (i : Nat) (c : Array Value) (w : World), w.heap[b]? = some (.cells c e f) → (∀ v ∈ vs, v.oneCell' = true) → o + i + vs.length ≤ c.size →
  (∀ j,j < c.size→(decide (f.1≤j) && decide (j < f.2))=false) →
  ∃ c' w',(storeCells ⟨b,o,none⟩ vs i).run P w=.ok () w'∧w'.heap[b]? = some (.cells c' e f)∧(∀ k,k≠b→w'.heap[k]? = w.heap[k]?)∧w'.heap.size=w.heap.size∧w'.os=w.os∧w'.tape=w.tape∧w'.output=w.output ∧
   c'.size=c.size∧∀ j,c'[j]? = if o+i≤j∧j < o+i+vs.length then vs[j - (o+i)]? else c[j]?
 | [],i,c,w,hb,_,_,_=>⟨c,w,rfl,hb,fun _ _=>rfl,rfl,rfl,rfl,rfl,rfl,fun j=>by rw [if_neg (by rintro ⟨h1,h2⟩; simp only [List.length_nil] at h2; omega)]⟩
 | v::vs,i,c,w,hb,hv,hl,hf=>by
  simp only [List.length_cons] at hl
  have hbs:b < w.heap.size:=(Array.getElem?_eq_some_iff.1 hb).1
  have hcell:w.cell? ⟨b,o+i,none⟩=some (c[o+i]'(by omega)):=by
   rw [cell?_eq _ _ rfl]; simp only [cellAt,hb]; exact Array.getElem?_eq_getElem (by omega)
  have hfz:w.frozen? ⟨b,o+i,none⟩=false:=by
   simp only [World.frozen?, hb]
   exact hf (o+i) (by omega)
  let w1:=w.setCell ⟨b,o+i,none⟩ v
  have hrun:(store ⟨b,o+i,none⟩ v).run P w=.ok () w1:=by
   rw [run_store P w _ v .plain (hv v (by simp)),hcell]; simp [hfz,w1]
  have hb1:w1.heap[b]? = some (.cells (c.setIfInBounds (o+i) v) e f):=by
   simp only [w1,World.setCell,Array.getElem?_modify,if_true,hb,Option.map_some]
   simp
  have hk1:∀ k,k≠b→w1.heap[k]? = w.heap[k]? := by
   intro k hk
   simp only [w1,World.setCell,Array.getElem?_modify]
   rw [if_neg (fun q=>hk q.symm)]
  have hs1:w1.heap.size=w.heap.size:=by simp [w1,World.setCell]
  obtain ⟨c',w',h1,h2,h3,h4,h5,h6,h7,h8,h9⟩:=run_storeCells b o e f vs (i+1) (c.setIfInBounds (o+i) v) w1 hb1 (fun v hv'=>hv v (by simp [hv'])) (by simp; omega) (by simpa using hf)
  refine ⟨c',w', ?_,h2,fun k hk=>(h3 k hk).trans (hk1 k hk),h4.trans hs1,h5,h6,h7,by rw [h8]; simp,fun j=>?_⟩
  ·simp only [storeCells,Sem.run_bind]
   rw [add_none rfl,hrun]
   exact h1
  ·rw [h9 j]
   simp only [List.length_cons]
   by_cases q:j=o+i
   ·subst q
    rw [if_neg (by omega),if_pos (by omega)]
    simp [show o+i < c.size by omega]
   ·by_cases q2:o+(i+1)≤j∧j < o+(i+1)+vs.length
    ·rw [if_pos q2,if_pos (by omega)]
     rw [show j - (o+i)=(j - (o+(i+1)))+1 by omega]; simp
    ·rw [if_neg q2,if_neg (by omega)]
     rw [Array.getElem?_setIfInBounds_ne (by omega)]
def RowAt (β:Beta) (fr:Nat→Prop) (H:Array Obj) (l:List AV) (s:Nat) (us:Array Value):Prop :=
 us.size=l.length * s∧(∀ x∈l,x.cells.length=s)∧∀ i (hi:i < l.length) j (hj:j < (l[i]).cells.length),∃ u,us[i * s+j]? = some u∧Rep β fr H ((l[i]).cells[j]) u
theorem RowAt.ext {β β':Beta} {fr fr':Nat→Prop} {H H':Array Obj} (e:Ext β fr H β' fr' H') {l:List AV} {s:Nat} {us:Array Value} (h:RowAt β fr H l s us):RowAt β' fr' H' l s us :=
 ⟨h.1,h.2.1,fun i hi j hj=>let ⟨u,hu,hr⟩:=h.2.2 i hi j hj; ⟨u,hu,hr.ext e⟩⟩
theorem RowAt.append {β:Beta} {fr:Nat→Prop} {H:Array Obj} {l m:List AV} {s:Nat} {us vs:Array Value} (h:RowAt β fr H l s us) (k:RowAt β fr H m s vs):RowAt β fr H (l++m) s (us++vs):=by
 refine ⟨by simp [h.1,k.1,Nat.add_mul],fun x hx=>?_,fun i hi j hj=>?_⟩
 ·rcases List.mem_append.1 hx with q | q
  ·exact h.2.1 x q
  ·exact k.2.1 x q
 ·by_cases q:i < l.length
  ·simp only [List.getElem_append_left q] at hj ⊢
   obtain ⟨u,hu,hr⟩:=h.2.2 i q j hj
   refine ⟨u, ?_,hr⟩
   rw [Array.getElem?_append_left]
   ·exact hu
   ·exact (Array.getElem?_eq_some_iff.1 hu).1
  ·have hi':i - l.length < m.length:=by simp at hi; omega
   simp only [List.getElem_append_right (Nat.le_of_not_lt q)] at hj ⊢
   obtain ⟨u,hu,hr⟩:=k.2.2 (i - l.length) hi' j hj
   refine ⟨u, ?_,hr⟩
   have e:i * s=us.size+(i - l.length) * s:=by
    rw [h.1,← Nat.add_mul]; congr 1; omega
   rw [Array.getElem?_append_right (by omega)]
   rw [show i * s+j - us.size=(i - l.length) * s+j by omega]
   exact hu
theorem RowAt.obj {β : Beta} {fr : Nat → Prop} {H : Array Obj} {l : List AV} {s t g b : Nat} {us c : Array Value} {e : TypeId} {f : Nat × Nat} (h : RowAt β fr H l s us) (hb : β t g = some (some b)) (hH : H[b]? = some (.cells c e f))
  (hf:∀ i,i < c.size→(decide (f.1≤i) && decide (i < f.2))=false) (hc:∀ k,k < us.size→c[k]? = us[k]?) (hn:us.size≤c.size):ObjAt β fr H t (.arr g s l):=by
 refine .inr ⟨b,c,e,f,hb,hH,hf,h.2.1,by rw [← h.1]; exact hn,fun i hi j hj=>?_⟩
 obtain ⟨u,hu,hr⟩:=h.2.2 i hi j hj
 exact ⟨u,by rw [hc _ (Array.getElem?_eq_some_iff.1 hu).1]; exact hu,hr⟩
theorem idx_lt {i j s n:Nat} (hi:i < n) (hj:j < s):i * s+j < n * s:=by
 have:(i+1) * s≤n * s:=Nat.mul_le_mul_right s hi
 rw [Nat.add_mul] at this; omega
theorem run_loadRow {P : Program} {w : World} {β : Beta} {fr : Nat → Prop} {l : List AV} {s : Nat} {b o : Nat} (hs : ∀ x ∈ l, x.cells.length = s)
  (h:∀ i (hi:i < l.length) j (hj:j < (l[i]).cells.length),∃ u,cellAt w.heap b (o+i * s+j)=some u∧Rep β fr w.heap ((l[i]).cells[j]) u) :
  ∃ us,(∀ w':World,w'.heap=w.heap→(loadCells ⟨b,o,none⟩ (l.length * s)).run P w'=.ok us w')∧RowAt β fr w.heap l s us:=by
 refine ⟨_,fun w' hw'=>run_loadCells w' _ (l.length * s) (fun k=>(cellAt w.heap b (o+k)).getD undef) (fun k hk=>?_), ?_⟩
 ·have hs0 : 0 < s := by rcases Nat.eq_zero_or_pos s with z | z; · subst z; simp at hk
                         exact z
  have hi:k / s < l.length:=(Nat.div_lt_iff_lt_mul hs0).2 hk
  have hj:k % s < (l[k / s]).cells.length:=by rw [hs _ (List.getElem_mem hi)]; exact Nat.mod_lt _ hs0
  obtain ⟨u,hu,hr⟩:=h _ hi _ hj
  have e:o+k / s * s+k % s=o+k:=by rw [Nat.add_assoc,Nat.div_add_mod' k s]
  rw [e] at hu
  rw [add_none rfl,cell?_eq _ _ rfl,hw']
  simp [hu]
 ·refine ⟨by simp,hs,fun i hi j hj=>?_⟩
  obtain ⟨u,hu,hr⟩:=h i hi j hj
  have hlt:i * s+j < l.length * s:=idx_lt hi (by rw [← hs _ (List.getElem_mem hi)]; exact hj)
  refine ⟨u, ?_,hr⟩
  simp [hlt,show o+(i * s+j)=o+i * s+j by omega,hu]
theorem growBy_le (n:Nat):∀ r c,Builtin.growBy n r c≤max c (n+(n+768) / 4)
 | 0,c=>by simp [Builtin.growBy]; omega
 | r+1,c=>by
  unfold Builtin.growBy
  split
  ·omega
  ·have:=growBy_le n r (c+(c+768) / 4)
   omega
theorem nextslicecap_le {n c:Nat} (h:c < n):Builtin.nextslicecap n c≤2 * n+192:=by
 unfold Builtin.nextslicecap
 split
 ·omega
 ·split
  ·omega
  ·have:=growBy_le n 4 c
   omega
end Go.Proofs.Vale
namespace Go.Proofs.Vale
def rdA (h:List AObj) (x:AV):Option (Prop × List AV) :=
 match x with
 | .fz c l=>some (True,l)
 | .sl t g s off len=>(match h[t]? with | some (.arr g' s' l)=>some (g=g'∧s=s'∧off+len≤l.length,(l.drop off).take len) | _=>none)
 | .str s=>some (True,bytesA s)
 | _=>none
theorem bytesA_cells {s:List UInt8}:∀ x∈bytesA s,x.cells.length=1:=by
 intro x hx
 simp only [bytesA,List.mem_map] at hx
 obtain ⟨b,_,rfl⟩:=hx; rfl
theorem rdA_run {P : Program} {w : World} {β : Beta} {fr : Nat → Prop} {h : List AObj} {x : AV} {v : Value} {p : Prop} {ys : List AV} {s : Nat} (L : Lay β fr w.heap h) (hx : Rep β fr w.heap x v) (he : rdA h x = some (p, ys)) (hp : p) (hs : ∀ y ∈ ys, y.cells.length = s) :
  (∀ w':World,(Builtin.lenOf v).run P w'=.ok ys.length w')∧∃ us,(∀ w':World,w'.heap=w.heap→(Builtin.firstCells s ys.length v).run P w'=.ok us w')∧RowAt β fr w.heap ys s us:=by
 unfold rdA at he
 split at he
 ·rename_i c l
  injection he with he; injection he with h1 h2; subst h2
  simp only [Rep] at hx
  obtain ⟨ao,cap,rfl,h3,h4,h5⟩:=hx
  refine ⟨fun _=>rfl, ?_⟩
  cases l with
  | nil =>
   cases ao with
   | none=>exact ⟨#[],fun _ _=>rfl,by simp,by simp,by simp⟩
   | some ad=>exact ⟨#[],fun _ _=>by simp [Builtin.firstCells,loadCells,loadCellsFrom],by simp,by simp,by simp⟩
  | cons y l =>
   obtain ⟨ad,s',rfl,hf,hsp,hu,hc⟩:=h5 (by simp)
   have:s'=s:=by rw [← hu y (by simp),hs y (by simp)]
   subst this
   obtain ⟨bk,of,sp⟩:=ad
   simp only at hsp; subst hsp
   exact run_loadRow hs hc
 ·rename_i t g s' off len
  split at he
  ·rename_i g' s'' l ht
   injection he with he; injection he with h1 h2; subst h2; rw [← h1] at hp
   obtain ⟨rfl,rfl,hn⟩:=hp
   simp only [Rep] at hx
   rcases hx with ⟨hb,rfl,rfl,rfl⟩ | ⟨b,c,e,f,cap,hb,hH,rfl,hcs,hl⟩
   ·refine ⟨fun _=>by simp [Builtin.lenOf],#[],fun _ _=>by simp [Builtin.firstCells],by simp,by simp,by simp⟩
   ·have hlen:((l.drop off).take len).length=len:=by simp; omega
    refine ⟨fun _=>by simp only [Builtin.lenOf,hlen]; rfl, ?_⟩
    have:=run_loadRow (P:=P) (w:=w) (β:=β) (fr:=fr) (l:=(l.drop off).take len) (s:=s) (b:=b) (o:=off * s') hs (fun i hi j hj=>by
     have hi':off+i < l.length:=by simp at hi; omega
     simp only [List.getElem_take,List.getElem_drop] at hj ⊢
     obtain ⟨u,hu,hr⟩:=L.arr ht hi' hb j hj
     refine ⟨u, ?_,hr⟩
     have hss:s'=s:=by
      have ho:=L.obj t _ ht
      rcases ho with ⟨_,z⟩ | ⟨_,_,_,_,_,_,_,h4,_⟩
      ·subst z; simp at hi'
      ·rw [← h4 _ (List.getElem_mem hi'),← hs (l[off+i]) (by
        have:=List.getElem_mem hi
        simpa only [List.getElem_take,List.getElem_drop] using this)]
     subst hss
     rw [← hu]; congr 1; rw [Nat.add_mul])
    simpa [Builtin.firstCells] using this
  ·cases he
 ·rename_i bs
  injection he with he; injection he with h1 h2; subst h2
  simp only [Rep] at hx
  obtain ⟨b,rfl,rfl⟩:=hx
  refine ⟨fun _=>by simp [Builtin.lenOf,bytesA], ?_⟩
  cases hz:b.data.toList with
  | nil =>
   have : b.size = 0 := by have : b.data.toList.length = 0 := by rw [hz]; rfl
                           simpa using this
   refine ⟨((b.extract 0 0).data.map fun b=>.int .u8 b.toNat),fun _ _=>?_,by simp [bytesA],by simp [bytesA],by simp [bytesA]⟩
   simp [Builtin.firstCells,bytesA]
  | cons y l =>
   have hs1:s=1:=by
    rw [← hs (.int .u8 y.toNat) (by simp [bytesA,hz])]; rfl
   subst hs1
   refine ⟨((b.extract 0 (bytesA (y::l)).length).data.map fun b=>.int .u8 b.toNat),fun _ _=>rfl, ?_⟩
   rw [← hz]
   have hlen:(bytesA b.data.toList).length=b.size:=by simp [bytesA]
   have hex:(b.extract 0 (bytesA b.data.toList).length).data=b.data:=by
    rw [hlen]; simp
   rw [hex]
   refine ⟨by simp [bytesA],bytesA_cells,fun i hi j hj=>?_⟩
   have hi':i < b.data.size:=by rw [hlen] at hi; exact hi
   have hc:=bytesA_cells _ (List.getElem_mem hi)
   have:j=0:=by omega
   subst this
   refine ⟨.int .u8 (b.data[i]).toNat,by rw [Nat.mul_one,Nat.add_zero,Array.getElem?_map,Array.getElem?_eq_getElem hi']; rfl, ?_⟩
   simp only [bytesA,List.getElem_map,AV.cells,List.getElem_cons_zero,Rep]; simp
 ·cases he
def apTy (P:Program) (ts:Array TypeId):Bool :=
 match ts[0]?, ts[1]? with
 | some _,some t1=>(match tk P t1 with | .sl _=>true | .str=>true | _=>false)
 | _,_=>false
def okEl (s:Nat) (y:AV):Bool:=y.cells.length==s && y.cells.all AV.one
def mkTy (P:Program) (ts:Array TypeId):Bool :=
 match ts[1]? with
 | some t=>(match tk P t with | .int _=>true | _=>false)
 | none=>false
def apK (P:Program) (ts:Array TypeId) (a x:AV) (h:List AObj) (K:AV→List AObj→Prop):Prop :=
 match eI P (ts.getD 0 0),rdA h x,a with
 | some (e,s,by_),some (p,ys),.sl t g s' off len =>
  (match h[t]? with
  | some (.arr g' s'' l) => (apTy P ts = true ∧ p ∧ g = g' ∧ s' = s ∧ s'' = s ∧ off = 0 ∧ len = l.length ∧ (l.length + ys.length + 96) * by_ ≤ 140737488355328 ∧ l.length + ys.length ≤ 4611686018427387904 ∧ ys.all (okEl s) = true) ∧
    K (.sl t (g+1) s 0 (l.length+ys.length)) (h.set t (.arr (g+1) s (l++ys)))
  | _=>False)
 | some (e, s, by_), some (p, ys), .fz true l => (apTy P ts = true ∧ p ∧ (l.length + ys.length + 96) * by_ ≤ 140737488355328 ∧ l.length + ys.length ≤ 4611686018427387904 ∧ ys.all (okEl s) = true ∧ (l.all fun y => y.cells.length == s) = true) ∧
   (ys=[]→K (.fz true l) h)∧(ys≠[]→K (.sl h.length 0 s 0 (l.length+ys.length)) (h++[.arr 0 s (l++ys)]))
 | some (e,s,by_),none,.fz true l=>(match l,x with
  | [],.int _ n=>(mkTy P ts=true∧0 < n∧(n.toNat+96) * by_≤140737488355328∧n≤4611686018427387904)∧K (.sl h.length 0 s 0 n.toNat) (h++[.arr 0 s []])
  | _,_=>False)
 | _,_,_=>False
theorem okEl_spec {s:Nat} {ys:List AV} (h:ys.all (okEl s)=true):(∀ y∈ys,y.cells.length=s)∧(∀ y∈ys,∀ c∈y.cells,c.one=true):=by
 refine ⟨fun y hy=>?_,fun y hy c hc=>?_⟩
 ·have:=List.all_eq_true.1 h y hy
  simp only [okEl,Bool.and_eq_true,beq_iff_eq] at this; exact this.1
 ·have:=List.all_eq_true.1 h y hy
  simp only [okEl,Bool.and_eq_true,beq_iff_eq] at this
  exact List.all_eq_true.1 this.2 c hc
theorem RowAt.one {β:Beta} {fr:Nat→Prop} {H:Array Obj} {l:List AV} {s:Nat} {us:Array Value} (h:RowAt β fr H l s us) (ho:∀ y∈l,∀ c∈y.cells,c.one=true):∀ v∈us.toList,v.oneCell'=true:=by
 intro v hv
 obtain ⟨k,hk,rfl⟩:=List.getElem_of_mem hv
 have hk':k < l.length * s:=by rw [← h.1]; simpa using hk
 have hs0 : 0 < s := by rcases Nat.eq_zero_or_pos s with z | z; · subst z; simp at hk'
                        exact z
 have hi:k / s < l.length:=(Nat.div_lt_iff_lt_mul hs0).2 hk'
 have hj:k % s < (l[k / s]).cells.length:=by rw [h.2.1 _ (List.getElem_mem hi)]; exact Nat.mod_lt _ hs0
 obtain ⟨u,hu,hr⟩:=h.2.2 _ hi _ hj
 rw [Nat.div_add_mod' k s] at hu
 have hus:k < us.size:=by simpa using hk
 rw [Array.getElem?_eq_getElem hus] at hu
 injection hu with hu
 have:=Rep_one hr (ho _ (List.getElem_mem hi) _ (List.getElem_mem hj))
 rw [← hu] at this
 simpa using this
theorem run_append_grow {P : Program} {w : World} {t1 t e s by_ : Nat} {ts : Array TypeId} {ty : TypeId} (hts : ts[0]? = some t) (hei : eI P t = some (e, s, by_)) (hty : apTy P ts = true)
  {base:Option Addr} {n m cap:Nat} {vx:Value} {old new:Array Value} (hx:(Builtin.lenOf vx).run P w=.ok m w) (hold:∀ w':World,w'.heap=w.heap→(Builtin.firstCells s n (.slice base n cap)).run P w'=.ok old w') (hnew:∀ w':World,w'.heap=w.heap→(Builtin.firstCells s m vx).run P w'=.ok new w')
  (hg:cap < n+m) (hb:(n+m+96) * by_≤140737488355328) (hby:n+m≤4611686018427387904) :
  ∃ nc rest w',(Builtin.append_ ts ty #[.slice base n cap,vx]).run P w=.ok (.slice (some ⟨w.heap.size,0,none⟩) (n+m) nc) w'∧w'.heap=w.heap.push (.cells (old++new++rest) e (0,0))∧w'.os=w.os∧w'.tape=w.tape∧w'.output=w.output∧n+m≤nc∧rest.size=(nc - (n+m)) * s:=by
 obtain ⟨ht,i,z,hi,his,hib,hz,hzs⟩:=ei_full hei
 have hint:∃ t1 d,ts[1]? = some t1∧P.underlying t1=some d∧∀ k,d≠.int k:=by
  unfold apTy at hty
  rw [hts] at hty
  cases h1:ts[1]? with
  | none=>rw [h1] at hty; cases hty
  | some t1 =>
   rw [h1] at hty
   simp only at hty
   split at hty
   ·rename_i e' q; exact ⟨t1,_,rfl,tk_sl q,by simp⟩
   ·rename_i q; exact ⟨t1,_,rfl,tk_str q,by simp⟩
   ·cases hty
 obtain ⟨t1,d,h1,hd,hdn⟩:=hint
 have hzz:(match d with | .int _=>true | _=>false)=false:=by
  cases d <;> first | rfl | exact absurd rfl (hdn _)
 have hnext:¬ (Builtin.nextslicecap (n+m) cap * i.bytes > 2 ^ 48):=by
  have:=nextslicecap_le hg
  rw [hib]
  have h2:Builtin.nextslicecap (n+m) cap * by_≤(2 * (n+m)+192) * by_:=Nat.mul_le_mul_right _ this
  have h3:(2 * (n+m)+192) * by_=2 * ((n+m+96) * by_):=by rw [← Nat.mul_assoc]; congr 1
  omega
 have hbig:¬ (((n+m:Nat):Int) > IntKind.i64.max∧(false=true∨i.bytes=0)):=by
  rintro ⟨q,-⟩
  have e:IntKind.i64.max=9223372036854775807:=by decide
  rw [e] at q; omega
 let q:Question:=.appendCap (n+m) cap e
 let nc:=q.cut (w.tape w.drawn q)
 let w1:World:={ w with drawn:=w.drawn+1 }
 have hnc:n+m≤nc:=by show n+m≤(n+m)+_; omega
 refine ⟨nc,Builtin.zeroCells z.cells (nc - (n+m)),{ w1 with heap:=w1.heap.push (.cells (old++new++Builtin.zeroCells z.cells (nc - (n+m))) e) }, ?_,rfl,rfl,rfl,rfl,hnc, ?_⟩
 ·unfold Builtin.append_
  simp only [hts,h1,List.getElem?_toArray,List.getElem?_cons_zero,List.getElem?_cons_succ,Sem.run_bind,run_underlying ht,run_underlying hd,Result.andThen_ok,run_sizeOf' hi,his,Sem.run_pure,hzz,Bool.false_eq_true,if_false,hx]
  have hq:¬ (n+m≤cap):=by omega
  simp only [hq,if_false,Sem.run_bind,Sem.run_ite,run_typeInfo' hi,Result.andThen_ok]
  have hbig':¬ (((n+m:Nat):Int) > IntKind.i64.max∧(False∨i.bytes=0)):=fun q=>hbig ⟨q.1,by simpa using q.2⟩
  have hch:(choose (.appendCap (n+m) cap e)).run P w=.ok nc w1:=rfl
  have hzr:∀ w',(zeroValue e).run P w'=.ok z w':=fun w'=>by simp [zeroValue,typeInfo,hi,hz]
  rw [if_neg hbig',if_neg hnext]
  simp only [hch,Result.andThen_ok,run_askRoom,hold w1 rfl,hnew w1 rfl,Bool.not_false,if_true,hzr,newRow,Sem.run_bind,run_newObj,Sem.run_pure]
  rfl
 ·simp [Builtin.zeroCells,hzs]
theorem apTy_spec {P:Program} {ts:Array TypeId} {t:TypeId} (hts:ts[0]? = some t) (hty:apTy P ts=true):∃ t1 d,ts[1]? = some t1∧P.underlying t1=some d∧∀ k,d≠.int k:=by
 unfold apTy at hty
 rw [hts] at hty
 cases h1:ts[1]? with
 | none=>rw [h1] at hty; cases hty
 | some t1 =>
  rw [h1] at hty
  simp only at hty
  split at hty
  ·rename_i e' q; exact ⟨t1,_,rfl,tk_sl q,by simp⟩
  ·rename_i q; exact ⟨t1,_,rfl,tk_str q,by simp⟩
  ·cases hty
theorem run_append_room {P : Program} {w : World} {t e s by_ : Nat} {ts : Array TypeId} {ty : TypeId} (hts : ts[0]? = some t) (hei : eI P t = some (e, s, by_)) (hty : apTy P ts = true)
  {base:Option Addr} {n m cap:Nat} {vx:Value} {new:Array Value} (hx:(Builtin.lenOf vx).run P w=.ok m w) (hnew:(Builtin.firstCells s m vx).run P w=.ok new w)
  (hg:n+m≤cap) {w':World} (hst:(match base with | some a=>(storeCells (a.add (n * s)) new.toList).run P w | none=>.ok () w)=.ok () w') :
  (Builtin.append_ ts ty #[.slice base n cap,vx]).run P w=.ok (.slice base (n+m) cap) w':=by
 obtain ⟨ht,i,z,hi,his,hib,hz,hzs⟩:=ei_full hei
 obtain ⟨t1,d,h1,hd,hdn⟩:=apTy_spec hts hty
 have hzz:(match d with | .int _=>true | _=>false)=false:=by
  cases d <;> first | rfl | exact absurd rfl (hdn _)
 unfold Builtin.append_
 simp only [hts,h1,List.getElem?_toArray,List.getElem?_cons_zero,List.getElem?_cons_succ,Sem.run_bind,run_underlying ht,run_underlying hd,Result.andThen_ok,run_sizeOf' hi,his,Sem.run_pure,hzz,Bool.false_eq_true,if_false,hx]
 rw [if_pos hg]
 simp only [Bool.not_false,if_true,Sem.run_bind,hnew,Result.andThen_ok]
 cases base with
 | none=>simp only at hst; injection hst with _ hst; subst hst; rfl
 | some a=>simp only at hst ⊢; rw [Sem.run_bind,hst]; rfl
theorem run_append_zero {P : Program} {w : World} {t e s by_ : Nat} {ts : Array TypeId} {ty : TypeId} (hts : ts[0]? = some t) (hei : eI P t = some (e, s, by_)) (hty : mkTy P ts = true)
  {base:Option Addr} {k:IntKind} {n:Int} (h0:0 < n) (hb:(n.toNat+96) * by_≤140737488355328) (hn:n≤4611686018427387904) :
  ∃ nc cells w',(Builtin.append_ ts ty #[.slice base 0 0,.int k n]).run P w=.ok (.slice (some ⟨w.heap.size,0,none⟩) n.toNat nc) w'∧w'.heap=w.heap.push (.cells cells e (0,0))∧w'.os=w.os∧w'.tape=w.tape∧w'.output=w.output∧n.toNat≤nc∧cells.size=nc * s:=by
 obtain ⟨ht,i,z,hi,his,hib,hz,hzs⟩:=ei_full hei
 obtain ⟨t1,k1,h1,hd⟩:∃ t1 k1,ts[1]? = some t1∧P.underlying t1=some (.int k1):=by
  unfold mkTy at hty
  cases q:ts[1]? with
  | none=>rw [q] at hty; cases hty
  | some t1 =>
   rw [q] at hty; simp only at hty
   split at hty
   ·rename_i k1 q2; exact ⟨t1,k1,rfl,tk_int q2⟩
   ·cases hty
 obtain ⟨m,rfl⟩:∃ m:Nat,n=(m:Int):=⟨n.toNat,by omega⟩
 simp only [Int.toNat_natCast] at hb ⊢
 have hw:IntKind.i64.wrap (m:Int)=m:=by simp [IntKind.wrap,IntKind.signed,IntKind.bits]; omega
 have hmb:m * by_+96 * by_≤140737488355328:=by rw [← Nat.add_mul]; exact hb
 have hbig:¬ ((m:Int) * (i.bytes:Int) > 2 ^ 48):=by
  rw [hib]
  have:(m:Int) * (by_:Int)=((m * by_:Nat):Int):=by simp
  rw [this]; omega
 have hnext:¬ (Builtin.nextslicecap (0+m) 0 * i.bytes > 2 ^ 48):=by
  have:=nextslicecap_le (n:=0+m) (c:=0) (by omega)
  rw [hib]
  have h2:Builtin.nextslicecap (0+m) 0 * by_≤(2 * (0+m)+192) * by_:=Nat.mul_le_mul_right _ this
  have h3:(2 * (0+m)+192) * by_=2 * ((m+96) * by_):=by rw [← Nat.mul_assoc]; congr 1; omega
  omega
 let q:Question:=.appendCap (0+m) 0 e
 let nc:=q.cut (w.tape w.drawn q)
 let w1:World:={ w with drawn:=w.drawn+1 }
 have hnc:m≤nc:=by show m≤(0+m)+_; omega
 have hold:∀ w',(Builtin.firstCells s 0 (.slice base 0 0)).run P w'=.ok #[] w':=by
  intro w'
  cases base with
  | none=>simp [Builtin.firstCells]
  | some a=>simp [Builtin.firstCells,loadCells,loadCellsFrom]
 have hzr:∀ w',(zeroValue e).run P w'=.ok z w':=fun w'=>by simp [zeroValue,typeInfo,hi,hz]
 have happ:∀ w',(if m * s=0 then (pure #[]:Sem (Array Value)) else (do pure (Builtin.zeroCells (← zeroValue e).cells m))).run P w'=.ok (if m * s=0 then #[] else Builtin.zeroCells z.cells m) w':=by
  intro w'
  by_cases hq:m * s=0
  ·simp [hq]
  ·simp [hq,hzr]
 let new:Array Value:=if m * s=0 then #[] else Builtin.zeroCells z.cells m
 have hns:new.size=m * s:=by
  simp only [new]
  split
  ·rename_i hq; rw [hq]; rfl
  ·simp [Builtin.zeroCells,hzs]
 refine ⟨nc,#[]++new++Builtin.zeroCells z.cells (nc - (0+m)),{ w1 with heap:=w1.heap.push (.cells (#[]++new++Builtin.zeroCells z.cells (nc - (0+m))) e) }, ?_,rfl,rfl,rfl,rfl,hnc, ?_⟩
 ·unfold Builtin.append_
  simp only [hts,h1,List.getElem?_toArray,List.getElem?_cons_zero,List.getElem?_cons_succ,Sem.run_bind,run_underlying ht,run_underlying hd,Result.andThen_ok,run_sizeOf' hi,his,Sem.run_pure,if_true,asInt,hw]
  have hneg:¬ ((m:Int) < 0):=by omega
  simp only [asIntOf,Sem.run_pure,Result.andThen_ok,hw]
  rw [if_neg hneg]
  simp only [Sem.run_bind,Sem.run_ite,run_typeInfo' hi,Result.andThen_ok,Sem.run_pure]
  rw [if_neg hbig]
  simp only [Sem.run_bind,Sem.run_ite,run_typeInfo' hi,Result.andThen_ok,Sem.run_pure,Int.toNat_natCast]
  have hm0:¬ (0+m≤0):=by omega
  have hmx:¬ (((0+m:Nat):Int) > IntKind.i64.max∧(True∨i.bytes=0)):=by
   rintro ⟨q,-⟩
   have e:IntKind.i64.max=9223372036854775807:=by decide
   rw [e] at q; omega
  have hch:(choose (.appendCap (0+m) 0 e)).run P w=.ok nc w1:=rfl
  have hnew:(if m * s=0 then Result.ok #[] w1 else (Sem.run P (zeroValue e) w1).andThen fun a w'=>Result.ok (Builtin.zeroCells a.cells m) w')=Result.ok new w1:=by
   simp only [new]
   by_cases hq:m * s=0
   ·simp [hq]
   ·simp [hq,hzr]
  rw [if_neg hm0,if_neg hmx,if_neg hnext]
  simp only [hch,Result.andThen_ok,run_askRoom,hold,Bool.not_true,Bool.false_eq_true,if_false,hnew,hzr,newRow,Sem.run_bind,run_newObj,Sem.run_pure,Nat.zero_add]
  have hch2:(choose (.appendCap m 0 e)).run P w=.ok nc w1:=by
   have:=hch
   rw [Nat.zero_add] at this; exact this
  have hnew2:∀ w',(if m * s=0 then Result.ok #[] w' else Result.ok (Builtin.zeroCells z.cells m) w')=Result.ok new w':=by
   intro w'
   simp only [new]
   split <;> rfl
  simp only [hch2,Result.andThen_ok,hnew2]
  rfl
 ·simp [Builtin.zeroCells,hzs,hns,← Nat.add_mul]; congr 1; omega
theorem ap_oks {P:Program} {o:Oper} {c:Call} {A X:Operand} {ev:Operand→AV} {h:List AObj} {K:AV→List AObj→Prop} (ho:o.op=.call c) (hc:c.callee=.builtin .append) (ha:c.args=#[A,X]) (hk:apK P c.argTypes (ev A) (ev X) h K):OpKs P o ev h K:=by
 intro a w β fr L hr
 rw [ho] at hr
 have hA:=hr A (by simp [Op.operands,Call.operands,hc,ha])
 have hX:=hr X (by simp [Op.operands,Call.operands,hc,ha])
 have hrun:∀ {v w'},(Builtin.append_ c.argTypes o.type #[a.eval A,a.eval X]).run P w=.ok v w'→(execOp a.eval o).run P w=.ok (.value v) w':=by
  intro v w' e
  simp only [execOp,ho,Go.resolve,hc,Sem.run_bind,Sem.run_pure,Result.andThen_ok,Go.invoke,Go.builtin]
  rw [show c.args.map a.eval=#[a.eval A,a.eval X] by rw [ha]; simp,e]; rfl
 unfold apK at hk
 split at hk
 ·-- onto what is the call's own
  rename_i e s by_ p ys t g s' off len hei hrd e1
  split at hk
  ·rename_i g' s'' l ht
   obtain ⟨⟨hty,hp,rfl,rfl,rfl,rfl,rfl,hlen,hby,hel⟩,hK⟩:=hk
   obtain ⟨hs,hone⟩:=okEl_spec hel
   obtain ⟨t0,hts⟩:∃ t0,c.argTypes[0]? = some t0:=by
    unfold apTy at hty; cases q:c.argTypes[0]? with
    | none=>rw [q] at hty; cases hty
    | some t0=>exact ⟨t0,rfl⟩
   have hei':eI P t0=some (e,s'',by_):=by
    rw [Array.getD_eq_getD_getElem?, hts] at hei; exact hei
   obtain ⟨hlx,us,hus,hrow⟩:=rdA_run (P:=P) L hX hrd hp hs
   rw [e1] at hA; simp only [Rep] at hA
   have htl:t < h.length:=(List.getElem?_eq_some_iff.1 ht).1
   have hfresh:∀ g1,g < g1→β t g1=none:=L.top t g s'' l ht
   rcases hA with ⟨hb,-,hl0,hv⟩ | ⟨b,cc,el,f,cap,hb,hH,hv,hcs,hlc⟩
   ·-- nothing yet
    have hl:l=[]:=List.eq_nil_of_length_eq_zero hl0
    subst hl
    by_cases hz:ys=[]
    ·subst hz
     have hus0:us=#[]:=by have:=hrow.1; simp at this; exact this
     have r1:=run_append_room (P:=P) (w:=w) (ty:=o.type) (base:=none) (n:=0) (m:=0) (cap:=0) hts hei' hty (hlx w) (hus w rfl) (by simp) (w':=w) rfl
     rw [← hv] at r1
     obtain ⟨L',S'⟩:=L.turn (w':=w) (β':=betaSet β t (g+1) none) (g':=g+1) (o':=.arr (g+1) s'' []) (r:=none) ht rfl rfl (fun _ _ _=>.inr trivial)
      (fun t1 g1 x e=>by rw [betaSet_other (by rintro ⟨rfl,rfl⟩; rw [hfresh _ (by omega)] at e; cases e)]; exact e)
      (fun t1 g1 x e => by by_cases q : t1 = t ∧ g1 = g + 1; · exact .inr q
                           ·rw [betaSet_other q] at e; exact .inl e)
      (betaSet_same _ _ _ _) (fun b e=>by cases e) (fun _ _ _=>rfl) (Nat.le_refl _) (fun b c e f _ e'=>⟨c,f,e',rfl⟩) rfl rfl rfl
      (fun _=>.inl ⟨betaSet_same _ _ _ _,rfl⟩) (fun g1 hg1=>by rw [betaSet_other (by omega)]; exact hfresh _ (by omega))
     refine ⟨_,_,w,_,_,_,.inl (hrun r1),hK,L', ?_,S',betaSet_J (List.getElem?_set_self htl) (by simp)⟩
     simp only [Rep]
     exact .inl ⟨betaSet_same _ _ _ _,trivial,rfl,hv⟩
    ·have hpos:0 < ys.length:=List.length_pos_iff.2 hz
     obtain ⟨nc,rest,w',r1,r2,r3,r4,r5,r6,r7⟩:=run_append_grow (P:=P) (w:=w) (ty:=o.type) (t1:=0) (base:=none) (n:=0) (cap:=0) (old:=#[]) hts hei' hty (hlx w) (fun _ _=>rfl) hus (by omega) (by simpa using hlen) hby
     rw [← hv] at r1
     have hc0:#[]++us++rest=us++rest:=by simp
     rw [hc0] at r2
     obtain ⟨L',S'⟩:=L.turn (w':=w') (β':=betaSet β t (g+1) (some w.heap.size)) (g':=g+1) (o':=.arr (g+1) s'' ([]++ys)) (r:=some w.heap.size) ht rfl rfl (fun _ _ _=>.inr trivial)
      (fun t1 g1 x e=>by rw [betaSet_other (by rintro ⟨rfl,rfl⟩; rw [hfresh _ (by omega)] at e; cases e)]; exact e)
      (fun t1 g1 x e => by by_cases q : t1 = t ∧ g1 = g + 1; · exact .inr q
                           ·rw [betaSet_other q] at e; exact .inl e)
      (betaSet_same _ _ _ _) (fun b e=>by injection e with e; subst e; exact ⟨.inr (Nat.le_refl _),by rw [r2]; simp⟩) (fun b hb _=>by rw [r2,Array.getElem?_push,if_neg (by omega)]) (by rw [r2]; simp) (fun b c e f q _=>by rw [hb] at q; cases q) r3 r4 r5
      (fun E=>(hrow.ext E).obj (c:=us++rest) (e:=e) (f:=(0,0)) (betaSet_same _ _ _ _) (by rw [r2]; simp) (fun i _=>by simp) (fun k hk=>by rw [Array.getElem?_append_left hk]) (by simp))
      (fun g1 hg1=>by rw [betaSet_other (by omega)]; exact hfresh _ (by omega))
     refine ⟨_,_,w',_,_,_,.inl (hrun r1),hK,L', ?_,S',betaSet_J (List.getElem?_set_self htl) (by simp)⟩
     simp only [Rep]
     refine .inr ⟨w.heap.size,us++rest,e,(0,0),nc,betaSet_same _ _ _ _,by rw [r2]; simp,by simp, ?_,by simp at r6 ⊢; omega⟩
     rw [Array.size_append,r7,hrow.1,← Nat.add_mul]
     exact Nat.mul_le_mul_right _ (by simp at r6 ⊢; omega)
   ·have hold:ObjAt β fr w.heap t (.arr g s'' l):=L.obj t _ ht
    rcases hold with ⟨q,-⟩ | ⟨b',cc',el',f',q,hH',hfz,hls,hln,hlc'⟩
    ·rw [hb] at q; cases q
    ·rw [hb] at q; injection q with q; injection q with q; subst q
     rw [hH] at hH'; injection hH' with hH'; injection hH' with q1 q2 q3; subst q1 q2 q3
     have hbl:b < w.heap.size:=L.lt _ _ _ hb
     simp only [Nat.zero_add,Nat.zero_mul] at hcs hv
     have hbnf:¬ fr b:=L.ownfr b ⟨t,_,g,ht,rfl,hb⟩
     by_cases hroom:l.length+ys.length≤cap
     ·-- there is room
      obtain ⟨c2,w',s1,s2,s3,s4,s5,s6,s7,s8,s9⟩:=run_storeCells (P:=P) b (l.length * s'') el f us.toList 0 cc w hH (hrow.one hone) (by
       have:(l.length+ys.length) * s''≤cap * s'':=Nat.mul_le_mul_right _ hroom
       rw [Nat.add_mul] at this
       have:=hrow.1
       simp; omega) hfz
      have r1:=run_append_room (P:=P) (w:=w) (ty:=o.type) (base:=some ⟨b,0,none⟩) (n:=l.length) (m:=ys.length) (cap:=cap) hts hei' hty (hlx w) (hus w rfl) hroom (w':=w') (by show (storeCells ((⟨b,0,none⟩:Addr).add (l.length * s'')) us.toList).run P w=_; rw [add_none rfl]; simpa using s1)
      rw [← hv] at r1
      obtain ⟨L',S'⟩:=L.turn (w':=w') (β':=betaSet β t (g+1) (some b)) (g':=g+1) (o':=.arr (g+1) s'' (l++ys)) (r:=some b) ht rfl rfl (fun _ _ _=>.inr trivial)
       (fun t1 g1 x e=>by rw [betaSet_other (by rintro ⟨rfl,rfl⟩; rw [hfresh _ (by omega)] at e; cases e)]; exact e)
       (fun t1 g1 x e => by by_cases q : t1 = t ∧ g1 = g + 1; · exact .inr q
                            ·rw [betaSet_other q] at e; exact .inl e)
       (betaSet_same _ _ _ _) (fun b e=>by injection e with e; subst e; exact ⟨.inl hb,by omega⟩) (fun k _ hk=>s3 k (fun q=>hk (by rw [q]; exact hb))) (by omega)
       (fun b1 c1 e1 f1 q q'=>by
        rw [hb] at q; injection q with q; injection q with q; subst q
        rw [hH] at q'; injection q' with q'; injection q' with q1 q2 q3; subst q1 q2 q3
        exact ⟨c2,f,s2,s8⟩) s5 s6 s7
       (fun E=>by
        refine .inr ⟨b,c2,el,f,betaSet_same _ _ _ _,s2,by rw [s8]; exact hfz, ?_, ?_,fun i hi j hj=>?_⟩
        ·intro x hx; rcases List.mem_append.1 hx with q | q
         ·exact hls x q
         ·exact hs x q
        ·rw [s8,List.length_append]; exact Nat.le_trans (Nat.mul_le_mul_right _ hroom) hcs
        ·by_cases q:i < l.length
         ·simp only [List.getElem_append_left q] at hj ⊢
          obtain ⟨u,hu,hr'⟩:=hlc' i q j hj
          refine ⟨u, ?_,hr'.ext E⟩
          rw [s9,if_neg]
          ·exact hu
          ·have:=idx_lt q (show j < s'' by rw [← hls _ (List.getElem_mem q)]; exact hj)
           omega
         ·have hi':i - l.length < ys.length:=by simp at hi; omega
          simp only [List.getElem_append_right (Nat.le_of_not_lt q)] at hj ⊢
          obtain ⟨u,hu,hr'⟩:=hrow.2.2 (i - l.length) hi' j hj
          refine ⟨u, ?_,hr'.ext E⟩
          have hul:=(Array.getElem?_eq_some_iff.1 hu).1
          have e1:i * s''=l.length * s''+(i - l.length) * s'':=by rw [← Nat.add_mul]; congr 1; omega
          rw [s9,if_pos (by simp; omega)]
          rw [show i * s''+j - (l.length * s''+0)=(i - l.length) * s''+j by omega]
          simpa using hu)
       (fun g1 hg1=>by rw [betaSet_other (by omega)]; exact hfresh _ (by omega))
      refine ⟨_,_,w',_,_,_,.inl (hrun r1),hK,L', ?_,S',betaSet_J (List.getElem?_set_self htl) (by simp)⟩
      simp only [Rep]
      exact .inr ⟨b,c2,el,f,cap,betaSet_same _ _ _ _,s2,by simp,by rw [s8]; simpa using hcs,hroom⟩
     ·-- it grows
      obtain ⟨old,ho1,ho2⟩:=run_loadRow (P:=P) (w:=w) (β:=β) (fr:=fr) (l:=l) (s:=s'') (b:=b) (o:=0) hls (fun i hi j hj=>by
       obtain ⟨u,hu,hr'⟩:=hlc' i hi j hj
       exact ⟨u,by simp [cellAt,hH,hu],hr'⟩)
      obtain ⟨nc,rest,w',r1,r2,r3,r4,r5,r6,r7⟩:=run_append_grow (P:=P) (w:=w) (ty:=o.type) (t1:=0) (base:=some ⟨b,0,none⟩) (n:=l.length) (cap:=cap) (old:=old) hts hei' hty (hlx w) (fun w' hw'=>by simpa [Builtin.firstCells] using ho1 w' hw') hus (by omega) hlen hby
      rw [← hv] at r1
      have hboth:=ho2.append hrow
      obtain ⟨L',S'⟩:=L.turn (w':=w') (β':=betaSet β t (g+1) (some w.heap.size)) (g':=g+1) (o':=.arr (g+1) s'' (l++ys)) (r:=some w.heap.size) ht rfl rfl (fun _ _ _=>.inr trivial)
       (fun t1 g1 x e=>by rw [betaSet_other (by rintro ⟨rfl,rfl⟩; rw [hfresh _ (by omega)] at e; cases e)]; exact e)
       (fun t1 g1 x e => by by_cases q : t1 = t ∧ g1 = g + 1; · exact .inr q
                            ·rw [betaSet_other q] at e; exact .inl e)
       (betaSet_same _ _ _ _) (fun b e=>by injection e with e; subst e; exact ⟨.inr (Nat.le_refl _),by rw [r2]; simp⟩) (fun b hb _=>by rw [r2,Array.getElem?_push,if_neg (by omega)]) (by rw [r2]; simp)
       (fun b1 c1 e1 f1 q q'=>⟨c1,f1,by rw [r2,Array.getElem?_push,if_neg (by have:=L.lt _ _ _ q; omega)]; exact q',rfl⟩) r3 r4 r5
       (fun E=>(hboth.ext E).obj (c:=old++us++rest) (e:=e) (f:=(0,0)) (betaSet_same _ _ _ _) (by rw [r2]; simp) (fun i _=>by simp) (fun k hk=>by rw [Array.getElem?_append_left hk]) (by simp))
       (fun g1 hg1=>by rw [betaSet_other (by omega)]; exact hfresh _ (by omega))
      refine ⟨_,_,w',_,_,_,.inl (hrun r1),hK,L', ?_,S',betaSet_J (List.getElem?_set_self htl) (by simp)⟩
      simp only [Rep]
      refine .inr ⟨w.heap.size,old++us++rest,e,(0,0),nc,betaSet_same _ _ _ _,by rw [r2]; simp,by simp, ?_,r6⟩
      rw [Array.size_append,r7,hboth.1,← Nat.add_mul,List.length_append]
      exact Nat.mul_le_mul_right _ (by omega)
  ·cases hk
 ·-- onto what is full
  rename_i e s by_ p ys l hei hrd e1
  obtain ⟨⟨hty,hp,hlen,hby,hel,hls⟩,hK0,hK1⟩:=hk
  obtain ⟨hs,hone⟩:=okEl_spec hel
  obtain ⟨t0,hts⟩:∃ t0,c.argTypes[0]? = some t0:=by
   unfold apTy at hty; cases q:c.argTypes[0]? with
   | none=>rw [q] at hty; cases hty
   | some t0=>exact ⟨t0,rfl⟩
  have hei':eI P t0=some (e,s,by_):=by
   rw [Array.getD_eq_getD_getElem?, hts] at hei; exact hei
  obtain ⟨hlx,us,hus,hrow⟩:=rdA_run (P:=P) L hX hrd hp hs
  rw [e1] at hA
  have hA0:=hA
  simp only [Rep] at hA
  obtain ⟨ao,cap,hv,h4,h5,h6⟩:=hA
  have hcap:cap=l.length:=h5 trivial
  subst hcap
  by_cases hz:ys=[]
  ·subst hz
   have hus0:us=#[]:=by have:=hrow.1; simp at this; exact this
   subst hus0
   have r1:=run_append_room (P:=P) (w:=w) (ty:=o.type) (base:=ao) (n:=l.length) (m:=0) (cap:=l.length) hts hei' hty (hlx w) (hus w rfl) (by simp) (w':=w) (by cases ao <;> rfl)
   rw [← hv] at r1
   rw [hv] at hA0
   exact ⟨_,_,w,h,β,fr,.inl (hrun r1),hK0 rfl,L,by simpa using hA0,Step1.refl _ _ _ _,fun _ _ _ e=>.inl e⟩
  ·have hpos:0 < ys.length:=List.length_pos_iff.2 hz
   have hls':∀ y∈l,y.cells.length=s:=fun y hy=>by simpa using List.all_eq_true.1 hls y hy
   obtain ⟨-,old,ho1,ho2⟩:=rdA_run (P:=P) (h:=h) (x:=.fz true l) (p:=True) (ys:=l) (s:=s) L hA0 rfl trivial hls'
   rw [hv] at ho1
   obtain ⟨nc,rest,w',r1,r2,r3,r4,r5,r6,r7⟩:=run_append_grow (P:=P) (w:=w) (ty:=o.type) (t1:=0) (base:=ao) (n:=l.length) (cap:=l.length) (old:=old) hts hei' hty (hlx w) ho1 hus (by omega) hlen hby
   rw [← hv] at r1
   have hboth:=ho2.append hrow
   have hnew:∀ E:Ext β fr w.heap (betaSet β h.length 0 (some w.heap.size)) fr w'.heap,ObjAt (betaSet β h.length 0 (some w.heap.size)) fr w'.heap h.length (.arr 0 s (l++ys)):=fun E =>
    (hboth.ext E).obj (c:=old++us++rest) (e:=e) (f:=(0,0)) (betaSet_same _ _ _ _) (by rw [r2]; simp) (fun i _=>by simp) (fun k hk=>by rw [Array.getElem?_append_left hk]) (by simp)
   have E:Ext β fr w.heap (betaSet β h.length 0 (some w.heap.size)) fr w'.heap :=
    { beta := fun t' g' r e => by rw [betaSet_other (by have := L.dom _ _ _ e; omega)]; exact e
      frm:=fun _ e=>e
      cells:=fun b hb=>by rw [r2,Array.getElem?_push,if_neg (by have:=L.frlt b hb; omega)]
      shape:=fun t' g' b c' e f hb hc=>⟨c',f,by rw [r2,Array.getElem?_push,if_neg (by have:=L.lt _ _ _ hb; omega)]; exact hc,rfl⟩ }
   obtain ⟨L',S'⟩:=L.push (o:=.arr 0 s (l++ys)) (g:=0) rfl r2 r3 r4 r5 (hnew E)
   refine ⟨_,_,w',_,_,_,.inl (hrun r1),hK1 hz,L', ?_,S',betaSet_J List.getElem?_concat_length (by simp)⟩
   simp only [Rep]
   refine .inr ⟨w.heap.size,old++us++rest,e,(0,0),nc,betaSet_same _ _ _ _,by rw [r2]; simp,by simp, ?_,r6⟩
   rw [Array.size_append,r7,hboth.1,← Nat.add_mul,List.length_append]
   exact Nat.mul_le_mul_right _ (by omega)
 ·-- so many that are zero
  rename_i e s by_ l hei hrd e1
  split at hk
  ·rename_i k n e2
   obtain ⟨⟨hty,h0,hb,hn⟩,hK⟩:=hk
   obtain ⟨t0,hts⟩:∃ t0,c.argTypes[0]? = some t0:=by
    unfold mkTy at hty; cases q:c.argTypes[1]? with
    | none=>rw [q] at hty; cases hty
    | some t1 =>
     have:=(Array.getElem?_eq_some_iff.1 q).1
     exact ⟨c.argTypes[0],Array.getElem?_eq_getElem (by omega)⟩
   have hei':eI P t0=some (e,s,by_):=by
    rw [Array.getD_eq_getD_getElem?, hts] at hei; exact hei
   rw [e1] at hA; simp only [Rep] at hA
   obtain ⟨ao,cap,hv,hlc,hcc,-⟩:=hA
   have hcap:cap=0:=hcc trivial
   subst hcap
   rw [e2] at hX; simp only [Rep] at hX
   obtain ⟨nc,cells,w',r1,r2,r3,r4,r5,r6,r7⟩:=run_append_zero (P:=P) (w:=w) (ty:=o.type) (base:=ao) (k:=k) hts hei' hty h0 hb hn
   have r1':(Builtin.append_ c.argTypes o.type #[a.eval A,a.eval X]).run P w=.ok (.slice (some ⟨w.heap.size,0,none⟩) n.toNat nc) w':=by rw [hv,hX]; exact r1
   obtain ⟨L',S'⟩:=L.push (o:=.arr 0 s []) (g:=0) rfl r2 r3 r4 r5 (.inr ⟨w.heap.size,cells,e,(0,0),betaSet_same _ _ _ _,by rw [r2]; simp,by simp,by simp,by simp,by simp⟩)
   refine ⟨_,_,w',_,_,_,.inl (hrun r1'),hK,L', ?_,S',betaSet_J List.getElem?_concat_length (by simp)⟩
   simp only [Rep]
   exact .inr ⟨w.heap.size,cells,e,(0,0),nc,betaSet_same _ _ _ _,by rw [r2]; simp,by simp,by rw [r7]; simp,r6⟩
  ·cases hk
 ·cases hk
theorem ap_ok {P:Program} {o:Oper} {c:Call} {A X:Operand} {ev:Operand→AV} {h:List AObj} {K:AV→List AObj→Prop} (ho:o.op=.call c) (hc:c.callee=.builtin .append) (ha:c.args=#[A,X]) (hk:apK P c.argTypes (ev A) (ev X) h K):OpK P o ev h K:=(ap_oks ho hc ha hk).toOpK
end Go.Proofs.Vale
namespace Go.Proofs.Vale
theorem CellsRep.ext {β β':Beta} {fr fr':Nat→Prop} {H H':Array Obj} (e:Ext β fr H β' fr' H') {cs:List AV} {us:Array Value} (h:CellsRep β fr H cs us):CellsRep β' fr' H' cs us :=
 ⟨h.1,fun j hj=>let ⟨u,hu,hr⟩:=h.2 j hj; ⟨u,hu,hr.ext e⟩⟩
theorem Ext.push {β:Beta} {fr:Nat→Prop} {H H':Array Obj} {h:List AObj} (L:Lay β fr H h) (g:Nat) {c:Obj} (hw:H'=H.push c):Ext β fr H (betaSet β h.length g (some H.size)) fr H' where
 beta:=fun t' g' r e=>by rw [betaSet_other (by have:=L.dom _ _ _ e; omega)]; exact e
 frm:=fun _ e=>e
 cells:=fun b hb=>by rw [hw,Array.getElem?_push,if_neg (by have:=L.frlt b hb; omega)]
 shape:=fun t' g' b c' e f hb hc=>⟨c',f,by rw [hw,Array.getElem?_push,if_neg (by have:=L.lt _ _ _ hb; omega)]; exact hc,rfl⟩
def bxK (x:AV) (h:List AObj) (K:AV→List AObj→Prop):Prop :=
 x.sure=true∧K (.ref h.length 0 x.cells.length 0 0) (h++[.arr 0 x.cells.length [x]])
theorem newVar_ok {P : Program} {w : World} {β : Beta} {fr : Nat → Prop} {h : List AObj} {x : AV} {v : Value} {t : TypeId} (L : Lay β fr w.heap h) (hx : Rep β fr w.heap x v) (hs : x.sure = true) :
  ∃ w' β',(newVar t v).run P w=.ok ⟨w.heap.size,0,none⟩ w'∧Lay β' fr w'.heap (h++[.arr 0 x.cells.length [x]])∧Rep β' fr w'.heap (.ref h.length 0 x.cells.length 0 0) (.pointer (some ⟨w.heap.size,0,none⟩))∧Step1 β fr h w β' fr (h++[.arr 0 x.cells.length [x]]) w':=by
 have hc:=Rep_cells' hx hs
 have E:=Ext.push (H':=w.heap.push (.cells v.cells t)) L 0 rfl
 obtain ⟨L',S'⟩:=L.push (w':={ w with heap:=w.heap.push (.cells v.cells t) }) (o:=.arr 0 x.cells.length [x]) (g:=0) (c:=.cells v.cells t) rfl rfl rfl rfl rfl
  (by
   refine .inr ⟨w.heap.size,v.cells,t,(0,0),betaSet_same _ _ _ _,by simp,fun i _=>by simp,by simp,by simp [hc.1],fun i hi j hj=>?_⟩
   have:i=0:=by simpa using hi
   subst this
   obtain ⟨u,hu,hr⟩:=(hc.ext E).2 j (by simpa using hj)
   exact ⟨u,by simpa using hu,by simpa using hr⟩)
 refine ⟨_,_,rfl,L', ?_,S'⟩
 simp only [Rep]
 exact ⟨_,betaSet_same _ _ _ _,by simp⟩
theorem bx_ok {P:Program} {o:Oper} {t:TypeId} {x:Operand} {ev:Operand→AV} {h:List AObj} {K:AV→List AObj→Prop} (ho:o.op=.box t x) (hk:bxK (ev x) h K):OpK P o ev h K:=by
 refine OpK.of_run fun a w β fr L hr=>?_
 rw [ho] at hr
 have hx:=hr x (by simp [Op.operands])
 obtain ⟨w',β',h1,h2,h3,h4⟩:=newVar_ok (P:=P) (t:=t) L hx hk.1
 exact ⟨_,_,w',_,β',fr,.inl (by simp [execOp,ho,Instr.box,h1]),hk.2,h2,h3,h4⟩
def zI (P:Program) (t:TypeId):Option AV :=
 match P.info? t with
 | some i=>(match i.zero with | some z=>some (ofVal z) | none=>none)
 | none=>none
theorem al_ok {P:Program} {o:Oper} {t:TypeId} {x:AV} {ev:Operand→AV} {h:List AObj} {K:AV→List AObj→Prop} (ho:o.op=.alloc t) (hz:zI P t=some x) (hk:bxK x h K):OpK P o ev h K:=by
 refine OpK.of_run fun a w β fr L hr=>?_
 unfold zI at hz
 split at hz
 ·rename_i i hi
  split at hz
  ·rename_i z hzz
   injection hz with hz; subst hz
   obtain ⟨w',β',h1,h2,h3,h4⟩:=newVar_ok (P:=P) (t:=t) L (Rep_ofVal β fr w.heap z) hk.1
   exact ⟨_,_,w',_,β',fr,.inl (by simp [execOp,ho,Instr.alloc,zeroValue,typeInfo,hi,hzz,h1]),hk.2,h2,h3,h4⟩
  ·cases hz
 ·cases hz
def upA (e:AV) (j:Nat) (x:AV):AV :=
 match e with
 | .agg cs=>.agg (cs.take j++x.cells++cs.drop (j+x.cells.length))
 | _=>x
def stK (P:Program) (t:TypeId) (a x:AV) (h:List AObj) (K:AV→List AObj→Prop):Prop :=
 match tI P t,a with
 | some (n,ag),.ref tt g s i j =>
  (match h[tt]? with
  | some (.arr g' s' l)=>(g=g'∧s=s'∧i < l.length∧x.sure=true∧x.cells.length=n∧0 < n∧j+n≤(l.getD i .any).cells.length∧x.cells.all AV.one=true)∧K (.tup []) (h.set tt (.arr g' s' (l.set i (upA (l.getD i .any) j x))))
  | _=>False)
 | _,_=>False
theorem upA_cells {e x:AV} {j n:Nat} (hn:x.cells.length=n) (hn0:0 < n) (hj:j+n≤e.cells.length):(upA e j x).cells.length=e.cells.length∧∀ k (h:k < (upA e j x).cells.length),(∀ q:j≤k∧k < j+n,(upA e j x).cells[k]=x.cells[k - j]'(by omega))∧(∀ q:¬ (j≤k∧k < j+n),∃ hk:k < e.cells.length,(upA e j x).cells[k]=e.cells[k]):=by
 subst hn
 cases e
 case agg cs =>
  simp only [upA,AV.cells_agg] at *
  refine ⟨by simp; omega,fun k h=>⟨fun q=>?_,fun q=>?_⟩⟩
  ·rw [List.getElem_append_left (by simp; omega),List.getElem_append_right (by simp; omega)]
   congr 1; simp; omega
  ·have hk:k < cs.length:=by simp at h; omega
   refine ⟨hk, ?_⟩
   by_cases h2:k < j
   ·rw [List.getElem_append_left (by simp; omega),List.getElem_append_left (by simp; omega)]; simp
   ·rw [List.getElem_append_right (by simp; omega)]
    simp only [List.getElem_drop]
    congr 1; simp; omega
 all_goals
  have hj1:j+x.cells.length≤1:=hj
  have hj0:j=0:=by omega
  subst hj0
  refine ⟨by show x.cells.length=1; omega,fun k h=>⟨fun q=>rfl,fun q=>?_⟩⟩
  have h':k < x.cells.length:=h
  omega
theorem st_oks {P:Program} {o:Oper} {t:TypeId} {A X:Operand} {ev:Operand→AV} {h:List AObj} {K:AV→List AObj→Prop} (ho:o.op=.store t A X) (hk:stK P t (ev A) (ev X) h K):OpKs P o ev h K:=by
 intro a w β fr L hr
 rw [ho] at hr
 have hA:=hr A (by simp [Op.operands])
 have hX:=hr X (by simp [Op.operands])
 unfold stK at hk
 split at hk
 ·rename_i n ag tt g s i j hti e1
  split at hk
  ·rename_i g' s' l ht
   obtain ⟨⟨rfl,rfl,hi,hsure,hn,hn0,hjn,hone⟩,hK⟩:=hk
   rw [getD_get hi] at hjn hK
   rw [e1] at hA; simp only [Rep] at hA
   obtain ⟨b,hb,hv⟩:=hA
   rcases L.obj tt _ ht with ⟨-,z⟩ | ⟨b',c,el,f,hb',hH,hfz,hls,hln,hlc⟩
   ·subst z; simp at hi
   rw [hb] at hb'; injection hb' with hb'; injection hb' with hb'; subst hb'
   have hc:=Rep_cells' hX hsure
   have hvs:(a.eval X).cells.toList.length=n:=by rw [← hn,← hc.1]; simp
   have hlcell:(l[i]).cells.length=s:=hls _ (List.getElem_mem hi)
   have hone':∀ v∈(a.eval X).cells.toList,v.oneCell'=true:=by
    intro v hv'
    obtain ⟨k,hk,rfl⟩:=List.getElem_of_mem hv'
    obtain ⟨u,hu,hr'⟩:=hc.2 k (by omega)
    have hk':k < (a.eval X).cells.size:=by simpa using hk
    rw [Array.getElem?_eq_getElem hk'] at hu; injection hu with hu
    have:=Rep_one hr' (List.all_eq_true.1 hone _ (List.getElem_mem _))
    rw [← hu] at this; simpa using this
   have hroom:i * s+j+n≤l.length * s:=by
    have:(i+1) * s≤l.length * s:=Nat.mul_le_mul_right s hi
    rw [Nat.add_mul] at this; omega
   obtain ⟨c2,w',s1,s2,s3,s4,s5,s6,s7,s8,s9⟩:=run_storeCells (P:=P) b (i * s+j) el f (a.eval X).cells.toList 0 c w hH hone' (by omega) hfz
   have hrun:(execOp a.eval o).run P w=.ok .skip w':=by
    simp only [execOp,ho,Instr.storeAt,hv,Instr.sureAddr,Sem.run_bind,Sem.run_pure,Result.andThen_ok,storeVar,run_sizeOf hti]
    rw [if_neg (by rw [hc.1]; omega)]
    simp [s1]
   have hupd:=upA_cells (e:=l[i]) (x:=ev X) hn hn0 hjn
   obtain ⟨L',S'⟩:=L.turn (w':=w') (β':=β) (g':=g) (o':=.arr g s (l.set i (upA (l[i]) j (ev X)))) (r:=some b) ht rfl rfl (fun _ _ _=>.inr trivial)
    (fun _ _ _ e=>e) (fun _ _ _ e=>.inl e) hb (fun b e=>by injection e with e; subst e; exact ⟨.inl hb,by rw [s4]; exact L.lt _ _ _ hb⟩) (fun k _ hk=>s3 k (fun q=>hk (by rw [q]; exact hb))) (by omega)
    (fun b1 c1 e1 f1 q q'=>by
     rw [hb] at q; injection q with q; injection q with q; subst q
     rw [hH] at q'; injection q' with q'; injection q' with q1 q2 q3; subst q1 q2 q3
     exact ⟨c2,f,s2,s8⟩) s5 s6 s7
    (fun E=>by
     refine .inr ⟨b,c2,el,f,hb,s2,by rw [s8]; exact hfz, ?_,by rw [s8,List.length_set]; exact hln,fun k hk m hm=>?_⟩
     ·intro x hx
      obtain ⟨k,hk,rfl⟩:=List.getElem_of_mem hx
      rw [List.getElem_set]
      split
      ·rw [hupd.1,hlcell]
      ·exact hls _ (List.getElem_mem _)
     ·have hk':k < l.length:=by simpa using hk
      have hms:m < s:=by
       rw [List.getElem_set] at hm
       split at hm
       ·rw [hupd.1,hlcell] at hm; exact hm
       ·rw [hls _ (List.getElem_mem _)] at hm; exact hm
      by_cases q:k=i
      ·subst q
       simp only [List.getElem_set_self] at hm ⊢
       by_cases q2:j≤m∧m < j+n
       ·rw [(hupd.2 m hm).1 q2]
        obtain ⟨u,hu,hr'⟩:=hc.2 (m - j) (by omega)
        refine ⟨u, ?_,hr'.ext E⟩
        rw [s9,if_pos (by omega)]
        rw [show k * s+m - (k * s+j+0)=m - j by omega]
        simpa using hu
       ·obtain ⟨hk2,e2⟩:=(hupd.2 m hm).2 q2
        rw [e2]
        obtain ⟨u,hu,hr'⟩:=hlc k hk' m hk2
        refine ⟨u, ?_,hr'.ext E⟩
        rw [s9,if_neg (by omega)]; exact hu
      ·simp only [List.getElem_set_ne (fun e=>q e.symm)] at hm ⊢
       obtain ⟨u,hu,hr'⟩:=hlc k hk' m hm
       refine ⟨u, ?_,hr'.ext E⟩
       rw [s9,if_neg]
       ·exact hu
       ·rintro ⟨q3,q4⟩
        rcases Nat.lt_or_gt_of_ne q with q5 | q5
        ·have:(k+1) * s≤i * s:=Nat.mul_le_mul_right s q5
         rw [Nat.add_mul] at this; omega
        ·have:(i+1) * s≤k * s:=Nat.mul_le_mul_right s q5
         rw [Nat.add_mul] at this; omega)
    (L.top tt g s l ht)
   exact ⟨undef,.tup [],w',_,β,fr,.inr ⟨hrun,rfl⟩,hK,L',by simp [Rep,undef],S',fun _ _ _ e=>.inl e⟩
  ·cases hk
 ·cases hk
theorem st_ok {P:Program} {o:Oper} {t:TypeId} {A X:Operand} {ev:Operand→AV} {h:List AObj} {K:AV→List AObj→Prop} (ho:o.op=.store t A X) (hk:stK P t (ev A) (ev X) h K):OpK P o ev h K:=(st_oks ho hk).toOpK
def eqB (op:BinOp) (b:Bool):Bool :=
 match op with
 | .eql=>b
 | _=>!b
theorem run_equalIn_slnil {P:Program} {w:World} {t e:TypeId} (d:Nat) (he:P.underlying t=some (.slice e)) (ao:Option Addr) (n cap:Nat):(Op.equalIn (d+1) t (.slice ao n cap) (.slice none 0 0)).run P w=.ok ao.isNone w:=by
 cases ao <;> simp only [Op.equalIn,Sem.run_bind,run_underlying he,Result.andThen_ok,Sem.run_pure,Option.isNone]
def nqK (P:Program) (op:BinOp) (t:TypeId) (x:AV) (h:List AObj) (K:AV→List AObj→Prop):Prop :=
 match x with
 | .fz c l=>(∃ e,tk P t=.sl e)∧∀ b:Bool,(b=true→l=[])→K (.bool (eqB op b)) h
 | .sl _ _ _ off len=>(∃ e,tk P t=.sl e)∧∀ b:Bool,(b=true→len=0)→K (.bool (eqB op b)) h
 | _=>False
theorem nq_ok {P:Program} {o:Oper} {op:BinOp} {t yt:TypeId} {X:Operand} {ev:Operand→AV} {h:List AObj} {K:AV→List AObj→Prop} (ho:o.op=.binOp op t X (.const (.slice none 0 0)) yt) (hop:op=.eql∨op=.neq) (hk:nqK P op t (ev X) h K):OpK P o ev h K:=by
 refine OpK.of_run fun a w β fr L hr=>?_
 rw [ho] at hr
 have hX:=hr X (by simp [Op.operands])
 have run:∀ {ao:Option Addr} {n cap:Nat} {e:TypeId},a.eval X=.slice ao n cap→tk P t=.sl e→(execOp a.eval o).run P w=.ok (.value (.bool (eqB op ao.isNone))) w:=by
  intro ao n cap e hv he
  have hq:(Op.equal t (.slice ao n cap) (.slice none 0 0)).run P w=.ok ao.isNone w:=by
   exact run_equalIn_slnil _ (tk_sl he) ao n cap
  have hce:a.eval (.const (.slice none 0 0))=.slice none 0 0:=rfl
  simp only [execOp,ho,hv,hce,Sem.run_bind,run_eqGuard_not (P:=P) (w:=w) (op:=op) (t:=t) (x:=X) (y:=.const (.slice none 0 0)) (a:=.slice ao n cap) (b:=.slice none 0 0) (by simp) (by simp),Result.andThen_ok]
  rcases hop with rfl | rfl <;> simp [Go.binOp,hq,eqB]
 unfold nqK at hk
 split at hk
 ·rename_i c l e1
  obtain ⟨⟨e,he⟩,hk⟩:=hk
  rw [e1] at hX; simp only [Rep] at hX
  obtain ⟨ao,cap,hv,h1,h2,h3⟩:=hX
  refine ⟨_,_,w,h,β,fr,.inl (run hv he),hk ao.isNone (fun q=>?_),L,by simp only [Rep],Step1.refl _ _ _ _⟩
  cases l with
  | nil=>rfl
  | cons y l=>obtain ⟨ad,s,rfl,-⟩:=h3 (by simp); cases q
 ·rename_i tt g s off len e1
  obtain ⟨⟨e,he⟩,hk⟩:=hk
  rw [e1] at hX; simp only [Rep] at hX
  rcases hX with ⟨-,-,h1,hv⟩ | ⟨b,c,el,f,cap,-,-,hv,-,-⟩
  ·exact ⟨_,_,w,h,β,fr,.inl (run hv he),hk true (fun q=>h1),L,by simp only [Rep]; rfl,Step1.refl _ _ _ _⟩
  ·exact ⟨_,_,w,h,β,fr,.inl (run hv he),hk false (fun q=>by cases q),L,by simp only [Rep]; rfl,Step1.refl _ _ _ _⟩
 ·cases hk
def niK (P:Program) (op:BinOp) (t:TypeId) (x:AV) (h:List AObj) (K:AV→List AObj→Prop):Prop :=
 match x with
 | .nili=>tk P t=.iface∧K (.bool (eqB op true)) h
 | .iface _ _=>tk P t=.iface∧K (.bool (eqB op false)) h
 | _=>False
theorem tk_ifc {P:Program} {t:TypeId} (h:tk P t=.iface):∃ ms,P.underlying t=some (.interface ms):=by
 unfold tk at h; split at h <;> simp_all
theorem run_equalIn_ni1 {P:Program} {w:World} {t:TypeId} {ms} (d:Nat) (hu:P.underlying t=some (.interface ms)):(Op.equalIn (d+1) t .nilIface .nilIface).run P w=.ok true w:=by
 simp only [Op.equalIn,Sem.run_bind,run_underlying hu,Result.andThen_ok,Sem.run_pure]
theorem run_equalIn_ni2 {P:Program} {w:World} {t ty:TypeId} {u:Value} {ms} (d:Nat) (hu:P.underlying t=some (.interface ms)):(Op.equalIn (d+1) t (.iface ty u) .nilIface).run P w=.ok false w:=by
 simp only [Op.equalIn,Sem.run_bind,run_underlying hu,Result.andThen_ok,Sem.run_pure]
theorem ni_ok {P:Program} {o:Oper} {op:BinOp} {t yt:TypeId} {X:Operand} {ev:Operand→AV} {h:List AObj} {K:AV→List AObj→Prop} (ho:o.op=.binOp op t X (.const .nilIface) yt) (hop:op=.eql∨op=.neq) (hk:niK P op t (ev X) h K):OpK P o ev h K:=by
 refine OpK.of_run fun a w β fr L hr=>?_
 rw [ho] at hr
 have hX:=hr X (by simp [Op.operands])
 have hce:a.eval (.const .nilIface)=.nilIface:=rfl
 unfold niK at hk
 split at hk
 ·rename_i e1
  obtain ⟨ms,hu⟩:=tk_ifc hk.1
  rw [e1] at hX; simp only [Rep] at hX
  have hg:(eqGuard op t X (.const .nilIface) .nilIface .nilIface).run P w=.ok () w:=by
   unfold eqGuard
   rcases hop with rfl | rfl <;> simp
  have hq:(Op.equal t .nilIface .nilIface).run P w=.ok true w:=run_equalIn_ni1 _ hu
  refine ⟨_,_,w,h,β,fr,.inl ?_,hk.2,L,by simp only [Rep]; rfl,Step1.refl _ _ _ _⟩
  simp only [execOp,ho,hX,hce,Sem.run_bind,hg,Result.andThen_ok]
  rcases hop with rfl | rfl <;> simp [Go.binOp,hq,eqB]
 ·rename_i ty y e1
  obtain ⟨ms,hu⟩:=tk_ifc hk.1
  rw [e1] at hX; simp only [Rep] at hX
  obtain ⟨u,hX,-⟩:=hX
  have hg:(eqGuard op t X (.const .nilIface) (.iface ty u) .nilIface).run P w=.ok () w:=by
   unfold eqGuard
   rcases hop with rfl | rfl <;> simp
  have hq:(Op.equal t (.iface ty u) .nilIface).run P w=.ok false w:=run_equalIn_ni2 _ hu
  refine ⟨_,_,w,h,β,fr,.inl ?_,hk.2,L,by simp only [Rep]; rfl,Step1.refl _ _ _ _⟩
  simp only [execOp,ho,hX,hce,Sem.run_bind,hg,Result.andThen_ok]
  rcases hop with rfl | rfl <;> simp [Go.binOp,hq,eqB]
 ·cases hk
def sbK (P:Program) (dst:TypeId) (x:AV) (h:List AObj) (K:AV→List AObj→Prop):Prop :=
 match x,tk P dst with
 | .str s,.sl e=>tk P e=.int .u8∧K (.sl h.length 0 1 0 s.length) (h++[.arr 0 1 (bytesA s)])
 | _,_=>False
theorem push_modify (H:Array Obj) (a:Obj) (f:Obj→Obj):(H.push a).modify H.size f=H.push (f a):=by
 apply Array.ext_getElem?
 intro i
 rw [Array.getElem?_modify]
 by_cases e:H.size=i
 ·subst e; simp
 ·rw [if_neg e,Array.getElem?_push,Array.getElem?_push]; simp [show ¬ i=H.size from fun q=>e q.symm]
theorem sb_ok {P:Program} {o:Oper} {src dst:TypeId} {X:Operand} {ev:Operand→AV} {h:List AObj} {K:AV→List AObj→Prop} (ho:o.op=.convert src dst X) (hsrc:∃ d,P.underlying src=some d) (hk:sbK P dst (ev X) h K):OpK P o ev h K:=by
 refine OpK.of_run fun a w β fr L hr=>?_
 rw [ho] at hr
 have hX:=hr X (by simp [Op.operands])
 unfold sbK at hk
 split at hk
 ·rename_i s e e1 e2
  obtain ⟨he,hK⟩:=hk
  rw [e1] at hX; simp only [Rep] at hX
  obtain ⟨bs,hv,rfl⟩:=hX
  obtain ⟨d,hd⟩:=hsrc
  let q:Question:=.appendCap bs.size 0 e
  let cap:=q.cut (w.tape w.drawn q)
  have hcap:bs.size≤cap:=by show bs.size≤bs.size+_; omega
  let cells:Array Value:=(bs.data.map fun b=>.int .u8 b.toNat)++Array.replicate (cap - bs.size) (.int .u8 0)
  have hcs:cells.size=cap:=by simp [cells]; omega
  let w':World:={ w with drawn:=w.drawn+1,heap:=w.heap.push (.cells cells e (cells.size,cells.size+1)) }
  have hrun:(execOp a.eval o).run P w=.ok (.value (.slice (some ⟨w.heap.size,0,none⟩) bs.size cap)) w':=by
   simp only [execOp,ho,hv,Sem.run_bind,convert,run_underlying hd,run_underlying (tk_sl e2),Result.andThen_ok,run_underlying (tk_int he),Conv.stringToBytes]
   have hch:(choose (.appendCap bs.size 0 e)).run P w=.ok cap { w with drawn:=w.drawn+1 }:=rfl
   simp only [hch,Result.andThen_ok,newRow,Sem.run_bind,run_newObj,Sem.run_pure,markStringish,run_shape]
   have hsh:({ w with drawn:=w.drawn+1,heap:=w.heap.push (.cells cells e) }:World).shape? w.heap.size=some (e,cells.size):=by simp [World.shape?]
   simp only [cells] at hsh
   simp only [hsh,run_freeze,Result.andThen_ok,Sem.run_pure]
   congr 1
   simp only [World.freeze,w']
   rw [if_neg (by omega)]
   congr 1
   rw [push_modify]
   simp [cells]
  have hrow:RowAt β fr w.heap (bytesA bs.data.toList) 1 (bs.data.map fun b=>.int .u8 b.toNat):=by
   refine ⟨by simp [bytesA],bytesA_cells,fun i hi j hj=>?_⟩
   have hi':i < bs.data.size:=by simp [bytesA] at hi; exact hi
   have hc:=bytesA_cells _ (List.getElem_mem hi)
   have:j=0:=by omega
   subst this
   refine ⟨.int .u8 (bs.data[i]).toNat,by rw [Nat.mul_one,Nat.add_zero,Array.getElem?_map,Array.getElem?_eq_getElem hi']; rfl, ?_⟩
   simp only [bytesA,List.getElem_map,AV.cells,List.getElem_cons_zero,Rep]; simp
  have E:=Ext.push (H':=w'.heap) L 0 rfl
  obtain ⟨L',S'⟩:=L.push (w':=w') (o:=.arr 0 1 (bytesA bs.data.toList)) (g:=0) (c:=.cells cells e (cells.size,cells.size+1)) rfl rfl rfl rfl rfl
   ((hrow.ext E).obj (c:=cells) (e:=e) (f:=(cells.size,cells.size+1)) (betaSet_same _ _ _ _) (by simp [w']) (fun i hi=>by simp; omega) (fun k hk=>by simp only [cells]; rw [Array.getElem?_append_left hk]) (by simp [cells]))
  refine ⟨_,_,w',_,_,_,.inl hrun,hK,L', ?_,S'⟩
  simp only [Rep]
  exact .inr ⟨w.heap.size,cells,e,(cells.size,cells.size+1),cap,betaSet_same _ _ _ _,by simp [w'],by simp,by rw [hcs]; simp,by simpa using hcap⟩
 ·cases hk
def entersB (P:Program) (f:FuncId):Bool :=
 match P.funcs[f]? with
 | some fn=>fn.body.isSome && fn.name != "runtime.NumGoroutine"
 | none=>false
def clK (P:Program) (x:AV) (args:List AV) (h:List AObj) (K:AV→List AObj→Prop):Prop :=
 match x with
 | .func (.func f) first cap=>entersB P f=true∧ACall P f (first++args++cap) h K
 | _=>False
theorem CellsRep.append {β:Beta} {fr:Nat→Prop} {H:Array Obj} {xs ys:List AV} {us vs:Array Value} (h:CellsRep β fr H xs us) (k:CellsRep β fr H ys vs):CellsRep β fr H (xs++ys) (us++vs):=by
 refine ⟨by simp [h.1,k.1],fun j hj=>?_⟩
 by_cases q:j < xs.length
 ·simp only [List.getElem_append_left q]
  obtain ⟨u,hu,hr⟩:=h.2 j q
  exact ⟨u,by rw [Array.getElem?_append_left (by rw [h.1]; exact q)]; exact hu,hr⟩
 ·simp only [List.getElem_append_right (Nat.le_of_not_lt q)]
  obtain ⟨u,hu,hr⟩:=k.2 (j - xs.length) (by simp at hj; omega)
  exact ⟨u,by rw [Array.getElem?_append_right (by rw [h.1]; omega),h.1]; exact hu,hr⟩
theorem cl_ok {P:Program} {o:Oper} {c:Call} {F:Operand} {ev:Operand→AV} {h:List AObj} {K:AV→List AObj→Prop} (ho:o.op=.call c) (hc:c.callee=.value F) (hk:clK P (ev F) (c.args.toList.map ev) h K):OpK P o ev h K:=by
 intro a w β fr L hr ro next Q hn
 rw [ho] at hr
 have hF:=hr F (by simp [Op.operands,Call.operands,hc])
 have hargs:CellsRep β fr w.heap (c.args.toList.map ev) (c.args.map a.eval):=by
  refine ⟨by simp,fun j hj=>?_⟩
  have hj':j < c.args.size:=by simpa using hj
  exact ⟨a.eval c.args[j],by simp [hj'],by simp; exact hr _ (by simp [Op.operands,Call.operands,hc])⟩
 unfold clK at hk
 split at hk
 ·rename_i f first cap e1
  obtain ⟨hen,hcall⟩:=hk
  rw [e1] at hF; simp only [Rep] at hF
  obtain ⟨us,vs,hv,h1,h2,h3,h4⟩:=hF
  have hrun:(execOp a.eval o).run P w=.ok (.enter f (us++c.args.map a.eval++vs)) w:=by
   unfold entersB at hen
   split at hen
   ·rename_i fn hfn
    simp only [Bool.and_eq_true,bne_iff_ne,ne_eq] at hen
    obtain ⟨hb,hnm⟩:=hen
    have hbn:fn.body.isNone=false:=by cases q:fn.body <;> simp_all
    simp only [execOp,ho,Go.resolve,hc,hv,Deferred.ofValue,Sem.run_bind,Sem.run_pure,Result.andThen_ok,Go.invoke,callFunc,run_program,hfn]
    simp [hnm,hbn]
   ·cases hen
  refine wpIn_ent hrun ?_
  refine (hcall w β fr _ L ((CellsRep.append ⟨h1,h3⟩ hargs).append ⟨h2,h4⟩)).mono ?_
  rintro e w' ⟨v,x,h',β',fr',rfl,k1,k2,k3,k4⟩
  exact ⟨v,rfl,hn v x w' h' β' fr' k1 k2 k3 k4⟩
 ·cases hk
end Go.Proofs.Vale
