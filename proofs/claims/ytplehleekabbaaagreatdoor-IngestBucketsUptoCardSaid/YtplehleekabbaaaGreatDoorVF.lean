/- YtplehleekabbaaaGreatDoorVF: a text of the proof of this claim, by its prover. -/
import Derived.Calls
import Derived.Orders
import Derived.Scope
import Derived.RangeFuncNested
import Derived.LoopNIn
import Derived.OrdersIn
import Derived.TacticsIn
import Derived.Test.YtplehleekabbaaaGreatDoorVGl
import Derived.Tactics
import Derived.Laws.Cells
import Derived.Laws.StructEq
import Derived.Laws.BytesArg
import Derived.ChangeKeysEq
set_option linter.unusedVariables false
set_option linter.unusedSimpArgs false
namespace Go.Proofs.Vale
inductive AV where
 | int (k:IntKind) (n:Int)
 | bool (b:Bool)
 | str (s:List UInt8)
 | nilp
 | ptr (x:AV)
 | fz (c:Bool) (l:List AV)
 | ref (t g s i j:Nat)
 | sl (t g sz off len:Nat)
 | mp (t:Nat)
 | it (t:Nat)
 | yl (t:Nat)
 | nilm
 | agg (cs:List AV)
 | tup (vs:List AV)
 | func (fn:Fn) (first cap:List AV)
 | nilf
 | iface (t:TypeId) (x:AV)
 | nili
 | opt (b:Bool) (x:AV)
 | any
 deriving Inhabited
def AV.cells:AV→List AV
 | .agg cs=>cs
 | x=>[x]
theorem AV.cells_le {x y:AV} (h:y∈x.cells):SizeOf.sizeOf y≤SizeOf.sizeOf x:=by
 cases x <;> simp [AV.cells] at h <;> (try subst h) <;> (try simp)
 have:=List.sizeOf_lt_of_mem h
 omega
theorem AV.cells_get_le {x:AV} {j:Nat} (h:j < x.cells.length):SizeOf.sizeOf (x.cells[j])≤SizeOf.sizeOf x:=AV.cells_le (List.getElem_mem h)
abbrev Beta:=Nat→Nat→Option (Option Nat)
def cellAt (H:Array Obj) (b o:Nat):Option Value :=
 match H[b]? with
 | some (.cells c _ _)=>c[o]?
 | _=>none
theorem cell?_eq (w:World) (a:Addr) (h:a.spot=none):w.cell? a=cellAt w.heap a.block a.off:=by
 unfold World.cell? cellAt
 split <;> simp_all
def Rep (β:Beta) (fr:Nat→Prop) (H:Array Obj):AV→Value→Prop
 | .int k n,v=>v=.int k n
 | .bool b,v=>v=.bool b
 | .str s,v=>∃ b:ByteArray,v=.string b∧b.data.toList=s
 | .nilp,v=>v=.pointer none
 | .ptr x, v => ∃ a : Addr, v = .pointer (some a) ∧ fr a.block ∧ a.spot = none ∧
   ∀ j (h:j < x.cells.length),∃ u,cellAt H a.block (a.off+j)=some u∧Rep β fr H (x.cells[j]) u
 | .fz c l, v => ∃ a cap, v = .slice a l.length cap ∧ l.length ≤ cap ∧ (c = true → cap = l.length) ∧
   (l≠[]→∃ (ad:Addr) (s:Nat),a=some ad∧fr ad.block∧ad.spot=none∧(∀ x∈l,x.cells.length=s) ∧
    ∀ i (hi:i < l.length) j (hj:j < (l[i]).cells.length),∃ u,cellAt H ad.block (ad.off+i * s+j)=some u∧Rep β fr H ((l[i]).cells[j]) u)
 | .ref t g s i j,v=>∃ b,β t g=some (some b)∧v=.pointer (some ⟨b,i * s+j,none⟩)
 | .sl t g s off len, v => ((β t g = some none ∧ off = 0 ∧ len = 0 ∧ v = .slice none 0 0) ∨
   ∃ b c e f cap,β t g=some (some b)∧H[b]? = some (.cells c e f)∧v=.slice (some ⟨b,off * s,none⟩) len cap∧(off+cap) * s≤c.size∧len≤cap)
 | .mp t,v=>∃ b,β t 0=some (some b)∧v=.map (some b)
 | .it t,v=>∃ b,β t 0=some (some b)∧v=.pointer (some ⟨b,0,none⟩)
 | .yl t,v=>∃ b,β t 0=some (some b)∧v=.func (.yield b) #[] #[]
 | .nilm,v=>v=.map none
 | .agg cs,v=>∃ us:Array Value,v=.agg us∧us.size=cs.length∧∀ j (h:j < cs.length),∃ u,us[j]? = some u∧Rep β fr H (cs[j]) u
 | .tup cs,v=>∃ us:Array Value,v=.tuple us∧us.size=cs.length∧∀ j (h:j < cs.length),∃ u,us[j]? = some u∧Rep β fr H (cs[j]) u
 | .func fn fs cs, v => ∃ us vs : Array Value, v = .func fn us vs ∧ us.size = fs.length ∧ vs.size = cs.length ∧
   (∀ j (h:j < fs.length),∃ u,us[j]? = some u∧Rep β fr H (fs[j]) u)∧(∀ j (h:j < cs.length),∃ u,vs[j]? = some u∧Rep β fr H (cs[j]) u)
 | .nilf,v=>v=.nilFunc
 | .iface t x,v=>∃ u,v=.iface t u∧Rep β fr H x u
 | .nili,v=>v=.nilIface
 | .opt b x,v=>(b=true→Rep β fr H x v)∧(b=false→v=undef)
 | .any,_=>True
termination_by x=>SizeOf.sizeOf x
decreasing_by
 all_goals simp_wf
 all_goals first
  | (have:=AV.cells_get_le h; omega)
  | (have h1:=AV.cells_get_le hj; have h2:=List.sizeOf_lt_of_mem (List.getElem_mem hi); omega)
  | (have:=List.sizeOf_lt_of_mem (List.getElem_mem h); omega)
  | omega
structure Ext (β:Beta) (fr:Nat→Prop) (H:Array Obj) (β':Beta) (fr':Nat→Prop) (H':Array Obj):Prop where
 beta:∀ t g r,β t g=some r→β' t g=some r
 frm:∀ b,fr b→fr' b
 cells:∀ b,fr b→H'[b]? = H[b]?
 shape:∀ t g b c e f,β t g=some (some b)→H[b]? = some (.cells c e f)→∃ c' f',H'[b]? = some (.cells c' e f')∧c'.size=c.size
theorem Ext.refl (β:Beta) (fr:Nat→Prop) (H:Array Obj):Ext β fr H β fr H:=⟨fun _ _ _ h=>h,fun _ h=>h,fun _ _=>rfl,fun _ _ _ c _ f _ h=>⟨c,f,h,rfl⟩⟩
theorem Ext.trans {β β' β'':Beta} {fr fr' fr'':Nat→Prop} {H H' H'':Array Obj} (a:Ext β fr H β' fr' H') (b:Ext β' fr' H' β'' fr'' H''):Ext β fr H β'' fr'' H'' where
 beta t g r h:=b.beta t g r (a.beta t g r h)
 frm x h:=b.frm x (a.frm x h)
 cells x h:=(b.cells x (a.frm x h)).trans (a.cells x h)
 shape t g x c e f h h1:=by
  obtain ⟨c1,f1,h2,h3⟩:=a.shape t g x c e f h h1
  obtain ⟨c2,f2,h4,h5⟩:=b.shape t g x c1 e f1 (a.beta _ _ _ h) h2
  exact ⟨c2,f2,h4,h5.trans h3⟩
theorem Ext.cellAt {β β':Beta} {fr fr':Nat→Prop} {H H':Array Obj} (x:Ext β fr H β' fr' H') {b o:Nat} {u:Value} (hf:fr b) (h:cellAt H b o=some u):cellAt H' b o=some u:=by
 unfold Vale.cellAt at *
 rw [x.cells b hf]; exact h
theorem Rep.ext_aux {β β':Beta} {fr fr':Nat→Prop} {H H':Array Obj} (e:Ext β fr H β' fr' H'):∀ (n:Nat) (x:AV) (v:Value),SizeOf.sizeOf x≤n→Rep β fr H x v→Rep β' fr' H' x v:=by
 intro n
 induction n with
 | zero=>intro x v hn; cases x <;> simp at hn
 | succ n ih =>
  intro x v hn h
  cases x <;> simp only [Rep] at h ⊢ <;> (try exact h)
  case ptr x =>
   obtain ⟨a,rfl,hf,hs,hc⟩:=h
   refine ⟨a,rfl,e.frm _ hf,hs,fun j hj=>?_⟩
   obtain ⟨u,hu,hr⟩:=hc j hj
   refine ⟨u,e.cellAt hf hu,ih _ _ ?_ hr⟩
   have:=AV.cells_get_le hj; simp at hn; omega
  case fz c l =>
   obtain ⟨a,cap,rfl,h1,h2,h3⟩:=h
   refine ⟨a,cap,rfl,h1,h2,fun hne=>?_⟩
   obtain ⟨ad,s,rfl,hf,hs,hu,hc⟩:=h3 hne
   refine ⟨ad,s,rfl,e.frm _ hf,hs,hu,fun i hi j hj=>?_⟩
   obtain ⟨u,hu,hr⟩:=hc i hi j hj
   refine ⟨u,e.cellAt hf hu,ih _ _ ?_ hr⟩
   have h1:=AV.cells_get_le hj
   have h2:=List.sizeOf_lt_of_mem (List.getElem_mem hi); simp at hn; omega
  case ref t g s i j =>
   obtain ⟨b,hb,rfl⟩:=h
   exact ⟨b,e.beta _ _ _ hb,rfl⟩
  case sl t g s off len =>
   rcases h with ⟨hb,h⟩ | ⟨b,c,el,f,cap,hb,hH,rfl,hs,hl⟩
   ·exact .inl ⟨e.beta _ _ _ hb,h⟩
   ·obtain ⟨c',f',hH',hc'⟩:=e.shape _ _ _ _ _ _ hb hH
    exact .inr ⟨b,c',el,f',cap,e.beta _ _ _ hb,hH',rfl,hc'.symm ▸ hs,hl⟩
  case mp t =>
   obtain ⟨b,hb,rfl⟩:=h
   exact ⟨b,e.beta _ _ _ hb,rfl⟩
  case it t =>
   obtain ⟨b,hb,rfl⟩:=h
   exact ⟨b,e.beta _ _ _ hb,rfl⟩
  case yl t =>
   obtain ⟨b,hb,rfl⟩:=h
   exact ⟨b,e.beta _ _ _ hb,rfl⟩
  case agg cs =>
   obtain ⟨us,rfl,hs,hc⟩:=h
   refine ⟨us,rfl,hs,fun j hj=>?_⟩
   obtain ⟨u,hu,hr⟩:=hc j hj
   have:=List.sizeOf_lt_of_mem (List.getElem_mem hj)
   exact ⟨u,hu,ih _ _ (by simp at hn; omega) hr⟩
  case tup cs =>
   obtain ⟨us,rfl,hs,hc⟩:=h
   refine ⟨us,rfl,hs,fun j hj=>?_⟩
   obtain ⟨u,hu,hr⟩:=hc j hj
   have:=List.sizeOf_lt_of_mem (List.getElem_mem hj)
   exact ⟨u,hu,ih _ _ (by simp at hn; omega) hr⟩
  case func fn fs cs =>
   obtain ⟨us,vs,rfl,hs,ht,hc,hd⟩:=h
   refine ⟨us,vs,rfl,hs,ht,fun j hj=>?_,fun j hj=>?_⟩
   ·obtain ⟨u,hu,hr⟩:=hc j hj
    have:=List.sizeOf_lt_of_mem (List.getElem_mem hj)
    exact ⟨u,hu,ih _ _ (by simp at hn; omega) hr⟩
   ·obtain ⟨u,hu,hr⟩:=hd j hj
    have:=List.sizeOf_lt_of_mem (List.getElem_mem hj)
    exact ⟨u,hu,ih _ _ (by simp at hn; omega) hr⟩
  case iface t x =>
   obtain ⟨u,rfl,hr⟩:=h
   exact ⟨u,rfl,ih _ _ (by simp at hn; omega) hr⟩
  case opt b x =>
   exact ⟨fun hb=>ih _ _ (by simp at hn; omega) (h.1 hb),h.2⟩
theorem Rep.ext {β β':Beta} {fr fr':Nat→Prop} {H H':Array Obj} (e:Ext β fr H β' fr' H') {x:AV} {v:Value} (h:Rep β fr H x v):Rep β' fr' H' x v:=Rep.ext_aux e _ x v (Nat.le_refl _) h
inductive Ctl where
 | loop (ps:Array Tmp) (as body:Code) (env:List AV) (pe:Option Code)
 | mit (m:Option Nat) (n:Nat) (seen:List Nat)
 deriving Inhabited
inductive AObj where
 | arr (g s:Nat) (l:List AV)
 | map (l:List (AV × AV))
 | it (s:List UInt8) (pos:Nat)
 | ctl (c:Ctl)
 | dead
 deriving Inhabited
abbrev AObj.loop (ps:Array Tmp) (as body:Code) (env:List AV) (pe:Option Code):AObj:=.ctl (.loop ps as body env pe)
abbrev AObj.mit (m:Option Nat) (n:Nat) (seen:List Nat):AObj:=.ctl (.mit m n seen)
def AObj.gen:AObj→Option Nat
 | .arr g _ _=>some g
 | .map _=>some 0
 | .it _ _=>some 0
 | .ctl _=>some 0
 | .dead=>none
def ObjAt (β:Beta) (fr:Nat→Prop) (H:Array Obj) (t:Nat):AObj→Prop
 | .arr g s l => (β t g = some none ∧ l = []) ∨ ∃ b c e f, β t g = some (some b) ∧ H[b]? = some (.cells c e f) ∧ (∀ i, i < c.size → (decide (f.1 ≤ i) && decide (i < f.2)) = false) ∧
   (∀ x∈l,x.cells.length=s)∧l.length * s≤c.size ∧
   ∀ i (hi:i < l.length) j (hj:j < (l[i]).cells.length),∃ u,c[i * s+j]? = some u∧Rep β fr H ((l[i]).cells[j]) u
 | .map l => ∃ b es, β t 0 = some (some b) ∧ H[b]? = some (.map es l.length) ∧ es.size = l.length ∧
   ∀ i (hi:i < l.length),∃ e,es[i]? = some e∧e.born=i∧Rep β fr H (l[i]).1 e.key∧Rep β fr H (l[i]).2 e.val
 | .it s pos=>∃ b by_,β t 0=some (some b)∧H[b]? = some (.stringIter by_ pos)∧by_.data.toList=s
 | .ctl (.loop ps as bd env pe) => ∃ b r, β t 0 = some (some b) ∧ H[b]? = some (.loop r) ∧ r.params = ps ∧ r.assign = as ∧ r.body = bd ∧ r.pending = pe ∧ r.state = (if pe.isNone then .ready else .done) ∧
   r.tmps.size=env.length∧∀ j (h:j < env.length),∃ u,r.tmps[j]? = some u∧Rep β fr H (env[j]) u
 | .ctl (.mit mt n seen)=>∃ b sn o s c,β t 0=some (some b)∧H[b]? = some (.mapIter o s sn c)∧(mt=none→o=none)∧∀ m,mt=some m→∃ mb,β m 0=some (some mb)∧o=some mb∧s=n∧c=n∧sn.toList=seen
 | .dead=>True
def Own (h:List AObj) (β:Beta) (b:Nat):Prop:=∃ t o g,h[t]? = some o∧o.gen=some g∧β t g=some (some b)
structure Lay (β:Beta) (fr:Nat→Prop) (H:Array Obj) (h:List AObj):Prop where
 frlt:∀ b,fr b→b < H.size
 ownfr:∀ b,Own h β b→¬ fr b
 lt:∀ t g b,β t g=some (some b)→b < H.size
 inj:∀ t t' o o' g g' b,h[t]? = some o→o.gen=some g→β t g=some (some b)→h[t']? = some o'→o'.gen=some g'→β t' g'=some (some b)→t=t'
 obj:∀ t o,h[t]? = some o→ObjAt β fr H t o
 dom:∀ t g r,β t g=some r→t < h.length
 top:∀ t g s l,h[t]? = some (.arr g s l)→∀ g',g < g'→β t g'=none
 tab:∀ b p,(b,p)∈tabs→fr b∧∃ cs e f,H[b]? = some (.cells cs e f)∧p cs
structure Step1 (β:Beta) (fr:Nat→Prop) (h:List AObj) (w:World) (β':Beta) (fr':Nat→Prop) (h':List AObj) (w':World):Prop where
 ext:Ext β fr w.heap β' fr' w'.heap
 os:w'.os=w.os
 tape:w'.tape=w.tape
 output:w'.output=w.output
 size:w.heap.size≤w'.heap.size
 keep:∀ b,b < w.heap.size→¬ Own h β b→w'.heap[b]? = w.heap[b]?
 prov:∀ b,Own h' β' b→Own h β b∨w.heap.size≤b
 frz:∀ b,fr' b→fr b∨Own h β b∨w.heap.size≤b
theorem Step1.refl (β:Beta) (fr:Nat→Prop) (h:List AObj) (w:World):Step1 β fr h w β fr h w:=⟨.refl _ _ _,rfl,rfl,rfl,Nat.le_refl _,fun _ _ _=>rfl,fun _=>.inl,fun _=>.inl⟩
theorem Step1.trans {β β1 β2:Beta} {fr fr1 fr2:Nat→Prop} {h h1 h2:List AObj} {w w1 w2:World} (a:Step1 β fr h w β1 fr1 h1 w1) (b:Step1 β1 fr1 h1 w1 β2 fr2 h2 w2):Step1 β fr h w β2 fr2 h2 w2 where
 ext:=a.ext.trans b.ext
 os:=b.os.trans a.os
 tape:=b.tape.trans a.tape
 output:=b.output.trans a.output
 size:=Nat.le_trans a.size b.size
 keep x hx ho:=(b.keep x (Nat.lt_of_lt_of_le hx a.size) (fun o=>by rcases a.prov x o with q | q; exact ho q; omega)).trans (a.keep x hx ho)
 prov x o:=by
  rcases b.prov x o with q | q
  ·exact a.prov x q
  ·exact .inr (Nat.le_trans a.size q)
 frz x o:=by
  rcases b.frz x o with q | q | q
  ·exact a.frz x q
  ·exact .inr (a.prov x q)
  ·exact .inr (.inr (Nat.le_trans a.size q))
theorem ObjAt.ext {β β':Beta} {fr fr':Nat→Prop} {H H':Array Obj} (e:Ext β fr H β' fr' H') {t:Nat} {o:AObj} (same:∀ g b,o.gen=some g→β t g=some (some b)→H'[b]? = H[b]?) (h:ObjAt β fr H t o):ObjAt β' fr' H' t o:=by
 cases o with
 | arr g s l =>
  rcases h with ⟨h1,h2⟩ | ⟨b,c,el,f,h1,h2,h3,h4,h5,h6⟩
  ·exact .inl ⟨e.beta _ _ _ h1,h2⟩
  ·refine .inr ⟨b,c,el,f,e.beta _ _ _ h1,(same g b rfl h1).trans h2,h3,h4,h5,fun i hi j hj=>?_⟩
   obtain ⟨u,hu,hr⟩:=h6 i hi j hj
   exact ⟨u,hu,hr.ext e⟩
 | map l =>
  obtain ⟨b,es,h1,h2,h3,h4⟩:=h
  refine ⟨b,es,e.beta _ _ _ h1,(same 0 b rfl h1).trans h2,h3,fun i hi=>?_⟩
  obtain ⟨x,hx,hb,hr,hs⟩:=h4 i hi
  exact ⟨x,hx,hb,hr.ext e,hs.ext e⟩
 | it s pos =>
  obtain ⟨b,by_,h1,h2,h3⟩:=h
  exact ⟨b,by_,e.beta _ _ _ h1,(same 0 b rfl h1).trans h2,h3⟩
 | ctl c =>
  cases c with
  | loop ps as bd env pe =>
   obtain ⟨b,r,h1,h2,h3,h4,h5,h6,h7,h8,h9⟩:=h
   exact ⟨b,r,e.beta _ _ _ h1,(same 0 b rfl h1).trans h2,h3,h4,h5,h6,h7,h8,fun j hj=>let ⟨u,hu,hr⟩:=h9 j hj; ⟨u,hu,hr.ext e⟩⟩
  | mit mt n seen =>
   obtain ⟨b,sn,o,s,c,h1,h2,h3,h4⟩:=h
   exact ⟨b,sn,o,s,c,e.beta _ _ _ h1,(same 0 b rfl h1).trans h2,h3,fun m q=>let ⟨mb,q1,q2⟩:=h4 m q; ⟨mb,e.beta _ _ _ q1,q2⟩⟩
 | dead=>trivial
theorem Step1.drawn {β:Beta} {fr:Nat→Prop} {h:List AObj} {w w':World} (hh:w'.heap=w.heap) (ho:w'.os=w.os) (ht:w'.tape=w.tape) (hp:w'.output=w.output):Step1 β fr h w β fr h w' :=
 ⟨by rw [hh]; exact .refl _ _ _,ho,ht,hp,by rw [hh]; exact Nat.le_refl _,fun _ _ _=>by rw [hh],fun _=>.inl,fun _=>.inl⟩
def betaSet (β:Beta) (t g:Nat) (r:Option Nat):Beta:=fun t' g'=>if t'=t∧g'=g then some r else β t' g'
theorem betaSet_same (β:Beta) (t g:Nat) (r:Option Nat):betaSet β t g r t g=some r:=by simp [betaSet]
theorem betaSet_other {β:Beta} {t g t' g':Nat} {r:Option Nat} (h:¬ (t'=t∧g'=g)):betaSet β t g r t' g'=β t' g':=by simp [betaSet,h]
end Go.Proofs.Vale
namespace Go.Proofs.Vale
def ofVal1:Value→AV
 | .int k n=>.int k n
 | .bool b=>.bool b
 | .string s=>.str s.data.toList
 | .pointer none=>.nilp
 | .slice none 0 0=>.fz true []
 | .map none=>.nilm
 | .nilFunc=>.nilf
 | .nilIface=>.nili
 | .func fn ⟨[]⟩ ⟨[]⟩=>.func fn [] []
 | _=>.any
def ofVal:Value→AV
 | .agg cs=>.agg (cs.toList.map ofVal1)
 | .tuple ⟨[]⟩=>.tup []
 | v=>ofVal1 v
theorem Rep_ofVal1 (β:Beta) (fr:Nat→Prop) (H:Array Obj) (v:Value):Rep β fr H (ofVal1 v) v:=by
 unfold ofVal1
 split <;> simp [Rep]
theorem Rep_ofVal (β:Beta) (fr:Nat→Prop) (H:Array Obj) (v:Value):Rep β fr H (ofVal v) v:=by
 unfold ofVal
 split
 ·rename_i cs
  simp only [Rep]
  refine ⟨cs,rfl,by simp,fun j hj=>?_⟩
  have hj':j < cs.size:=by simpa using hj
  exact ⟨cs[j],by simp [hj'],by simp; exact Rep_ofVal1 _ _ _ _⟩
 ·simp [Rep]
 ·exact Rep_ofVal1 _ _ _ _
def evA (env:List AV):Operand→AV
 | .tmp t=>env.getD t .any
 | .const v=>ofVal v
 | .func f=>.func (.func f) [] []
 | .global _=>.any
def EnvRep (β:Beta) (fr:Nat→Prop) (H:Array Obj) (env:List AV) (tmps:Array Value):Prop :=
 tmps.size=env.length∧∀ j (h:j < env.length),∃ u,tmps[j]? = some u∧Rep β fr H (env[j]) u
theorem EnvRep.ext {β β':Beta} {fr fr':Nat→Prop} {H H':Array Obj} (e:Ext β fr H β' fr' H') {env:List AV} {tmps:Array Value} (h:EnvRep β fr H env tmps):EnvRep β' fr' H' env tmps :=
 ⟨h.1,fun j hj=>let ⟨u,hu,hr⟩:=h.2 j hj; ⟨u,hu,hr.ext e⟩⟩
theorem EnvRep.eval {β:Beta} {fr:Nat→Prop} {H:Array Obj} {env:List AV} {tmps:Array Value} {ds:List Deferred} (h:EnvRep β fr H env tmps) (x:Operand):Rep β fr H (evA env x) ((⟨tmps,ds⟩:Act).eval x):=by
 cases x with
 | tmp t =>
  simp only [evA,Act.eval]
  by_cases ht:t < env.length
  ·obtain ⟨u,hu,hr⟩:=h.2 t ht
   rw [List.getD_eq_getElem?_getD,List.getElem?_eq_getElem ht,Array.getD_eq_getD_getElem?, hu]
   exact hr
  ·rw [List.getD_eq_getElem?_getD,List.getElem?_eq_none (Nat.le_of_not_lt ht)]
   simp [Rep]
 | const v=>exact Rep_ofVal _ _ _ _
 | func f=>simp [evA,Act.eval,Rep]
 | global g=>simp [evA,Rep]
def putA (env:List AV) (dst:Option Nat) (x:AV):List AV :=
 match dst with
 | some d=>env.set d x
 | none=>env
theorem EnvRep.put {β : Beta} {fr : Nat → Prop} {H : Array Obj} {env : List AV} {tmps : Array Value} {ds : List Deferred} (h : EnvRep β fr H env tmps) {x : AV} {v : Value} (hx : Rep β fr H x v) (dst : Option Nat) :
  EnvRep β fr H (putA env dst x) ((⟨tmps,ds⟩:Act).put dst v).tmps:=by
 cases dst with
 | none=>exact h
 | some d =>
  simp only [putA,Act.put]
  refine ⟨by simp [h.1],fun j hj=>?_⟩
  have hj':j < env.length:=by simpa using hj
  by_cases e:d=j
  ·subst e
   exact ⟨v,by simp [h.1,hj'],by simpa using hx⟩
  ·obtain ⟨u,hu,hr⟩:=h.2 j hj'
   exact ⟨u,by simp [e,hu],by rw [List.getElem_set_ne e]; exact hr⟩
inductive TK where
 | int (k:IntKind) | str | bool | sl (e:TypeId) | ptr | map (k e:TypeId) | agg | iface | other
 deriving DecidableEq,Inhabited
def tk (P:Program) (t:TypeId):TK :=
 match P.underlying t with
 | some (.int k)=>.int k
 | some .string=>.str
 | some .bool=>.bool
 | some (.slice e)=>.sl e
 | some (.pointer _)=>.ptr
 | some (.map k e)=>.map k e
 | some (.struct _)=>.agg
 | some (.array _ _)=>.agg
 | some (.interface _)=>.iface
 | _=>.other
def tI (P:Program) (t:TypeId):Option (Nat × Bool) :=
 match P.info? t,P.underlying t with
 | some i,some (.struct _) | some i,some (.array _ _)=>some (i.size,true)
 | some i,some _=>some (i.size,false)
 | _,_=>none
def eI (P:Program) (t:TypeId):Option (TypeId × Nat × Nat) :=
 match P.underlying t with
 | some (.slice e) =>
  match P.info? e with
  | some i=>(match i.zero with | some z=>if z.cells.size=i.size then some (e,i.size,i.bytes) else none | none=>none)
  | none=>none
 | _=>none
def fI (P:Program) (s f:Nat):Option (Nat × Nat × Bool) :=
 match P.underlying s with
 | some (.struct fs) =>
  match fs[f]? with
  | some fd=>(match tI P fd.type with | some (n,a)=>if n=0 then none else some (fd.offset,n,a) | none=>none)
  | none=>none
 | _=>none
theorem run_isAgg {P:Program} {t:TypeId} {n:Nat} {ag:Bool} (h:tI P t=some (n,ag)) (w:World):(isAgg t).run P w=.ok ag w:=by
 unfold tI at h
 split at h <;> first | (cases h; done) | skip
 all_goals (injection h with h; injection h with h1 h2; subst h1 h2)
 all_goals (rename_i h0 h1; simp [isAgg,run_underlying h1])
theorem run_sizeOf {P:Program} {t:TypeId} {n:Nat} {ag:Bool} (h:tI P t=some (n,ag)) (w:World):(Go.sizeOf t).run P w=.ok n w:=by
 unfold tI at h
 split at h <;> first | (cases h; done) | skip
 all_goals (injection h with h; injection h with h1 h2; subst h1 h2)
 all_goals (rename_i h0 h1; simp [Go.sizeOf,typeInfo, *])
theorem add_none {a:Addr} (h:a.spot=none) (n:Nat):a.add n=⟨a.block,a.off+n,none⟩:=by
 obtain ⟨b,o,s⟩:=a
 simp only at h; subst h
 unfold Addr.add
 split
 ·rename_i e; subst e; rfl
 ·rfl
def partA (x:AV) (j n:Nat) (ag:Bool):AV:=if ag then .agg ((x.cells.drop j).take n) else x.cells.getD j .any
def VarAt (β:Beta) (fr:Nat→Prop) (H:Array Obj) (x:AV) (b o:Nat):Prop:=∀ j (h:j < x.cells.length),∃ u,cellAt H b (o+j)=some u∧Rep β fr H (x.cells[j]) u
theorem run_loadPart {P : Program} {w : World} {β : Beta} {fr : Nat → Prop} {x : AV} {a : Addr} {j n : Nat} {ag : Bool} {t : TypeId} (ht : tI P t = some (n, ag)) (hs : a.spot = none) (hx : VarAt β fr w.heap x a.block a.off) (hn : j + n ≤ x.cells.length) (h1 : ag = false → n = 1) {a' : Addr} (ha : a' = ⟨a.block, a.off + j, none⟩) :
  ∃ v,(loadVar t a').run P w=.ok v w∧Rep β fr w.heap (partA x j n ag) v:=by
 subst ha
 simp only [loadVar,Sem.run_bind,run_isAgg ht,Result.andThen_ok]
 cases ag with
 | false =>
  obtain rfl:=h1 rfl
  obtain ⟨u,hu,hr⟩:=hx j (by omega)
  refine ⟨u,by simp [cell?_eq,hu], ?_⟩
  simp only [partA,Bool.false_eq_true,if_false]
  rw [List.getD_eq_getElem?_getD,List.getElem?_eq_getElem (by omega)]
  exact hr
 | true =>
  simp only [if_true,Sem.run_bind,run_sizeOf ht,Result.andThen_ok]
  rw [run_loadCells w _ n (fun i=>(cellAt w.heap a.block (a.off+j+i)).getD undef) (fun i hi=>by
   obtain ⟨u,hu,hr⟩:=hx (j+i) (by omega)
   rw [add_none rfl,cell?_eq _ _ rfl]
   simp only [show a.off+j+i=a.off+(j+i) by omega,hu]; rfl)]
  refine ⟨_,rfl, ?_⟩
  simp only [partA,if_true,Rep]
  refine ⟨_,rfl,by simp; omega,fun i hi=>?_⟩
  have hi':i < n:=by simp at hi; omega
  obtain ⟨u,hu,hr⟩:=hx (j+i) (by omega)
  refine ⟨u,by simp [hi',show a.off+j+i=a.off+(j+i) by omega,hu], ?_⟩
  simpa using hr
theorem run_part {P : Program} {w : World} {β : Beta} {fr : Nat → Prop} {cs : List AV} {us : Array Value} {j n : Nat} {ag : Bool} {t : TypeId} (ht : tI P t = some (n, ag)) (hs : us.size = cs.length) (hx : ∀ i (h : i < cs.length), ∃ u, us[i]? = some u ∧ Rep β fr w.heap (cs[i]) u) (hn : j + n ≤ cs.length) (h1 : ag = false → n = 1) :
  ∃ v,(part t us j).run P w=.ok v w∧Rep β fr w.heap (partA (.agg cs) j n ag) v:=by
 simp only [part,Sem.run_bind,run_isAgg ht,Result.andThen_ok]
 cases ag with
 | false =>
  obtain rfl:=h1 rfl
  obtain ⟨u,hu,hr⟩:=hx j (by omega)
  refine ⟨u,by simp [hu], ?_⟩
  simp only [partA,Bool.false_eq_true,if_false,AV.cells]
  rw [List.getD_eq_getElem?_getD,List.getElem?_eq_getElem (by omega)]
  exact hr
 | true =>
  simp only [if_true,Sem.run_bind,run_sizeOf ht,Result.andThen_ok]
  refine ⟨_,rfl, ?_⟩
  simp only [partA,if_true,Rep,AV.cells]
  refine ⟨_,rfl,by simp; omega,fun i hi=>?_⟩
  have hi':i < n:=by simp at hi; omega
  obtain ⟨u,hu,hr⟩:=hx (j+i) (by omega)
  refine ⟨u,by simp [Array.getElem?_extract,hu]; omega, ?_⟩
  simpa using hr
end Go.Proofs.Vale
namespace Go.Proofs.Vale
abbrev PV:=Option (Prop × AV)
def PopOk (P:Program) (o:Oper) (ev:Operand→AV) (h:List AObj) (p:Prop) (x:AV):Prop :=
 p→∀ (a:Act) (w:World) (β:Beta) (fr:Nat→Prop),Lay β fr w.heap h→(∀ y,y∈o.op.operands→Rep β fr w.heap (ev y) (a.eval y)) →
  ∃ v w',(execOp a.eval o).run P w=.ok (.value v) w'∧w'.heap=w.heap∧w'.os=w.os∧w'.tape=w.tape∧w'.output=w.output∧Rep β fr w.heap x v
def intBitsA (op:BinOp) (k:IntKind) (x y:Int):Int :=
 let a:=BitVec.ofInt k.bits x
 let b:=BitVec.ofInt k.bits y
 match op with
 | .and=>k.wrap (a &&& b).toNat
 | .or=>k.wrap (a ||| b).toNat
 | .xor=>k.wrap (a ^^^ b).toNat
 | _=>k.wrap (a &&& ~~~b).toNat
def eqA:AV→AV→Option Bool
 | .int k a,.int k' b=>if k=k' then some (a==b) else none
 | .bool a,.bool b=>some (a==b)
 | .str a,.str b=>some (a==b)
 | _,_=>none
def eqCells:List AV→List AV→Option Bool
 | [],[]=>some true
 | x::xs,y::ys=>match eqA x y,eqCells xs ys with
  | some a,some b=>some (a && b)
  | _,_=>none
 | _,_=>none
def bin (op:BinOp) (x y:AV):PV :=
 match x,y with
 | .int k a,.int k' b =>
  match op with
  | .add=>some (k=k',.int k (k.wrap (a+b)))
  | .sub=>some (k=k',.int k (k.wrap (a - b)))
  | .mul=>some (k=k',.int k (k.wrap (a * b)))
  | .quo=>some (k=k'∧b≠0,.int k (k.wrap (a.tdiv b)))
  | .rem=>some (k=k'∧b≠0,.int k (a.tmod b))
  | .and=>some (k=k',.int k (intBitsA .and k a b))
  | .or=>some (k=k',.int k (intBitsA .or k a b))
  | .xor=>some (k=k',.int k (intBitsA .xor k a b))
  | .andNot=>some (k=k',.int k (intBitsA .andNot k a b))
  | .shl=>some (0≤b,.int k (k.wrap (a * 2 ^ (min b.toNat k.bits))))
  | .shr=>some (0≤b,.int k (a.fdiv (2 ^ (min b.toNat k.bits))))
  | .eql=>some (k=k',.bool (a==b))
  | .neq=>some (k=k',.bool (a != b))
  | .lss=>some (k=k',.bool (decide (a < b)))
  | .leq=>some (k=k',.bool (decide (a≤b)))
  | .gtr=>some (k=k',.bool (decide (b < a)))
  | .geq=>some (k=k',.bool (decide (b≤a)))
 | .str a,.str b =>
  match op with
  | .add=>some (((a.length+b.length:Nat):Int)≤9223372036854775807,.str (a++b))
  | .eql=>some (True,.bool (a==b))
  | .neq=>some (True,.bool (a != b))
  | .lss=>some (True,.bool (Op.bytesLess a b))
  | .leq=>some (True,.bool (!Op.bytesLess b a))
  | .gtr=>some (True,.bool (Op.bytesLess b a))
  | .geq=>some (True,.bool (!Op.bytesLess a b))
  | _=>none
 | _,_=>none
theorem toList_data (b:ByteArray):b.toList=b.data.toList:=by rw [ByteArray.toList_eq]
theorem bytesLess_irrefl:∀ l,Op.bytesLess l l=false
 | []=>by simp [Op.bytesLess]
 | a::l=>by simp [Op.bytesLess,bytesLess_irrefl l]
theorem bytesLess_total:∀ a b,a≠b→(Op.bytesLess a b=!Op.bytesLess b a)
 | [],[],h=>absurd rfl h
 | [],_::_,_=>by simp [Op.bytesLess]
 | _::_,[],_=>by simp [Op.bytesLess]
 | x::a,y::b,h=>by
  simp only [Op.bytesLess]
  by_cases e:x=y
  ·subst e
   have:=bytesLess_total a b (fun e=>h (by rw [e]))
   simp [this]
  ·have e':¬ y=x:=fun q=>e q.symm
   simp only [show (x==y)=false by simp [e],show (y==x)=false by simp [e'],Bool.false_and,Bool.or_false]
   have:x.toNat≠y.toNat:=fun q=>e (UInt8.toNat_inj.1 q)
   rw [Bool.eq_iff_iff]
   simp only [decide_eq_true_eq,Bool.not_eq_true',decide_eq_false_iff_not,UInt8.lt_iff_toNat_lt]
   omega
theorem le_less (a b:List UInt8):(Op.bytesLess a b || a==b)=!Op.bytesLess b a:=by
 by_cases e:a=b
 ·subst e; simp [bytesLess_irrefl]
 ·rw [bytesLess_total a b e]; simp [e]
theorem run_eqGuard_not {P:Program} {w:World} {op:BinOp} {t:TypeId} {x y:Operand} {a b:Value} (h1:a≠.nilIface) (h2:∀ c,a≠.agg c):(eqGuard op t x y a b).run P w=.ok () w:=by
 unfold eqGuard
 split
 all_goals (cases a <;> first | exact absurd rfl h1 | exact absurd rfl (h2 _) | simp)
theorem bin_ok {P:Program} {o:Oper} {op:BinOp} {t yt:TypeId} {x y:Operand} {ev:Operand→AV} {h:List AObj} {p:Prop} {r:AV} (ho:o.op=.binOp op t x y yt) (hb:bin op (ev x) (ev y)=some (p,r)):PopOk P o ev h p r:=by
 intro hp a w β fr L hr
 rw [ho] at hr
 have hx:=hr x (by simp [Op.operands])
 have hy:=hr y (by simp [Op.operands])
 simp only [execOp,ho]
 unfold bin at hb
 split at hb
 ·rename_i k a1 k' b1 e1 e2
  rw [e1] at hx; rw [e2] at hy
  simp only [Rep] at hx hy
  rw [hx,hy]
  simp only [Sem.run_bind,run_eqGuard_not (P:=P) (w:=w) (op:=op) (t:=t) (x:=x) (y:=y) (a:=.int k a1) (b:=.int k' b1) (by simp) (by simp),Result.andThen_ok]
  suffices key:∃ v,(Go.binOp op t (.int k a1) (.int k' b1)).run P w=.ok v w∧Rep β fr w.heap r v by
   obtain ⟨v,h1,h2⟩:=key
   exact ⟨v,w,by rw [h1]; rfl,rfl,rfl,rfl,rfl,h2⟩
  cases op <;> simp only [Option.some.injEq,Prod.mk.injEq] at hb <;> obtain ⟨hq,rfl⟩:=hb <;> rw [← hq] at hp <;> simp only [Rep,exists_eq_right]
  case shl=>simp [Go.binOp,Op.shift,show ¬ b1 < 0 from by omega]
  case shr=>simp [Go.binOp,Op.shift,show ¬ b1 < 0 from by omega]
  case quo=>simp [Go.binOp,Op.intDiv,hp.1,hp.2]
  case rem=>simp [Go.binOp,Op.intDiv,hp.1,hp.2]
  all_goals subst hp
  all_goals simp [Go.binOp,Op.intArith,Op.intBits,Op.intCmp,intBitsA]
 ·rename_i a1 b1 e1 e2
  rw [e1] at hx; rw [e2] at hy
  simp only [Rep] at hx hy
  obtain ⟨s1,hx,rfl⟩:=hx
  obtain ⟨s2,hy,rfl⟩:=hy
  rw [hx,hy]
  simp only [Sem.run_bind,run_eqGuard_not (P:=P) (w:=w) (op:=op) (t:=t) (x:=x) (y:=y) (a:=.string s1) (b:=.string s2) (by simp) (by simp),Result.andThen_ok]
  cases op <;> simp only [Option.some.injEq,Prod.mk.injEq,reduceCtorEq] at hb <;> obtain ⟨hq,rfl⟩:=hb <;> rw [← hq] at hp
  all_goals simp only [Go.binOp,Op.stringOp,toList_data,le_less]
  case add =>
   have hz:¬ (((s1.size+s2.size:Nat):Int) > IntKind.i64.max):=by
    have e:IntKind.i64.max=9223372036854775807:=by decide
    rw [e]
    have e1:s1.size=s1.data.toList.length:=by simp
    have e2:s2.size=s2.data.toList.length:=by simp
    omega
   rw [if_neg hz]
   exact ⟨_,w,rfl,rfl,rfl,rfl,rfl,by simp [Rep]⟩
  all_goals exact ⟨_,w,rfl,rfl,rfl,rfl,rfl,by simp [Rep,bne,le_less]⟩
 ·cases hb
end Go.Proofs.Vale
namespace Go.Proofs.Vale
def flatI (P:Program) (t:TypeId):Bool :=
 match P.underlying t with
 | some (.struct fs)=>!P.stoodInHeld t && !P.eqGuardType P.depth t && fs.toList.zipIdx.all fun (f,j)=>f.offset==j && decide (f.name ≠ "_")
 | some (.array n e)=>!P.eqGuardType P.depth t && P.cellsOf e==1
 | _=>false
def flatK (P:Program) (t:TypeId):List TK :=
 match P.underlying t with
 | some (.struct fs)=>fs.toList.map fun f=>tk P f.type
 | some (.array n e)=>List.replicate n (tk P e)
 | _=>[]
def avK:AV→TK
 | .int k _=>.int k
 | .bool _=>.bool
 | .str _=>.str
 | _=>.other
theorem tk_int {P:Program} {t:TypeId} {k:IntKind} (h:tk P t=.int k):P.underlying t=some (.int k):=by
 unfold tk at h; split at h <;> simp_all
theorem tk_bool {P:Program} {t:TypeId} (h:tk P t=.bool):P.underlying t=some .bool:=by
 unfold tk at h; split at h <;> simp_all
theorem tk_str {P:Program} {t:TypeId} (h:tk P t=.str):P.underlying t=some .string:=by
 unfold tk at h; split at h <;> simp_all
theorem tk_ptr {P:Program} {t:TypeId} (h:tk P t=.ptr):∃ e,P.underlying t=some (.pointer e):=by
 unfold tk at h; split at h <;> simp_all
theorem tk_sl {P:Program} {t e:TypeId} (h:tk P t=.sl e):P.underlying t=some (.slice e):=by
 unfold tk at h; split at h <;> simp_all
def eqo (P:Program) (t:TypeId) (x y:AV):Option (Prop × Bool) :=
 match x,y with
 | .bool a,.bool b=>some (tk P t=.bool,a==b)
 | .nilp,.nilp=>some (tk P t=.ptr,true)
 | .nilp,.ptr _=>some (tk P t=.ptr,false)
 | .ptr _,.nilp=>some (tk P t=.ptr,false)
 | .nilp,.ref ..=>some (tk P t=.ptr,false)
 | .ref ..,.nilp=>some (tk P t=.ptr,false)
 | .agg xs,.agg ys=>(match eqCells xs ys with | some b=>some (flatI P t=true∧xs.map avK=flatK P t,b) | none=>none)
 | _,_=>none
theorem run_equalIn_cell {P : Program} {w : World} {β : Beta} {fr : Nat → Prop} {t : TypeId} {d : Nat} {x y : AV} {u v : Value} {b : Bool} (ht : avK x = tk P t) (e : eqA x y = some b) (ru : Rep β fr w.heap x u) (rv : Rep β fr w.heap y v) :
  (isAgg t).run P w=.ok false w∧(Op.equalIn (d+1) t u v).run P w=.ok b w:=by
 unfold eqA at e
 split at e
 ·rename_i k a k' a'
  split at e
  ·rename_i hk; subst hk
   injection e with e; subst e
   have q:=tk_int ht.symm
   simp only [Rep] at ru rv; subst ru rv
   exact ⟨by simp [isAgg,run_underlying q],run_equalIn_int w d t k k a a' q⟩
  ·cases e
 ·injection e with e; subst e
  have q:=tk_bool ht.symm
  simp only [Rep] at ru rv; subst ru rv
  exact ⟨by simp [isAgg,run_underlying q],run_equalIn_bool' w d t _ _ q⟩
 ·injection e with e; subst e
  have q:=tk_str ht.symm
  simp only [Rep] at ru rv
  obtain ⟨u1,rfl,rfl⟩:=ru
  obtain ⟨v1,rfl,rfl⟩:=rv
  refine ⟨by simp [isAgg,run_underlying q], ?_⟩
  rw [run_equalIn_string w d t _ _ q,toList_data,toList_data]
 ·cases e
theorem run_eqFields {P : Program} {w : World} {β : Beta} {fr : Nat → Prop} (us vs : Array Value) : ∀ (fs : List Field) (k d : Nat) (xs ys : List AV) (b : Bool),
  (fs.zipIdx k).all (fun (f,j)=>f.offset==j && decide (f.name ≠ "_"))=true →
  eqCells xs ys=some b→xs.map avK=fs.map (fun f=>tk P f.type) →
  (∀ i (h:i < xs.length),∃ u,us[k+i]? = some u∧Rep β fr w.heap (xs[i]) u)→(∀ i (h:i < ys.length),∃ u,vs[k+i]? = some u∧Rep β fr w.heap (ys[i]) u) →
  (Op.eqFields (d+1) us vs fs).run P w=.ok b w
 | [],k,d,xs,ys,b,hf,he,hl,hx,hy=>by
  obtain rfl:xs=[]:=by simpa using hl
  cases ys with
  | nil=>simp [eqCells] at he; subst he; rfl
  | cons y ys=>simp [eqCells] at he
 | f::fs,k,d,xs,ys,b,hf,he,hl,hx,hy=>by
  cases xs with
  | nil=>simp at hl
  | cons x xs =>
   cases ys with
   | nil=>simp [eqCells] at he
   | cons y ys =>
    simp only [List.zipIdx_cons,List.all_cons,Bool.and_eq_true,beq_iff_eq,decide_eq_true_eq] at hf
    obtain ⟨⟨h1,h2⟩,h4⟩:=hf
    simp only [List.map_cons,List.cons.injEq] at hl
    simp only [eqCells] at he
    split at he
    ·rename_i b1 b2 e1 e2
     injection he with he; subst he
     have ih:=run_eqFields (P:=P) (w:=w) (β:=β) (fr:=fr) us vs fs (k+1) d xs ys b2 h4 e2 hl.2
      (fun i hi=>by have:=hx (i+1) (by simp; omega); rw [show k+(i+1)=k+1+i by omega] at this; exact this)
      (fun i hi=>by have:=hy (i+1) (by simp; omega); rw [show k+(i+1)=k+1+i by omega] at this; exact this)
     obtain ⟨u,hu,ru⟩:=hx 0 (by simp)
     obtain ⟨v,hv,rv⟩:=hy 0 (by simp)
     simp only [Nat.add_zero] at hu hv
     simp only [List.getElem_cons_zero] at ru rv
     obtain ⟨nag,heq⟩:=run_equalIn_cell (P:=P) (w:=w) (d:=d) hl.1 e1 ru rv
     have hp1:(part f.type us f.offset).run P w=.ok u w:=by simp [part,nag,h1,hu]
     have hp2:(part f.type vs f.offset).run P w=.ok v w:=by simp [part,nag,h1,hv]
     simp only [Op.eqFields,if_pos h2,Sem.run_bind,hp1,hp2,heq,Result.andThen_ok]
     cases b1 with
     | true=>simpa using ih
     | false=>simp
    ·cases he
theorem run_eqRow {P : Program} {w : World} {β : Beta} {fr : Nat → Prop} (us vs : Array Value) (e : TypeId) (he : P.cellsOf e = 1) : ∀ (n k d : Nat) (xs ys : List AV) (b : Bool),
  eqCells xs ys=some b→xs.map avK=List.replicate n (tk P e) →
  (∀ i (h:i < xs.length),∃ u,us[k+i]? = some u∧Rep β fr w.heap (xs[i]) u)→(∀ i (h:i < ys.length),∃ u,vs[k+i]? = some u∧Rep β fr w.heap (ys[i]) u) →
  (Op.eqItems (d+1) e (P.cellsOf e) us vs (List.range' k n)).run P w=.ok b w
 | 0,k,d,xs,ys,b,hq,hl,hx,hy=>by
  obtain rfl:xs=[]:=by simpa using hl
  cases ys with
  | nil=>simp [eqCells] at hq; subst hq; rfl
  | cons y ys=>simp [eqCells] at hq
 | n+1,k,d,xs,ys,b,hq,hl,hx,hy=>by
  cases xs with
  | nil=>simp [List.replicate_succ] at hl
  | cons x xs =>
   cases ys with
   | nil=>simp [eqCells] at hq
   | cons y ys =>
    simp only [List.map_cons,List.replicate_succ,List.cons.injEq] at hl
    simp only [eqCells] at hq
    split at hq
    ·rename_i b1 b2 e1 e2
     injection hq with hq; subst hq
     have ih:=run_eqRow (P:=P) (w:=w) (β:=β) (fr:=fr) us vs e he n (k+1) d xs ys b2 e2 hl.2
      (fun i hi=>by have:=hx (i+1) (by simp; omega); rw [show k+(i+1)=k+1+i by omega] at this; exact this)
      (fun i hi=>by have:=hy (i+1) (by simp; omega); rw [show k+(i+1)=k+1+i by omega] at this; exact this)
     obtain ⟨u,hu,ru⟩:=hx 0 (by simp)
     obtain ⟨v,hv,rv⟩:=hy 0 (by simp)
     simp only [Nat.add_zero] at hu hv
     simp only [List.getElem_cons_zero] at ru rv
     obtain ⟨nag,heq⟩:=run_equalIn_cell (P:=P) (w:=w) (d:=d) hl.1 e1 ru rv
     have hp1:(part e us (k * P.cellsOf e)).run P w=.ok u w:=by simp [part,nag,he,hu]
     have hp2:(part e vs (k * P.cellsOf e)).run P w=.ok v w:=by simp [part,nag,he,hv]
     simp only [List.range'_succ,Op.eqItems,Sem.run_bind,hp1,hp2,heq,Result.andThen_ok]
     cases b1 with
     | true=>simpa using ih
     | false=>simp
    ·cases hq
theorem run_equalIn_nil1 {P:Program} {w:World} {t el:TypeId} (d:Nat) (q:P.underlying t=some (.pointer el)) (b:Option Addr):(Op.equalIn (d+1) t (.pointer none) (.pointer b)).run P w=.ok b.isNone w:=by
 simp only [Op.equalIn,Sem.run_bind,run_underlying q,Result.andThen_ok,Sem.run_pure]
theorem run_equalIn_nil2 {P:Program} {w:World} {t el:TypeId} (d:Nat) (q:P.underlying t=some (.pointer el)) (a:Addr):(Op.equalIn (d+1) t (.pointer (some a)) (.pointer none)).run P w=.ok false w:=by
 simp only [Op.equalIn,Sem.run_bind,run_underlying q,Result.andThen_ok,Sem.run_pure]
theorem run_equal {P : Program} {w : World} {β : Beta} {fr : Nat → Prop} {t : TypeId} {x y : AV} {u v : Value} {p : Prop} {b : Bool} (e : eqo P t x y = some (p, b)) (hp : p) (ru : Rep β fr w.heap x u) (rv : Rep β fr w.heap y v) (op : BinOp) (X Y : Operand) :
  (eqGuard op t X Y u v).run P w=.ok () w∧(Op.equal t u v).run P w=.ok b w:=by
 have hd:Op.maxDepth=9998+1+1:=rfl
 unfold eqo at e
 split at e
 ·injection e with e; injection e with e1 e2; subst e1 e2
  simp only [Rep] at ru rv; subst ru rv
  exact ⟨run_eqGuard_not (by simp) (by simp),run_equalIn_bool' w _ t _ _ (tk_bool hp)⟩
 ·injection e with e; injection e with e1 e2; subst e1 e2
  simp only [Rep] at ru rv; subst ru rv
  obtain ⟨el,q⟩:=tk_ptr hp
  exact ⟨run_eqGuard_not (by simp) (by simp),run_equalIn_nil1 _ q _⟩
 ·injection e with e; injection e with e1 e2; subst e1 e2
  simp only [Rep] at ru rv; subst ru; obtain ⟨a,rfl,-⟩:=rv
  obtain ⟨el,q⟩:=tk_ptr hp
  exact ⟨run_eqGuard_not (by simp) (by simp),run_equalIn_nil1 _ q _⟩
 ·injection e with e; injection e with e1 e2; subst e1 e2
  simp only [Rep] at ru rv; subst rv; obtain ⟨a,rfl,-⟩:=ru
  obtain ⟨el,q⟩:=tk_ptr hp
  exact ⟨run_eqGuard_not (by simp) (by simp),run_equalIn_nil2 _ q _⟩
 ·injection e with e; injection e with e1 e2; subst e1 e2
  simp only [Rep] at ru rv; subst ru; obtain ⟨a,-,rfl⟩:=rv
  obtain ⟨el,q⟩:=tk_ptr hp
  exact ⟨run_eqGuard_not (by simp) (by simp),run_equalIn_nil1 _ q _⟩
 ·injection e with e; injection e with e1 e2; subst e1 e2
  simp only [Rep] at ru rv; subst rv; obtain ⟨a,-,rfl⟩:=ru
  obtain ⟨el,q⟩:=tk_ptr hp
  exact ⟨run_eqGuard_not (by simp) (by simp),run_equalIn_nil2 _ q _⟩
 ·rename_i xs ys
  split at e
  ·rename_i b1 hb
   injection e with e; injection e with e1 e2; subst e1 e2
   simp only [Rep] at ru rv
   obtain ⟨us,rfl,hu,ru⟩:=ru
   obtain ⟨vs,rfl,hv,rv⟩:=rv
   obtain ⟨h1,h2⟩:=hp
   unfold flatI at h1
   unfold flatK at h2
   split at h1
   ·rename_i fs q
    rw [q] at h2
    simp only [Bool.and_eq_true,Bool.not_eq_true'] at h1
    obtain ⟨⟨h3,h4⟩,h5⟩:=h1
    have hfo:P.fieldsOf t=fs:=by simp [Program.fieldsOf,q]
    refine ⟨?_, ?_⟩
    ·unfold eqGuard
     split <;> simp [h4]
    ·rw [Op.equal,hd,run_equalIn_struct w _ t us vs (by rw [hfo]; exact q) h3,hfo]
     exact run_eqFields us vs fs.toList 0 _ xs ys b1 h5 hb h2 (fun i hi=>by simpa using ru i hi) (fun i hi=>by simpa using rv i hi)
   ·rename_i n el q
    rw [q] at h2
    simp only [Bool.and_eq_true,Bool.not_eq_true',beq_iff_eq] at h1
    obtain ⟨h3,h4⟩:=h1
    have hi:∃ i,P.info? el=some i:=by
     cases hi:P.info? el with
     | none=>simp [Program.cellsOf,hi] at h4
     | some i=>exact ⟨i,rfl⟩
    obtain ⟨i,hi⟩:=hi
    refine ⟨?_, ?_⟩
    ·unfold eqGuard
     split <;> simp [h3]
    ·rw [Op.equal,hd,run_equalIn_array w _ us vs q hi,List.range_eq_range']
     exact run_eqRow us vs el h4 n 0 _ xs ys b1 hb h2 (fun i hi=>by simpa using ru i hi) (fun i hi=>by simpa using rv i hi)
   ·cases h1
  ·cases e
 ·cases e
end Go.Proofs.Vale
namespace Go.Proofs.Vale
theorem AV.cells_agg (cs:List AV):(AV.agg cs).cells=cs:=rfl
def leaf:AV→Bool
 | .agg _=>false
 | _=>true
theorem leaf_cells {x:AV} (h:leaf x=true):x.cells=[x]:=by cases x <;> simp_all [leaf,AV.cells]
def ldA (P:Program) (t:TypeId) (h:List AObj) (x:AV):PV :=
 match tI P t,x with
 | some (n,ag),.ptr y=>some (n≤y.cells.length∧(ag=false→n=1),partA y 0 n ag)
 | some (n,ag),.ref tt g s i j =>
  match h[tt]? with
  | some (.arr g' s' l)=>some (g=g'∧s=s'∧i < l.length∧j+n≤(l.getD i .any).cells.length∧(ag=false→n=1),partA (l.getD i .any) j n ag)
  | _=>none
 | _,_=>none
def faA (P:Program) (s f:Nat) (x:AV):PV :=
 match fI P s f,x with
 | some (off,n,ag),.ptr y=>some (off+n≤y.cells.length∧(ag=false→n=1∧leaf (y.cells.getD off .any)=true),.ptr (partA y off n ag))
 | some (off,n,ag),.ref t g s i j=>some (True,.ref t g s i (j+off))
 | _,_=>none
def fdA (P:Program) (s f:Nat) (x:AV):PV :=
 match fI P s f,x with
 | some (off,n,ag),.agg cs=>some (off+n≤cs.length∧(ag=false→n=1),partA (.agg cs) off n ag)
 | _,_=>none
def aI (P:Program) (t:TypeId):Option (Nat × Nat × Bool) :=
 match P.underlying t with
 | some (.array n e)=>(match tI P e with | some (s,a)=>some (n,s,a) | none=>none)
 | _=>none
def ixA (P:Program) (t:TypeId) (x i:AV):PV :=
 match eI P t,x,i with
 | some (e,es,by_),.fz c l,.int k n=>some (0≤n∧n < l.length∧(l.getD n.toNat .any).cells.length=es,.ptr (l.getD n.toNat .any))
 | some (e,es,by_),.sl tt g s off len,.int k n=>some (0≤n∧n < len∧s=es,.ref tt g s (off+n.toNat) 0)
 | none,.ref tt g s i j,.int k n=>(match aI P t with
  | some (m,es,_)=>some (0≤n∧n < (m:Int),.ref tt g s i (j+n.toNat * es))
  | none=>none)
 | none,.ptr y,.int k n=>(match aI P t with
  | some (m,es,ag)=>some (0≤n∧n < (m:Int)∧n.toNat * es+es≤y.cells.length∧(ag=false→es=1∧leaf (y.cells.getD (n.toNat * es) .any)=true),.ptr (partA y (n.toNat * es) es ag))
  | none=>none)
 | _,_,_=>none
def inA (P:Program) (t:TypeId) (x i:AV):PV :=
 match x,i with
 | .str s,.int k n=>some (tk P t=.str∧0≤n∧n < s.length,.int .u8 (s.getD n.toNat 0).toNat)
 | .agg cs,.int k n=>(match aI P t with
  | some (m,s,ag)=>some (0≤n∧n < m∧n.toNat * s+s≤cs.length∧(ag=false→s=1),partA (.agg cs) (n.toNat * s) s ag)
  | none=>none)
 | _,_=>none
def obA (o:Option AV) (d:Int):Option Int :=
 match o with
 | none=>some d
 | some (.int _ n)=>some n
 | _=>none
def slT (tt g s off:Nat) (l h:Int):AV:=if l=0 then .sl tt g s off h.toNat else if l < h then .sl tt g s (off+l.toNat) (h - l).toNat else .fz false []
def slT3 (tt g s off:Nat) (h m:Int):AV:=if m=0 then .fz true [] else .sl tt g s off h.toNat
def slOwn (ei:Option (TypeId × Nat × Nat)) (tt g s off len:Nat) (lo hi mx:Option AV):PV :=
 match ei,obA hi len with
 | some (e,es,by_),some h =>
  (match mx with
  | none=>(match lo with
   | none=>some (0≤h∧h≤len,.sl tt g s off h.toNat)
   | some (.int _ l)=>some (0≤l∧l≤h∧h≤len∧s=es,slT tt g s off l h)
   | _=>none)
  | some (.int _ m)=>(match obA lo 0 with
   | some l=>some (hi.isSome=true∧l=0∧0≤h∧h≤m∧m≤len,slT3 tt g s off h m)
   | none=>none)
  | _=>none)
 | _,_=>none
def slA (P:Program) (t:TypeId) (x:AV) (lo hi mx:Option AV):PV :=
 match x with
 | .str s =>
  match mx,obA lo 0,obA hi s.length with
  | none,some l,some h=>some (tk P t=.str∧0≤l∧l≤h∧h≤s.length,.str ((s.take h.toNat).drop l.toNat))
  | _,_,_=>none
 | .fz c xs =>
  match eI P t,mx,obA lo 0,obA hi xs.length with
  | some (e,es,by_),none,some l,some h=>some (0≤l∧l≤h∧h≤xs.length∧(∀ x∈xs,x.cells.length=es),.fz (c && decide (h=xs.length)) ((xs.take h.toNat).drop l.toNat))
  | some (e,es,by_),some (.int _ m),some l,some h=>some (hi.isSome=true∧0≤l∧l≤h∧h≤m∧m≤xs.length∧(∀ x∈xs,x.cells.length=es),.fz (decide (m=h)) ((xs.take h.toNat).drop l.toNat))
  | _,_,_,_=>none
 | .sl tt g s off len=>slOwn (eI P t) tt g s off len lo hi mx
 | _=>none
def byteOf:AV→UInt8
 | .int _ n=>UInt8.ofNat n.toNat
 | _=>0
def isByte:AV→Bool
 | .int .u8 _=>true
 | _=>false
def bytesA (s:List UInt8):List AV:=s.map fun b=>.int .u8 b.toNat
def encA (n:Int):List UInt8:=(Utf8.encode n).data.toList
def cvA (P:Program) (src dst:TypeId) (h:List AObj) (x:AV):PV :=
 match x with
 | .int k n=>(match tk P dst with | .int k'=>some ((∃ d,P.underlying src=some d),.int k' (k'.wrap n)) | .str=>(match tk P src with | .int _=>some (True,.str (encA n)) | _=>none) | _=>none)
 | .str s=>(match tk P dst with | .str=>some ((∃ d,P.underlying src=some d),.str s) | _=>none)
 | .fz c l=>(match tk P src,tk P dst with | .sl e,.str=>some (tk P e=.int .u8∧l.all isByte=true,.str (l.map byteOf)) | _,_=>none)
 | .sl t g s off len=>(match tk P src,tk P dst,h[t]? with
  | .sl e,.str,some (.arr g' s' l)=>some (tk P e=.int .u8∧g=g'∧s=1∧s'=1∧off+len≤l.length∧l.all isByte=true,.str (((l.drop off).take len).map byteOf))
  | _,_,_=>none)
 | _=>none
theorem Lay.arr {β : Beta} {fr : Nat → Prop} {H : Array Obj} {h : List AObj} (L : Lay β fr H h) {t g s i : Nat} {l : List AV} (ht : h[t]? = some (.arr g s l)) (hi : i < l.length) {b : Nat} (hb : β t g = some (some b)) :
  VarAt β fr H (l[i]) b (i * s):=by
 have:=L.obj t _ ht
 rcases this with ⟨h1,h2⟩ | ⟨b',c,e,f,h1,h2,h3,h4,h5,h6⟩
 ·subst h2; simp at hi
 ·rw [hb] at h1; injection h1 with h1; injection h1 with h1; subst h1
  intro j hj
  obtain ⟨u,hu,hr⟩:=h6 i hi j hj
  exact ⟨u,by simp [cellAt,h2,hu],hr⟩
theorem getD_get {l:List AV} {i:Nat} (h:i < l.length):l.getD i .any=l[i]:=by
 rw [List.getD_eq_getElem?_getD,List.getElem?_eq_getElem h]; rfl
theorem ld_ok {P:Program} {o:Oper} {t:TypeId} {x:Operand} {ev:Operand→AV} {h:List AObj} {p:Prop} {r:AV} (ho:o.op=.load t x) (hb:ldA P t h (ev x)=some (p,r)):PopOk P o ev h p r:=by
 intro hp a w β fr L hr
 rw [ho] at hr
 have hx:=hr x (by simp [Op.operands])
 simp only [execOp,ho,Instr.loadAt]
 suffices key:∃ (ad:Addr) (v:Value),a.eval x=.pointer (some ad)∧(loadVar t ad).run P w=.ok v w∧Rep β fr w.heap r v by
  obtain ⟨ad,v,h1,h2,h3⟩:=key
  refine ⟨v,w, ?_,rfl,rfl,rfl,rfl,h3⟩
  simp [h1,Instr.sureAddr,h2]
 unfold ldA at hb
 split at hb
 ·rename_i n ag y e1 e2
  injection hb with hb; injection hb with hq hr'; subst hr'
  rw [← hq] at hp
  rw [e2] at hx; simp only [Rep] at hx
  obtain ⟨ad,hv,hf,hs,hc⟩:=hx
  obtain ⟨v,h1,h2⟩:=run_loadPart (β:=β) (fr:=fr) (x:=y) (a:=ad) (j:=0) e1 hs hc (by omega) hp.2 (a':=ad) (by obtain ⟨b,o,s⟩:=ad; simp only at hs; subst hs; rfl)
  exact ⟨ad,v,hv,h1,h2⟩
 ·rename_i n ag tt g s i j e1 e2
  split at hb
  ·rename_i g' s' l ht
   injection hb with hb; injection hb with hq hr'; subst hr'
   rw [← hq] at hp
   obtain ⟨rfl,rfl,hi,hn,h1⟩:=hp
   rw [e2] at hx; simp only [Rep] at hx
   obtain ⟨b,hb,hv⟩:=hx
   rw [getD_get hi] at hn ⊢
   obtain ⟨v,h3,h4⟩:=run_loadPart (β:=β) (fr:=fr) (x:=l[i]) (a:=⟨b,i * s,none⟩) (j:=j) e1 rfl (L.arr ht hi hb) hn h1 (a':=⟨b,i * s+j,none⟩) rfl
   exact ⟨_,v,hv,h3,h4⟩
  ·cases hb
 ·cases hb
theorem run_fieldPlace {P:Program} {s f off n:Nat} {ag:Bool} (h:fI P s f=some (off,n,ag)):∃ fs fd,P.underlying s=some (.struct fs)∧fs[f]? = some fd∧tI P fd.type=some (n,ag)∧fd.offset=off∧n≠0:=by
 unfold fI at h
 split at h
 ·rename_i fs hs
  split at h
  ·rename_i fd hf
   split at h
   ·rename_i n' a' ht
    split at h
    ·cases h
    ·rename_i hn
     injection h with h; injection h with h1 h2; injection h2 with h2 h3; subst h1 h2 h3
     exact ⟨fs,fd,hs,hf,ht,rfl,hn⟩
   ·cases h
  ·cases h
 ·cases h
theorem fa_ok {P:Program} {o:Oper} {s f:Nat} {x:Operand} {ev:Operand→AV} {h:List AObj} {p:Prop} {r:AV} (ho:o.op=.fieldAddr s x f) (hb:faA P s f (ev x)=some (p,r)):PopOk P o ev h p r:=by
 intro hp a w β fr L hr
 rw [ho] at hr
 have hx:=hr x (by simp [Op.operands])
 simp only [execOp,ho,Instr.fieldAt]
 unfold faA at hb
 split at hb
 ·rename_i off n ag y e1 e2
  injection hb with hb; injection hb with hq hr'; subst hr'
  rw [← hq] at hp
  rw [e2] at hx; simp only [Rep] at hx
  obtain ⟨ad,hv,hf,hs,hc⟩:=hx
  obtain ⟨fs,fd,h1,h2,h3,h4,h5⟩:=run_fieldPlace e1
  refine ⟨.pointer (some (ad.add off)),w, ?_,rfl,rfl,rfl,rfl, ?_⟩
  ·simp [run_underlying h1,h2,hv,Instr.sureAddr,fieldPlace,run_sizeOf h3,h5,h4]
  ·simp only [Rep]
   refine ⟨_,rfl,by rw [add_none hs]; exact hf,by rw [add_none hs], ?_⟩
   rw [add_none hs]
   cases ag with
   | false =>
    obtain ⟨h6,h7⟩:=hp.2 rfl
    simp only [partA,Bool.false_eq_true,if_false]
    intro j hj
    have hj':=hj
    rw [leaf_cells h7] at hj'
    have:j=0:=by simpa using hj'
    subst this
    obtain ⟨u,hu,hr⟩:=hc off (by omega)
    refine ⟨u,by simpa using hu, ?_⟩
    simp only [leaf_cells h7,List.getElem_cons_zero]
    rw [getD_get (by omega)]; exact hr
   | true =>
    simp only [partA,if_true,AV.cells_agg]
    intro j hj
    have hj':j < n:=by simp at hj; omega
    obtain ⟨u,hu,hr⟩:=hc (off+j) (by omega)
    refine ⟨u,by rw [Nat.add_assoc]; exact hu, ?_⟩
    simpa using hr
 ·rename_i off n ag t g s' i j e1 e2
  injection hb with hb; injection hb with hq hr'; subst hr'
  rw [e2] at hx; simp only [Rep] at hx
  obtain ⟨b,hb,hv⟩:=hx
  obtain ⟨fs,fd,h1,h2,h3,h4,h5⟩:=run_fieldPlace e1
  refine ⟨.pointer (some ((⟨b,i * s'+j,none⟩:Addr).add off)),w, ?_,rfl,rfl,rfl,rfl, ?_⟩
  ·simp [run_underlying h1,h2,hv,Instr.sureAddr,fieldPlace,run_sizeOf h3,h5,h4]
  ·simp only [Rep]
   exact ⟨b,hb,by rw [add_none rfl]; simp [Nat.add_assoc]⟩
 ·cases hb
theorem fd_ok {P:Program} {o:Oper} {s f:Nat} {x:Operand} {ev:Operand→AV} {h:List AObj} {p:Prop} {r:AV} (ho:o.op=.field s x f) (hb:fdA P s f (ev x)=some (p,r)):PopOk P o ev h p r:=by
 intro hp a w β fr L hr
 rw [ho] at hr
 have hx:=hr x (by simp [Op.operands])
 simp only [execOp,ho,Instr.field]
 unfold fdA at hb
 split at hb
 ·rename_i off n ag cs e1 e2
  injection hb with hb; injection hb with hq hr'; subst hr'
  rw [← hq] at hp
  rw [e2] at hx; simp only [Rep] at hx
  obtain ⟨us,hv,hs,hc⟩:=hx
  obtain ⟨fs,fd,h1,h2,h3,h4,h5⟩:=run_fieldPlace e1
  obtain ⟨v,h6,h7⟩:=run_part (β:=β) (fr:=fr) (w:=w) h3 hs hc hp.1 hp.2
  refine ⟨v,w, ?_,rfl,rfl,rfl,rfl,h7⟩
  simp [run_underlying h1,h2,hv,asAgg,h4,h6]
 ·cases hb
theorem ei_full {P:Program} {t e es b:Nat} (h:eI P t=some (e,es,b)):P.underlying t=some (.slice e)∧∃ i z,P.info? e=some i∧i.size=es∧i.bytes=b∧i.zero=some z∧z.cells.size=es:=by
 unfold eI at h
 split at h
 ·rename_i e' ht
  split at h
  ·rename_i i hi
   split at h
   ·rename_i z hz
    split at h
    ·rename_i hs
     simp only [Option.some.injEq,Prod.mk.injEq] at h
     obtain ⟨rfl,h2,h3⟩:=h
     exact ⟨ht,i,z,hi,h2,h3,hz,hs.trans h2⟩
    ·cases h
   ·cases h
  ·cases h
 ·cases h
theorem ei_spec {P:Program} {t e es b:Nat} (h:eI P t=some (e,es,b)):P.underlying t=some (.slice e)∧∃ i,P.info? e=some i∧i.size=es∧i.bytes=b:=by
 obtain ⟨h1,i,z,h2,h3,h4,-⟩:=ei_full h
 exact ⟨h1,i,h2,h3,h4⟩
theorem run_sizeOf' {P:Program} {e:TypeId} {i:TypeInfo} (h:P.info? e=some i) (w:World):(Go.sizeOf e).run P w=.ok i.size w:=by simp [Go.sizeOf,typeInfo,h]
theorem run_typeInfo' {P:Program} {e:TypeId} {i:TypeInfo} (h:P.info? e=some i) (w:World):(typeInfo e).run P w=.ok i w:=by simp [typeInfo,h]
theorem ix_ok {P:Program} {o:Oper} {t:TypeId} {x i:Operand} {ev:Operand→AV} {h:List AObj} {p:Prop} {r:AV} (ho:o.op=.indexAddr t x i) (hb:ixA P t (ev x) (ev i)=some (p,r)):PopOk P o ev h p r:=by
 intro hp a w β fr L hr
 rw [ho] at hr
 have hx:=hr x (by simp [Op.operands])
 have hi:=hr i (by simp [Op.operands])
 simp only [execOp,ho,Instr.indexAt]
 unfold ixA at hb
 split at hb
 ·rename_i e es by_ c l k n e1 e2 e3
  injection hb with hb; injection hb with hq hr'; subst hr'
  rw [← hq] at hp
  obtain ⟨h0,h1,h2⟩:=hp
  rw [e2] at hx; rw [e3] at hi; simp only [Rep] at hx hi
  obtain ⟨ao,cap,hv,h3,h4,h5⟩:=hx
  have hn:n.toNat < l.length:=by omega
  obtain ⟨ad,s,rfl,hf,hs,hu,hc⟩:=h5 (by intro e; subst e; simp at hn)
  obtain ⟨ht,inf,hi1,hi2,hi3⟩:=ei_spec e1
  have hss:s=es:=by rw [getD_get hn] at h2; rw [← hu _ (List.getElem_mem hn)]; exact h2
  subst hss
  refine ⟨.pointer (some (ad.add (n.toNat * s))),w, ?_,rfl,rfl,rfl,rfl, ?_⟩
  ·simp [hi,hv,asIntOf,run_underlying ht,run_sizeOf' hi1,hi2,h0,h1]
  ·simp only [Rep]
   refine ⟨_,rfl,by rw [add_none hs]; exact hf,by rw [add_none hs], ?_⟩
   rw [add_none hs,getD_get hn]
   intro j hj
   obtain ⟨u,hu,hr⟩:=hc _ hn j hj
   exact ⟨u,hu,hr⟩
 ·rename_i e es by_ tt g s off len k n e1 e2 e3
  injection hb with hb; injection hb with hq hr'; subst hr'
  rw [← hq] at hp
  obtain ⟨h0,h1,rfl⟩:=hp
  rw [e2] at hx; rw [e3] at hi; simp only [Rep] at hx hi
  obtain ⟨ht,inf,hi1,hi2,hi3⟩:=ei_spec e1
  rcases hx with ⟨_,_,h6,_⟩ | ⟨b,c,el,f,cap,hb,hH,hv,hs,hl⟩
  ·omega
  ·refine ⟨.pointer (some ((⟨b,off * s,none⟩:Addr).add (n.toNat * s))),w, ?_,rfl,rfl,rfl,rfl, ?_⟩
   ·simp [hi,hv,asIntOf,run_underlying ht,run_sizeOf' hi1,hi2,h0,h1]
   ·simp only [Rep]
    exact ⟨b,hb,by rw [add_none rfl]; simp [Nat.add_mul]⟩
 ·rename_i tt g s i' j k n e1 e2 e3
  split at hb
  ·rename_i m es ag he
   injection hb with hb; injection hb with hq hr'; subst hr'
   rw [← hq] at hp
   obtain ⟨h0,h1⟩:=hp
   rw [e2] at hx; rw [e3] at hi; simp only [Rep] at hx hi
   obtain ⟨b,hb,hv⟩:=hx
   unfold aI at he
   split at he
   ·rename_i m' e hu
    split at he
    ·rename_i s' a' hti
     simp only [Option.some.injEq,Prod.mk.injEq] at he
     obtain ⟨rfl,rfl,rfl⟩:=he
     refine ⟨.pointer (some ((⟨b,i' * s+j,none⟩:Addr).add (n.toNat * s'))),w, ?_,rfl,rfl,rfl,rfl, ?_⟩
     ·simp [hi,hv,asIntOf,run_underlying hu,run_sizeOf hti,Instr.sureAddr,h0,h1]
     ·simp only [Rep]
      exact ⟨b,hb,by rw [add_none rfl]; simp [Nat.add_assoc]⟩
    ·cases he
   ·cases he
  ·cases hb
 ·rename_i y k n e1 e2 e3
  split at hb
  ·rename_i m es ag he
   injection hb with hb; injection hb with hq hr'; subst hr'
   rw [← hq] at hp
   obtain ⟨h0,h1,h2,h3⟩:=hp
   rw [e2] at hx; rw [e3] at hi; simp only [Rep] at hx hi
   obtain ⟨ad,hv,hf,hs,hc⟩:=hx
   unfold aI at he
   split at he
   ·rename_i m' e hu
    split at he
    ·rename_i s' a' hti
     simp only [Option.some.injEq,Prod.mk.injEq] at he
     obtain ⟨rfl,rfl,rfl⟩:=he
     refine ⟨.pointer (some (ad.add (n.toNat * s'))),w, ?_,rfl,rfl,rfl,rfl, ?_⟩
     ·simp [hi,hv,asIntOf,run_underlying hu,run_sizeOf hti,Instr.sureAddr,h0,h1]
     ·simp only [Rep]
      refine ⟨_,rfl,by rw [add_none hs]; exact hf,by rw [add_none hs], ?_⟩
      rw [add_none hs]
      cases a' with
      | false =>
       obtain ⟨h6,h7⟩:=h3 rfl
       subst h6
       simp only [partA,Bool.false_eq_true,if_false]
       intro j hj
       have hj':=hj
       rw [leaf_cells h7] at hj'
       have:j=0:=by simpa using hj'
       subst this
       obtain ⟨u,hu,hr⟩:=hc (n.toNat * 1) (by omega)
       refine ⟨u,by simpa using hu, ?_⟩
       simp only [leaf_cells h7,List.getElem_cons_zero]
       rw [getD_get (by omega)]; exact hr
      | true =>
       simp only [partA,if_true,AV.cells_agg]
       intro j hj
       have hj':j < s':=by simp at hj; omega
       obtain ⟨u,hu,hr⟩:=hc (n.toNat * s'+j) (by omega)
       refine ⟨u,by rw [Nat.add_assoc]; exact hu, ?_⟩
       simpa using hr
    ·cases he
   ·cases he
  ·cases hb
 ·cases hb
theorem in_ok {P:Program} {o:Oper} {t:TypeId} {x i:Operand} {ev:Operand→AV} {h:List AObj} {p:Prop} {r:AV} (ho:o.op=.index t x i) (hb:inA P t (ev x) (ev i)=some (p,r)):PopOk P o ev h p r:=by
 intro hp a w β fr L hr
 rw [ho] at hr
 have hx:=hr x (by simp [Op.operands])
 have hi:=hr i (by simp [Op.operands])
 simp only [execOp,ho,Instr.index]
 unfold inA at hb
 split at hb
 ·rename_i s k n e2 e3
  injection hb with hb; injection hb with hq hr'; subst hr'
  rw [← hq] at hp
  obtain ⟨ht,h0,h1⟩:=hp
  rw [e2] at hx; rw [e3] at hi; simp only [Rep] at hx hi
  obtain ⟨b,hv,rfl⟩:=hx
  have hn : n.toNat < b.data.size := by have e : b.data.toList.length = b.data.size := by simp
                                        omega
  refine ⟨.int .u8 (b.data[n.toNat]).toNat,w, ?_,rfl,rfl,rfl,rfl, ?_⟩
  ·have hg:b[n.toNat]? = some (b.data[n.toNat]):=by
    have hn':n.toNat < b.size:=hn
    rw [getElem?_pos b n.toNat hn']; rfl
   simp [hi,hv,asIntOf,run_underlying (tk_str ht),h0,hg]
  ·simp only [Rep]
   rw [List.getD_eq_getElem?_getD,List.getElem?_eq_getElem (by simpa using hn)]
   simp
 ·rename_i cs k n e2 e3
  split at hb
  ·rename_i m s ag ha
   injection hb with hb; injection hb with hq hr'; subst hr'
   rw [← hq] at hp
   obtain ⟨h0,h1,h2,h3⟩:=hp
   rw [e2] at hx; rw [e3] at hi; simp only [Rep] at hx hi
   obtain ⟨us,hv,hs,hc⟩:=hx
   unfold aI at ha
   split at ha
   ·rename_i m' e ht
    split at ha
    ·rename_i s' a' hti
     injection ha with ha; injection ha with ha1 ha2; injection ha2 with ha2 ha3; subst ha1 ha2 ha3
     obtain ⟨v,h6,h7⟩:=run_part (β:=β) (fr:=fr) (w:=w) hti hs hc h2 h3
     refine ⟨v,w, ?_,rfl,rfl,rfl,rfl,h7⟩
     simp [hi,hv,asIntOf,run_underlying ht,h0,h1,run_sizeOf hti,h6]
    ·cases ha
   ·cases ha
  ·cases hb
 ·cases hb
end Go.Proofs.Vale
namespace Go.Proofs.Vale
theorem obA_spec {a : Act} {w : World} {β : Beta} {fr : Nat → Prop} {ev : Operand → AV} {o : Option Operand} {d l : Int} (h : obA (o.map ev) d = some l) (hr : ∀ y, o = some y → Rep β fr w.heap (ev y) (a.eval y)) :
  (o=none∧l=d)∨∃ y k,o=some y∧a.eval y=.int k l:=by
 cases o with
 | none=>simp [obA] at h; exact .inl ⟨rfl,h.symm⟩
 | some y =>
  simp only [Option.map_some,obA] at h
  split at h
  ·rename_i e; cases e
  ·rename_i k n e
   injection e with e
   injection h with h; subst h
   have:=hr y rfl
   rw [e] at this; simp only [Rep] at this
   exact .inr ⟨y,_,rfl,this⟩
  ·cases h
theorem run_sliceBound {P:Program} {w:World} {k:IntKind} {n:Int} {y:Nat} {c:BoundsCode} (h0:0≤n) (h1:n≤y):(Instr.sliceBound (.int k n) y c).run P w=.ok n.toNat w:=by
 simp [Instr.sliceBound,asIntOf,h0,h1]
theorem run_sliceBounds2 {P : Program} {w : World} {a : Act} {isS : Bool} {len cap : Nat} {lo hi : Option Operand} {l h : Int}
  (hl:(lo=none∧l=0)∨∃ y k,lo=some y∧a.eval y=.int k l) (hh:(hi=none∧h=(len:Int))∨∃ y k,hi=some y∧a.eval y=.int k h) (h0:0≤l) (h1:l≤h) (h2:h≤cap) :
  (Instr.sliceBounds isS len cap (lo.map a.eval) (hi.map a.eval) none).run P w=.ok (l.toNat,h.toNat,cap) w:=by
 unfold Instr.sliceBounds
 rcases hh with ⟨rfl,rfl⟩ | ⟨y,k,rfl,hy⟩ <;> rcases hl with ⟨rfl,rfl⟩ | ⟨z,k',rfl,hz⟩
 ·simp
 ·simp only [Option.map_some,Option.map_none,hz,Sem.run_bind,Sem.run_pure,Result.andThen_ok,Option.isSome_none]
  rw [run_sliceBound h0 h1]; simp
 ·simp only [Option.map_some,Option.map_none,hy,Sem.run_bind,Sem.run_pure,Result.andThen_ok,Option.isSome_none]
  rw [run_sliceBound (by omega) h2]; simp
 ·simp only [Option.map_some,Option.map_none,hy,hz,Sem.run_bind,Sem.run_pure,Result.andThen_ok,Option.isSome_none]
  rw [run_sliceBound (by omega) h2]
  simp only [Result.andThen_ok]
  rw [run_sliceBound h0 (by omega)]; simp
theorem run_sliceBounds3 {P : Program} {w : World} {a : Act} {isS : Bool} {len cap : Nat} {lo : Option Operand} {y z : Operand} {k k2 : IntKind} {l h m : Int}
  (hl:(lo=none∧l=0)∨∃ y k,lo=some y∧a.eval y=.int k l) (hy:a.eval y=.int k h) (hz:a.eval z=.int k2 m) (h0:0≤l) (h1:l≤h) (h2:h≤m) (h3:m≤cap) :
  (Instr.sliceBounds isS len cap (lo.map a.eval) (some (a.eval y)) (some (a.eval z))).run P w=.ok (l.toNat,h.toNat,m.toNat) w:=by
 unfold Instr.sliceBounds
 rcases hl with ⟨rfl,rfl⟩ | ⟨x,k',rfl,hx⟩
 ·simp only [Option.map_some,Option.map_none,hy,hz,Sem.run_bind,Sem.run_pure,Result.andThen_ok,Option.isSome_some]
  rw [run_sliceBound (by omega) h3]
  simp only [Result.andThen_ok]
  rw [run_sliceBound (by omega) (by omega)]; simp
 ·simp only [Option.map_some,Option.map_none,hx,hy,hz,Sem.run_bind,Sem.run_pure,Result.andThen_ok,Option.isSome_some]
  rw [run_sliceBound (by omega) h3]
  simp only [Result.andThen_ok]
  rw [run_sliceBound (by omega) (by omega)]
  simp only [Result.andThen_ok]
  rw [run_sliceBound h0 (by omega)]; simp
theorem take_drop_cells {xs:List AV} {l h i:Nat} (hi:i < ((xs.take h).drop l).length):∃ hx:l+i < xs.length,((xs.take h).drop l)[i]=xs[l+i]:=by
 have:l+i < xs.length:=by simp at hi; omega
 exact ⟨this,by simp⟩
theorem Rep_cut {β : Beta} {fr : Nat → Prop} {H : Array Obj} {c c' : Bool} {xs : List AV} {es l h m : Nat} {a : Option Addr} {cap : Nat} (hx : Rep β fr H (.fz c xs) (.slice a xs.length cap))
  (hu:∀ x∈xs,x.cells.length=es) (h1:l≤h) (h2:h≤xs.length) (h3:h≤m) (hc:c'=true→m=h) :
  Rep β fr H (.fz c' ((xs.take h).drop l)) (.slice (if m=l then a else a.map (·.add (l * es))) (h - l) (m - l)):=by
 simp only [Rep] at hx ⊢
 obtain ⟨a',cap',hv,h4,h5,h6⟩:=hx
 injection hv with hv1 hv2 hv3; subst hv1 hv3
 have hlen:((xs.take h).drop l).length=h - l:=by simp; omega
 refine ⟨_,_,by rw [hlen],by omega,fun e=>by have:=hc e; omega,fun hne=>?_⟩
 have hpos:0 < h - l:=by
  rcases Nat.eq_zero_or_pos (h - l) with z | z
  ·exact absurd (List.eq_nil_of_length_eq_zero (by omega)) hne
  ·exact z
 obtain ⟨ad,s,rfl,hf,hs,hu',hc'⟩:=h6 (by intro e; subst e; simp at h2; omega)
 have hml:¬ m=l:=by omega
 have hse:s=es:=by
  have:=hu' _ (List.getElem_mem (show 0 < xs.length by omega))
  rw [hu _ (List.getElem_mem (show 0 < xs.length by omega))] at this; exact this.symm
 subst hse
 refine ⟨ad.add (l * s),s,by simp [hml],by rw [add_none hs]; exact hf,by rw [add_none hs],fun x hx=>hu x (List.mem_of_mem_take (List.mem_of_mem_drop hx)),fun i hi j hj=>?_⟩
 obtain ⟨hlt,he⟩:=take_drop_cells hi
 simp only [he] at hj ⊢
 obtain ⟨u,hu1,hr⟩:=hc' (l+i) hlt j hj
 refine ⟨u, ?_,hr⟩
 rw [add_none hs]
 simp only
 rw [← hu1,Nat.add_mul]; congr 1; omega
theorem sl_ok {P:Program} {o:Oper} {t:TypeId} {x:Operand} {lo hi mx:Option Operand} {ev:Operand→AV} {h:List AObj} {p:Prop} {r:AV} (ho:o.op=.slice t x lo hi mx) (hb:slA P t (ev x) (lo.map ev) (hi.map ev) (mx.map ev)=some (p,r)):PopOk P o ev h p r:=by
 intro hp a w β fr L hr
 rw [ho] at hr
 have hx:=hr x (by simp [Op.operands])
 have hlo:∀ y,lo=some y→Rep β fr w.heap (ev y) (a.eval y):=fun y e=>hr y (by simp [Op.operands,e])
 have hhi:∀ y,hi=some y→Rep β fr w.heap (ev y) (a.eval y):=fun y e=>hr y (by simp [Op.operands,e])
 have hmx:∀ y,mx=some y→Rep β fr w.heap (ev y) (a.eval y):=fun y e=>hr y (by simp [Op.operands,e])
 simp only [execOp,ho]
 unfold slA at hb
 split at hb
 ·rename_i s e1
  rw [e1] at hx; simp only [Rep] at hx
  obtain ⟨b,hv,rfl⟩:=hx
  split at hb
  ·rename_i l hh em el eh
   injection hb with hb; injection hb with hq hr'; subst hr'; rw [← hq] at hp
   obtain ⟨ht,h0,h1,h2⟩:=hp
   have hmn:mx=none:=by simpa using em
   subst hmn
   have hsz:b.data.toList.length=b.size:=by simp
   have hB:=run_sliceBounds2 (P:=P) (w:=w) (a:=a) (isS:=false) (len:=b.size) (cap:=b.size) (obA_spec el hlo) (by rw [← hsz]; exact obA_spec eh hhi) h0 h1 (by omega)
   refine ⟨.string (b.extract l.toNat hh.toNat),w, ?_,rfl,rfl,rfl,rfl, ?_⟩
   ·simp [Instr.sliceAt,Instr.slice,run_underlying (tk_str ht),hv,hB]
   ·simp only [Rep]
    refine ⟨_,rfl, ?_⟩
    simp [List.extract_eq_take_drop,List.drop_take]
  ·cases hb
 ·rename_i c xs e1
  rw [e1] at hx
  have hx0:=hx
  simp only [Rep] at hx
  obtain ⟨ao,cap,hv,h4,h5,h6⟩:=hx
  rw [hv] at hx0
  split at hb
  ·rename_i e es by_ l hh e2 em el eh
   injection hb with hb; injection hb with hq hr'; subst hr'; rw [← hq] at hp
   obtain ⟨h0,h1,h2,hu⟩:=hp
   have hmn:mx=none:=by simpa using em
   subst hmn
   obtain ⟨ht,inf,hi1,hi2,hi3⟩:=ei_spec e2
   have hB:=run_sliceBounds2 (P:=P) (w:=w) (a:=a) (isS:=true) (len:=xs.length) (cap:=cap) (obA_spec el hlo) (obA_spec eh hhi) h0 h1 (by omega)
   refine ⟨.slice (if cap=l.toNat then ao else ao.map (·.add (l.toNat * es))) (hh.toNat - l.toNat) (cap - l.toNat),w, ?_,rfl,rfl,rfl,rfl, ?_⟩
   ·simp [Instr.sliceAt,Instr.slice,run_underlying ht,hv,hB,run_sizeOf' hi1,hi2]
   ·refine Rep_cut hx0 hu (by omega) (by omega) (by omega) (fun e=>?_)
    simp at e; have:=h5 e.1; omega
  ·rename_i e es by_ k m l hh e2 em el eh
   injection hb with hb; injection hb with hq hr'; subst hr'; rw [← hq] at hp
   obtain ⟨his,h0,h1,h2,h3,hu⟩:=hp
   obtain ⟨z,rfl,hz⟩:∃ z,mx=some z∧ev z=.int k m:=by
    cases mx with
    | none=>cases em
    | some z=>exact ⟨z,rfl,by simpa using em⟩
   obtain ⟨ht,inf,hi1,hi2,hi3⟩:=ei_spec e2
   have hzv:=hmx z rfl
   rw [hz] at hzv; simp only [Rep] at hzv
   rcases obA_spec eh hhi with ⟨e,_⟩ | ⟨y,ky,rfl,hy⟩
   ·subst e; simp at his
   have hB:=run_sliceBounds3 (P:=P) (w:=w) (a:=a) (isS:=true) (len:=xs.length) (cap:=cap) (obA_spec el hlo) hy hzv h0 h1 h2 (by omega)
   refine ⟨.slice (if m.toNat=l.toNat then ao else ao.map (·.add (l.toNat * es))) (hh.toNat - l.toNat) (m.toNat - l.toNat),w, ?_,rfl,rfl,rfl,rfl, ?_⟩
   ·simp only [Option.map_some] at *
    simp [Instr.sliceAt,Instr.slice,run_underlying ht,hv,hB,run_sizeOf' hi1,hi2]
   ·refine Rep_cut hx0 hu (by omega) (by omega) (by omega) (fun e=>?_)
    simp at e; omega
  ·cases hb
 ·rename_i tt g s off len e1
  rw [e1] at hx; simp only [Rep] at hx
  unfold slOwn at hb
  split at hb
  ·rename_i e es by_ hh e2 eh
   obtain ⟨ht,inf,hi1,hi2,hi3⟩:=ei_spec e2
   have hhS:=obA_spec eh hhi
   split at hb
   ·rename_i em
    have hmn:mx=none:=by simpa using em
    subst hmn
    split at hb
    ·rename_i el
     injection hb with hb; injection hb with hq hr'; subst hr'; rw [← hq] at hp
     obtain ⟨h0,h1⟩:=hp
     have hln:lo=none:=by simpa using el
     subst hln
     rcases hx with ⟨hb,h2,h3,hv⟩ | ⟨b,c,ele,f,cap,hb,hH,hv,hs,hl⟩
     ·subst h2 h3
      have hB:=run_sliceBounds2 (P:=P) (w:=w) (a:=a) (isS:=true) (len:=0) (cap:=0) (lo:=none) (l:=0) (.inl ⟨rfl,rfl⟩) (by simpa using hhS) (by omega) h0 (by simpa using h1)
      have hz:hh.toNat=0:=by simp at h1; omega
      refine ⟨.slice none 0 0,w, ?_,rfl,rfl,rfl,rfl, ?_⟩
      ·simp only [Option.map_none] at hB
       simp [Instr.sliceAt,Instr.slice,run_underlying ht,hv,hB,run_sizeOf' hi1,hi2,hz]
      ·simp only [Rep]; exact .inl ⟨hb,trivial,hz,trivial⟩
     ·have hB:=run_sliceBounds2 (P:=P) (w:=w) (a:=a) (isS:=true) (len:=len) (cap:=cap) (lo:=none) (l:=0) (.inl ⟨rfl,rfl⟩) hhS (by omega) h0 (by omega)
      refine ⟨.slice (some ⟨b,off * s,none⟩) hh.toNat cap,w, ?_,rfl,rfl,rfl,rfl, ?_⟩
      ·simp only [Option.map_none] at hB
       simp [Instr.sliceAt,Instr.slice,run_underlying ht,hv,hB,run_sizeOf' hi1,hi2,add_none]
      ·simp only [Rep]; exact .inr ⟨b,c,ele,f,cap,hb,hH,rfl,hs,by omega⟩
    ·rename_i kl l el
     injection hb with hb; injection hb with hq hr'; subst hr'; rw [← hq] at hp
     obtain ⟨h0,h1,h2,hse⟩:=hp
     subst hse
     have hlS:(lo=none∧l=0)∨∃ y k,lo=some y∧a.eval y=.int k l:=by
      refine obA_spec (ev:=ev) (d:=0) ?_ hlo
      rw [el]; rfl
     rcases hx with ⟨hb,h3,h4,hv⟩ | ⟨b,c,ele,f,cap,hb,hH,hv,hs,hl⟩
     ·subst h3 h4
      have hl0:l=0:=by simp at h2; omega
      have hh0:hh=0:=by simp at h2; omega
      subst hl0 hh0
      have hB:=run_sliceBounds2 (P:=P) (w:=w) (a:=a) (isS:=true) (len:=0) (cap:=0) (lo:=lo) (hi:=hi) (l:=0) (h:=0) hlS (by simpa using hhS) (by omega) (by omega) (by omega)
      refine ⟨.slice none 0 0,w, ?_,rfl,rfl,rfl,rfl, ?_⟩
      ·simp [Instr.sliceAt,Instr.slice,run_underlying ht,hv,hB,run_sizeOf' hi1,hi2]
      ·simp only [slT,if_true,Rep]; exact .inl ⟨hb,trivial,by simp,trivial⟩
     ·have hB:=run_sliceBounds2 (P:=P) (w:=w) (a:=a) (isS:=true) (len:=len) (cap:=cap) hlS hhS h0 h1 (by omega)
      refine ⟨.slice (if cap=l.toNat then some ⟨b,off * s,none⟩ else some ⟨b,off * s+l.toNat * s,none⟩) (hh.toNat - l.toNat) (cap - l.toNat),w, ?_,rfl,rfl,rfl,rfl, ?_⟩
      ·simp only [Instr.sliceAt,Instr.slice,hv,Sem.run_bind,run_underlying ht,Result.andThen_ok,Option.map_none,hB,run_sizeOf' hi1,hi2,Sem.run_pure]
       by_cases q:cap=l.toNat
       ·simp [q]
       ·simp [q,add_none]
      ·unfold slT
       split
       ·rename_i q
        subst q
        simp only [Rep,Int.toNat_zero,Nat.zero_mul,Nat.add_zero,Nat.sub_zero,ite_self]
        exact .inr ⟨b,c,ele,f,cap,hb,hH,rfl,hs,by omega⟩
       ·split
        ·rename_i q q2
         simp only [Rep]
         refine .inr ⟨b,c,ele,f,cap - l.toNat,hb,hH, ?_, ?_,by omega⟩
         ·rw [if_neg (by omega),Nat.add_mul]
          congr 1; omega
         ·refine Nat.le_trans (Nat.mul_le_mul_right s ?_) hs; omega
        ·simp only [Rep]
         refine ⟨_,_,by rw [show hh.toNat - l.toNat=([]:List AV).length by simp; omega],by simp,fun q=>(by cases q),fun q=>absurd rfl q⟩
    ·cases hb
   ·rename_i km m em
    split at hb
    ·rename_i l el
     injection hb with hb; injection hb with hq hr'; subst hr'; rw [← hq] at hp
     obtain ⟨his,rfl,h0,h1,h2⟩:=hp
     obtain ⟨z,rfl,hz⟩:∃ z,mx=some z∧ev z=.int km m:=by
      cases mx with
      | none=>cases em
      | some z=>exact ⟨z,rfl,by simpa using em⟩
     have hzv:=hmx z rfl
     rw [hz] at hzv; simp only [Rep] at hzv
     rcases hhS with ⟨e,_⟩ | ⟨y,ky,rfl,hy⟩
     ·subst e; simp at his
     rcases hx with ⟨hb,h3,h4,hv⟩ | ⟨b,c,ele,f,cap,hb,hH,hv,hs,hl⟩
     ·subst h3 h4
      have hm0:m=0:=by simp at h2; omega
      have hh0:hh=0:=by omega
      subst hm0 hh0
      have hB:=run_sliceBounds3 (P:=P) (w:=w) (a:=a) (isS:=true) (len:=0) (cap:=0) (obA_spec el hlo) hy hzv (by omega) (by omega) (by omega) (by omega)
      refine ⟨.slice none 0 0,w, ?_,rfl,rfl,rfl,rfl,by simp [Rep,slT3]⟩
      simp only [Option.map_some] at *
      simp [Instr.sliceAt,Instr.slice,run_underlying ht,hv,hB,run_sizeOf' hi1,hi2]
     ·have hB:=run_sliceBounds3 (P:=P) (w:=w) (a:=a) (isS:=true) (len:=len) (cap:=cap) (obA_spec el hlo) hy hzv (by omega) (by omega) (by omega) (by omega)
      refine ⟨.slice (some ⟨b,off * s,none⟩) hh.toNat m.toNat,w, ?_,rfl,rfl,rfl,rfl, ?_⟩
      ·simp only [Option.map_some] at *
       simp [Instr.sliceAt,Instr.slice,run_underlying ht,hv,hB,run_sizeOf' hi1,hi2,add_none]
      ·unfold slT3
       split
       ·rename_i q
        subst q
        have:hh.toNat=0:=by omega
        simp [Rep,this]
       ·simp only [Rep]
        refine .inr ⟨b,c,ele,f,m.toNat,hb,hH,rfl,Nat.le_trans (Nat.mul_le_mul_right s ?_) hs,by omega⟩
        omega
    ·cases hb
   ·cases hb
  ·cases hb
 ·cases hb
theorem run_bytes {P : Program} {w : World} {β : Beta} {fr : Nat → Prop} {src dst e : TypeId} (hs : P.underlying src = some (.slice e)) (he : P.underlying e = some (.int .u8)) (hd : P.underlying dst = some .string) {b o n cap : Nat} {xs : List AV} (hn : xs.length = n)
  (hx:∀ i (hi:i < xs.length),∃ u,cellAt w.heap b (o+i)=some u∧Rep β fr w.heap (xs[i]) u) (hb:xs.all isByte=true) :
  ∃ s:ByteArray,(convert src dst (.slice (some ⟨b,o,none⟩) n cap)).run P w=.ok (.string s) w∧s.data.toList=xs.map byteOf:=by
 let f:AV→Int:=fun | .int _ n=>n | _=>0
 refine ⟨_,run_convert_bytes_arg w src e hs he b o n cap (xs.map f) (by simp [hn]) (fun i hi=>?_) dst hd, ?_⟩
 ·obtain ⟨u,hu,hr⟩:=hx i (by omega)
  rw [cell?_eq _ _ rfl]
  simp only [hu]
  have hb':=List.all_eq_true.1 hb _ (List.getElem_mem (show i < xs.length by omega))
  rw [List.getD_eq_getElem?_getD,List.getElem?_map,List.getElem?_eq_getElem (show i < xs.length by omega)]
  generalize xs[i]'(by omega)=x at *
  unfold isByte at hb'
  split at hb'
  ·simp only [Rep] at hr; subst hr; rfl
  ·cases hb'
 ·rw [strOfNums_data,List.map_map]
  refine List.map_congr_left fun x hx=>?_
  have hb':=List.all_eq_true.1 hb _ hx
  unfold isByte at hb'
  split at hb'
  ·rfl
  ·cases hb'
theorem isByte_cells {x:AV} (h:isByte x=true):x.cells=[x]:=by
 unfold isByte at h; split at h <;> first | rfl | cases h
theorem cv_ok {P:Program} {o:Oper} {src dst:TypeId} {x:Operand} {ev:Operand→AV} {h:List AObj} {p:Prop} {r:AV} (ho:o.op=.convert src dst x) (hb:cvA P src dst h (ev x)=some (p,r)):PopOk P o ev h p r:=by
 intro hp a w β fr L hr
 rw [ho] at hr
 have hx:=hr x (by simp [Op.operands])
 simp only [execOp,ho]
 suffices key:∃ v,(convert src dst (a.eval x)).run P w=.ok v w∧Rep β fr w.heap r v by
  obtain ⟨v,h1,h2⟩:=key
  exact ⟨v,w,by simp [h1],rfl,rfl,rfl,rfl,h2⟩
 unfold cvA at hb
 split at hb
 ·rename_i k n e1
  rw [e1] at hx; simp only [Rep] at hx
  split at hb
  ·rename_i k' e2
   injection hb with hb; injection hb with hq hr'; subst hr'; rw [← hq] at hp
   obtain ⟨d,hd⟩:=hp
   refine ⟨_, ?_,by simp only [Rep]; rfl⟩
   simp [convert,hx,run_underlying (tk_int e2),run_underlying hd,Conv.intToInt]
  ·rename_i e2
   split at hb
   ·rename_i k2 e3
    injection hb with hb; injection hb with hq hr'; subst hr'
    refine ⟨.string (Utf8.encode n), ?_,by simp only [Rep]; exact ⟨_,rfl,rfl⟩⟩
    simp [convert,hx,run_underlying (tk_str e2),run_underlying (tk_int e3),Conv.intToString]
   ·cases hb
  ·cases hb
 ·rename_i s e1
  rw [e1] at hx; simp only [Rep] at hx
  obtain ⟨b,hv,rfl⟩:=hx
  split at hb
  ·rename_i e2
   injection hb with hb; injection hb with hq hr'; subst hr'; rw [← hq] at hp
   obtain ⟨d,hd⟩:=hp
   refine ⟨.string b, ?_,by simp [Rep]⟩
   simp [convert,hv,run_underlying (tk_str e2),run_underlying hd]
  ·cases hb
 ·rename_i c l e1
  rw [e1] at hx; simp only [Rep] at hx
  obtain ⟨ao,cap,hv,h4,h5,h6⟩:=hx
  split at hb
  ·rename_i e e2 e3
   injection hb with hb; injection hb with hq hr'; subst hr'; rw [← hq] at hp
   obtain ⟨he,hby⟩:=hp
   rw [hv]
   cases l with
   | nil =>
    cases ao with
    | none=>exact ⟨_,run_convert_bytes_nil w src e (tk_sl e2) (tk_int he) _ _ dst (tk_str e3),by simp [Rep]⟩
    | some ad =>
     refine ⟨.string ByteArray.empty, ?_,by simp [Rep]⟩
     simp [convert,run_underlying (tk_sl e2),run_underlying (tk_str e3),run_underlying (tk_int he),Conv.bytesToString,loadCells,loadCellsFrom]
   | cons y l =>
    obtain ⟨ad,s,rfl,hf,hs,hu,hc⟩:=h6 (by simp)
    have hs1:s=1:=by
     have:=hu y (by simp)
     rw [isByte_cells (List.all_eq_true.1 hby _ (by simp))] at this
     exact this.symm
    subst hs1
    obtain ⟨bk,of,sp⟩:=ad
    simp only at hs; subst hs
    obtain ⟨sb,h7,h8⟩:=run_bytes (P:=P) (w:=w) (β:=β) (fr:=fr) (cap:=cap) (b:=bk) (o:=of) (xs:=y::l) (tk_sl e2) (tk_int he) (tk_str e3) rfl (fun i hi=>by
     have hcl:=isByte_cells (List.all_eq_true.1 hby _ (List.getElem_mem hi))
     obtain ⟨u,hu1,hu2⟩:=hc i hi 0 (by rw [hcl]; simp)
     refine ⟨u,by simpa using hu1, ?_⟩
     simpa [hcl] using hu2) hby
    exact ⟨_,h7,by simp only [Rep]; exact ⟨sb,rfl,h8⟩⟩
  ·cases hb
 ·rename_i t g s off len e1
  rw [e1] at hx; simp only [Rep] at hx
  split at hb
  ·rename_i e g' s' l e2 e3 e4
   injection hb with hb; injection hb with hq hr'; subst hr'; rw [← hq] at hp
   obtain ⟨he,rfl,rfl,rfl,hn,hby⟩:=hp
   rcases hx with ⟨hbb,rfl,rfl,hv⟩ | ⟨bk,c,ele,f,cap,hbb,hH,hv,hs,hl⟩
   ·rw [hv]
    exact ⟨_,run_convert_bytes_nil w src e (tk_sl e2) (tk_int he) _ _ dst (tk_str e3),by simp [Rep]⟩
   ·rw [hv]
    have hby':((l.drop off).take len).all isByte=true:=List.all_eq_true.2 fun x hx=>List.all_eq_true.1 hby x (List.mem_of_mem_drop (List.mem_of_mem_take hx))
    obtain ⟨sb,h7,h8⟩:=run_bytes (P:=P) (w:=w) (β:=β) (fr:=fr) (cap:=cap) (b:=bk) (o:=off * 1) (n:=len) (xs:=(l.drop off).take len) (tk_sl e2) (tk_int he) (tk_str e3) (by simp; omega) (fun i hi=>by
     have hi':off+i < l.length:=by simp at hi; omega
     have hcl:=isByte_cells (List.all_eq_true.1 hby _ (List.getElem_mem hi'))
     obtain ⟨u,hu1,hu2⟩:=L.arr e4 hi' hbb 0 (by rw [hcl]; simp)
     refine ⟨u,by simpa using hu1, ?_⟩
     simp only [List.getElem_take,List.getElem_drop]
     simpa [hcl] using hu2) hby'
    exact ⟨_,h7,by simp only [Rep]; exact ⟨sb,rfl,h8⟩⟩
  ·cases hb
 ·cases hb
end Go.Proofs.Vale
