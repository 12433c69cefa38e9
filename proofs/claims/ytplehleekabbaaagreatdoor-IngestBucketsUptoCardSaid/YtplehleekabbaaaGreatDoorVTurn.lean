/- YtplehleekabbaaaGreatDoorVTurn: a text of the proof of this claim, by its prover. -/
import Derived.Test.YtplehleekabbaaaGreatDoorVZ
set_option linter.unusedVariables false
set_option linter.unusedSimpArgs false
set_option maxHeartbeats 1000000
namespace Go.Proofs.Vale
def frzT (T:Nat→Bool) (h:List AObj):Nat→AV→AV
 | 0,_=>.any
 | k+1,.sl t g s off len=>if T t=false then .sl t g s off len else
  (match h[t]? with
  | some (.arr g' s' l)=>if g=g'∧s=s'∧off+len≤l.length∧(∀ y∈l,(frzT T h k y).cells.length=y.cells.length) then .fz false (((l.drop off).take len).map (frzT T h k)) else .any
  | _=>.any)
 | k+1,.ref t g s i j=>if T t=false then .ref t g s i j else
  (match h[t]? with
  | some (.arr g' s' l)=>if g=g'∧s=s'∧i < l.length∧j=0∧(frzT T h k (l.getD i .any)).cells.length=(l.getD i .any).cells.length then .ptr (frzT T h k (l.getD i .any)) else .any
  | _=>.any)
 | k+1,.agg cs=>.agg (cs.map (frzT T h k))
 | k+1,.tup cs=>.tup (cs.map (frzT T h k))
 | _+1,x=>x
theorem frzT_cells (T:Nat→Bool) (h:List AObj) (k:Nat) (y:AV) (hl:(frzT T h k y).cells.length=y.cells.length) (j:Nat) (hj:j < (frzT T h k y).cells.length) (hj':j < y.cells.length):∃ k',k'≤k∧(frzT T h k y).cells[j]=frzT T h k' (y.cells[j]):=by
 cases k with
 | zero =>
  refine ⟨0,Nat.le_refl _, ?_⟩
  have hj0:j=0:=by simp only [frzT,AV.cells,List.length_singleton] at hj; omega
  subst hj0
  simp [frzT,AV.cells]
 | succ k =>
  by_cases hag:∃ cs,y=.agg cs
  ·obtain ⟨cs,rfl⟩:=hag
   exact ⟨k,by omega,by simp [frzT,AV.cells]⟩
  ·have h1:y.cells=[y]:=by cases y <;> first | rfl | exact absurd ⟨_,rfl⟩ hag
   have h2:(frzT T h (k+1) y).cells=[frzT T h (k+1) y]:=by
    cases y
    case agg cs=>exact absurd ⟨_,rfl⟩ hag
    case sl t g s off len=>simp only [frzT]; split <;> (try split) <;> (try split) <;> rfl
    case ref t g s i j=>simp only [frzT]; split <;> (try split) <;> (try split) <;> rfl
    all_goals rfl
   refine ⟨k+1,Nat.le_refl _, ?_⟩
   have hj0:j=0:=by rw [h1] at hj'; simpa using hj'
   subst hj0
   simp [h1,h2]
theorem frzT_rep {T:Nat→Bool} {β:Beta} {fr fr':Nat→Prop} {H:Array Obj} {h:List AObj} (L:Lay β fr H h) (hfr:∀ b,fr b→fr' b) (hown:∀ t o g b,T t=true→h[t]? = some o→o.gen=some g→β t g=some (some b)→fr' b):∀ (k:Nat) (x:AV) (v:Value),Rep β fr H x v→Rep β fr' H (frzT T h k x) v:=by
 have plain:∀ (x:AV) (v:Value),Rep β fr H x v→Rep β fr' H x v:=fun x v r=>r.ext ⟨fun _ _ _ e=>e,hfr,fun _ _=>rfl,fun _ _ _ c _ f _ e=>⟨c,f,e,rfl⟩⟩
 intro k
 induction k using Nat.strongRecOn with
 | ind k ih =>
  intro x v hr
  cases k with
  | zero=>simp only [frzT,Rep]
  | succ k =>
   cases x
   case sl t g s off len =>
    simp only [frzT]
    by_cases hT:T t=false
    ·rw [if_pos hT]; exact plain _ _ hr
    rw [if_neg hT]
    have hT:T t=true:=by simpa using hT
    split
    ·rename_i g' s' l ht
     split
     ·rename_i hc
      obtain ⟨rfl,rfl,hn,hcl⟩:=hc
      simp only [Rep] at hr ⊢
      have hlen:(((l.drop off).take len).map (frzT T h k)).length=len:=by simp; omega
      rcases hr with ⟨hb,rfl,rfl,rfl⟩ | ⟨b,c,e,f,cap,hb,hH,rfl,hcs,hlc⟩
      ·exact ⟨none,0,by simp,by simp,by simp,by simp⟩
      ·refine ⟨some ⟨b,off * s,none⟩,cap,by rw [hlen],by rw [hlen]; exact hlc,by simp,fun hne=>?_⟩
       refine ⟨⟨b,off * s,none⟩,s,rfl,hown t _ g b hT ht rfl hb,rfl,fun x hx=>?_,fun i hi j hj=>?_⟩
       ·simp only [List.mem_map] at hx
        obtain ⟨y,hy,rfl⟩:=hx
        have hyl:=List.mem_of_mem_drop (List.mem_of_mem_take hy)
        rw [hcl y hyl]
        rcases L.obj t _ ht with ⟨_,z⟩ | ⟨_,_,_,_,_,_,_,h4,_⟩
        ·subst z; simp at hyl
        ·exact h4 y hyl
       ·have hi':off+i < l.length:=by simp at hi; omega
        have hge:(((l.drop off).take len).map (frzT T h k))[i]=frzT T h k (l[off+i]):=by simp
        have hlm:=hcl _ (List.getElem_mem hi')
        have hj1:j < (frzT T h k (l[off+i])).cells.length:=by rw [hge] at hj; exact hj
        obtain ⟨k',hk',he⟩:=frzT_cells T h k (l[off+i]) hlm j hj1 (by omega)
        obtain ⟨u,hu,hr'⟩:=L.arr ht hi' hb j (by omega)
        refine ⟨u, ?_, ?_⟩
        ·rw [← hu]; congr 1; rw [Nat.add_mul]
        ·have:=ih k' (by omega) _ _ hr'
         rw [← he] at this
         simpa only [hge] using this
     ·simp only [Rep]
    ·simp only [Rep]
   case ref t g s i j =>
    simp only [frzT]
    by_cases hT:T t=false
    ·rw [if_pos hT]; exact plain _ _ hr
    rw [if_neg hT]
    have hT:T t=true:=by simpa using hT
    split
    ·rename_i g' s' l ht
     split
     ·rename_i hc
      obtain ⟨rfl,rfl,hi,rfl,hcl⟩:=hc
      simp only [Rep] at hr ⊢
      obtain ⟨b,hb,rfl⟩:=hr
      refine ⟨_,rfl,hown t _ g b hT ht rfl hb,rfl,fun j hj=>?_⟩
      rw [getD_get hi] at hcl
      have hge:frzT T h k (l.getD i .any)=frzT T h k (l[i]):=by rw [getD_get hi]
      have hj1:j < (frzT T h k (l[i])).cells.length:=by rw [hge] at hj; exact hj
      obtain ⟨k',hk',he⟩:=frzT_cells T h k (l[i]) hcl j hj1 (by omega)
      obtain ⟨u,hu,hr'⟩:=L.arr ht hi hb j (by omega)
      refine ⟨u,by simpa using hu, ?_⟩
      have:=ih k' (by omega) _ _ hr'
      rw [← he] at this
      simpa only [hge] using this
     ·simp only [Rep]
    ·simp only [Rep]
   case agg cs =>
    simp only [frzT,Rep] at hr ⊢
    obtain ⟨us,rfl,hs,hc⟩:=hr
    refine ⟨us,rfl,by simpa using hs,fun j hj=>?_⟩
    obtain ⟨u,hu,hr⟩:=hc j (by simpa using hj)
    exact ⟨u,hu,by simpa using ih k (by omega) _ _ hr⟩
   case tup cs =>
    simp only [frzT,Rep] at hr ⊢
    obtain ⟨us,rfl,hs,hc⟩:=hr
    refine ⟨us,rfl,by simpa using hs,fun j hj=>?_⟩
    obtain ⟨u,hu,hr⟩:=hc j (by simpa using hj)
    exact ⟨u,hu,by simpa using ih k (by omega) _ _ hr⟩
   all_goals exact plain _ _ hr
def PartO (T:Nat→Bool) (h:List AObj) (i:Nat) (o:AObj):Prop :=
 o=.dead∨(T i=false∧(h[i]? = some o∨∃ g s l k,h[i]? = some (.arr g s l)∧o=.arr g s (l.map (frzT T h k))∧∀ y∈l,(frzT T h k y).cells.length=y.cells.length))
theorem step_part {β : Beta} {fr : Nat → Prop} {h h2 : List AObj} {w : World} (T : Nat → Bool) (L : Lay β fr w.heap h) (hlen : h2.length = h.length) (hp : ∀ i o, h2[i]? = some o → PartO T h i o) :
  ∃ fr',(∀ b,fr b→fr' b)∧(∀ t o g b,T t=true→h[t]? = some o→o.gen=some g→β t g=some (some b)→fr' b)∧(∀ b,fr' b→fr b∨Own h β b)∧(∀ b,Own h2 β b→Own h β b)∧Lay β fr' w.heap h2:=by
 let fr':Nat→Prop:=fun b=>fr b∨∃ t o g,T t=true∧h[t]? = some o∧o.gen=some g∧β t g=some (some b)
 have base:∀ i o g,h2[i]? = some o→o.gen=some g→T i=false∧∃ o1,h[i]? = some o1∧o1.gen=some g:=by
  intro i o g ho hg
  rcases hp i o ho with rfl | ⟨hT,q | ⟨g1,s,l,k,q1,rfl,-⟩⟩
  ·cases hg
  ·exact ⟨hT,o,q,hg⟩
  ·exact ⟨hT,_,q1,hg⟩
 have own2:∀ b,Own h2 β b→Own h β b:=by
  rintro b ⟨t,o,g,h1,h2,h3⟩
  obtain ⟨-,o1,q1,q2⟩:=base t o g h1 h2
  exact ⟨t,o1,g,q1,q2,h3⟩
 refine ⟨fr',fun b e=>.inl e,fun t o g b h1 h2 h3 h4=>.inr ⟨t,o,g,h1,h2,h3,h4⟩, ?_,own2, ?_⟩
 ·rintro b (e | ⟨t,o,g,-,h2,h3,h4⟩)
  ·exact .inl e
  ·exact .inr ⟨t,o,g,h2,h3,h4⟩
 ·refine { frlt:=?_,ownfr:=?_,lt:=L.lt,inj:=?_,obj:=?_,dom:=?_,top:=?_,tab:=fun b cs q=>⟨.inl (L.tab b cs q).1,(L.tab b cs q).2⟩ }
  ·rintro b (e | ⟨t,o,g,-,h2,h3,h4⟩)
   ·exact L.frlt b e
   ·exact L.lt _ _ _ h4
  ·rintro b ⟨t,o,g,h1,h2,h3⟩ hb
   obtain ⟨hT,o1,q1,q2⟩:=base t o g h1 h2
   rcases hb with e | ⟨t',o',g',hT',h1',h2',h3'⟩
   ·exact L.ownfr b ⟨t,o1,g,q1,q2,h3⟩ e
   ·have:=L.inj _ _ _ _ _ _ _ q1 q2 h3 h1' h2' h3'
    subst this; rw [hT] at hT'; cases hT'
  ·intro t t' o o' g g' b h1 h2 h3 h4 h5 h6
   obtain ⟨-,o1,q1,q2⟩:=base t o g h1 h2
   obtain ⟨-,o2,q3,q4⟩:=base t' o' g' h4 h5
   exact L.inj _ _ _ _ _ _ _ q1 q2 h3 q3 q4 h6
  ·intro t o ho
   have E:Ext β fr w.heap β fr' w.heap:=⟨fun _ _ _ e=>e,fun b e=>.inl e,fun _ _=>rfl,fun _ _ _ c _ f _ e=>⟨c,f,e,rfl⟩⟩
   rcases hp t o ho with rfl | ⟨hT,q | ⟨g1,s,l,k,q1,rfl,hk⟩⟩
   ·trivial
   ·exact (L.obj t o q).ext E fun _ _ _ _=>rfl
   ·rcases L.obj t _ q1 with ⟨z1,rfl⟩ | ⟨b,c,e,f,h1,h2,h3,h4,h5,h6⟩
    ·exact .inl ⟨z1,rfl⟩
    ·refine .inr ⟨b,c,e,f,h1,h2,h3,fun x hx=>?_,by simpa using h5,fun i hi j hj=>?_⟩
     ·simp only [List.mem_map] at hx
      obtain ⟨y,hy,rfl⟩:=hx
      rw [hk y hy]; exact h4 y hy
     ·have hi':i < l.length:=by simpa using hi
      have hge:(l.map (frzT T h k))[i]=frzT T h k (l[i]):=by simp
      have hj1:j < (frzT T h k (l[i])).cells.length:=by rw [hge] at hj; exact hj
      have hj2:j < (l[i]).cells.length:=by rw [← hk _ (List.getElem_mem hi')]; exact hj1
      obtain ⟨k',hk',he⟩:=frzT_cells T h k (l[i]) (hk _ (List.getElem_mem hi')) j hj1 hj2
      obtain ⟨u,hu,hr⟩:=h6 i hi' j hj2
      refine ⟨u,hu, ?_⟩
      have:=frzT_rep (T:=T) (fr':=fr') L (fun b e=>.inl e) (fun t o g b h1 h2 h3 h4=>.inr ⟨t,o,g,h1,h2,h3,h4⟩) k' _ _ hr
      rw [← he] at this
      simpa only [hge] using this
  ·intro t g r e; rw [hlen]; exact L.dom t g r e
  ·intro t g s l h1 g' hg'
   rcases hp t _ h1 with q | ⟨-,q | ⟨g1,s1,l1,k,q1,q2,-⟩⟩
   ·cases q
   ·exact L.top t g s l q g' hg'
   ·injection q2 with q2 q3 q4; subst q2; exact L.top t _ _ _ q1 g' hg'
theorem Close.part (T:Nat→Bool) (n k:Nat) (x:AV) (h h2:List AObj) (hlen:h2.length=h.length) (hp:∀ i o,h2[i]? = some o→PartO T h i o):Close n x h (frzT T h k x) h2:=fun H β fr v L R=>by
 obtain ⟨fr',e1,e2,e3,e4,L'⟩:=step_part (w:={ (default:World) with heap:=H }) T L hlen hp
 exact ⟨β,fr',L',frzT_rep L e1 e2 k x v R,fun _ _ _ _ e=>e,e1,e4,e3⟩
theorem frzT_flatX {T:Nat→Bool} {h:List AObj} {k:Nat} {x:AV} (hx:flatX x=true):frzT T h (k+1) x=x:=by cases x <;> first | rfl | cases hx
theorem frzT_all {T:Nat→Bool} {h:List AObj} {k t g s n:Nat} {l:List AV} (ht:h[t]? = some (.arr g s l)) (hT:T t=true) (hl:n=l.length) (hf:∀ y∈l,flatX y=true):frzT T h (k+2) (.sl t g s 0 n)=.fz false l:=by
 subst hl
 have e:l.map (frzT T h (k+1))=l:=by
  have:∀ m:List AV,(∀ y∈m,flatX y=true)→m.map (frzT T h (k+1))=m:=by
   intro m hm
   induction m with
   | nil=>rfl
   | cons a m ih=>rw [List.map_cons,frzT_flatX (hm a (by simp)),ih fun y hy=>hm y (by simp [hy])]
  exact this _ hf
 simp only [frzT,hT,Bool.true_eq_false,if_false,ht,Nat.zero_add,List.drop_zero,List.take_length,e]
 rw [if_pos ⟨trivial,trivial,Nat.le_refl _,fun y hy=>by rw [frzT_flatX (hf y hy)]⟩]
theorem PartO.same {T:Nat→Bool} {h:List AObj} {i:Nat} {o:AObj} (hT:T i=false) (h1:h[i]? = some o):PartO T h i o:=.inr ⟨hT,.inl h1⟩
end Go.Proofs.Vale
namespace Go.Proofs.Vale
def blind:Op→Bool
 | .move _ | .assign _ | .pick .. | .nilCheck _ | .unOp .. | .slice .. | .fieldAddr .. | .field .. | .indexAddr .. | .index .. | .extract .. | .build ..=>true
 | .binOp _ _ _ y _=>(match y with | .const (.slice ..)=>false | .const .nilIface=>false | _=>true)
 | .call c=>(match c.callee with | .builtin .min=>true | .builtin .max=>true | _=>false)
 | _=>false
theorem blind_pop {P:Program} {op:Op} {ev:Operand→AV} {h h2:List AObj} (hb:blind op=true):pop P op ev h=pop P op ev h2:=by
 cases op <;> first | rfl | cases hb
theorem blind_aop {P:Program} {op:Op} {ev:Operand→AV} {h:List AObj} {K:AV→List AObj→Prop} (hb:blind op=true):aop P op ev h K=False:=by
 cases op
 case binOp op t x y yt =>
  simp only [blind] at hb
  cases op <;> (try rfl) <;> (cases y <;> first | rfl | (rename_i v; cases v <;> first | rfl | cases hb))
 case call c =>
  simp only [blind] at hb
  simp only [aop]
  generalize c.callee=q at hb ⊢
  cases q with
  | builtin b=>cases b <;> first | rfl | cases hb
  | _=>first | rfl | cases hb
 all_goals first | rfl | cases hb
theorem blind_popG {P:Program} {op:Op} {ev:Operand→AV} {h h2:List AObj} (hb:blind op=true):popG P op ev h=popG P op ev h2:=by
 by_cases hn:∀ c a b,op≠.pick c a b
 ·rw [popG_other P ev h op hn,popG_other P ev h2 op hn,blind_pop (h2:=h2) hb]
 ·cases op
  case pick c a b=>rfl
  all_goals exact absurd (fun c a b=>by simp) hn
theorem blind_qstep {P:Program} {ds:List (Option Nat)} {o:Oper} {env:List AV} {h:List AObj} (h2:List AObj) {x:AV} (hb:blind o.op=true) (q:QStep P ds o env h x):QStep P ds o env h2 x:=by
 unfold QStep at q ⊢
 rw [blind_pop (h2:=h) hb]
 split at q
 ·split at q
  ·exact q
  ·rw [blind_aop hb] at q; exact q.elim
 ·split at q
  ·exact q
  ·rw [blind_popG (h2:=h) hb]
   split at q
   ·exact q
   ·rw [blind_aop hb] at q ⊢; exact q
def QTurn (P:Program) (o:Oper) (env:List AV) (h:List AObj) (x:AV) (h2:List AObj):Prop :=
 o.guard=none∧aop P o.op (evA env) h fun y h'=>y=x∧h'=h2
theorem qturn_run {P : Program} {ops : Array Oper} {i : Nat} {o : Oper} {env : List AV} {h h2 : List AObj} {x : AV} {tmps : Array Value} {w : World} {β : Beta} {fr : Nat → Prop} {Q : Exit → Act → World → Prop} {ro : Option Nat} {dfs : List Deferred} {Kc : Act → World → Prop}
  (ho:ops[i]? = some o) (hq:QTurn P o env h x h2) (L:Lay β fr w.heap h) (hs:Sees β fr w.heap ops o env tmps)
  (hk:∀ v w' β' fr',Lay β' fr' w'.heap h2→Rep β' fr' w'.heap x v→Step1 β fr h w β' fr' h2 w'→Kc ((⟨tmps,dfs⟩:Act).put o.dst v) w'):wpOpIn (roF ro) 0 P ops Q i Kc ⟨tmps,dfs⟩ w:=by
 unfold wpOpIn
 rw [ho]
 simp only
 have hev:=fun y hy=>hs.eval (dfs:=dfs) y hy
 obtain ⟨hg,hq⟩:=hq
 have hw:Region.wanted o (yielded ops tmps)=true:=by simp [Region.wanted,hg]
 rw [if_pos hw]
 exact aop_ok hq ⟨tmps,dfs⟩ w β fr L hev _ _ _ fun v y w' h' β' fr' k L' R' S'=>by
  obtain ⟨rfl,rfl⟩:=k
  exact hk v w' β' fr' L' R' S'
theorem dopsL_spec2 {P : Program} {ops : List Oper} {env : List AV} {h : List AObj} {K : List AV → Prop} : ∀ (rest done : List Oper) (xs : Nat → AV) (C : Nat → List AV → AV → Prop), ops = done ++ rest →
  (∀ i,i < done.length→C i (mix ops xs (fun _=>true) env i) (xs i)) →
  dopsL P ((done.map (·.dst)).reverse) rest (mix ops xs (fun _=>true) env done.length) h K →
  ∃ ys:Nat→AV,(∀ i,i < done.length→C i (mix ops ys (fun _=>true) env i) (ys i))∧(∀ i o,done.length≤i→ops[i]? = some o→QStep P ((ops.take i).map (·.dst)).reverse o (mix ops ys (fun _=>true) env i) h (ys i))∧K (mix ops ys (fun _=>true) env ops.length)
 | [],done,xs,C,he,hq,hd=>by
  simp only [List.append_nil] at he
  subst he
  simp only [dopsL] at hd
  exact ⟨xs,hq,fun i o hi ho=>by have:=(List.getElem?_eq_some_iff.1 ho).1; omega,hd⟩
 | o::rest,done,xs,C,he,hq,hd=>by
  simp only [dopsL] at hd
  obtain ⟨x,hx,hd⟩:=hd
  have ho:ops[done.length]? = some o:=by rw [he,List.getElem?_append_right (by omega)]; simp
  have htk:ops.take done.length=done:=by rw [he]; simp
  let ys:Nat→AV:=fun i=>if i=done.length then x else xs i
  have hys:∀ i,i < done.length→ys i=xs i:=fun i hi=>by simp only [ys]; rw [if_neg (by omega)]
  have hmix:∀ k,k≤done.length→mix ops ys (fun _=>true) env k=mix ops xs (fun _=>true) env k:=fun k hk=>mix_congr k fun i hi=>⟨rfl,hys i (by omega)⟩
  let C':Nat→List AV→AV→Prop:=fun i e y=>(i < done.length→C i e y)∧(i=done.length→QStep P ((ops.take done.length).map (·.dst)).reverse o e h y)
  obtain ⟨zs,z1,z2,z3⟩:=dopsL_spec2 (P:=P) (ops:=ops) (env:=env) (h:=h) (K:=K) rest (done++[o]) ys C' (by rw [he]; simp) (by
   intro i hi
   simp only [List.length_append,List.length_cons,List.length_nil] at hi
   refine ⟨fun hlt=>?_,fun e=>?_⟩
   ·rw [hmix i (by omega),hys i hlt]; exact hq i hlt
   ·subst e
    rw [hmix _ (Nat.le_refl _),htk]
    have:ys done.length=x:=by simp only [ys,if_true]
    rw [this]; exact hx) (by
   have h1:mix ops ys (fun _=>true) env (done++[o]).length=putA (mix ops xs (fun _=>true) env done.length) o.dst x:=by
    simp only [List.length_append,List.length_cons,List.length_nil,Nat.zero_add,mix,if_true]
    rw [hmix _ (Nat.le_refl _)]
    simp only [dstAt,ho,ys,if_true]; rfl
   rw [h1]
   simpa using hd)
  refine ⟨zs,fun i hi=>(z1 i (by simp; omega)).1 hi,fun i o' hi ho'=>?_,z3⟩
  by_cases e:i=done.length
  ·subst e
   rw [ho] at ho'; injection ho' with ho'; subst ho'
   exact (z1 done.length (by simp)).2 rfl
  ·exact z2 i o' (by simp; omega) ho'
def okTurn (ops:Array Oper) (p:Nat):Bool :=
 (List.range ops.size).all fun i=>i==p || match ops[i]? with
  | none=>false
  | some o=>blind o.op || (decide (p < i) && ((ancL ops.toList []).getD i []).contains p) || (decide (i < p) && ((ancL ops.toList []).getD p []).contains i)
theorem wpAny_turn {P : Program} {ops : Array Oper} {p : Nat} {xs : Nat → AV} {env : List AV} {h h2 : List AObj} {Q : Exit → Act → World → Prop} {ro : Option Nat} {dfs : List Deferred} (hok : okDraw ops = true) (hot : okTurn ops p = true)
  (hx:∀ i o,ops.toList[i]? = some o→i≠p→QStep P ((ops.toList.take i).map (·.dst)).reverse o (mix ops.toList xs (fun _=>true) env i) (if i < p then h else h2) (xs i))
  (hp:∀ o,ops.toList[p]? = some o→QTurn P o (mix ops.toList xs (fun _=>true) env p) h (xs p) h2) (hpl:p < ops.size) :
  ∀ (fuel:Nat) (listed:Array Bool) (tmps:Array Value) (w:World) (β:Beta) (fr:Nat→Prop),listed.size=ops.size→Down ops.toList (fun j=>listed.getD j false)→listed.toList.countP (·==false)≤fuel →
   Lay β fr w.heap (if listed.getD p false=true then h2 else h)→EnvRep β fr w.heap (mix ops.toList xs (fun j=>listed.getD j false) env ops.size) tmps →
   (∀ tmps' w' β' fr',Lay β' fr' w'.heap h2→EnvRep β' fr' w'.heap (mix ops.toList xs (fun _=>true) env ops.size) tmps'→Step1 β fr (if listed.getD p false=true then h2 else h) w β' fr' h2 w'→Q .normal ⟨tmps',dfs⟩ w') →
   wpAnyIn (roF ro) 0 P .any ops Q fuel listed ⟨tmps,dfs⟩ w:=by
 have fin:∀ (listed:Array Bool),listed.size=ops.size→(∀ i,i < ops.size→listed.getD i false=true)→mix ops.toList xs (fun j=>listed.getD j false) env ops.size=mix ops.toList xs (fun _=>true) env ops.size :=
  fun listed hsz ha=>mix_congr ops.size fun i hi=>⟨ha i hi,rfl⟩
 intro fuel
 induction fuel with
 | zero =>
  intro listed tmps w β fr hsz hD hc L R hQ
  have ha:∀ i,i < ops.size→listed.getD i false=true:=by
   intro i hi
   have h0:=List.countP_eq_zero.1 (Nat.le_zero.1 hc)
   have hi':i < listed.size:=by omega
   have:=h0 listed[i] (by simp)
   rw [Array.getD_eq_getD_getElem?, Array.getElem?_eq_getElem hi']
   simpa using this
  rw [if_pos (ha p hpl)] at L
  rw [if_pos (ha p hpl)] at hQ
  refine ⟨?_, ?_⟩
  ·rw [List.eq_nil_iff_forall_not_mem]
   intro i hi
   obtain ⟨o,ho,h1,_⟩:=(mem_ready hsz).1 hi
   rw [ha i (Array.getElem?_eq_some_iff.1 ho).1] at h1; cases h1
  ·rw [fin listed hsz ha] at R
   exact hQ tmps w β fr L R (Step1.refl _ _ _ _)
 | succ fuel ih =>
  intro listed tmps w β fr hsz hD hc L R hQ
  refine ⟨fun hr=>?_,fun i hi=>?_⟩
  ·have ha:=all_listed hok hsz hr
   rw [if_pos (ha p hpl)] at L
   rw [if_pos (ha p hpl)] at hQ
   rw [fin listed hsz ha] at R
   exact hQ tmps w β fr L R (Step1.refl _ _ _ _)
  ·obtain ⟨o,ho,h1,h2'⟩:=(mem_ready hsz).1 hi
   have hin:=(Array.getElem?_eq_some_iff.1 ho).1
   have hoL:ops.toList[i]? = some o:=by rw [Array.getElem?_toList]; exact ho
   have hT:∀ j,j < ops.size→(listed.setIfInBounds i true).getD j false=(listed.getD j false || j==i):=by
    intro j hj
    rw [Array.getD_eq_getD_getElem?, Array.getD_eq_getD_getElem?]
    by_cases e:i=j
    ·subst e
     rw [Array.getElem?_setIfInBounds_self_of_lt (by omega)]; simp
    ·rw [Array.getElem?_setIfInBounds_ne e]
     have:(j==i)=false:=by simp; omega
     rw [this,Bool.or_false]
   have hT2:∀ j,(listed.setIfInBounds i true).getD j false=true→listed.getD j false=true∨j=i:=by
    intro j hj
    by_cases q:j < ops.size
    ·rw [hT j q] at hj; simpa using hj
    ·rw [Array.getD_eq_getD_getElem?, Array.getElem?_eq_none (by simp; omega)] at hj; simp at hj
   have hT3:∀ j,listed.getD j false=true→(listed.setIfInBounds i true).getD j false=true:=by
    intro j hj
    by_cases q:j < ops.size
    ·rw [hT j q,hj]; rfl
    ·rw [Array.getD_eq_getD_getElem?, Array.getElem?_eq_none (by omega)] at hj; simp at hj
   have go:∀ (m m':List AObj) v w' β' fr',m=(if listed.getD p false=true then h2 else h)→m'=(if (listed.setIfInBounds i true).getD p false=true then h2 else h)→Lay β' fr' w'.heap m'→Rep β' fr' w'.heap (xs i) v→Step1 β fr m w β' fr' m' w'→wpAnyIn (roF ro) 0 P .any ops Q fuel (listed.setIfInBounds i true) ((⟨tmps,dfs⟩:Act).put o.dst v) w':=by
    intro m m' v w' β' fr' em em' L' R' S'
    subst em em'
    rw [put_act]
    refine ih (listed.setIfInBounds i true) _ w' β' fr' (by simp [hsz]) ?_ ?_ L' ?_ fun t2 w2 β2 fr2 L2 R2 S2=>hQ t2 w2 β2 fr2 L2 R2 (S'.trans S2)
    ·intro j oj hj hSj k hk
     rcases hT2 j hSj with q | q
     ·exact hT3 k (hD j oj hj q k hk)
     ·subst q
      rw [hoL] at hj; injection hj with hj; subst hj
      exact hT3 k (h2' k hk)
    ·rw [Array.toList_setIfInBounds,List.countP_set (by simpa using (by omega:i < listed.size))]
     have hli:listed.toList[i]'(by simpa using (by omega:i < listed.size))=false:=by
      rw [Array.getD_eq_getD_getElem?, Array.getElem?_eq_getElem (by omega)] at h1
      simpa using h1
     rw [hli]
     have:0 < listed.toList.countP (·==false):=List.countP_pos_iff.2 ⟨false,by rw [← hli]; exact List.getElem_mem _,rfl⟩
     rw [show (false==false)=true from rfl,show (true==false)=false from rfl,if_pos rfl,if_neg (by simp)]
     omega
    ·rw [mix_step (S:=fun j=>listed.getD j false) (T:=fun j=>(listed.setIfInBounds i true).getD j false) hok hin h1 hT]
     have hd:dstAt ops.toList i=o.dst:=by simp [dstAt,ho]
     rw [hd]
     exact (R.ext S'.ext).put R' o.dst
   by_cases hip:i=p
   ·subst hip
    have e1:(if listed.getD i false=true then h2 else h)=h:=by rw [if_neg (by rw [h1]; simp)]
    have e2:(if (listed.setIfInBounds i true).getD i false=true then h2 else h)=h2:=by rw [if_pos (by rw [hT i hin]; simp)]
    rw [e1] at L
    exact qturn_run ho (hp o hoL) L (sees_mix hok ho hD h2' h1 R) fun v w' β' fr' L' R' S'=>go _ _ v w' β' fr' e1.symm e2.symm L' R' S'
   ·have e2:(listed.setIfInBounds i true).getD p false=listed.getD p false:=by
     rw [hT p hpl]
     have:(p==i)=false:=by simp; omega
     rw [this,Bool.or_false]
    have hq:=hx i o hoL hip
    have hq2:QStep P ((ops.toList.take i).map (·.dst)).reverse o (mix ops.toList xs (fun _=>true) env i) (if listed.getD p false=true then h2 else h) (xs i):=by
     have h4:=List.all_eq_true.1 hot i (by simpa using hin)
     rw [ho] at h4
     simp only [Bool.or_eq_true,beq_iff_eq,Bool.and_eq_true,decide_eq_true_eq,List.contains_iff_mem] at h4
     rcases h4 with q | (q | ⟨q1,q2⟩) | ⟨q1,q2⟩
     ·exact absurd q hip
     ·exact blind_qstep _ q hq
     ·have:listed.getD p false=true:=anc_good ops.toList i o hoL p q2 (fun j=>listed.getD j false) hD h2'
      rw [this,if_pos rfl]
      rw [if_neg (by omega)] at hq
      exact hq
     ·have:listed.getD p false=false:=by
       cases e:listed.getD p false with
       | false=>rfl
       | true =>
        exfalso
        obtain ⟨op,hop⟩:∃ op,ops.toList[p]? = some op:=⟨_,List.getElem?_eq_getElem (by simpa using hpl)⟩
        have:=anc_good ops.toList p op hop i q2 (fun j=>listed.getD j false) hD (fun k hk=>hD p op hop e k hk)
        rw [h1] at this; cases this
      rw [this,if_neg (by simp)]
      rw [if_pos q1] at hq
      exact hq
    exact qstep_run ho hq2 L (sees_mix hok ho hD h2' h1 R) fun v w' β' fr' L' R' S'=>go _ _ v w' β' fr' rfl (by rw [e2]) L' R' S'
theorem ADraw.of_turn {P : Program} {ops : Array Oper} {K : List AV → List AObj → Prop} {env : List AV} {h : List AObj} (p : Nat) (h2 : List AObj) (x : AV) (hm : P.follows .mixedOrders = true) (hok : okDraw ops = true) (hot : okTurn ops p = true) (hpl : p < ops.size)
  (hd:dopsL P [] (ops.toList.take p) env h fun e=>QTurn P (ops[p]'hpl) e h x h2∧dopsL P (((ops.toList.take (p+1)).map (·.dst)).reverse) (ops.toList.drop (p+1)) (putA e (ops[p]'hpl).dst x) h2 (fun e=>K e h2)):ADraw P ops K env h:=by
 intro id n0 ro dfs tmps w β fr Su L R
 have hL:ops.toList[p]? = some (ops[p]'hpl):=by rw [Array.getElem?_toList]; exact Array.getElem?_eq_getElem hpl
 have hmm:∀ (ys:Nat→AV) k,k≤p→mix (ops.toList.take p) ys (fun _=>true) env k=mix ops.toList ys (fun _=>true) env k:=by
  intro ys k
  induction k with
  | zero=>intro _; rfl
  | succ k ih =>
   intro hk
   simp only [mix]
   rw [ih (by omega)]
   have:dstAt (ops.toList.take p) k=dstAt ops.toList k:=by simp only [dstAt]; rw [List.getElem?_take_of_lt (by omega)]
   rw [this]
 have hpl2:p≤ops.toList.length:=by simp; omega
 have htl:(ops.toList.take p).length=p:=by simp; omega
 obtain ⟨xs,hx,hturn,hrest⟩:=dopsL_spec (P:=P) (ops:=ops.toList.take p) (env:=env) (h:=h) _ [] (fun _=>.any) rfl (fun i o hi=>by simp at hi) hd
 rw [htl,hmm xs p (Nat.le_refl _)] at hturn hrest
 let ys:Nat→AV:=fun i=>if i=p then x else xs i
 have hys:∀ i,i < p→ys i=xs i:=fun i hi=>by simp only [ys]; rw [if_neg (by omega)]
 have hymix:∀ k,k≤p→mix ops.toList ys (fun _=>true) env k=mix ops.toList xs (fun _=>true) env k:=fun k hk=>mix_congr k fun i hi=>⟨rfl,hys i (by omega)⟩
 let C:Nat→List AV→AV→Prop:=fun i e y=>(∀ o,i < p→ops.toList[i]? = some o→QStep P ((ops.toList.take i).map (·.dst)).reverse o e h y)∧(i=p→QTurn P (ops[p]'hpl) e h y h2)
 have htl2:(ops.toList.take (p+1)).length=p+1:=by simp; omega
 obtain ⟨zs,z1,z2,z3⟩:=dopsL_spec2 (P:=P) (ops:=ops.toList) (env:=env) (h:=h2) (K:=fun e=>K e h2) (ops.toList.drop (p+1)) (ops.toList.take (p+1)) ys C (by simp) (by
  intro i hi
  rw [htl2] at hi
  refine ⟨fun o hlt ho=>?_,fun e=>?_⟩
  ·rw [hymix i (by omega),hys i hlt]
   have:=hx i o (by rw [List.getElem?_take_of_lt hlt]; exact ho)
   rw [hmm xs i (by omega),List.take_take,Nat.min_eq_left (by omega)] at this
   exact this
  ·subst e
   rw [hymix i (Nat.le_refl _)]
   have:ys i=x:=by simp only [ys,if_true]
   rw [this]; exact hturn) (by
  rw [htl2]
  have h1:mix ops.toList ys (fun _=>true) env (p+1)=putA (mix ops.toList xs (fun _=>true) env p) (ops[p]'hpl).dst x:=by
   simp only [mix,if_true]
   rw [hymix _ (Nat.le_refl _)]
   simp only [dstAt,hL,ys,if_true]; rfl
  rw [h1]; exact hrest)
 rw [htl2] at z1 z2
 refine wpIn_region_any hm ?_
 refine wpAny_turn (p:=p) (xs:=zs) (env:=env) (h:=h) (h2:=h2) hok hot ?_ ?_ hpl ops.size (Array.replicate ops.size false) tmps { w with drawn:=w.drawn+1 } β fr (by simp) ?_ (by have:=List.countP_le_length (p:=(·==false)) (l:=(Array.replicate ops.size false).toList); simpa using this) ?_ ?_ ?_
 ·intro i o ho hne
  rcases Nat.lt_or_ge i p with q | q
  ·rw [if_pos q]; exact (z1 i (by omega)).1 o q ho
  ·rw [if_neg (by omega)]; exact z2 i o (by omega) ho
 ·intro o ho
  rw [hL] at ho; injection ho with ho; subst ho
  exact (z1 p (by omega)).2 rfl
 ·intro i o ho hS
  simp only at hS
  rw [Array.getD_eq_getD_getElem?] at hS
  by_cases q:i < ops.size
  ·rw [Array.getElem?_eq_getElem (by simpa using q)] at hS; simp at hS
  ·rw [Array.getElem?_eq_none (by simp; omega)] at hS; simp at hS
 ·rw [if_neg (by rw [Array.getD_eq_getD_getElem?, Array.getElem?_eq_getElem (by simpa using hpl)]; simp)]; exact L
 ·have:mix ops.toList zs (fun j=>(Array.replicate ops.size false).getD j false) env ops.size=env:=by
   have h0:∀ k,mix ops.toList zs (fun j=>(Array.replicate ops.size false).getD j false) env k=env:=by
    intro k
    induction k with
    | zero=>rfl
    | succ k ih =>
     simp only [mix]
     rw [if_neg (by
      intro hS
      try simp only at hS
      rw [Array.getD_eq_getD_getElem?] at hS
      by_cases q:k < ops.size
      ·rw [Array.getElem?_eq_getElem (by simpa using q)] at hS; simp at hS
      ·rw [Array.getElem?_eq_none (by simp; omega)] at hS; simp at hS)]
     exact ih
   exact h0 _
  rw [this]; exact R
 ·intro tmps' w' β' fr' L' R' S'
  have hl:ops.toList.length=ops.size:=by simp
  rw [hl] at z3
  rw [if_neg (by rw [Array.getD_eq_getD_getElem?, Array.getElem?_eq_getElem (by simpa using hpl)]; simp)] at S'
  have SS:=(Step1.drawn (w:=w) (w':={ w with drawn:=w.drawn+1 }) rfl rfl rfl rfl).trans S'
  exact ⟨_,h2,β',fr',z3,Su.step SS,L',R',SS⟩
theorem ADrawT.turn {P : Program} {ops : Array Oper} {K : List AV → List AObj → Prop} {s : Tag ops} {t : Tag K} {env : List AV} {h : List AObj} (p : Nat) (h2 : List AObj) (x : AV) (hm : P.follows .mixedOrders = true) (hok : okDraw ops = true) (hot : okTurn ops p = true) (hpl : p < ops.size)
  (hd:dopsL P [] (ops.toList.take p) env h fun e=>QTurn P (ops[p]'hpl) e h x h2∧dopsL P (((ops.toList.take (p+1)).map (·.dst)).reverse) (ops.toList.drop (p+1)) (putA e (ops[p]'hpl).dst x) h2 (fun e=>K e h2)):ADrawT P ops K s t env h:=ADraw.of_turn p h2 x hm hok hot hpl hd
end Go.Proofs.Vale
