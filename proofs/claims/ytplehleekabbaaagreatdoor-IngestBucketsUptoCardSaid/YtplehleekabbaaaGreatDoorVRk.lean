/- YtplehleekabbaaaGreatDoorVRk: a text of the proof of this claim, by its prover. -/
import Derived.Test.YtplehleekabbaaaGreatDoorVRe
import Derived.Test.YtplehleekabbaaaGreatDoorVTurn
set_option linter.unusedVariables false
set_option linter.unusedSimpArgs false
namespace Go.Proofs.Vale
inductive XE where
 | normal
 | ret
 | exit (n:Nat)
def XE.ex:XE→Exit
 | .normal=>.normal
 | .ret=>.ret
 | .exit n=>.exit n
inductive OC where
 | none
 | out (e:XE) (env:List AV) (m:Mem)
def Res (e:XE) (env':List AV) (h':List AObj):Post:=fun e1 env1 h1=>e1=e.ex∧env1=env'∧h1=h'
theorem AWP.seq {P:Program} {a b:Code} {Q:Post} {env:List AV} {h:List AObj} (k:AWP P a (fun e env h=>match e with | .normal=>AWP P b Q env h | e=>Q e env h) env h):AWP P (.seq a b) Q env h:=by
 intro n0 ro ds tmps w β fr Su L R
 refine wpIn_seq (wpIn_mono (k n0 ro ds tmps w β fr Su L R) ?_)
 rintro e ⟨t',d'⟩ w' ⟨env',h',β',fr',q,Su',L',R',S'⟩
 cases e with
 | normal =>
  refine wpIn_mono (q n0 ro d' t' w' β' fr' Su' L' R') ?_
  rintro e2 a2 w2 ⟨env2,h2,β2,fr2,q2,Su2,L2,R2,S2⟩
  exact ⟨env2,h2,β2,fr2,q2,Su2,L2,R2,S'.trans S2⟩
 | exit i=>exact ⟨env',h',β',fr',q,Su',L',R',S'⟩
 | goto l=>exact ⟨env',h',β',fr',q,Su',L',R',S'⟩
 | ret=>exact ⟨env',h',β',fr',q,Su',L',R',S'⟩
 | panic ch=>exact ⟨env',h',β',fr',q,Su',L',R',S'⟩
 | outgrown=>exact ⟨env',h',β',fr',q,Su',L',R',S'⟩
theorem AWP.block {P:Program} {id:Nat} {c:Code} {Q:Post} {env:List AV} {h:List AObj} (k:AWP P c (fun e env h=>match e with | .exit i=>if i=id then Q .normal env h else Q (.exit i) env h | e=>Q e env h) env h):AWP P (.block id c) Q env h:=by
 intro n0 ro ds tmps w β fr Su L R
 refine wpIn_block (wpIn_mono (k n0 ro ds tmps w β fr Su L R) ?_)
 rintro e a' w' ⟨env',h',β',fr',q,r⟩
 cases e with
 | exit i =>
  simp only at q
  show Exit.inBlock id _ (.exit i) a' w'
  unfold Exit.inBlock
  simp only
  split
  ·rename_i hi; rw [if_pos hi] at q; exact ⟨env',h',β',fr',q,r⟩
  ·rename_i hi; rw [if_neg hi] at q; exact ⟨env',h',β',fr',q,r⟩
 | normal=>exact ⟨env',h',β',fr',q,r⟩
 | goto l=>exact ⟨env',h',β',fr',q,r⟩
 | ret=>exact ⟨env',h',β',fr',q,r⟩
 | panic ch=>exact ⟨env',h',β',fr',q,r⟩
 | outgrown=>exact ⟨env',h',β',fr',q,r⟩
theorem AWP.scope {P:Program} {c:Code} {Q:Post} {env:List AV} {h:List AObj} (k:AWP P c (fun e env h=>match e with | .goto _=>False | e=>Q e env h) env h):AWP P (.scope c) Q env h:=by
 intro n0 ro ds tmps w β fr Su L R
 refine wpIn_scope_straight (wpIn_mono (k n0 ro ds tmps w β fr Su L R) ?_)
 rintro e a' w' ⟨env',h',β',fr',q,r⟩
 cases e <;> first | exact ⟨env',h',β',fr',q,r⟩ | exact q.elim
theorem AWP.region {P:Program} {id:Nat} {ops:Array Oper} {env:List AV} {h:List AObj} {env':List AV} {h':List AObj} (k:QSL P [] ops.toList env h env' h'):AWP P (.region id ops false) (Res .normal env' h') env h:=by
 intro n0 ro ds tmps w β fr Su L R
 refine wpIn_region_list (QSL_ok ops.toList [] env h env' h' tmps w β fr rfl k L R ?_)
 intro β' fr' tmps' w' L' R' S'
 exact ⟨env',h',β',fr',⟨rfl,rfl,rfl⟩,Su.step S',L',R',S'⟩
theorem AWP.cond {P:Program} {x:Operand} {a b:Code} {Q:Post} {env:List AV} {h:List AObj} {t:Bool} (e:evA env x=.bool t) (k:AWP P (if t then a else b) Q env h):AWP P (.cond x a b) Q env h:=by
 intro n0 ro ds tmps w β fr Su L R
 have hc:=R.eval (ds:=ds) x
 rw [e] at hc; simp only [Rep] at hc
 exact wpIn_cond hc (k n0 ro ds tmps w β fr Su L R)
theorem AWP.stay {P:Program} {c:Code} {Q:Post} {e:Exit} {env:List AV} {h:List AObj} (hc:(c=.skip∨∃ l,c=.label l)∧e=.normal∨c=.ret∧e=.ret∨∃ i,c=.exit i∧e=.exit i) (k:Q e env h):AWP P c Q env h:=by
 intro n0 ro ds tmps w β fr Su L R
 rcases hc with ⟨rfl | ⟨l,rfl⟩,rfl⟩ | ⟨rfl,rfl⟩ | ⟨i,rfl,rfl⟩
 ·exact wpIn_skip ⟨env,h,β,fr,k,Su,L,R,Step1.refl _ _ _ _⟩
 ·exact wpIn_label ⟨env,h,β,fr,k,Su,L,R,Step1.refl _ _ _ _⟩
 ·exact wpIn_ret ⟨env,h,β,fr,k,Su,L,R,Step1.refl _ _ _ _⟩
 ·exact wpIn_exit ⟨env,h,β,fr,k,Su,L,R,Step1.refl _ _ _ _⟩
def Mem.nil:Mem:=⟨0,.leaf⟩
def OV.is (x:AV):OV→Bool
 | .val y _=>y.same x
 | .none=>false
end Go.Proofs.Vale
namespace Go.Proofs.Vale
inductive ET where
 | leaf (x:AV)
 | node (a b c d e f g h:ET)
def ET.up (t:ET) (i:Nat) (s:ET):ET :=
 match t with
 | .leaf x=>(match i with
  | 0=>.node s (.leaf x) (.leaf x) (.leaf x) (.leaf x) (.leaf x) (.leaf x) (.leaf x)
  | 1=>.node (.leaf x) s (.leaf x) (.leaf x) (.leaf x) (.leaf x) (.leaf x) (.leaf x)
  | 2=>.node (.leaf x) (.leaf x) s (.leaf x) (.leaf x) (.leaf x) (.leaf x) (.leaf x)
  | 3=>.node (.leaf x) (.leaf x) (.leaf x) s (.leaf x) (.leaf x) (.leaf x) (.leaf x)
  | 4=>.node (.leaf x) (.leaf x) (.leaf x) (.leaf x) s (.leaf x) (.leaf x) (.leaf x)
  | 5=>.node (.leaf x) (.leaf x) (.leaf x) (.leaf x) (.leaf x) s (.leaf x) (.leaf x)
  | 6=>.node (.leaf x) (.leaf x) (.leaf x) (.leaf x) (.leaf x) (.leaf x) s (.leaf x)
  | _=>.node (.leaf x) (.leaf x) (.leaf x) (.leaf x) (.leaf x) (.leaf x) (.leaf x) s)
 | .node a b c d e f g h=>(match i with
  | 0=>.node s b c d e f g h
  | 1=>.node a s c d e f g h
  | 2=>.node a b s d e f g h
  | 3=>.node a b c s e f g h
  | 4=>.node a b c d s f g h
  | 5=>.node a b c d e s g h
  | 6=>.node a b c d e f s h
  | _=>.node a b c d e f g s)
structure CE where
 run:ET→AV
structure CP where
 run:ET→AV→ET
structure CB where
 run:AV→AV→PB
structure CQ where
 run:ET→(Nat→AObj)→Option AV
end Go.Proofs.Vale
namespace Go.Proofs.Vale
abbrev CallT:=FuncId→List AV→Mem→OV
structure CM where
 run:CallT→ET→Mem→OV
inductive KE where
 | none
 | ok (t:ET) (m:Mem)
structure CR where
 run:CallT→ET→Mem→KE
structure CG where
 run:ET→Option Bool
structure KEnt where
 t:ET
 x:AV
 m:Mem
inductive KP where
 | none
 | ok (es:List KEnt) (t:ET) (m:Mem)
structure CD where
 run:CallT→ET→Mem→KP
structure CK where
 run:Mem→List KEnt→List KEnt→Bool
structure CDR where
 run:KP→KE
end Go.Proofs.Vale
namespace Go.Proofs.Vale
inductive KC where
 | none
 | out (e:XE) (t:ET) (m:Mem)
structure CC where
 run:CallT→Nat→ET→Mem→KC
inductive XS where
 | none
 | some (g:List AV→Mem→OV)
structure CF where
 run:CallT→Nat→List AV→Mem→OV
structure CZ where
 run:ET→Mem→PB
structure CZL where
 run:ET→Mem→Option (List AV)
end Go.Proofs.Vale
namespace Go.Proofs.Vale
theorem own_nil {β:Beta} {b:Nat} (o:Own [] β b):False:=by
 obtain ⟨t,o,g,h1,_⟩:=o; simp at h1
theorem lay_nil {β:Beta} {fr:Nat→Prop} {H:Array Obj} {h:List AObj} (L:Lay β fr H h):Lay β0 fr H [] where
 frlt:=L.frlt
 ownfr:=fun b o=>(own_nil o).elim
 lt:=fun t g b h=>by cases h
 inj:=fun t t' o o' g g' b h1=>by simp at h1
 obj:=fun t o h1=>by simp at h1
 dom:=fun t g r h=>by cases h
 top:=fun t g s l h1=>by simp at h1
 tab:=L.tab
theorem ACall.any {P:Program} {f:FuncId} {args:List AV} {h:List AObj} {K:AV→List AObj→Prop} (hl:lowL 0 args=true) (k:ACall P f args [] fun r _=>r.low 0=true∧K r h):ACall P f args h K:=by
 intro w β fr vs L R
 have R0:CellsRep β0 fr w.heap args vs:=⟨R.1,fun j hj=>by
  obtain ⟨u,hu,hr⟩:=R.2 j hj
  exact ⟨u,hu,hr.low (n:=0) (fun t g r ht=>absurd ht (by omega)) (fun _ e=>e) (lowL_mem hl _ (List.getElem_mem hj))⟩⟩
 refine (k w β0 fr vs (lay_nil L) R0).mono ?_
 rintro e w' ⟨v,x,h',β',fr',rfl,⟨hf,hk⟩,L',R',S'⟩
 have same:∀ b,b < w.heap.size→w'.heap[b]? = w.heap[b]? := fun b hb=>S'.keep b hb own_nil
 have E:Ext β fr w.heap β fr' w'.heap:=⟨fun _ _ _ e=>e,S'.ext.frm,S'.ext.cells,fun t g b c e f hb hc=>⟨c,f,by rw [same b (L.lt _ _ _ hb)]; exact hc,rfl⟩⟩
 refine ⟨v,x,h,β,fr',rfl,hk, ?_,R'.low (n:=0) (fun t g r ht=>absurd ht (by omega)) (fun _ e=>e) hf, ?_⟩
 ·exact { frlt := L'.frlt
          ownfr:=fun b ho hb=>by
           obtain ⟨t,o,g,h1,h2,h3⟩:=ho
           have hlt:=L.lt _ _ _ h3
           rcases S'.frz b hb with q | q | q
           ·exact L.ownfr b ⟨t,o,g,h1,h2,h3⟩ q
           ·exact own_nil q
           ·omega
          lt:=fun t g b hb=>Nat.lt_of_lt_of_le (L.lt t g b hb) S'.size,inj:=L.inj
          obj:=fun t o ho=>(L.obj t o ho).ext E fun g b _ hb=>same b (L.lt _ _ _ hb),dom:=L.dom,top:=L.top,tab:=fun b cs q=>⟨E.frm b (L.tab b cs q).1,by rw [E.cells b (L.tab b cs q).1]; exact (L.tab b cs q).2⟩ }
 ·exact { ext := E, os := S'.os, tape := S'.tape, output := S'.output, size := S'.size, keep := fun b hb _ => same b hb, prov := fun b e => .inl e
          frz:=fun b hb=>by
           rcases S'.frz b hb with q | q | q
           ·exact .inl q
           ·exact (own_nil q).elim
           ·exact .inr (.inr q) }
end Go.Proofs.Vale
namespace Go.Proofs.Vale
theorem pad_get {h:List AObj} {c t:Nat} {o:AObj} (q:(h++List.replicate c AObj.dead)[t]? = some o):h[t]? = some o∨o=.dead:=by
 rw [List.getElem?_append] at q
 split at q
 ·exact .inl q
 ·rw [List.getElem?_replicate] at q
  split at q
  ·injection q with q; exact .inr q.symm
  ·cases q
theorem own_pad {h:List AObj} {β:Beta} {c b:Nat} (o:Own (h++List.replicate c AObj.dead) β b):Own h β b:=by
 obtain ⟨t,o,g,h1,h2,h3⟩:=o
 rcases pad_get h1 with q | rfl
 ·exact ⟨t,o,g,q,h2,h3⟩
 ·cases h2
theorem Lay.pad {β:Beta} {fr:Nat→Prop} {H:Array Obj} {h:List AObj} (L:Lay β fr H h) (c:Nat):Lay β fr H (h++List.replicate c AObj.dead):=by
 have base:∀ {t:Nat} {o:AObj} {g:Nat},(h++List.replicate c AObj.dead)[t]? = some o→o.gen=some g→h[t]? = some o:=by
  intro t o g h1 h2
  rcases pad_get h1 with q | rfl
  ·exact q
  ·cases h2
 exact { frlt := L.frlt, ownfr := fun b o => L.ownfr b (own_pad o), lt := L.lt
         inj:=fun t t' o o' g g' b h1 h2 h3 h4 h5 h6=>L.inj t t' o o' g g' b (base h1 h2) h2 h3 (base h4 h5) h5 h6
         obj:=fun t o ho=>by
          rcases pad_get ho with q | rfl
          ·exact L.obj t o q
          ·trivial
         dom:=fun t g r e=>by have:=L.dom t g r e; simp; omega
         top:=fun t g s l ho=>by
          rcases pad_get ho with q | q
          ·exact L.top t g s l q
          ·cases q
         tab:=L.tab }
theorem ACall.junk {P : Program} {f : FuncId} {as : List AV} {h : List AObj} {K K2 : AV → List AObj → Prop} (c k : Nat) (a : ACall P f as h K)
  (kk:∀ r h',K r h'→∃ z,h'=h++z∧z.length≤c∧K2 (frzT (fun i=>decide (h.length≤i)) h' k r) (h++List.replicate c AObj.dead)):ACall P f as h K2:=by
 intro w β fr vs L R
 refine (a w β fr vs L R).mono ?_
 rintro e w' ⟨v,x,h',β',fr',rfl,hk,L',R',S'⟩
 obtain ⟨z,rfl,hz,hk2⟩:=kk _ _ hk
 obtain ⟨fr2,e1,e2,e3,e4,L2⟩:=step_part (w:=w') (h2:=h++List.replicate z.length AObj.dead) (fun i=>decide (h.length≤i)) L' (by simp) (fun i o ho=>by
  rw [List.getElem?_append] at ho
  split at ho
  ·rename_i q
   refine .inr ⟨by simpa using q,.inl ?_⟩
   rw [List.getElem?_append_left q]; exact ho
  ·rw [List.getElem?_replicate] at ho
   split at ho
   ·injection ho with ho; exact .inl ho.symm
   ·cases ho)
 have L3:=L2.pad (c - z.length)
 rw [List.append_assoc,List.replicate_append_replicate,show z.length+(c - z.length)=c by omega] at L3
 refine ⟨v,_,_,β',fr2,rfl,hk2,L3,frzT_rep L' e1 e2 k x v R', ?_⟩
 have own:∀ b,Own (h++List.replicate c AObj.dead) β' b→Own (h++z) β' b:=by
  rintro b ⟨t,o,g,h1,h2,h3⟩
  rcases pad_get h1 with q | rfl
  ·exact ⟨t,o,g,by rw [List.getElem?_append_left (List.getElem?_eq_some_iff.1 q).1]; exact q,h2,h3⟩
  ·cases h2
 exact { ext := ⟨S'.ext.beta, fun b e => e1 b (S'.ext.frm b e), S'.ext.cells, S'.ext.shape⟩, os := S'.os, tape := S'.tape, output := S'.output, size := S'.size, keep := S'.keep, prov := fun b e => S'.prov b (own b e)
         frz:=fun b hb=>by
          rcases e3 b hb with q | q
          ·exact S'.frz b q
          ·rcases S'.prov b q with q | q
           ·exact .inr (.inl q)
           ·exact .inr (.inr q) }
theorem ACall.weak {P:Program} {f:FuncId} {ar:List AV} {h:List AObj} {K K':AV→List AObj→Prop} (a:ACall P f ar h K) (kk:∀ r h',K r h'→∃ r',(∀ β fr H v,Rep β fr H r v→Rep β fr H r' v)∧K' r' h'):ACall P f ar h K':=by
 intro w β fr vs L R
 refine (a w β fr vs L R).mono ?_
 rintro e w' ⟨v,x,h',β',fr',rfl,hk,L',R',S'⟩
 obtain ⟨r',h1,h2⟩:=kk _ _ hk
 exact ⟨v,r',h',β',fr',rfl,h2,L',h1 _ _ _ _ R',S'⟩
theorem rep_cut {β:Beta} {fr:Nat→Prop} {H:Array Obj} {c:Bool} {l:List AV} {v:Value} (r:Rep β fr H (.fz c l) v):Rep β fr H (.fz false l) v:=by
 simp only [Rep] at r ⊢
 obtain ⟨a,cap,h1,h2,h3,h4⟩:=r
 exact ⟨a,cap,h1,h2,fun q=>(by cases q),h4⟩
theorem rep_tup2 {β:Beta} {fr:Nat→Prop} {H:Array Obj} {x x' y:AV} {v:Value} (k:∀ u,Rep β fr H x u→Rep β fr H x' u) (r:Rep β fr H (.tup [x,y]) v):Rep β fr H (.tup [x',y]) v:=by
 simp only [Rep] at r ⊢
 obtain ⟨us,h1,h2,h3⟩:=r
 refine ⟨us,h1,h2,fun j hj=>?_⟩
 obtain ⟨u,hu,hr⟩:=h3 j hj
 refine ⟨u,hu, ?_⟩
 match j,hj with
 | 0,_=>exact k u hr
 | 1,_=>exact hr
end Go.Proofs.Vale
