/- YtplehleekabbaaaGreatDoorVY: a text of the proof of this claim, by its prover. -/
import Derived.Test.YtplehleekabbaaaGreatDoorVV
import Derived.Sort.Grow
import Derived.Sort.EncStr
set_option linter.unusedVariables false
set_option linter.unusedSimpArgs false
set_option maxHeartbeats 1000000
namespace Go.Proofs.Vale
end Go.Proofs.Vale
namespace Go.Proofs.Vale
open Go.Sort
def strsX (l:List (List UInt8)):List AV:=l.map .str
theorem putCells_size (enc:List UInt8→Value) (off:Nat) (d:Array (List UInt8)) (c:Array Value):(putCells enc off d c).size=c.size:=by simp [putCells]
theorem inplace_ok {P : Program} {f : FuncId} {t g : Nat} {R : AV} {rv : Option Addr → Nat → Value} {ss zs : List (List UInt8)} {h : List AObj} (hz : zs.length = ss.length)
  (ht:h[t]? = some (.arr g 1 (strsX ss)))
  (c1:∀ blk cap w,Holds encStr w blk 0 ss.toArray→blk < w.heap.size→ss.length≤cap→Calls P f #[.slice (some ⟨blk,0,none⟩) ss.length cap] w fun e w'=>e=.returned (rv (some ⟨blk,0,none⟩) cap)∧∃ n os,w'=grow (putRow encStr (Sort.ahead w n) blk 0 zs.toArray) os)
  (c0:∀ w,ss=[]→Calls P f #[.slice none 0 0] w fun e w'=>e=.returned (rv none 0)∧w'=w)
  (hr:∀ β fr H a cap,Rep β fr H (.sl t g 1 0 ss.length) (.slice a ss.length cap)→Rep β fr H R (rv a cap)) :
  ACall P f [.sl t g 1 0 ss.length] h (fun r h'=>r=R∧h'=h.set t (.arr g 1 (strsX zs))):=by
 intro w β fr vs L Rr
 obtain ⟨hvs,hv⟩:=Rr
 obtain ⟨v,hv1,hv2⟩:=hv 0 (by simp)
 have hvs':vs=#[v]:=by
  apply Array.ext_getElem?
  intro i
  rcases i with _ | i
  ·rw [hv1]; rfl
  ·rw [Array.getElem?_eq_none (by rw [hvs]; simp),Array.getElem?_eq_none (by simp)]
 subst hvs'
 simp only [List.getElem_cons_zero] at hv2
 have hv2':=hv2
 simp only [Rep] at hv2
 rcases hv2 with ⟨hb,_,hl0,rfl⟩ | ⟨b,c,e,fz,cap,hb,hH,rfl,hcap,hle⟩
 ·have hss:ss=[]:=List.length_eq_zero_iff.1 hl0
  subst hss
  have hzs:zs=[]:=List.length_eq_zero_iff.1 hz
  subst hzs
  refine (c0 w rfl).mono ?_
  rintro e w' ⟨rfl,rfl⟩
  have hset:h.set t (.arr g 1 (strsX []))=h:=by
   apply List.ext_getElem?
   intro i
   rw [List.getElem?_set]
   split
   ·subst_vars; split
    ·rw [ht]
    ·rw [List.getElem?_eq_none (by omega)]
   ·rfl
  refine ⟨_,_,_,β,fr,rfl,⟨rfl,rfl⟩,by rw [hset]; exact L,hr _ _ _ _ _ hv2',by rw [hset]; exact Step1.refl _ _ _ _⟩
 ·have hob:=L.obj t _ ht
  rcases hob with ⟨z,_⟩ | ⟨b',c',e',f',hb',hH',hfz,hls,hln,hlc⟩
  ·rw [hb] at z; injection z with z; cases z
  rw [hb] at hb'; injection hb' with hb'; injection hb' with hb'; subst hb'
  rw [hH] at hH'; injection hH' with hH'; injection hH' with q1 q2 q3; subst q1 q2 q3
  have hbl:b < w.heap.size:=L.lt _ _ _ hb
  have hlen:(strsX ss).length=ss.length:=by simp [strsX]
  have hsz:ss.length≤c.size:=by rw [hlen,Nat.mul_one] at hln; exact hln
  have hcell:∀ j,(hj:j < ss.length)→c[j]? = some (encStr ss[j]):=by
   intro j hj
   obtain ⟨u,hu,hru⟩:=hlc j (by rw [hlen]; exact hj) 0 (by simp [strsX,AV.cells])
   simp only [strsX,List.getElem_map,AV.cells,List.getElem_cons_zero,Rep] at hru
   obtain ⟨bs,rfl,hbs⟩:=hru
   rw [Nat.mul_one,Nat.add_zero] at hu
   rw [hu,← hbs]
  have hold:Holds encStr w b 0 ss.toArray:=by
   intro j hj
   have hj':j < ss.length:=by simpa using hj
   refine ⟨?_, ?_⟩
   ·rw [cell?_eq _ _ rfl]
    simp only [cellAt,hH,Nat.zero_add]
    rw [hcell j hj',getElem!_pos ss.toArray j hj]
    simp
   ·have:=hfz j (by omega)
    simp only [World.frozen?, hH,Nat.zero_add]
    exact this
  simp only [Nat.zero_mul] at hv2' ⊢
  refine (c1 b cap w hold hbl hle).mono ?_
  rintro e1 w' ⟨rfl,n,os,rfl⟩
  let c2:=putCells encStr 0 zs.toArray c
  have hc2:c2.size=c.size:=putCells_size _ _ _ _
  have hH2:(grow (putRow encStr (Sort.ahead w n) b 0 zs.toArray) os).heap[b]? = some (.cells c2 e fz):=by
   rw [heap_grow_old _ _ (by simpa using hbl)]
   simp only [putRow,mapBlock,Sort.heap_ahead]
   rw [Array.getElem?_modify,if_pos rfl,hH]
   rfl
  have hne:∀ b1,b1 < w.heap.size→b1≠b→(grow (putRow encStr (Sort.ahead w n) b 0 zs.toArray) os).heap[b1]? = w.heap[b1]? := by
   intro b1 h1 h2
   rw [heap_grow_old _ _ (by simpa using h1)]
   simp only [putRow,mapBlock,Sort.heap_ahead]
   rw [Array.getElem?_modify,if_neg (fun q=>h2 q.symm)]
  have hsize:w.heap.size≤(grow (putRow encStr (Sort.ahead w n) b 0 zs.toArray) os).heap.size:=by simp [grow]
  obtain ⟨L',S'⟩:=L.turn (w':=grow (putRow encStr (Sort.ahead w n) b 0 zs.toArray) os) (β':=β) (g':=g) (o':=.arr g 1 (strsX zs)) (r:=some b) ht rfl rfl (fun _ _ _=>.inr trivial)
   (fun _ _ _ e=>e) (fun _ _ _ e=>.inl e) hb (fun b e=>by injection e with e; subst e; exact ⟨.inl hb,by omega⟩) (fun k hk1 hk=>hne k hk1 (fun q=>hk (by rw [q]; exact hb))) hsize
   (fun b1 c1 e1 f1 q q'=>by
    rw [hb] at q; injection q with q; injection q with q; subst q
    rw [hH] at q'; injection q' with q'; injection q' with q1 q2 q3; subst q1 q2 q3
    exact ⟨c2,fz,hH2,hc2⟩) rfl rfl rfl
   (fun E=>by
    refine .inr ⟨b,c2,e,fz,hb,hH2,by rw [hc2]; exact hfz, ?_,by rw [hc2]; simp [strsX,hz]; exact hsz,fun k hk m hm=>?_⟩
    ·intro x hx
     simp only [strsX,List.mem_map] at hx
     obtain ⟨y,_,rfl⟩:=hx; rfl
    ·have hk':k < zs.length:=by simpa [strsX] using hk
     have hm':m=0:=by simp only [strsX,List.getElem_map,AV.cells,List.length_singleton] at hm; omega
     subst hm'
     refine ⟨encStr zs[k], ?_, ?_⟩
     ·rw [Nat.mul_one,Nat.add_zero]
      have:k < c.size:=by omega
      simp only [c2,putCells,Array.getElem?_mapIdx]
      rw [Array.getElem?_eq_getElem this]
      simp [hk']
     ·simp only [strsX,List.getElem_map,AV.cells,List.getElem_cons_zero,Rep]
      exact ⟨_,rfl,by simp⟩)
   (fun g1 hg=>L.top _ _ _ _ ht _ hg)
  exact ⟨_,_,_,β,fr,rfl,⟨rfl,rfl⟩,L',hr _ _ _ _ _ (hv2'.ext S'.ext),S'⟩
theorem nil_call {P : Program} {f : FuncId} {c : Bool} {R : AV} {rv : Option Addr → Nat → Value} {h : List AObj}
  (c0:∀ a cap w,Calls P f #[.slice a 0 cap] w fun e w'=>e=.returned (rv a cap)∧w'=w)
  (hr:∀ β fr H a cap,Rep β fr H (.fz c []) (.slice a 0 cap)→Rep β fr H R (rv a cap)):ACall P f [.fz c []] h (fun r h'=>r=R∧h'=h):=by
 intro w β fr vs L Rr
 obtain ⟨hvs,hv⟩:=Rr
 obtain ⟨v,hv1,hv2⟩:=hv 0 (by simp)
 have hvs':vs=#[v]:=by
  apply Array.ext_getElem?
  intro i
  rcases i with _ | i
  ·rw [hv1]; rfl
  ·rw [Array.getElem?_eq_none (by rw [hvs]; simp),Array.getElem?_eq_none (by simp)]
 subst hvs'
 simp only [List.getElem_cons_zero] at hv2
 have hv3:=hv2
 simp only [Rep] at hv3
 obtain ⟨a,cap,rfl,_⟩:=hv3
 refine (c0 a cap w).mono ?_
 rintro e w' ⟨rfl,rfl⟩
 exact ⟨_,_,_,β,fr,rfl,⟨rfl,rfl⟩,L,hr _ _ _ _ _ hv2,Step1.refl _ _ _ _⟩
end Go.Proofs.Vale
namespace Go.Proofs.Vale
theorem step_freeze {β:Beta} {fr:Nat→Prop} {h:List AObj} {w:World} (L:Lay β fr w.heap h):Lay β (fun b=>fr b∨Own h β b) w.heap (deadH h)∧Step1 β fr h w β (fun b=>fr b∨Own h β b) (deadH h) w:=by
 have D:=lay_dead2 L
 refine ⟨?_, ?_⟩
 ·exact { frlt := fun b hb => by
           rcases hb with q | ⟨t,o,g,h1,h2,h3⟩
           ·exact L.frlt b q
           ·exact L.lt _ _ _ h3
          ownfr:=fun b o=>(own_dead o).elim,lt:=D.lt,inj:=D.inj
          obj:=fun t o h1=>by
           simp only [deadH,List.getElem?_map] at h1
           cases q:h[t]? with
           | none=>rw [q] at h1; cases h1
           | some o'=>rw [q] at h1; injection h1 with h1; subst h1; trivial
          dom:=D.dom,top:=D.top,tab:=fun b cs q=>⟨.inl (L.tab b cs q).1,(L.tab b cs q).2⟩ }
 ·exact { ext := ⟨fun _ _ _ e => e, fun b e => .inl e, fun _ _ => rfl, fun _ _ _ c _ f _ h => ⟨c, f, h, rfl⟩⟩, os := rfl, tape := rfl, output := rfl, size := Nat.le_refl _
          keep:=fun _ _ _=>rfl,prov:=fun b o=>(own_dead o).elim,frz:=fun b e=>by
           rcases e with q | q
           ·exact .inl q
           ·exact .inr (.inl q) }
theorem ACall.freeze {P:Program} {f:FuncId} {as:List AV} {h:List AObj} {K K2:AV→List AObj→Prop} (k:Nat) (a:ACall P f as h K) (kk:∀ r h',K r h'→K2 (frzA h' k r) (deadH h')):ACall P f as h K2:=by
 intro w β fr vs L R
 refine (a w β fr vs L R).mono ?_
 rintro e w' ⟨v,x,h',β',fr',rfl,hk,L',R',S'⟩
 obtain ⟨L2,S2⟩:=step_freeze L'
 exact ⟨v,_,_,β',_,rfl,kk _ _ hk,L2,frz_rep L' (fun b e=>.inl e) (fun b e=>.inr e) k x v R',S'.trans S2⟩
theorem ACall.frzArgs {P:Program} {f:FuncId} {as as':List AV} {h:List AObj} {K:AV→List AObj→Prop} (k:Nat) (hl:as.map (frzA h k)=as') (a:ACall P f as' (deadH h) K):ACall P f as h K:=by
 intro w β fr vs L R
 obtain ⟨L2,S2⟩:=step_freeze L
 subst hl
 have R2:CellsRep β (fun b=>fr b∨Own h β b) w.heap (as.map (frzA h k)) vs:=by
  refine ⟨by rw [List.length_map]; exact R.1,fun j hj=>?_⟩
  have hj':j < as.length:=by simpa using hj
  obtain ⟨u,hu,hr⟩:=R.2 j hj'
  refine ⟨u,hu, ?_⟩
  rw [List.getElem_map]
  exact frz_rep L (fun b e=>.inl e) (fun b e=>.inr e) k _ u hr
 refine (a w β _ vs L2 R2).mono ?_
 rintro e w' ⟨v,x,h',β',fr',rfl,hk,L',R',S'⟩
 exact ⟨v,x,h',β',fr',rfl,hk,L',R',S2.trans S'⟩
theorem ACallT.frz {P:Program} {f:FuncId} {as as':List AV} {h:List AObj} {K K':AV→List AObj→Prop} {t:Tag K} (k:Nat) (hl:as.map (frzA h k)=as') (a:ACall P f as' (deadH h) K') (kk:∀ r h',K' r h'→K r h'):ACallT P f as h K t:=ACall.frzArgs k hl (a.mono kk)
theorem AWP.freeze {P:Program} {c:Code} {Q:Post} {env:List AV} {h:List AObj} (k:Nat) (a:AWP P c Q (env.map (frzA h k)) (deadH h)):AWP P c Q env h:=by
 intro n0 ro ds tmps w β fr Su L R
 obtain ⟨L2,S2⟩:=step_freeze L
 have R2:EnvRep β (fun b=>fr b∨Own h β b) w.heap (env.map (frzA h k)) tmps:=by
  refine ⟨by rw [List.length_map]; exact R.1,fun j hj=>?_⟩
  have hj':j < env.length:=by simpa using hj
  obtain ⟨u,hu,hr⟩:=R.2 j hj'
  refine ⟨u,hu, ?_⟩
  rw [List.getElem_map]
  exact frz_rep L (fun b e=>.inl e) (fun b e=>.inr e) k _ u hr
 refine wpIn_mono (a n0 ro ds tmps w β _ (Su.step S2) L2 R2) ?_
 rintro e a' w' ⟨env',h',β',fr',q,Su',L',R',S'⟩
 exact ⟨env',h',β',fr',q,Su',L',R',S2.trans S'⟩
theorem ALoop.frz {P : Program} {c : Code} {Q : Post} {t1 : Tag c} {t2 : Tag Q} {env : List AV} {h : List AObj} (ws : List Nat) (I : List AV → Prop) (μ : List AV → Nat)
  (h0:RoundEnd env ws (env.map (frzA h 4))∧I (env.map (frzA h 4)))
  (round:allL ws.length fun ys=>∀ h,I (overs env ws ys)→acode P c (overs env ws ys) h fun e env' h'=>match e with | .normal=>RoundEnd env ws (env'.map (frzA h' 4))∧I (env'.map (frzA h' 4))∧μ (env'.map (frzA h' 4)) < μ (overs env ws ys) | e=>Q e env' h'):ALoopT P c Q t1 t2 env h:=by
 unfold ALoopT
 refine ALoop.intro (fun env' h'=>(∃ ys:List AV,ys.length=ws.length∧env'.map (frzA h' 4)=overs env ws ys)∧I (env'.map (frzA h' 4))) (fun env' h'=>μ (env'.map (frzA h' 4))) ⟨⟨_,by simp,h0.1⟩,h0.2⟩ ?_
 rintro env1 h1 ⟨⟨ys,hl,he⟩,hI⟩
 refine AWP.freeze 4 ?_
 show AWP P c _ (env1.map (frzA h1 4)) (deadH h1)
 have:=allL_spec _ _ round ys hl (deadH h1)
 rw [← he] at this
 exact (acode_ok c _ _ _ (this hI)).mono fun e env' h' q=>by
  cases e <;> first | exact ⟨⟨⟨_,by simp,q.1⟩,q.2.1⟩,q.2.2⟩ | exact q
variable {h:List AObj} {k:Nat}
@[go_sem] theorem frz_int (i:IntKind) (n:Int):frzA h (k+1) (.int i n)=.int i n:=nrfl rfl
@[go_sem] theorem frz_fz (c:Bool) (l:List AV):frzA h (k+1) (.fz c l)=.fz c l:=nrfl rfl
@[go_sem] theorem frz_agg (l:List AV):frzA h (k+1) (.agg l)=.agg (l.map (frzA h k)):=nrfl (by simp only [frzA])
@[go_sem] theorem frz_tup (l:List AV):frzA h (k+1) (.tup l)=.tup (l.map (frzA h k)):=nrfl (by simp only [frzA])
def frzO (o:Option AObj) (h:List AObj) (k g s off len:Nat):AV :=
 match o with
 | some (.arr g' s' l)=>if g=g'∧s=s'∧off+len≤l.length∧(∀ y∈l,(frzA h k y).cells.length=y.cells.length) then .fz false (((l.drop off).take len).map (frzA h k)) else .any
 | _=>.any
@[go_sem] theorem frz_sl (t g s off len:Nat):frzA h (k+1) (.sl t g s off len)=frzO h[t]? h k g s off len:=nrfl (by simp only [frzA,frzO]; rfl)
def flatX:AV→Bool
 | .int .. | .bool _ | .str _ | .nilp | .nilm | .nilf | .nili | .ptr _ | .fz ..=>true
 | _=>false
theorem frz_flatX {x:AV} (hx:flatX x=true):frzA h (k+1) x=x:=by cases x <;> first | rfl | cases hx
theorem frzO_flat {g s off len:Nat} {l:List AV} (hl:off+len≤l.length) (hf:∀ y∈l,flatX y=true):frzO (some (.arr g s l)) h (k+1) g s off len=.fz false ((l.drop off).take len):=by
 have e:((l.drop off).take len).map (frzA h (k+1))=(l.drop off).take len:=by
  have:∀ m:List AV,(∀ y∈m,flatX y=true)→m.map (frzA h (k+1))=m:=by
   intro m hm
   induction m with
   | nil=>rfl
   | cons a m ih=>rw [List.map_cons,frz_flatX (hm a (by simp)),ih fun y hy=>hm y (by simp [hy])]
  exact this _ fun y hy=>hf y (List.mem_of_mem_drop (List.mem_of_mem_take hy))
 simp only [frzO]
 rw [if_pos ⟨trivial,trivial,hl,fun y hy=>by rw [frz_flatX (hf y hy)]⟩,e]
theorem frzO_all {g s n:Nat} {l:List AV} (hl:n=l.length) (hf:∀ y∈l,flatX y=true):frzO (some (.arr g s l)) h (k+1) g s 0 n=.fz false l:=by
 subst hl
 rw [frzO_flat (by omega) hf]; simp
theorem flatX_strs (l:List (List UInt8)):∀ y∈strsX l,flatX y=true:=by
 intro y hy; simp only [strsX,List.mem_map] at hy; obtain ⟨b,_,rfl⟩:=hy; rfl
end Go.Proofs.Vale
