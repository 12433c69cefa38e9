/- YtplehleekabbaaaGreatDoorVSchD: a text of the proof of this claim, by its prover. -/
import Derived.Test.YtplehleekabbaaaGreatDoorVY
import Derived.Test.YtplehleekabbaaaGreatDoorVTy
import Derived.Test.YtplehleekabbaaaGreatDoorVIngS
import Derived.Lib.RowBridge
open Nat renaming reduceMul → uA, reduceLT → uB, reduceLeDiff → uC, reduceEqDiff → uD, reduceBEq → uE, lt_irrefl → uQ
open Int renaming toNat_natCast → uF, reduceToNat → uG, reduceNeg → uH, reduceLT → uI, reduceLE → uJ, reduceBEq → uK, reduceBNe → uL
open Bool renaming false_eq_true → uO
set_option linter.unusedVariables false
set_option linter.unusedSimpArgs false
set_option maxHeartbeats 4000000
set_option maxRecDepth 100000
namespace Go.Proofs.Vale
open Go.Proofs Go.Proofs.YtplehleekabbaaaGreatDoorT
attribute [local irreducible] acode aopsL aopsT dopsL dopsT pop popG aop ALoop ADraw ACall AWP AFin acondT ALoopT ADrawT ACallT doP doG doGd
abbrev Str:=List UInt8
def strs (l:List Str):List AV:=l.map .str
theorem strs_len (l:List Str):(strs l).length=l.length:=by simp [strs]
theorem strs_get (l:List Str) (k:Nat) (h:k < l.length):(strs l).getD k .any=.str l[k]:=by simp [strs,List.getD_eq_getElem?_getD,h]
theorem strs_cells (l:List Str):∀ x,x∈strs l→x.cells.length=1:=by
 intro x hx; simp only [strs,List.mem_map] at hx; obtain ⟨n,_,rfl⟩:=hx; rfl
theorem flatS (l:List Str):∀ y∈strs l,flatX y=true:=flatX_strs l
theorem low_strs (n:Nat):∀ l:List Str,lowL n (strs l)=true
 | []=>rfl
 | s::l=>by simp only [strs,List.map_cons,lowL,AV.low,Bool.true_and]; exact low_strs n l
attribute [go_sem] strs_len
@[go_sem] theorem take_strs (l:List Str):List.take l.length (strs l)=strs l:=by rw [← strs_len l,List.take_length]
theorem mixedOrdersD:Tryz.prog.follows .mixedOrders=true:=by kernel_rfl
theorem table_at {β:Beta} {fr:Nat→Prop} {w:World} {h:List AObj} (L:Lay β fr w.heap h):Lib.TabIs Tryz.prog w "strings.asciiSpace" .u8 Lib.asciiSpaceTab:=by
 obtain ⟨_,cs,e,f,hH,rfl⟩:=L.tab 0 spaceP (by simp [tabs])
 have hg:Tryz.prog.globalNamed "strings.asciiSpace"=some 0:=by kernel_rfl
 unfold Lib.TabIs World.var?
 rw [hg]
 simp only [Option.bind_some,hH]
theorem new_strs {β : Beta} {fr : Nat → Prop} {w : World} {h : List AObj} (L : Lay β fr w.heap h) (fl : List Str) (ty : Nat) (cs : Array Value) (hcs : cs = (fl.map fun l => Value.string ⟨l.toArray⟩).toArray) :
  ∃ β',Lay β' fr (w.alloc (.cells cs ty)).heap (h++[.arr 0 1 (strs fl)])∧Rep β' fr (w.alloc (.cells cs ty)).heap (.sl h.length 0 1 0 fl.length) (.slice (some ⟨w.heap.size,0,none⟩) fl.length fl.length)∧Step1 β fr h w β' fr (h++[.arr 0 1 (strs fl)]) (w.alloc (.cells cs ty)):=by
 have hsz:cs.size=fl.length:=by rw [hcs]; simp
 have hcell:∀ i (hi:i < fl.length),cs[i]? = some (.string ⟨fl[i].toArray⟩):=by
  intro i hi; rw [hcs]; simp [hi]
 clear hcs
 have hpush:(w.heap.push (.cells cs ty))[w.heap.size]? = some (.cells cs ty (0,0)):=by simp
 obtain ⟨L',S'⟩:=L.push (w':=w.alloc (.cells cs ty)) (o:=.arr 0 1 (strs fl)) (g:=0) (c:=.cells cs ty) rfl rfl rfl rfl rfl
  (.inr ⟨w.heap.size,cs,ty,(0,0),betaSet_same _ _ _ _,hpush,fun i _=>by simp,strs_cells _,by rw [strs_len,hsz]; omega,fun i hi j hj=>by
   have hi':i < fl.length:=by rw [strs_len] at hi; exact hi
   have hj0:j=0:=by simp only [strs,List.getElem_map,AV.cells,List.length_singleton] at hj; omega
   subst hj0
   refine ⟨.string ⟨(fl[i]).toArray⟩, ?_, ?_⟩
   ·rw [Nat.mul_one,Nat.add_zero]; exact hcell i hi'
   ·simp only [strs,List.getElem_map,AV.cells,List.getElem_cons_zero,Rep]
    exact ⟨_,rfl,by simp⟩⟩)
 refine ⟨_,L', ?_,S'⟩
 simp only [Rep]
 exact .inr ⟨w.heap.size,cs,ty,(0,0),fl.length,betaSet_same _ _ _ _,hpush,by rw [Nat.zero_mul],by rw [hsz]; omega,Nat.le_refl _⟩
theorem fields_call (s:Str) (h:List AObj) (hs:s.length < 4294967281) (ha:s.all (fun b=>decide (b.toNat < 128))=true):ACall Tryz.prog 130 [.str s] h (fun r h'=>r=.sl h.length 0 1 0 (Lib.fields s).length∧h'=h++[.arr 0 1 (strs (Lib.fields s))]):=by
 unfold ACall; intro w β fr us L Rr
 obtain ⟨hvs,hv⟩:=Rr
 obtain ⟨v,hv1,hv2⟩:=hv 0 (by simp)
 have hvs':us=#[v]:=by
  apply Array.ext_getElem?
  intro i
  rcases i with _ | i
  ·rw [hv1]; rfl
  ·rw [Array.getElem?_eq_none (by rw [hvs]; simp),Array.getElem?_eq_none (by simp)]
 subst hvs'
 simp only [List.getElem_cons_zero,Rep] at hv2
 obtain ⟨b,rfl,rfl⟩:=hv2
 have hsz:b.size=b.data.toList.length:=by show b.data.size=_; rw [Array.length_toList]
 refine (Tryz.strings_Fields_laid b w (by omega) (fun j x hx=>?_) (table_at L)).mono ?_
 ·have:=List.all_eq_true.1 ha x (List.mem_of_getElem? hx)
  simpa using this
 rintro e w' ⟨rfl,rfl⟩
 obtain ⟨β',L',R',S'⟩:=new_strs L (Lib.fields b.data.toList) 9 _ rfl
 exact ⟨_,_,_,β',fr,rfl,⟨rfl,rfl⟩,L',R',S'⟩
def bs (s:String):Str:=s.toUTF8.data.toList
def wordsL:List Str:=[[99,111,117,110,116],[115,117,109],[109,105,110],[109,97,120],[102,114,111,109],[116,111],[98,121],[101,118,101,114,121],[119,104,101,114,101],[104,97,118,105,110,103],[111,114,100,101,114],[108,105,109,105,116],[97,110,100],[111,114],[110,111,116],[105,115],[110,117,108,108],[97,115,99],[100,101,115,99],[115,101,108,101,99,116]]
theorem words_ok (h:List AObj):ACall Tryz.prog 99 [] h (fun r _=>r=.fz false (strs wordsL)):=by
 (refine ACall.of_code Tryz.func99 rfl ?_; simp only [Tryz.f99]; simp only [go_sem,uA,uB,uC,uD,uE,uF,uG,uH,uI,uJ,uK,uL,uM,uN,uO,uP,uQ])
 refine ACallT.by (fields_call _ _ (by decide) (by decide)) ?_
 rintro r h1 ⟨rfl,rfl⟩
 simp only [go_sem,uA,uB,uC,uD,uE,uF,uG,uH,uI,uJ,uK,uL,uM,uN,uO,uP,uQ]
 refine Fin_freeze 4 ?_
 simp only [frz_sl,getElem?_app0]
 have e:Lib.fields (List.append [99,111,117,110,116,32,115,117,109,32,109,105,110,32,109,97,120,32,102,114,111,109,32,116,111,32,98,121,32,101,118,101,114,121,32,119,104,101,114,101,32,104,97,118,105,110,103] [32,111,114,100,101,114,32,108,105,109,105,116,32,97,110,100,32,111,114,32,110,111,116,32,105,115,32,110,117,108,108,32,97,115,99,32,100,101,115,99,32,115,101,108,101,99,116])=wordsL:=by decide
 rw [e]
 exact frzO_all (strs_len _).symm (flatS _)
theorem clone_ok (l:List Str) (c:Bool) (h:List AObj) (hl:l.length≤8796093022000):ACall Tryz.prog 36 [.fz c (strs l)] h (fun r h'=>(l=[]∧r=.fz true []∧h'=h)∨∃ g,r=.sl h.length g 1 0 l.length∧h'=h++[.arr g 1 (strs l)]):=by
 (refine ACall.of_code Tryz.func36 rfl ?_; simp only [Tryz.f36]; simp only [go_sem,uA,uB,uC,uD,uE,uF,uG,uH,uI,uJ,uK,uL,uM,uN,uO,uP,uQ])
 intro b hb
 cases b with
 | true =>
  simp only [go_sem,uA,uB,uC,uD,uE,uF,uG,uH,uI,uJ,uK,uL,uM,uN,uO,uP,uQ]
  have:l=[]:=by have:=hb rfl; cases l with
   | nil=>rfl
   | cons a l=>simp [strs] at this
  refine Fin_plain (.inl ⟨this,rfl,rfl⟩)
 | false =>
  simp only [go_sem,uA,uB,uC,uD,uE,uF,uG,uH,uI,uJ,uK,uL,uM,uN,uO,uP,uQ]
  have hall:(strs l).all (okEl 1)=true:=by simp [strs,okEl,AV.cells,AV.one]
  refine ⟨⟨by omega,by omega,hall⟩, ?_⟩
  refine Fin_plain (.inr ⟨1,rfl,rfl⟩)
theorem sort_ok (ss:List Str) (t g:Nat) (h:List AObj) (hl:ss.length < 4611686018427387904) (ht:h[t]? = some (.arr g 1 (strs ss))):ACall Tryz.prog 63 [.sl t g 1 0 ss.length] h (fun r h'=>r=.tup []∧h'=h.set t (.arr g 1 (strs (ss.mergeSort fun x y=>decide (x≤y))))):=by
 refine inplace_ok (R:=.tup []) (rv:=fun _ _=>.tuple #[]) (by simp) ht ?_ ?_ ?_
 ·intro blk cap w hH hb hc
  exact Tryz.slices_Sort_string blk 0 cap ss w hH hb hl
 ·intro w hss; subst hss
  exact Tryz.slices_Sort_string_none none 0 w
 ·intro β fr H a cap _
  simp [Rep]
theorem compact_ok (ss:List Str) (t g:Nat) (h:List AObj) (hl:ss.length < 4611686018427387904) (ht:h[t]? = some (.arr g 1 (strs ss))):ACall Tryz.prog 64 [.sl t g 1 0 ss.length] h (fun r h'=>r=.sl t g 1 0 (Lib.compact ss).length∧h'=h.set t (.arr g 1 (strs (Lib.compact ss++List.replicate (ss.length - (Lib.compact ss).length) [])))):=by
 have hle:(Lib.compact ss).length≤ss.length:=Lib.compact_length_le ss
 refine inplace_ok (R:=.sl t g 1 0 (Lib.compact ss).length) (rv:=fun a c=>.slice a (Lib.compact ss).length c) (by simp; omega) ht ?_ ?_ ?_
 ·intro blk cap w hH hb hc
  refine (Tryz.slices_Compact_string blk 0 cap ss w hH (by omega) hc).mono ?_
  rintro e w' ⟨rfl,q,rfl⟩
  exact ⟨rfl,q,#[],by simp [Go.Sort.grow_empty]⟩
 ·intro w hss; subst hss
  exact (Tryz.slices_Compact_string_empty none 0 w)
 ·intro β fr H a cap hr
  simp only [Rep] at hr ⊢
  rcases hr with ⟨hb,_,h0,hv⟩ | ⟨b,c,e,f,cap',hb,hH,hv,hcap,hl⟩
  ·injection hv with h1 h2 h3; subst h1 h3
   have:(Lib.compact ss).length=0:=by omega
   exact .inl ⟨hb,trivial,this,by rw [this]⟩
  ·injection hv with h1 h2 h3; subst h1 h3
   exact .inr ⟨b,c,e,f,cap,hb,hH,rfl,hcap,by omega⟩
theorem sort_nil (c:Bool) (h:List AObj):ACall Tryz.prog 63 [.fz c []] h (fun r h'=>r=.tup []∧h'=h) :=
 nil_call (R:=.tup []) (rv:=fun _ _=>.tuple #[]) (fun a cap w=>Tryz.slices_Sort_string_none a cap w) (fun β fr H a cap _=>by simp [Rep])
theorem compact_nil (c:Bool) (h:List AObj):ACall Tryz.prog 64 [.fz c []] h (fun r h'=>r=.fz c []∧h'=h) :=
 nil_call (R:=.fz c []) (rv:=fun a cap=>.slice a 0 cap) (fun a cap w=>Tryz.slices_Compact_string_empty a cap w) (fun β fr H a cap q=>q)
end Go.Proofs.Vale
namespace Go.Proofs.Vale
open Go.Proofs Go.Proofs.YtplehleekabbaaaGreatDoorT
attribute [local irreducible] acode aopsL aopsT dopsL dopsT pop popG aop ALoop ADraw ACall AWP AFin acondT ALoopT ADrawT ACallT doP doG doGd
def ix (l:List Str) (s:Str):Nat:=(l.takeWhile fun t=>!(s==t)).length
theorem ix_eq (l:List Str) (s:Str):∀ (i:Nat) (hi:i≤l.length) (h1:∀ k,(hk:k < l.length)→k < i→(s==l[k])=false) (h2:∀ hk:i < l.length,(s==l[i])=true),ix l s=i:=by
 induction l with
 | nil=>intro i hi h1 h2; simp at hi; subst hi; rfl
 | cons x l ih =>
  intro i hi h1 h2
  simp only [ix,List.takeWhile_cons]
  cases i with
  | zero =>
   have:=h2 (by simp)
   simp only [List.getElem_cons_zero] at this
   rw [this]; rfl
  | succ i =>
   have:=h1 0 (by simp) (by simp)
   simp only [List.getElem_cons_zero] at this
   rw [this]
   have e:=ih i (by simp at hi; exact hi) (fun k hk q=>h1 (k+1) (by simp; omega) (by omega)) (fun hk=>h2 (by simp; omega))
   simp only [Bool.not_false,if_true,List.length_cons]
   exact congrArg (·+1) e
theorem ix_lt (l:List Str) (s:Str):ix l s < l.length↔s∈l:=by
 induction l with
 | nil=>simp [ix]
 | cons x l ih =>
  simp only [ix,List.takeWhile_cons] at ih ⊢
  by_cases e:s=x
  ·subst e; simp
  ·have:(s==x)=false:=by simpa using e
   simp only [this,Bool.not_false,if_true,List.length_cons,List.mem_cons,e,false_or]
   rw [← ih]; omega
def ixI (l:List Str) (s:Str):Int:=if ix l s < l.length then (ix l s:Int) else -1
theorem index_ok (l:List Str) (s:Str) (c:Bool) (h:List AObj) (hl:l.length≤9223372036854775807):ACall Tryz.prog 129 [.fz c (strs l),.str s] h (fun r h'=>r=.int .i64 (ixI l s)∧h'=h):=by
 (refine ACall.of_code Tryz.func129 rfl ?_; simp only [Tryz.f129]; simp only [go_sem,uA,uB,uC,uD,uE,uF,uG,uH,uI,uJ,uK,uL,uM,uN,uO,uP,uQ])
 refine ALoop.over [4,5,8,9,10,11,12,13,14,15,16,17,18] (fun e h'=>h'=h∧∃ k:Nat,k≤l.length∧e.getD 8 .any=.int .i64 k∧∀ j (hj:j < l.length),j < k→(s==l[j])=false) (fun e _=>l.length - natA (e.getD 8 .any)) ⟨rfl,0,by simp,rfl,fun _ _ q=>by omega⟩ ?_
 simp only [List.length_cons,List.length_nil,Nat.reduceAdd,allL_succ,allL_zero]
 intro y4 y5 y8 y9 y10 y11 y12 y13 y14 y15 y16 y17 y18 h' hI
 simp only [go_sem] at hI
 obtain ⟨rfl,k,hk,rfl,hall⟩:=hI
 simp only [go_sem,uA,uB,uC,uD,uE,uF,uG,uH,uI,uJ,uK,uL,uM,uN,uO,uP,uQ]
 refine acond_intro (fun hc=>?_) (fun hc=>?_)
 ·have hlt:k < l.length:=by simpa using hc
  simp only [go_sem,strs_get l _ hlt,uA,uB,uC,uD,uE,uF,uG,uH,uI,uJ,uK,uL,uM,uN,uO,uP,uQ]
  refine ⟨⟨by omega,by omega⟩, ?_⟩
  refine acond_intro (fun hb=>?_) (fun hb=>?_)
  ·simp only [go_sem,uA,uB,uC,uD,uE,uF,uG,uH,uI,uJ,uK,uL,uM,uN,uO,uP,uQ]
   refine Fin_plain ⟨?_,rfl⟩
   have:=ix_eq l s k hk hall (fun _=>hb)
   rw [ixI,this,if_pos hlt]
  ·simp only [go_sem,uA,uB,uC,uD,uE,uF,uG,uH,uI,uJ,uK,uL,uM,uN,uO,uP,uQ]
   rw [wrap_id (by omega) (by omega)]
   refine ⟨⟨k+1,by omega,rfl,fun j hj q=>?_⟩,by omega⟩
   by_cases e:j=k
   ·subst e; exact hb
   ·exact hall j hj (by omega)
 ·have hge : k = l.length := by have : ¬ k < l.length := by simpa using hc
                                omega
  simp only [go_sem,uA,uB,uC,uD,uE,uF,uG,uH,uI,uJ,uK,uL,uM,uN,uO,uP,uQ]
  refine Fin_plain ⟨?_,rfl⟩
  have:=ix_eq l s k hk hall (fun q=>by omega)
  rw [ixI,this,if_neg (by omega)]
theorem contains_ok (l:List Str) (s:Str) (c:Bool) (h:List AObj) (hl:l.length≤9223372036854775807):ACall Tryz.prog 98 [.fz c (strs l),.str s] h (fun r h'=>r=.bool (decide (s∈l))∧h'=h):=by
 (refine ACall.of_code Tryz.func98 rfl ?_; simp only [Tryz.f98]; simp only [go_sem,uA,uB,uC,uD,uE,uF,uG,uH,uI,uJ,uK,uL,uM,uN,uO,uP,uQ])
 refine ACallT.by (index_ok l s c _ hl) ?_
 rintro r h1 ⟨rfl,rfl⟩
 simp only [go_sem,uA,uB,uC,uD,uE,uF,uG,uH,uI,uJ,uK,uL,uM,uN,uO,uP,uQ]
 refine Fin_plain ⟨?_,rfl⟩
 congr 1
 rw [ixI]
 split
 ·rename_i q; rw [decide_eq_true ((ix_lt l s).1 q)]; simp
 ·rename_i q; rw [decide_eq_false (fun w=>q ((ix_lt l s).2 w))]; simp
def findV (l:List Str) (s:Str):AV:=if s∈l then .tup [.int .i64 (ix l s:Int),.bool true] else .tup [.int .i64 0,.bool false]
end Go.Proofs.Vale
namespace Go.Proofs.Vale
open Go.Proofs Go.Proofs.YtplehleekabbaaaGreatDoorT
attribute [local irreducible] acode aopsL aopsT dopsL dopsT pop popG aop ALoop ADraw ACall AWP AFin acondT ALoopT ADrawT ACallT doP doG doGd
def schA (c1 c2:Bool) (d m:List Str):AV:=.agg [.fz c1 (strs d),.fz c2 (strs m)]
def fitS (l:List Str):Bool:=decide (l.length≤20) && l.all fun s=>decide (s.length≤80)
theorem fits_ok (l:List Str) (c:Bool) (h:List AObj) (hl:l.length≤9223372036854775807):ACall Tryz.prog 26 [.fz c (strs l)] h (fun r h'=>r=.bool (fitS l)∧h'=h):=by
 (refine ACall.of_code Tryz.func26 rfl ?_; simp only [Tryz.f26]; simp only [go_sem,uA,uB,uC,uD,uE,uF,uG,uH,uI,uJ,uK,uL,uM,uN,uO,uP,uQ])
 refine ALoop.over [2,3,4,5,6,7,8,9,10,11,12,13,14,15,16,17,18,19] (fun e h'=>h'=h∧∃ k:Nat,k≤l.length∧k≤20∧e.getD 3 .any=.int .i64 k∧(l.take k).all (fun s=>decide (s.length≤80))=true) (fun e _=>l.length - natA (e.getD 3 .any)) ⟨rfl,0,by simp,by simp,rfl,by simp⟩ ?_
 simp only [List.length_cons,List.length_nil,Nat.reduceAdd,allL_succ,allL_zero]
 intro y2 y3 y4 y5 y6 y7 y8 y9 y10 y11 y12 y13 y14 y15 y16 y17 y18 y19 h' hI
 simp only [go_sem] at hI
 obtain ⟨rfl,k,hk,hk2,rfl,hall⟩:=hI
 simp only [go_sem,uA,uB,uC,uD,uE,uF,uG,uH,uI,uJ,uK,uL,uM,uN,uO,uP,uQ]
 refine acond_intro (fun hc=>?_) (fun hc=>?_)
 ·have hlt:k < l.length:=by simpa using hc
  simp only [go_sem,strs_get l _ hlt,uA,uB,uC,uD,uE,uF,uG,uH,uI,uJ,uK,uL,uM,uN,uO,uP,uQ]
  refine ⟨fun q=>⟨q,by omega,by omega⟩, ?_⟩
  refine acond_intro (fun hb=>?_) (fun hb=>?_)
  ·simp only [go_sem,uA,uB,uC,uD,uE,uF,uG,uH,uI,uJ,uK,uL,uM,uN,uO,uP,uQ]
   refine Fin_plain ⟨?_,rfl⟩
   by_cases hz:(k:Int)=20
   ·rw [fitS,decide_eq_false (by omega)]; rfl
   ·have hb2:¬ (l[k]).length≤80:=by simp [hz] at hb; omega
    have:l.all (fun s=>decide (s.length≤80))=false:=by
     rw [List.all_eq_false]; exact ⟨l[k],List.getElem_mem _,by simpa using hb2⟩
    rw [fitS,this,Bool.and_false]
  ·simp only [go_sem,uA,uB,uC,uD,uE,uF,uG,uH,uI,uJ,uK,uL,uM,uN,uO,uP,uQ]
   have hz:(k:Int)≠20:=fun q=>by simp [q] at hb
   have hb2:(l[k]).length≤80:=by simp [hz] at hb; omega
   rw [wrap_id (by omega) (by omega)]
   refine ⟨⟨k+1,by omega,by omega,rfl, ?_⟩,by omega⟩
   rw [List.take_succ_eq_append_getElem hlt,List.all_append,hall]; simp [hb2]
 ·have hge : k = l.length := by have : ¬ k < l.length := by simpa using hc
                                omega
  subst hge
  rw [List.take_length] at hall
  simp only [go_sem,uA,uB,uC,uD,uE,uF,uG,uH,uI,uJ,uK,uL,uM,uN,uO,uP,uQ]
  refine Fin_plain ⟨?_,rfl⟩
  rw [fitS,hall,decide_eq_true hk2]; rfl
end Go.Proofs.Vale
namespace Go.Proofs.Vale
open Go.Proofs Go.Proofs.YtplehleekabbaaaGreatDoorT
attribute [local irreducible] acode aopsL aopsT dopsL dopsT pop popG aop ALoop ADraw ACall AWP AFin acondT ALoopT ADrawT ACallT doP doG doGd
theorem get_at (s:Str) (i:Nat) (h:i < s.length):(ByteArray.get! ⟨⟨s⟩⟩ (i+0))=s[i]:=by
 have h':i < (⟨s⟩:Array UInt8).size:=h
 show (⟨s⟩:Array UInt8)[i]! = s[i]
 rw [getElem!_pos _ i h']
 rfl
theorem dc_lo (s:Str) (i:Nat) (h:i < s.length) (hl:(s[i]).toNat < 128):dcA s i=((s[i]).toNat,1):=by
 unfold dcA
 simp only [Utf8.decode,get_at s i h]
 rw [if_pos hl]
theorem dc_hi (s:Str) (i:Nat) (h:i < s.length) (hl:¬ (s[i]).toNat < 128):128≤(dcA s i).1:=by
 unfold dcA
 simp only [Utf8.decode,get_at s i h]
 rw [if_neg hl]
 repeat' split
 all_goals (simp only [Utf8.runeError] at *; first | omega | (simp at *; omega))
def letter (first:Bool) (b:UInt8):Bool:=(decide (97≤b.toNat) && decide (b.toNat≤122)) || (!first && ((decide (48≤b.toNat) && decide (b.toNat≤57)) || b.toNat==95))
def lettersFrom (s:Str) (k:Nat):Bool:=(s.drop k).zipIdx k |>.all fun p=>letter (p.2==0) p.1
def nameS (s:Str):Bool:=!(s==[]) && decide (s.length≤12) && !decide (s∈wordsL) && lettersFrom s 0
theorem letters_step (s:Str) (k:Nat) (h:k < s.length):lettersFrom s k=(letter (k==0) s[k] && lettersFrom s (k+1)):=by
 unfold lettersFrom
 rw [List.drop_eq_getElem_cons h,List.zipIdx_cons,List.all_cons]
theorem letters_end (s:Str):lettersFrom s s.length=true:=by simp [lettersFrom]
def letR (f:Bool) (r:Int):Bool:=(bif decide (97≤r) then decide (r≤122) else false) || (!f && ((bif decide (48≤r) then decide (r≤57) else false) || r==95))
theorem let_eq (s:Str) (k:Nat) (h:k < s.length) (f:Bool):letter f s[k]=letR f (dcA s k).1∧(letR f (dcA s k).1=true→(dcA s k).2=1):=by
 by_cases hl:(s[k]).toNat < 128
 ·rw [dc_lo s k h hl]
  refine ⟨?_,fun _=>rfl⟩
  simp only [letter,letR]
  have e1:(((s[k]).toNat:Int)==95)=((s[k]).toNat==95):=by rw [Bool.eq_iff_iff]; simp; omega
  have e2:decide ((97:Int)≤((s[k]).toNat:Int))=decide (97≤(s[k]).toNat):=by congr 1; simp; omega
  have e3:decide (((s[k]).toNat:Int)≤122)=decide ((s[k]).toNat≤122):=by congr 1; simp; omega
  have e4:decide ((48:Int)≤((s[k]).toNat:Int))=decide (48≤(s[k]).toNat):=by congr 1; simp; omega
  have e5:decide (((s[k]).toNat:Int)≤57)=decide ((s[k]).toNat≤57):=by congr 1; simp; omega
  rw [e1,e2,e3,e4,e5]
  cases decide (97≤(s[k]).toNat) <;> cases decide (48≤(s[k]).toNat) <;> rfl
 ·have hh:=dc_hi s k h hl
  have e:letR f (dcA s k).1=false:=by
   have a1:decide (((dcA s k).1:Int)≤122)=false:=by simp; omega
   have a2:decide (((dcA s k).1:Int)≤57)=false:=by simp; omega
   have a3:(((dcA s k).1:Int)==95)=false:=by simp; omega
   simp only [letR,a1,a2,a3]
   cases decide ((97:Int)≤((dcA s k).1:Int)) <;> cases decide ((48:Int)≤((dcA s k).1:Int)) <;> simp
  rw [e]
  refine ⟨?_,fun q=>by cases q⟩
  have a1:decide ((s[k]).toNat≤122)=false:=by simp; omega
  have a2:decide ((s[k]).toNat≤57)=false:=by simp; omega
  have a3:((s[k]).toNat==95)=false:=by simp; omega
  simp [letter,a1,a2,a3]
theorem name_ok (s:Str) (h:List AObj) (hs:s.length≤9223372036854775807):ACall Tryz.prog 66 [.str s] h (fun r _=>r=.bool (nameS s)):=by
 (refine ACall.of_code Tryz.func66 rfl ?_; simp only [Tryz.f66]; simp only [go_sem,uA,uB,uC,uD,uE,uF,uG,uH,uI,uJ,uK,uL,uM,uN,uO,uP,uQ])
 generalize hz:(bif s==[] then true else decide (12 < ((List.length s:Nat):Int)))=z
 cases z with
 | true =>
  simp only [go_sem,uA,uB,uC,uD,uE,uF,uG,uH,uI,uJ,uK,uL,uM,uN,uO,uP,uQ]
  refine Fin_plain ?_
  have:(!(s==[]) && decide (s.length≤12))=false:=by
   cases e:(s==[])
   ·rw [e] at hz; simp only [cond_false] at hz; have:=of_decide_eq_true hz; simp; omega
   ·rfl
  simp only [nameS,this,Bool.false_and]
 | false =>
  have hne:(!(s==[]) && decide (s.length≤12))=true:=by
   cases e:(s==[])
   ·rw [e] at hz; simp only [cond_false] at hz; have:=of_decide_eq_false hz; simp; omega
   ·rw [e] at hz; cases hz
  simp only [go_sem,uA,uB,uC,uD,uE,uF,uG,uH,uI,uJ,uK,uL,uM,uN,uO,uP,uQ]
  (refine ACallT.frame (words_ok _) ?_; refine fun _ _ e=>?_; subst e; refine ⟨by (first | rfl | (simp only [AV.low,lowL,low_strs,Bool.and_true,Bool.and_self])), ?_⟩; simp only [go_sem,uA,uB,uC,uD,uE,uF,uG,uH,uI,uJ,uK,uL,uM,uN,uO,uP,uQ])
  refine ACallT.by (contains_ok wordsL s false _ (by decide)) ?_
  rintro r h1 ⟨rfl,rfl⟩
  generalize hm:decide (s∈wordsL)=m
  cases m with
  | true=>simp only [go_sem,uA,uB,uC,uD,uE,uF,uG,uH,uI,uJ,uK,uL,uM,uN,uO,uP,uQ]; refine Fin_plain ?_; simp [nameS,hm]
  | false =>
   have hN:nameS s=lettersFrom s 0:=by rw [nameS,hne,hm]; simp
   simp only [go_sem,uA,uB,uC,uD,uE,uF,uG,uH,uI,uJ,uK,uL,uM,uN,uO,uP,uQ]
   refine ALoop.over [2,3,4,19,20,21,22,23,24,25,26,27,28,29,30,31,32,33,34,35,36,37,38,39,40] (fun e h'=>∃ k:Nat,k≤s.length∧h'=h1++[.it s k]∧lettersFrom s k=lettersFrom s 0) (fun e h'=>s.length - (match h'[h1.length]? with | some (.it _ k)=>k | _=>0)) ⟨0,by omega,rfl,rfl⟩ ?_
   simp only [List.length_cons,List.length_nil,Nat.reduceAdd,allL_succ,allL_zero]
   intro y2 y3 y4 y19 y20 y21 y22 y23 y24 y25 y26 y27 y28 y29 y30 y31 y32 y33 y34 y35 y36 y37 y38 y39 y40 h' hI
   obtain ⟨k,hk,rfl,hA⟩:=hI
   simp only [go_sem,getElem?_app0,uA,uB,uC,uD,uE,uF,uG,uH,uI,uJ,uK,uL,uM,uN,uO,uP,uQ]
   refine nxG_intro (fun hp=>?_) (fun hp=>?_)
   ·simp only [go_sem,uA,uB,uC,uD,uE,uF,uG,uH,uI,uJ,uK,uL,uM,uN,uO,uP,uQ]
    obtain ⟨hL,hW⟩:=let_eq s k hp (k==0)
    have hk0:(k==0)=((k:Int)==0):=by rw [Bool.eq_iff_iff]; simp
    rw [hk0] at hL hW
    have hst:=letters_step s k hp
    rw [hk0,hL] at hst
    have stop:∀ z,letR z (dcA s k).1=false→z=((k:Int)==0)→nameS s=false:=fun z q e=>by rw [hN,← hA,hst,← e,q]; rfl
    have go:∀ z,letR z (dcA s k).1=true→z=((k:Int)==0)→lettersFrom s (k+1)=lettersFrom s 0∧(dcA s k).2=1:=fun z q e=>by
     rw [← e] at hst hW
     rw [q,Bool.true_and,hA] at hst
     exact ⟨hst.symm,hW q⟩
    clear hL hW hst
    generalize hr:((dcA s k).1:Int)=r at stop go ⊢
    clear hr
    generalize h95:(r==95)=z1
    cases z1 with
    | true =>
     obtain rfl:r=95:=by simpa using h95
     simp only [go_sem,uA,uB,uC,uD,uE,uF,uG,uH,uI,uJ,uK,uL,uM,uN,uO,uP,uQ]
     generalize h0:((k:Int)==0)=z0 at *
     cases z0 with
     | true=>simp only [go_sem,uA,uB,uC,uD,uE,uF,uG,uH,uI,uJ,uK,uL,uM,uN,uO,uP,uQ]; refine Fin_plain ?_; rw [stop true (by decide) rfl]
     | false =>
      obtain ⟨g1,g2⟩:=go false (by decide) rfl
      rw [g2]
      simp only [go_sem,getElem?_app0,set_app0,uA,uB,uC,uD,uE,uF,uG,uH,uI,uJ,uK,uL,uM,uN,uO,uP,uQ]
      exact ⟨⟨k+1,by omega,rfl,g1⟩,Nat.sub_lt_sub_left hp (Nat.lt_succ_self k)⟩
    | false =>
     simp only [go_sem,uA,uB,uC,uD,uE,uF,uG,uH,uI,uJ,uK,uL,uM,uN,uO,uP,uQ]
     generalize h2:(bif decide (48≤r) then decide (r≤57) else false)=z2
     cases z2 with
     | true =>
      have hA0:(bif decide (97≤r) then decide (r≤122) else false)=false:=by
       cases q:decide (97≤r)
       ·rfl
       ·cases q2:decide (48≤r)
        ·rw [q2] at h2; cases h2
        ·rw [q2] at h2; have:=of_decide_eq_true q; have:=of_decide_eq_true h2; omega
      simp only [go_sem,uA,uB,uC,uD,uE,uF,uG,uH,uI,uJ,uK,uL,uM,uN,uO,uP,uQ]
      generalize h0:((k:Int)==0)=z0 at *
      cases z0 with
      | true=>simp only [go_sem,uA,uB,uC,uD,uE,uF,uG,uH,uI,uJ,uK,uL,uM,uN,uO,uP,uQ]; refine Fin_plain ?_; rw [stop true (by simp [letR,hA0]) rfl]
      | false =>
       obtain ⟨g1,g2⟩:=go false (by simp only [letR,h2]; simp) rfl
       rw [g2]
       simp only [go_sem,getElem?_app0,set_app0,uA,uB,uC,uD,uE,uF,uG,uH,uI,uJ,uK,uL,uM,uN,uO,uP,uQ]
       exact ⟨⟨k+1,by omega,rfl,g1⟩,Nat.sub_lt_sub_left hp (Nat.lt_succ_self k)⟩
     | false =>
      simp only [go_sem,uA,uB,uC,uD,uE,uF,uG,uH,uI,uJ,uK,uL,uM,uN,uO,uP,uQ]
      generalize h3:(bif decide (97≤r) then decide (r≤122) else false)=z3
      cases z3 with
      | true =>
       obtain ⟨g1,g2⟩:=go _ (by simp only [letR,h3,Bool.true_or]) rfl
       rw [g2]
       simp only [go_sem,getElem?_app0,set_app0,uA,uB,uC,uD,uE,uF,uG,uH,uI,uJ,uK,uL,uM,uN,uO,uP,uQ]
       exact ⟨⟨k+1,by omega,rfl,g1⟩,Nat.sub_lt_sub_left hp (Nat.lt_succ_self k)⟩
      | false =>
       simp only [go_sem,uA,uB,uC,uD,uE,uF,uG,uH,uI,uJ,uK,uL,uM,uN,uO,uP,uQ]
       refine Fin_plain ?_
       rw [stop _ (by simp only [letR,h2,h3,h95,Bool.or_false,Bool.and_false]) rfl]
   ·simp only [go_sem,uA,uB,uC,uD,uE,uF,uG,uH,uI,uJ,uK,uL,uM,uN,uO,uP,uQ]
    have:k=s.length:=by omega
    subst this
    refine Fin_plain ?_
    rw [hN,← hA,letters_end]
end Go.Proofs.Vale
