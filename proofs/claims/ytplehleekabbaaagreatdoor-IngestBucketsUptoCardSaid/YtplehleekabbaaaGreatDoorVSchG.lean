/- YtplehleekabbaaaGreatDoorVSchG: a text of the proof of this claim, by its prover. -/
import Derived.Test.YtplehleekabbaaaGreatDoorVSchD
import Derived.Test.YtplehleekabbaaaGreatDoorVTurn
open Nat renaming reduceMul → uA, reduceLT → uB, reduceLeDiff → uC, reduceEqDiff → uD, reduceBEq → uE, lt_irrefl → uQ
open Int renaming toNat_natCast → uF, reduceToNat → uG, reduceNeg → uH, reduceLT → uI, reduceLE → uJ, reduceBEq → uK, reduceBNe → uL
open Bool renaming false_eq_true → uO
set_option linter.unusedVariables false
set_option linter.unusedSimpArgs false
set_option maxHeartbeats 4000000
set_option maxRecDepth 100000
namespace Go.Proofs.Vale
open Go.Proofs Go.Proofs.YtplehleekabbaaaGreatDoorT
attribute [local irreducible] acode aopsL aopsT dopsL dopsT pop popG aop ALoop ADraw ACall AWP AFin acondT ALoopT ADrawT ACallT doP doG doGd
theorem below_lay {β:Beta} {fr:Nat→Prop} {w w':World} {h:List AObj} (L:Lay β fr w.heap h) (B:Go.RowKit.Below w.heap.size w w'):Lay β fr w'.heap h∧Step1 β fr h w β fr h w':=by
 have same:=B.block
 have E:Ext β fr w.heap β fr w'.heap:=⟨fun _ _ _ e=>e,fun _ e=>e,fun b hb=>same b (L.frlt b hb),fun t g b c e f hb hc=>⟨c,f,by rw [same b (L.lt _ _ _ hb)]; exact hc,rfl⟩⟩
 refine ⟨?_, ?_⟩
 ·exact { frlt := fun b hb => Nat.lt_of_lt_of_le (L.frlt b hb) B.size, ownfr := L.ownfr, lt := fun t g b hb => Nat.lt_of_lt_of_le (L.lt t g b hb) B.size, inj := L.inj
          obj:=fun t o ho=>(L.obj t o ho).ext E fun g b _ hb=>same b (L.lt _ _ _ hb),dom:=L.dom,top:=L.top,tab:=fun b cs q=>⟨(L.tab b cs q).1,by rw [E.cells b (L.tab b cs q).1]; exact (L.tab b cs q).2⟩ }
 ·exact { ext:=E,os:=B.os,tape:=B.tape,output:=B.output,size:=B.size,keep:=fun b hb _=>same b hb,prov:=fun b e=>.inl e,frz:=fun b e=>.inl e }
theorem two_args {β:Beta} {fr:Nat→Prop} {H:Array Obj} {s t:Str} {us:Array Value} (R:CellsRep β fr H [.str s,.str t] us):∃ a b:ByteArray,us=#[.string a,.string b]∧a.data.toList=s∧b.data.toList=t:=by
 obtain ⟨hvs,hv⟩:=R
 obtain ⟨v,hv1,hv2⟩:=hv 0 (by simp)
 obtain ⟨u,hu1,hu2⟩:=hv 1 (by simp)
 simp only [List.getElem_cons_zero,List.getElem_cons_succ,Rep] at hv2 hu2
 obtain ⟨a,rfl,ha⟩:=hv2
 obtain ⟨b,rfl,hb⟩:=hu2
 refine ⟨a,b, ?_,ha,hb⟩
 apply Array.ext_getElem?
 intro i
 rcases i with _ | _ | i
 ·rw [hv1]; rfl
 ·rw [hu1]; rfl
 ·rw [Array.getElem?_eq_none (by rw [hvs]; simp),Array.getElem?_eq_none (by simp)]
def ascii (s:Str):Bool:=s.all fun b=>decide (b.toNat < 128)
theorem bsize (b:ByteArray):b.size=b.data.toList.length:=by show b.data.size=_; rw [Array.length_toList]
theorem containsAny_ok (s t:Str) (h:List AObj) (hs:s.length < 4294967281) (ht:t.length < 4294967281) (ha:ascii s=true) (hb:ascii t=true):ACall Tryz.prog 91 [.str s,.str t] h (fun r h'=>r=.bool (Lib.containsAny s t)∧h'=h):=by
 unfold ACall; intro w β fr us L Rr
 obtain ⟨a,b,rfl,rfl,rfl⟩:=two_args Rr
 refine (Tryz.strings_ContainsAny_laid a b w (by rw [bsize]; exact hs) (by rw [bsize]; exact ht) (fun j x hx=>?_) (fun j x hx=>?_)).mono ?_
 ·have:=List.all_eq_true.1 ha x (List.mem_of_getElem? hx); simpa using this
 ·have:=List.all_eq_true.1 hb x (List.mem_of_getElem? hx); simpa using this
 rintro e w' ⟨rfl,B⟩
 obtain ⟨L',S'⟩:=below_lay L B
 exact ⟨_,_,_,β,fr,rfl,⟨rfl,rfl⟩,L',by simp [Rep],S'⟩
theorem cany0 (t:Str):∀ s:Str,0≤Lib.indexAny s t↔(s.any fun b=>t.contains b)=true:=by
 intro s
 induction s with
 | nil=>simp [Lib.indexAny]
 | cons b s ih =>
  rw [Lib.indexAny,List.any_cons]
  have:=Lib.indexAny_ge t s
  by_cases hb:t.contains b=true
  ·rw [if_pos hb,hb]; simp
  ·have hb2:t.contains b=false:=by simpa using hb
   rw [if_neg hb,hb2,Bool.false_or,← ih]
   by_cases q:(Lib.indexAny s t == -1)=true
   ·rw [if_pos q]
    have:Lib.indexAny s t = -1:=by simpa using q
    rw [this]
   ·rw [if_neg q]
    have:Lib.indexAny s t≠-1:=by simpa using q
    omega
theorem cany (t:Str) (s:Str):Lib.containsAny s t=s.any fun b=>t.contains b:=by
 rw [Lib.containsAny,Bool.eq_iff_iff,decide_eq_true_iff,cany0]
def badR (r:Int):Bool:=bif decide (r < 32) then true else decide (126 < r)
def badB (b:UInt8):Bool:=badR (b.toNat:Int)
theorem bad_ok (r:Int) (h:List AObj):ACall Tryz.prog 93 [.int .i32 r] h (fun x h'=>x=.bool (badR r)∧h'=h):=by
 (refine ACall.of_code Tryz.func93 rfl ?_; simp only [Tryz.f93]; simp only [go_sem,uA,uB,uC,uD,uE,uF,uG,uH,uI,uJ,uK,uL,uM,uN,uO,uP,uQ])
 refine Fin_plain ⟨?_,rfl⟩
 simp only [badR]
theorem bad_eq (s:Str) (k:Nat) (h:k < s.length):badB s[k]=badR (dcA s k).1∧(badR (dcA s k).1=false→(dcA s k).2=1):=by
 by_cases hl:(s[k]).toNat < 128
 ·rw [dc_lo s k h hl]; exact ⟨rfl,fun _=>rfl⟩
 ·have hh:=dc_hi s k h hl
  have e:badR (dcA s k).1=true:=by
   simp only [badR]
   rw [show decide ((126:Int) < ((dcA s k).1:Int))=true by simp; omega]
   cases decide (((dcA s k).1:Int) < 32) <;> rfl
  rw [e]
  refine ⟨?_,fun q=>by cases q⟩
  simp only [badB,badR]
  rw [show decide ((126:Int) < ((s[k]).toNat:Int))=true by simp; omega]
  cases decide (((s[k]).toNat:Int) < 32) <;> rfl
theorem indexFunc_ok (s:Str) (h:List AObj) (hs:s.length≤9223372036854775807):ACall Tryz.prog 148 [.str s,.func (.func 93) [] [],.bool true] h (fun r _=>∃ i:Int,r=.int .i64 i∧decide (0≤i)=s.any badB):=by
 (refine ACall.of_code Tryz.func148 rfl ?_; simp only [Tryz.f148]; simp only [go_sem,uA,uB,uC,uD,uE,uF,uG,uH,uI,uJ,uK,uL,uM,uN,uO,uP,uQ])
 refine ALoop.over [6,7,8,11,12,13,14,15,16,17,18,19,20] (fun e h'=>∃ k:Nat,k≤s.length∧h'=h++[.it s k]∧(s.take k).any badB=false) (fun e h'=>s.length - (match h'[h.length]? with | some (.it _ k)=>k | _=>0)) ⟨0,by omega,rfl,rfl⟩ ?_
 simp only [List.length_cons,List.length_nil,Nat.reduceAdd,allL_succ,allL_zero]
 intro y6 y7 y8 y11 y12 y13 y14 y15 y16 y17 y18 y19 y20 h' hI
 obtain ⟨k,hk,rfl,hA⟩:=hI
 simp only [go_sem,getElem?_app0,uA,uB,uC,uD,uE,uF,uG,uH,uI,uJ,uK,uL,uM,uN,uO,uP,uQ]
 refine nxG_intro (fun hp=>?_) (fun hp=>?_)
 ·simp only [go_sem,uA,uB,uC,uD,uE,uF,uG,uH,uI,uJ,uK,uL,uM,uN,uO,uP,uQ]
  obtain ⟨hL,hW⟩:=bad_eq s k hp
  refine ACallT.by (bad_ok _ _) ?_
  rintro r h1 ⟨rfl,rfl⟩
  generalize hb:badR (dcA s k).1=z at *
  cases z with
  | true =>
   simp only [go_sem,uA,uB,uC,uD,uE,uF,uG,uH,uI,uJ,uK,uL,uM,uN,uO,uP,uQ]
   refine Fin_plain ⟨k,rfl, ?_⟩
   have:s.any badB=true:=by rw [List.any_eq_true]; exact ⟨s[k],List.getElem_mem _,hL⟩
   rw [this]; simp
  | false =>
   rw [hW rfl]
   simp only [go_sem,getElem?_app0,set_app0,uA,uB,uC,uD,uE,uF,uG,uH,uI,uJ,uK,uL,uM,uN,uO,uP,uQ]
   refine ⟨⟨k+1,by omega,rfl, ?_⟩,Nat.sub_lt_sub_left hp (Nat.lt_succ_self k)⟩
   rw [List.take_succ_eq_append_getElem hp,List.any_append,hA]; simp [hL]
 ·simp only [go_sem,uA,uB,uC,uD,uE,uF,uG,uH,uI,uJ,uK,uL,uM,uN,uO,uP,uQ]
  have:k=s.length:=by omega
  subst this
  refine Fin_plain ⟨-1,rfl, ?_⟩
  rw [List.take_length] at hA
  rw [hA]; rfl
theorem indexF_ok (s:Str) (h:List AObj) (hs:s.length≤9223372036854775807):ACall Tryz.prog 117 [.str s,.func (.func 93) [] []] h (fun r _=>∃ i:Int,r=.int .i64 i∧decide (0≤i)=s.any badB):=by
 (refine ACall.of_code Tryz.func117 rfl ?_; simp only [Tryz.f117]; simp only [go_sem,uA,uB,uC,uD,uE,uF,uG,uH,uI,uJ,uK,uL,uM,uN,uO,uP,uQ])
 refine ACallT.by (indexFunc_ok s _ hs) ?_
 rintro r h1 ⟨i,rfl,hi⟩
 simp only [go_sem,uA,uB,uC,uD,uE,uF,uG,uH,uI,uJ,uK,uL,uM,uN,uO,uP,uQ]
 exact Fin_plain ⟨i,rfl,hi⟩
theorem containsF_ok (s:Str) (h:List AObj) (hs:s.length≤9223372036854775807):ACall Tryz.prog 92 [.str s,.func (.func 93) [] []] h (fun r _=>r=.bool (s.any badB)):=by
 (refine ACall.of_code Tryz.func92 rfl ?_; simp only [Tryz.f92]; simp only [go_sem,uA,uB,uC,uD,uE,uF,uG,uH,uI,uJ,uK,uL,uM,uN,uO,uP,uQ])
 refine ACallT.by (indexF_ok s _ hs) ?_
 rintro r h1 ⟨i,rfl,hi⟩
 simp only [go_sem,uA,uB,uC,uD,uE,uF,uG,uH,uI,uJ,uK,uL,uM,uN,uO,uP,uQ]
 exact Fin_plain (by rw [hi])
def valueS (s:Str):Bool:=decide (s.length≤24) && !(s.any fun b=>[(34:UInt8),92].contains b) && !(s.any badB)
theorem value_ok (s:Str) (h:List AObj) (hs:s.length≤9223372036854775807) (ha:ascii s=true):ACall Tryz.prog 57 [.str s] h (fun r _=>r=.bool (valueS s)):=by
 (refine ACall.of_code Tryz.func57 rfl ?_; simp only [Tryz.f57]; simp only [go_sem,uA,uB,uC,uD,uE,uF,uG,uH,uI,uJ,uK,uL,uM,uN,uO,uP,uQ])
 generalize hz:decide (((List.length s:Nat):Int)≤24)=z
 cases z with
 | false =>
  simp only [go_sem,uA,uB,uC,uD,uE,uF,uG,uH,uI,uJ,uK,uL,uM,uN,uO,uP,uQ]
  have:=of_decide_eq_false hz
  refine Fin_plain ?_
  rw [valueS,decide_eq_false (by omega)]; rfl
 | true =>
  have:=of_decide_eq_true hz
  simp only [go_sem,uA,uB,uC,uD,uE,uF,uG,uH,uI,uJ,uK,uL,uM,uN,uO,uP,uQ]
  refine ACallT.by (containsAny_ok s _ _ (by omega) (by decide) ha (by decide)) ?_
  rintro r h1 ⟨rfl,rfl⟩
  rw [cany]
  generalize hz2:(s.any fun b=>[(34:UInt8),92].contains b)=z2
  cases z2 with
  | true =>
   simp only [go_sem,uA,uB,uC,uD,uE,uF,uG,uH,uI,uJ,uK,uL,uM,uN,uO,uP,uQ]
   refine Fin_plain ?_
   rw [valueS,hz2]; simp
  | false =>
   simp only [go_sem,uA,uB,uC,uD,uE,uF,uG,uH,uI,uJ,uK,uL,uM,uN,uO,uP,uQ]
   refine ACallT.by (containsF_ok s _ hs) ?_
   rintro r h2 rfl
   simp only [go_sem,uA,uB,uC,uD,uE,uF,uG,uH,uI,uJ,uK,uL,uM,uN,uO,uP,uQ]
   refine Fin_plain ?_
   rw [valueS,hz2,decide_eq_true (by omega)]; rfl
end Go.Proofs.Vale
namespace Go.Proofs.Vale
open Go.Proofs Go.Proofs.YtplehleekabbaaaGreatDoorT
attribute [local irreducible] acode aopsL aopsT dopsL dopsT pop popG aop ALoop ADraw ACall AWP AFin acondT ALoopT ADrawT ACallT doP doG doGd
theorem ACall.partArgs {P:Program} {f:FuncId} {xs xs':List AV} {h h2:List AObj} {K:AV→List AObj→Prop} (T:Nat→Bool) (k:Nat) (hlen:h2.length=h.length) (hp:∀ i o,h2[i]? = some o→PartO T h i o) (hl:xs.map (frzT T h k)=xs') (a:ACall P f xs' h2 K):ACall P f xs h K:=by
 unfold ACall at a ⊢
 intro w β fr us L R
 obtain ⟨fr',e1,e2,e3,e4,L2⟩:=step_part (w:=w) T L hlen hp
 subst hl
 have R2:CellsRep β fr' w.heap (xs.map (frzT T h k)) us:=by
  refine ⟨by rw [List.length_map]; exact R.1,fun j hj=>?_⟩
  have hj':j < xs.length:=by simpa using hj
  obtain ⟨u,hu,hr⟩:=R.2 j hj'
  refine ⟨u,hu, ?_⟩
  rw [List.getElem_map]
  exact frzT_rep L e1 e2 k _ u hr
 refine (a w β fr' us L2 R2).mono ?_
 rintro e w' ⟨v,x,h',β',fr2,rfl,hk,L',R',S'⟩
 refine ⟨v,x,h',β',fr2,rfl,hk,L',R', ?_⟩
 have hz:∀ b,fr' b→fr b∨Own h β b∨w.heap.size≤b:=by
  intro b e
  rcases e3 b e with q | q
  ·exact .inl q
  ·exact .inr (.inl q)
 have S0:Step1 β fr h w β fr' h2 w:=⟨⟨fun _ _ _ e=>e,e1,fun _ _=>rfl,fun _ _ _ c _ f _ h=>⟨c,f,h,rfl⟩⟩,rfl,rfl,rfl,Nat.le_refl _,fun _ _ _=>rfl,fun b o=>.inl (e4 b o),hz⟩
 exact S0.trans S'
theorem ACallT.lastArg {P:Program} {f:FuncId} {xs:List AV} {h h0:List AObj} {l:List AV} {s:Nat} {K K':AV→List AObj→Prop} {t:Tag K} (hf:∀ y∈l,flatX y=true) (eh:h=h0++[.arr 0 s l]) (ea:xs=[.sl h0.length 0 s 0 l.length]) (a:ACall P f [.fz false l] (h0++[.dead]) K') (kk:∀ r h',K' r h'→K r h'):ACallT P f xs h K t:=by
 unfold ACallT
 subst eh ea
 have ht:(h0++[AObj.arr 0 s l])[h0.length]? = some (.arr 0 s l):=by simp
 refine ACall.partArgs (fun i=>i==h0.length) 3 (h2:=h0++[.dead]) (by simp) (fun i o ho=>?_) ?_ (a.mono kk)
 ·rcases Nat.lt_or_ge i h0.length with q | q
  ·refine PartO.same (by simp; omega) ?_
   rw [List.getElem?_append_left q] at ho ⊢; exact ho
  ·obtain ⟨j,rfl⟩:∃ j,i=h0.length+j:=⟨i - h0.length,by omega⟩
   rw [getElem?_app] at ho
   match j,ho with
   | 0,ho=>injection ho with ho; exact .inl ho.symm
   | j+1,ho=>simp at ho
 ·simp only [List.map_cons,List.map_nil]
  rw [frzT_all ht (by simp) rfl hf]
theorem okEl_strs (l:List Str):(strs l).all (okEl 1)=true:=by simp [strs,okEl,AV.cells,AV.one]
theorem strs_app (a b:List Str):strs a++strs b=strs (a++b):=by simp [strs]
theorem grow_ok (n:Nat) (h:List AObj) (hn:n≤8796093022000):ACall Tryz.prog 95 [.fz true [],.int .i64 n] h (fun r h'=>(n=0∧r=.fz true []∧h'=h)∨(r=.sl h.length 0 1 0 0∧h'=h++[.arr 0 1 []])):=by
 (refine ACall.of_code Tryz.func95 rfl ?_; simp only [Tryz.f95]; simp only [go_sem,uA,uB,uC,uD,uE,uF,uG,uH,uI,uJ,uK,uL,uM,uN,uO,uP,uQ])
 generalize hz:decide ((n:Int) < 0)=z
 obtain rfl:z=false:=by rw [← hz]; simp
 simp only [go_sem,uA,uB,uC,uD,uE,uF,uG,uH,uI,uJ,uK,uL,uM,uN,uO,uP,uQ]
 have hw:IntKind.i64.wrap ((n:Int) - IntKind.i64.wrap (((0:Nat):Int) - ((0:Nat):Int)))=(n:Int):=by
  rw [show IntKind.i64.wrap (((0:Nat):Int) - ((0:Nat):Int))=0 by decide,wrap_id (by omega) (by omega)]; omega
 generalize IntKind.i64.wrap ((n:Int) - IntKind.i64.wrap (((0:Nat):Int) - ((0:Nat):Int)))=w at hw
 subst hw
 refine acond_intro (fun hc=>?_) (fun hc=>?_)
 ·have h0:(0:Int) < (n:Int):=of_decide_eq_true hc
  simp only [go_sem,uA,uB,uC,uD,uE,uF,uG,uH,uI,uJ,uK,uL,uM,uN,uO,uP,uQ]
  refine ⟨⟨by omega,by omega,by simp⟩,⟨by omega,by omega,by omega⟩,⟨by omega,by omega⟩, ?_⟩
  refine Fin_plain ?_
  exact .inr ⟨rfl,rfl⟩
 ·have h0:=of_decide_eq_false hc
  simp only [go_sem,uA,uB,uC,uD,uE,uF,uG,uH,uI,uJ,uK,uL,uM,uN,uO,uP,uQ]
  refine Fin_plain ?_
  exact .inl ⟨by omega,rfl,rfl⟩
def fzs (l:List (Bool × List Str)):List AV:=l.map fun p=>.fz p.1 (strs p.2)
theorem fzs_get (l:List (Bool × List Str)) (k:Nat) (h:k < l.length):(fzs l).getD k .any=.fz (l[k]).1 (strs (l[k]).2):=by simp [fzs,List.getD_eq_getElem?_getD,h]
@[go_sem] theorem fzs_len (l:List (Bool × List Str)):(fzs l).length=l.length:=by simp [fzs]
def tot (l:List (Bool × List Str)):List Str:=l.flatMap (·.2)
theorem tot_snoc (l:List (Bool × List Str)) (k:Nat) (h:k < l.length):tot (l.take (k+1))=tot (l.take k)++(l[k]).2:=by
 rw [List.take_succ_eq_append_getElem h,tot,List.flatMap_append]; simp [tot]
theorem tot_le (l:List (Bool × List Str)) (k:Nat):(tot (l.take k)).length≤(tot l).length:=by
 conv=>rhs; rw [← List.take_append_drop k l]
 simp only [tot,List.flatMap_append,List.length_append]; omega
theorem concat_own (c:Bool) (l:List (Bool × List Str)) (h:List AObj) (hl:l.length≤1000000) (ht:(tot l).length≤8796093022000):ACall Tryz.prog 62 [.fz c (fzs l)] h (fun r h'=>∃ ext,h'=h++ext∧((r=.fz true []∧tot l=[])∨∃ t g,h.length≤t∧r=.sl t g 1 0 (tot l).length∧h'[t]? = some (.arr g 1 (strs (tot l))))):=by
 (refine ACall.of_code Tryz.func62 rfl ?_; simp only [Tryz.f62]; simp only [go_sem,uA,uB,uC,uD,uE,uF,uG,uH,uI,uJ,uK,uL,uM,uN,uO,uP,uQ])
 refine ALoop.over [3,5,11,12,13,14,15,16,17,18,19,20,21,22] (fun e h'=>h'=h∧∃ k:Nat,k≤l.length∧e.getD 11 .any=.int .i64 k∧e.getD 3 .any=.int .i64 (tot (l.take k)).length) (fun e _=>l.length - natA (e.getD 11 .any)) ⟨rfl,0,by simp,rfl,by simp [tot]⟩ ?_
 simp only [List.length_cons,List.length_nil,Nat.reduceAdd,allL_succ,allL_zero]
 intro y3 y5 y11 y12 y13 y14 y15 y16 y17 y18 y19 y20 y21 y22 h' hI
 simp only [go_sem] at hI
 obtain ⟨rfl,k,hk,rfl,rfl⟩:=hI
 simp only [go_sem,uA,uB,uC,uD,uE,uF,uG,uH,uI,uJ,uK,uL,uM,uN,uO,uP,uQ]
 refine acond_intro (fun hc=>?_) (fun hc=>?_)
 ·have hlt:k < l.length:=by have:=of_decide_eq_true hc; omega
  have hsn:=tot_snoc l k hlt
  have hle:=tot_le l (k+1)
  rw [hsn,List.length_append] at hle
  simp only [go_sem,fzs_get l k hlt,uA,uB,uC,uD,uE,uF,uG,uH,uI,uJ,uK,uL,uM,uN,uO,uP,uQ]
  refine ⟨⟨by omega,by omega⟩, ?_⟩
  have hw:IntKind.i64.wrap (((tot (l.take k)).length:Int)+((l[k]).2.length:Int))=((tot (l.take (k+1))).length:Int):=by
   rw [hsn,List.length_append,wrap_id (by omega) (by omega)]; omega
  generalize IntKind.i64.wrap (((tot (l.take k)).length:Int)+((l[k]).2.length:Int))=w at hw
  subst hw
  generalize hz:decide (((tot (l.take (k+1))).length:Int) < 0)=z
  obtain rfl:z=false:=by rw [← hz]; simp
  simp only [go_sem,uA,uB,uC,uD,uE,uF,uG,uH,uI,uJ,uK,uL,uM,uN,uO,uP,uQ]
  rw [wrap_id (x:=(k:Int)+1) (by omega) (by omega)]
  exact ⟨⟨k+1,by omega,rfl,rfl⟩,by omega⟩
 ·have hge:k=l.length:=by have:=of_decide_eq_false hc; omega
  subst hge
  rw [List.take_length] at *
  simp only [go_sem,uA,uB,uC,uD,uE,uF,uG,uH,uI,uJ,uK,uL,uM,uN,uO,uP,uQ]
  refine ACallT.by (grow_ok (tot l).length _ (by omega)) ?_
  intro r h1 hr
  have hr2:(∃ ext,h1=h'++ext)∧(r=.fz true []∨∃ t g,h'.length≤t∧r=.sl t g 1 0 0∧h1[t]? = some (.arr g 1 [])):=by
   rcases hr with ⟨-,rfl,rfl⟩ | ⟨rfl,rfl⟩
   ·exact ⟨⟨[],by simp⟩,.inl rfl⟩
   ·exact ⟨⟨_,rfl⟩,.inr ⟨h'.length,0,Nat.le_refl _,rfl,by rw [getElem?_app0]; rfl⟩⟩
  clear hr
  have h0:(∃ ext,h1=h'++ext)∧((r=.fz true []∧tot (l.take 0)=[])∨∃ t g,h'.length≤t∧r=.sl t g 1 0 (tot (l.take 0)).length∧h1[t]? = some (.arr g 1 (strs (tot (l.take 0))))):=by
   obtain ⟨hx,hr2⟩:=hr2
   refine ⟨hx, ?_⟩
   rcases hr2 with rfl | ⟨t,g,hle,rfl,hg⟩
   ·exact .inl ⟨rfl,rfl⟩
   ·exact .inr ⟨t,g,hle,rfl,hg⟩
  simp only [go_sem,uA,uB,uC,uD,uE,uF,uG,uH,uI,uJ,uK,uL,uM,uN,uO,uP,uQ]
  refine ALoop.over [6,8,27,28,29,30,31,32,33,34] (fun e h2=>∃ k:Nat,k≤l.length∧e.getD 27 .any=.int .i64 k∧(∃ ext,h2=h'++ext)∧((e.getD 6 .any=.fz true []∧tot (l.take k)=[])∨∃ t g,h'.length≤t∧e.getD 6 .any=.sl t g 1 0 (tot (l.take k)).length∧h2[t]? = some (.arr g 1 (strs (tot (l.take k)))))) (fun e _=>l.length - natA (e.getD 27 .any)) ⟨0,by simp,rfl,h0⟩ ?_
  simp only [List.length_cons,List.length_nil,Nat.reduceAdd,allL_succ,allL_zero]
  intro y6 y8 y27 y28 y29 y30 y31 y32 y33 y34 h2 hI
  simp only [go_sem] at hI
  obtain ⟨k,hk,rfl,⟨ext,rfl⟩,hX⟩:=hI
  simp only [go_sem,uA,uB,uC,uD,uE,uF,uG,uH,uI,uJ,uK,uL,uM,uN,uO,uP,uQ]
  refine acond_intro (fun hc=>?_) (fun hc=>?_)
  ·have hlt:k < l.length:=by have:=of_decide_eq_true hc; omega
   have hsn:=tot_snoc l k hlt
   have hle:=tot_le l (k+1)
   rw [hsn,List.length_append] at hle
   have hw:IntKind.i64.wrap ((k:Int)+1)=((k+1:Nat):Int):=by rw [wrap_id (by omega) (by omega)]; omega
   simp only [go_sem,fzs_get l k hlt,uA,uB,uC,uD,uE,uF,uG,uH,uI,uJ,uK,uL,uM,uN,uO,uP,uQ]
   refine ⟨⟨by omega,by omega⟩, ?_⟩
   rcases hX with ⟨rfl,h0⟩ | ⟨t,g,htl,rfl,hg⟩
   ·rw [h0,List.nil_append] at hsn
    simp only [go_sem,uA,uB,uC,uD,uE,uF,uG,uH,uI,uJ,uK,uL,uM,uN,uO,uP,uQ]
    refine ⟨⟨by omega,by omega,okEl_strs _⟩,fun q=>⟨⟨k+1,by omega,by rw [hw],⟨_,rfl⟩,.inl ?_⟩,by rw [hw]; omega⟩,fun _=>⟨⟨k+1,by omega,by rw [hw],⟨_,rfl⟩,.inr ⟨h'.length+ext.length,0,by omega,by rw [hsn], ?_⟩⟩,by rw [hw]; omega⟩⟩
    ·rw [hsn]
     have:=congrArg List.length q
     rw [strs_len] at this
     exact List.length_eq_zero_iff.1 this
    ·rw [getElem?_app,getElem?_app0,hsn]; rfl
   ·simp only [go_sem,hg,uA,uB,uC,uD,uE,uF,uG,uH,uI,uJ,uK,uL,uM,uN,uO,uP,uQ]
    refine ⟨⟨by omega,by omega,okEl_strs _⟩,⟨k+1,by omega,by rw [hw],⟨_,List.set_append_right _ _ htl⟩,.inr ⟨t,g+1,htl,by rw [hsn,List.length_append], ?_⟩⟩,by rw [hw]; omega⟩
    rw [List.getElem?_set_self (List.getElem?_eq_some_iff.1 hg).1,hsn,strs_app]
  ·have hge:k=l.length:=by have:=of_decide_eq_false hc; omega
   subst hge
   rw [List.take_length] at hX
   simp only [go_sem,uA,uB,uC,uD,uE,uF,uG,uH,uI,uJ,uK,uL,uM,uN,uO,uP,uQ]
   refine Fin_plain ⟨ext,rfl, ?_⟩
   rcases hX with ⟨rfl,h0⟩ | ⟨t,g,htl,rfl,hg⟩
   ·exact .inl ⟨rfl,h0⟩
   ·exact .inr ⟨t,g,htl,rfl,hg⟩
theorem clone_own (l:List Str) (t g:Nat) (h:List AObj) (hl:l.length≤8796093022000) (ht:h[t]? = some (.arr g 1 (strs l))):ACall Tryz.prog 36 [.sl t g 1 0 l.length] h (fun r h'=>(l=[]∧r=.fz true []∧h'=h)∨∃ g',r=.sl h.length g' 1 0 l.length∧h'=h++[.arr g' 1 (strs l)]):=by
 (refine ACall.of_code Tryz.func36 rfl ?_; simp only [Tryz.f36]; simp only [go_sem,uA,uB,uC,uD,uE,uF,uG,uH,uI,uJ,uK,uL,uM,uN,uO,uP,uQ])
 intro b hb
 cases b with
 | true =>
  simp only [go_sem,uA,uB,uC,uD,uE,uF,uG,uH,uI,uJ,uK,uL,uM,uN,uO,uP,uQ]
  have:l=[]:=List.length_eq_zero_iff.1 (hb rfl)
  refine Fin_plain (.inl ⟨this,rfl,rfl⟩)
 | false =>
  have htl:=(List.getElem?_eq_some_iff.1 ht).1
  have ht2:(h++[AObj.arr 0 1 []])[t]? = some (.arr g 1 (strs l)):=by rw [List.getElem?_append_left htl]; exact ht
  simp only [go_sem,ht2,ht,uA,uB,uC,uD,uE,uF,uG,uH,uI,uJ,uK,uL,uM,uN,uO,uP,uQ]
  exact ⟨⟨by omega,by omega,okEl_strs _⟩,Fin_plain (.inr ⟨1,rfl,rfl⟩)⟩
end Go.Proofs.Vale
namespace Go.Proofs.Vale
open Go.Proofs Go.Proofs.YtplehleekabbaaaGreatDoorT
attribute [local irreducible] acode aopsL aopsT dopsL dopsT pop popG aop ALoop ADraw ACall AWP AFin acondT ALoopT ADrawT ACallT doP doG doGd
theorem indexFn_ok (fn:Nat) (p:Str→Bool) (he:entersB Tryz.prog fn=true) (l:List Str) (c:Bool) (h:List AObj) (hf:∀ s∈l,∀ h,ACall Tryz.prog fn [.str s] h (fun r _=>r=.bool (p s))) (hl:l.length≤9223372036854775807):ACall Tryz.prog 90 [.fz c (strs l),.func (.func fn) [] []] h (fun r _=>∃ i:Int,r=.int .i64 i∧decide (0≤i)=l.any p):=by
 (refine ACall.of_code Tryz.func90 rfl ?_; simp only [Tryz.f90]; simp only [go_sem,uA,uB,uC,uD,uE,uF,uG,uH,uI,uJ,uK,uL,uM,uN,uO,uP,uQ])
 refine ALoop.over [4,5,8,9,10,11,12,13,14,15,16,17,18] (fun e h'=>∃ k:Nat,k≤l.length∧e.getD 8 .any=.int .i64 k∧(l.take k).any p=false) (fun e _=>l.length - natA (e.getD 8 .any)) ⟨0,by simp,rfl,by simp⟩ ?_
 simp only [List.length_cons,List.length_nil,Nat.reduceAdd,allL_succ,allL_zero]
 intro y4 y5 y8 y9 y10 y11 y12 y13 y14 y15 y16 y17 y18 h' hI
 simp only [go_sem] at hI
 obtain ⟨k,hk,rfl,hall⟩:=hI
 simp only [go_sem,uA,uB,uC,uD,uE,uF,uG,uH,uI,uJ,uK,uL,uM,uN,uO,uP,uQ]
 refine acond_intro (fun hc=>?_) (fun hc=>?_)
 ·have hlt:k < l.length:=by simpa using hc
  simp only [go_sem,strs_get l _ hlt,he,uA,uB,uC,uD,uE,uF,uG,uH,uI,uJ,uK,uL,uM,uN,uO,uP,uQ]
  refine ⟨⟨by omega,by omega⟩, ?_⟩
  (refine ACallT.pure (by simp only [go_sem,uA,uB,uC,uD,uE,uF,uG,uH,uI,uJ,uK,uL,uM,uN,uO,uP,uQ]; rfl) (by first | trivial | assumption | (simp only [go_sem,uA,uB,uC,uD,uE,uF,uG,uH,uI,uJ,uK,uL,uM,uN,uO,uP,uQ]; done) | (simp only [go_sem,uA,uB,uC,uD,uE,uF,uG,uH,uI,uJ,uK,uL,uM,uN,uO,uP,uQ]; first | trivial | assumption | omega | decide | (refine ⟨?_, ?_⟩ <;> first | trivial | assumption | omega | decide))) (hf l[k] (List.getElem_mem _) _) ?_; refine fun _ _ e=>?_; subst e; refine ⟨rfl, ?_⟩)
  generalize hb:p l[k]=b
  cases b with
  | true =>
   simp only [go_sem,uA,uB,uC,uD,uE,uF,uG,uH,uI,uJ,uK,uL,uM,uN,uO,uP,uQ]
   refine Fin_plain ⟨k,rfl, ?_⟩
   have:l.any p=true:=by rw [List.any_eq_true]; exact ⟨l[k],List.getElem_mem _,hb⟩
   rw [this]; simp
  | false =>
   simp only [go_sem,uA,uB,uC,uD,uE,uF,uG,uH,uI,uJ,uK,uL,uM,uN,uO,uP,uQ]
   rw [wrap_id (by omega) (by omega)]
   refine ⟨⟨k+1,by omega,rfl, ?_⟩,by omega⟩
   rw [List.take_succ_eq_append_getElem hlt,List.any_append,hall]; simp [hb]
 ·have hge : k = l.length := by have : ¬ k < l.length := by simpa using hc
                                omega
  simp only [go_sem,uA,uB,uC,uD,uE,uF,uG,uH,uI,uJ,uK,uL,uM,uN,uO,uP,uQ]
  refine Fin_plain ⟨-1,rfl, ?_⟩
  subst hge
  rw [List.take_length] at hall
  rw [hall]; rfl
theorem containsFn_ok (fn:Nat) (p:Str→Bool) (he:entersB Tryz.prog fn=true) (l:List Str) (c:Bool) (h:List AObj) (hf:∀ s∈l,∀ h,ACall Tryz.prog fn [.str s] h (fun r _=>r=.bool (p s))) (hl:l.length≤9223372036854775807):ACall Tryz.prog 55 [.fz c (strs l),.func (.func fn) [] []] h (fun r _=>r=.bool (l.any p)):=by
 (refine ACall.of_code Tryz.func55 rfl ?_; simp only [Tryz.f55]; simp only [go_sem,uA,uB,uC,uD,uE,uF,uG,uH,uI,uJ,uK,uL,uM,uN,uO,uP,uQ])
 refine ACallT.by (indexFn_ok fn p he l c _ hf hl) ?_
 rintro r h1 ⟨i,rfl,hi⟩
 simp only [go_sem,uA,uB,uC,uD,uE,uF,uG,uH,uI,uJ,uK,uL,uM,uN,uO,uP,uQ]
 exact Fin_plain (by rw [hi])
theorem right1_ok (s:Str) (h:List AObj) (hs:s.length≤9223372036854775807):ACall Tryz.prog 65 [.str s] h (fun r _=>r=.bool (!nameS s)):=by
 (refine ACall.of_code Tryz.func65 rfl ?_; simp only [Tryz.f65]; simp only [go_sem,uA,uB,uC,uD,uE,uF,uG,uH,uI,uJ,uK,uL,uM,uN,uO,uP,uQ])
 refine ACallT.by (name_ok s _ hs) ?_
 rintro r h1 rfl
 simp only [go_sem,uA,uB,uC,uD,uE,uF,uG,uH,uI,uJ,uK,uL,uM,uN,uO,uP,uQ]
 exact Fin_plain rfl
theorem getElem?_app0' {h:List AObj} {o:AObj}:(h++[o])[h.length]? = some o:=by simp
def srt (l:List Str):List Str:=l.mergeSort fun x y=>decide (x≤y)
def apartS (l:List Str):Bool:=((Lib.compact (srt l)).length:Int)==((srt l).length:Int)
def sizesS (d m:List Str):Bool:=decide (0 < d.length) && decide (d.length≤6) && decide (m.length≤4)
def rightS (d m:List Str):Bool:=apartS (d++m) && sizesS d m && !((srt (d++m)).any fun s=>!nameS s)
theorem sizes_eq (d m:List Str):(bif (bif decide ((0:Int) < (d.length:Int)) then decide ((d.length:Int)≤6) else false) then decide ((m.length:Int)≤4) else false)=sizesS d m:=by
 have e1:decide ((0:Int) < (d.length:Int))=decide (0 < d.length):=by congr 1; simp
 have e2:decide ((d.length:Int)≤6)=decide (d.length≤6):=by congr 1; simp; omega
 have e3:decide ((m.length:Int)≤4)=decide (m.length≤4):=by congr 1; simp; omega
 rw [e1,e2,e3,sizesS]
 cases decide (0 < d.length) <;> cases decide (d.length≤6) <;> rfl
theorem zero_sizes:(bif (bif decide ((0:Int) < ((0:Nat):Int)) then decide (((0:Nat):Int)≤6) else false) then decide (((0:Nat):Int)≤4) else false)=false:=by decide
theorem right_ok (c1 c2:Bool) (d m:List Str) (h:List AObj) (hd:d.length+m.length≤8796093022000) (hL:∀ s∈d++m,s.length≤9223372036854775807):ACall Tryz.prog 34 [schA c1 c2 d m] h (fun r _=>r=.bool (rightS d m)):=by
 have ht:tot [(c1,d),(c2,m)]=d++m:=by simp [tot]
 simp only [schA]
 (refine ACall.of_code Tryz.func34 rfl ?_; simp only [Tryz.f34]; simp only [go_sem,uA,uB,uC,uD,uE,uF,uG,uH,uI,uJ,uK,uL,uM,uN,uO,uP,uQ])
 refine ACallT.lastArg (s:=1) (h0:=h++[.arr 0 2 [schA c1 c2 d m]]) (l:=fzs [(c1,d),(c2,m)]) (by intro y hy; simp only [fzs,List.mem_map] at hy; obtain ⟨p,_,rfl⟩:=hy; rfl) (by simp [schA,fzs]) (by simp [fzs]) (concat_own false _ _ (by simp) (by rw [ht,List.length_append]; omega)) ?_
 rintro r h3 ⟨ext,rfl,hR⟩
 rw [ht] at hR
 have hbx:((h++[AObj.arr 0 2 [schA c1 c2 d m]])++[AObj.dead]++ext)[h.length]? = some (.arr 0 2 [.agg [.fz c1 (strs d),.fz c2 (strs m)]]):=by simp [schA]
 have hlen:(d++m).length=d.length+m.length:=List.length_append
 rw [show ((h++[AObj.arr 0 2 [schA c1 c2 d m]])++[AObj.dead]).length=h.length+2 by simp] at hR
 generalize ((h++[AObj.arr 0 2 [schA c1 c2 d m]])++[AObj.dead]++ext)=H at *
 have hS:(srt (d++m)).length=(d++m).length:=by simp [srt]
 have hR2:rightS d m=((((Lib.compact (srt (d++m))).length:Int)==((srt (d++m)).length:Int)) && sizesS d m && !((srt (d++m)).any fun s=>!nameS s)):=rfl
 generalize ha:d++m=a at *
 rcases hR with ⟨rfl,h0⟩ | ⟨t,g,htl,rfl,hg⟩
 ·have hd0:d=[]:=List.length_eq_zero_iff.1 (by rw [h0] at hlen; simp at hlen; omega)
  have hm0:m=[]:=List.length_eq_zero_iff.1 (by rw [h0] at hlen; simp at hlen; omega)
  subst hd0 hm0
  simp only [go_sem,uA,uB,uC,uD,uE,uF,uG,uH,uI,uJ,uK,uL,uM,uN,uO,uP,uQ]
  refine ACallT.by (sort_nil true _) ?_
  rintro _ _ ⟨rfl,rfl⟩
  simp only [go_sem,uA,uB,uC,uD,uE,uF,uG,uH,uI,uJ,uK,uL,uM,uN,uO,uP,uQ]
  refine ACallT.by (clone_ok [] true _ (by simp)) ?_
  rename_i h3
  rintro r H3 (⟨-,rfl,rfl⟩ | ⟨g',rfl,rfl⟩)
  ·simp only [go_sem,uA,uB,uC,uD,uE,uF,uG,uH,uI,uJ,uK,uL,uM,uN,uO,uP,uQ]
   refine ACallT.by (compact_nil true _) ?_
   rintro _ _ ⟨rfl,rfl⟩
   simp only [go_sem,hbx,uA,uB,uC,uD,uE,uF,uG,uH,uI,uJ,uK,uL,uM,uN,uO,uP,uQ]
   rw [zero_sizes]
   simp only [go_sem,uA,uB,uC,uD,uE,uF,uG,uH,uI,uJ,uK,uL,uM,uN,uO,uP,uQ]
   refine Fin_plain ?_
   rw [hR2,show sizesS [] []=false from rfl,Bool.and_false]; rfl
  ·have hb2:(h3++[AObj.arr g' 1 (strs [])])[h.length]? = some (.arr 0 2 [.agg [.fz c1 (strs []),.fz c2 (strs [])]]):=by
    rw [List.getElem?_append_left (List.getElem?_eq_some_iff.1 hbx).1]; exact hbx
   simp only [go_sem,uA,uB,uC,uD,uE,uF,uG,uH,uI,uJ,uK,uL,uM,uN,uO,uP,uQ]
   refine ACallT.by (compact_ok [] h3.length g' _ (by simp) getElem?_app0') ?_
   rintro _ _ ⟨rfl,rfl⟩
   have hb3:((h3++[AObj.arr g' 1 (strs [])]).set h3.length (.arr g' 1 (strs (Lib.compact []++List.replicate (([]:List Str).length - (Lib.compact ([]:List (List UInt8))).length) []))))[h.length]? = some (.arr 0 2 [.agg [.fz c1 (strs []),.fz c2 (strs [])]]):=by
    rw [List.getElem?_set_ne (by have:=(List.getElem?_eq_some_iff.1 hbx).1; omega)]; exact hb2
   generalize ((h3++[AObj.arr g' 1 (strs [])]).set h3.length (.arr g' 1 (strs (Lib.compact []++List.replicate (([]:List Str).length - (Lib.compact ([]:List (List UInt8))).length) []))))=H5 at hb3 ⊢
   have hc0:(Lib.compact ([]:List (List UInt8))).length=0:=by decide
   rw [hc0]
   simp only [go_sem,hb3,uA,uB,uC,uD,uE,uF,uG,uH,uI,uJ,uK,uL,uM,uN,uO,uP,uQ]
   rw [zero_sizes]
   simp only [go_sem,uA,uB,uC,uD,uE,uF,uG,uH,uI,uJ,uK,uL,uM,uN,uO,uP,uQ]
   refine Fin_plain ?_
   rw [hR2,show sizesS [] []=false from rfl,Bool.and_false]; rfl
 ·simp only [go_sem,uA,uB,uC,uD,uE,uF,uG,uH,uI,uJ,uK,uL,uM,uN,uO,uP,uQ]
  refine ACallT.by (sort_ok a t g H (by omega) hg) ?_
  rintro _ _ ⟨rfl,rfl⟩
  have htH:=(List.getElem?_eq_some_iff.1 hg).1
  have hg2:(H.set t (.arr g 1 (strs (srt a))))[t]? = some (.arr g 1 (strs (srt a))):=List.getElem?_set_self htH
  have hbx2:(H.set t (.arr g 1 (strs (srt a))))[h.length]? = some (.arr 0 2 [.agg [.fz c1 (strs d),.fz c2 (strs m)]]):=by rw [List.getElem?_set_ne (by omega)]; exact hbx
  rw [show (AObj.arr g 1 (strs (a.mergeSort fun x y=>decide (x≤y))))=AObj.arr g 1 (strs (srt a)) from rfl]
  have htH2:t < (H.set t (.arr g 1 (strs (srt a)))).length:=by rw [List.length_set]; exact htH
  generalize H.set t (.arr g 1 (strs (srt a)))=H2 at *
  have hall:∀ s∈srt a,s.length≤9223372036854775807:=fun s hs=>hL s (by rw [srt,List.mem_mergeSort] at hs; exact hs)
  rw [← hS]
  generalize srt a=S at *
  simp only [go_sem,uA,uB,uC,uD,uE,uF,uG,uH,uI,uJ,uK,uL,uM,uN,uO,uP,uQ]
  refine ACallT.by (clone_own S t g H2 (by omega) hg2) ?_
  rintro r H3 (⟨h0,rfl,rfl⟩ | ⟨g',rfl,rfl⟩)
  ·have hd0:d=[]:=List.length_eq_zero_iff.1 (by rw [h0] at hS; simp at hS; omega)
   have hm0:m=[]:=List.length_eq_zero_iff.1 (by rw [h0] at hS; simp at hS; omega)
   subst hd0 hm0
   simp only [go_sem,uA,uB,uC,uD,uE,uF,uG,uH,uI,uJ,uK,uL,uM,uN,uO,uP,uQ]
   refine ACallT.by (compact_nil true _) ?_
   rintro _ _ ⟨rfl,rfl⟩
   simp only [go_sem,hbx2,uA,uB,uC,uD,uE,uF,uG,uH,uI,uJ,uK,uL,uM,uN,uO,uP,uQ]
   rw [zero_sizes]
   generalize (((0:Nat):Int)==(S.length:Int))=z
   cases z <;>
   ·simp only [go_sem,uA,uB,uC,uD,uE,uF,uG,uH,uI,uJ,uK,uL,uM,uN,uO,uP,uQ]
    refine Fin_plain ?_
    rw [hR2,show sizesS [] []=false from rfl,Bool.and_false]; rfl
  ·simp only [go_sem,uA,uB,uC,uD,uE,uF,uG,uH,uI,uJ,uK,uL,uM,uN,uO,uP,uQ]
   refine ACallT.by (compact_ok S H2.length g' _ (by omega) getElem?_app0') ?_
   rintro _ _ ⟨rfl,rfl⟩
   have hbx5:((H2++[AObj.arr g' 1 (strs S)]).set H2.length (.arr g' 1 (strs (Lib.compact S++List.replicate (S.length - (Lib.compact S).length) []))))[h.length]? = some (.arr 0 2 [.agg [.fz c1 (strs d),.fz c2 (strs m)]]):=by
    rw [List.getElem?_set_ne (by omega),List.getElem?_append_left (by omega)]; exact hbx2
   have hg5:((H2++[AObj.arr g' 1 (strs S)]).set H2.length (.arr g' 1 (strs (Lib.compact S++List.replicate (S.length - (Lib.compact S).length) []))))[t]? = some (.arr g 1 (strs S)):=by
    rw [List.getElem?_set_ne (by omega),List.getElem?_append_left htH2]; exact hg2
   generalize (H2++[AObj.arr g' 1 (strs S)]).set H2.length (.arr g' 1 (strs (Lib.compact S++List.replicate (S.length - (Lib.compact S).length) [])))=H5 at *
   simp only [go_sem,hbx5,uA,uB,uC,uD,uE,uF,uG,uH,uI,uJ,uK,uL,uM,uN,uO,uP,uQ]
   have hB:(bif (((Lib.compact S).length:Int)==(S.length:Int)) then (bif (bif decide ((0:Int) < (d.length:Int)) then decide ((d.length:Int)≤6) else false) then decide ((m.length:Int)≤4) else false) else false)=((((Lib.compact S).length:Int)==(S.length:Int)) && sizesS d m):=by
    rw [sizes_eq]; cases (((Lib.compact S).length:Int)==(S.length:Int)) <;> rfl
   rw [hB]
   generalize ((((Lib.compact S).length:Int)==(S.length:Int)) && sizesS d m)=z at hR2 ⊢
   cases z with
   | false=>simp only [go_sem,uA,uB,uC,uD,uE,uF,uG,uH,uI,uJ,uK,uL,uM,uN,uO,uP,uQ]; refine Fin_plain ?_; rw [hR2]; rfl
   | true =>
    simp only [go_sem,uA,uB,uC,uD,uE,uF,uG,uH,uI,uJ,uK,uL,uM,uN,uO,uP,uQ]
    refine ACallT.pure (by simp only [go_sem,hg5,uA,uB,uC,uD,uE,uF,uG,uH,uI,uJ,uK,uL,uM,uN,uO,uP,uQ]; rfl) (by first | trivial | assumption | (simp only [go_sem,uA,uB,uC,uD,uE,uF,uG,uH,uI,uJ,uK,uL,uM,uN,uO,uP,uQ]; done) | (simp only [go_sem,uA,uB,uC,uD,uE,uF,uG,uH,uI,uJ,uK,uL,uM,uN,uO,uP,uQ]; first | trivial | assumption | omega | decide | (refine ⟨?_, ?_⟩ <;> first | trivial | assumption | omega | decide))) (containsFn_ok 65 (fun s=>!nameS s) (by kernel_rfl) S false _ (fun s hs h=>right1_ok s h (hall s hs)) (by omega)) ?_
    refine fun _ _ e=>?_
    subst e
    refine ⟨rfl, ?_⟩
    simp only [go_sem,uA,uB,uC,uD,uE,uF,uG,uH,uI,uJ,uK,uL,uM,uN,uO,uP,uQ]
    refine Fin_plain ?_
    rw [hR2]; rfl
end Go.Proofs.Vale
