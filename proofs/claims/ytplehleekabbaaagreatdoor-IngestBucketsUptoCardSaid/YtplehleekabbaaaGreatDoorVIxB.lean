/- YtplehleekabbaaaGreatDoorVIxB: a text of the proof of this claim, by its prover. -/
import Derived.Test.YtplehleekabbaaaGreatDoorVCpC
import Derived.Lib.ItoaLen
import Derived.Lib.ItoaMem
open Nat renaming reduceMul → uA, reduceLT → uB, reduceLeDiff → uC, reduceEqDiff → uD, reduceBEq → uE, lt_irrefl → uQ
open Int renaming toNat_natCast → uF, reduceToNat → uG, reduceNeg → uH, reduceLT → uI, reduceLE → uJ, reduceBEq → uK, reduceBNe → uL
open Bool renaming false_eq_true → uO
set_option linter.unusedVariables false
set_option linter.unusedSimpArgs false
set_option maxHeartbeats 4000000
set_option maxRecDepth 100000
namespace Go.Proofs.Vale
open Go.Proofs Go.Proofs.YtplehleekabbaaaGreatDoorT
attribute [local irreducible] acode aopsL aopsT dopsL dopsT pop popG aop ALoop ADraw ACall AWP AFin acondT ALoopT ADrawT ACallT doP doG doGd frL frT frX
def keyT (r:Rw):Str:=Lib.itoa r.1++0::Lib.join r.2.1 [0]
theorem dec_val (u:Nat):(Lib.decDigits u).foldl (fun a b=>a * 10+(b.toNat - 48)) 0=u:=by
 induction u using Nat.strongRecOn with
 | ind u ih =>
  rw [Lib.decDigits]
  split
  ·rename_i h
   simp only [List.foldl_cons,List.foldl_nil]
   rw [UInt8.toNat_ofNat']; omega
  ·rename_i h
   rw [List.foldl_append,ih (u / 10) (by omega)]
   simp only [List.foldl_cons,List.foldl_nil]
   rw [UInt8.toNat_ofNat']; omega
theorem dec_ne0 (u:Nat):∀ b∈Lib.decDigits u,b≠0:=by
 induction u using Nat.strongRecOn with
 | ind u ih =>
  rw [Lib.decDigits]
  have hz:∀ k,k < 10→UInt8.ofNat (48+k)≠0:=fun k hk e=>by
   have:=congrArg UInt8.toNat e
   rw [UInt8.toNat_ofNat'] at this
   simp at this; omega
  split
  ·rename_i h
   intro b hb
   rw [List.mem_singleton.1 hb]; exact hz u h
  ·rename_i h
   intro b hb
   rcases List.mem_append.1 hb with q | q
   ·exact ih (u / 10) (by omega) b q
   ·rw [List.mem_singleton.1 q]; exact hz _ (by omega)
theorem itoa_inj {a b:Int} (ha:0≤a) (hb:0≤b) (h:Lib.itoa a=Lib.itoa b):a=b:=by
 unfold Lib.itoa at h
 rw [if_neg (by omega),if_neg (by omega)] at h
 have:=congrArg (fun l:List UInt8=>l.foldl (fun a b=>a * 10+(b.toNat - 48)) 0) h
 simp only [dec_val] at this
 omega
theorem itoa_ne0 {a:Int} (ha:0≤a):(0:UInt8) ∉ Lib.itoa a:=by
 unfold Lib.itoa
 rw [if_neg (by omega)]
 exact fun h=>dec_ne0 _ _ h rfl
theorem split0:∀ {a b A B:List UInt8},(0:UInt8) ∉ a→(0:UInt8) ∉ b→a++0::A=b++0::B→a=b∧A=B:=by
 intro a
 induction a with
 | nil =>
  intro b A B _ hb h
  cases b with
  | nil=>simp at h; exact ⟨rfl,h⟩
  | cons x b=>simp at h; exact absurd (by simp [← h.1]) hb
 | cons y a ih =>
  intro b A B ha hb h
  cases b with
  | nil=>simp at h; exact absurd (by simp [h.1]) ha
  | cons x b =>
   simp only [List.cons_append,List.cons.injEq] at h
   obtain ⟨h1,h2⟩:=ih (fun q=>ha (List.mem_cons_of_mem _ q)) (fun q=>hb (List.mem_cons_of_mem _ q)) h.2
   exact ⟨by rw [h.1,h1],h2⟩
theorem join_cons2 (a b:Str) (l:List Str):Lib.join (a::b::l) [0]=a++0::Lib.join (b::l) [0]:=by
 simp [Lib.join,List.intercalate]
theorem join_inj:∀ {l m:List Str},l.length=m.length→(∀ s∈l,(0:UInt8) ∉ s)→(∀ s∈m,(0:UInt8) ∉ s)→Lib.join l [0]=Lib.join m [0]→l=m:=by
 intro l
 induction l with
 | nil=>intro m h; cases m with
  | nil=>intros; rfl
  | cons a m=>simp at h
 | cons a l ih =>
  intro m hlen hl hm h
  cases m with
  | nil=>simp at hlen
  | cons b m =>
   cases l with
   | nil =>
    cases m with
    | nil=>simp [Lib.join,List.intercalate] at h; rw [h]
    | cons c m=>simp at hlen
   | cons c l =>
    cases m with
    | nil=>simp at hlen
    | cons d m =>
     rw [join_cons2,join_cons2] at h
     obtain ⟨h1,h2⟩:=split0 (hl a (by simp)) (hm b (by simp)) h
     rw [h1,ih (by simpa using hlen) (fun s q=>hl s (by simp at q ⊢; exact .inr q)) (fun s q=>hm s (by simp at q ⊢; exact .inr q)) h2]
theorem join_len0 (k:Nat):∀ (l:List Str),(∀ s∈l,s.length≤k)→(Lib.join l [0]).length≤l.length * (k+1):=by
 intro l
 induction l with
 | nil=>intro _; simp [Lib.join,List.intercalate]
 | cons a l ih =>
  intro h
  have ha:=h a (by simp)
  have h2:=ih fun s q=>h s (by simp [q])
  cases l with
  | nil=>simp [Lib.join,List.intercalate]; omega
  | cons b l =>
   rw [join_cons2]
   rw [List.length_append,List.length_cons]
   have:(a::b::l).length * (k+1)=(b::l).length * (k+1)+(k+1):=by rw [List.length_cons,Nat.succ_mul]
   omega
theorem keyT_inj {r s:Rw} (h:keyT r=keyT s) (hr:0≤r.1) (hs:0≤s.1) (hl:r.2.1.length=s.2.1.length) (h1:∀ v∈r.2.1,(0:UInt8) ∉ v) (h2:∀ v∈s.2.1,(0:UInt8) ∉ v):keyR r=keyR s:=by
 obtain ⟨e1,e2⟩:=split0 (itoa_ne0 hr) (itoa_ne0 hs) h
 unfold keyR
 rw [itoa_inj hr hs e1,join_inj hl h1 h2 e2]
theorem keyT_eq {r s:Rw} (h:keyR r=keyR s):keyT r=keyT s:=by
 unfold keyR at h
 injection h with h1 h2
 unfold keyT; rw [h1,h2]
theorem key_ok (r:Rw) (c1 c2:Bool) (h:List AObj) (h0:-9223372036854775808≤r.1) (h1:r.1≤9223372036854775807) (hl:r.2.1.length≤140737488355328) (hj:(Lib.join r.2.1 [0]).length≤140737488355328):ACall Tryz.prog 39 [rowC c1 c2 r.1 r.2.1 r.2.2.1 r.2.2.2] h (fun x _=>x=.str (keyT r)):=by
 obtain ⟨t,d,n,g⟩:=r
 simp only at h0 h1 hl hj
 simp only [rowC]
 (refine ACall.of_code Tryz.func39 rfl ?_; simp only [Tryz.f39]; simp only [go_sem,uA,uB,uC,uD,uE,uF,uG,uH,uI,uJ,uK,uL,uM,uN,uO,uP,uQ])
 (refine ADrawT.walk [[0],[0],[0,3],[3,7],[0,3],[0,3],[3,7],[7],[7]] mixedOrdersD (by kernel_rfl) (by kernel_rfl) ?_; simp only [go_sem,uA,uB,uC,uD,uE,uF,uG,uH,uI,uJ,uK,uL,uM,uN,uO,uP,uQ])
 refine frX_same (.str (Lib.itoa t)) ?_ ?_
 ·simp only [go_sem,uA,uB,uC,uD,uE,uF,uG,uH,uI,uJ,uK,uL,uM,uN,uO,uP,uQ]
  exact ACallT.frame (itoa_ok t _ h0 h1) fun _ _ e=>by rw [e.1]; exact ⟨rfl,rfl,rfl⟩
 have hil:=Lib.itoa_length_le t h0 h1
 simp only [go_sem,uA,uB,uC,uD,uE,uF,uG,uH,uI,uJ,uK,uL,uM,uN,uO,uP,uQ]
 refine ⟨by omega, ?_⟩
 refine frX_same (.str (Lib.join d [0])) ?_ ?_
 ·simp only [go_sem,uA,uB,uC,uD,uE,uF,uG,uH,uI,uJ,uK,uL,uM,uN,uO,uP,uQ]
  exact ACallT.frame (join_ok d [0] c1 _ hl hj) fun _ _ e=>by rw [e.1]; exact ⟨rfl,rfl,rfl⟩
 simp only [go_sem,uA,uB,uC,uD,uE,uF,uG,uH,uI,uJ,uK,uL,uM,uN,uO,uP,uQ]
 refine ⟨by simp; omega, ?_⟩
 refine ⟨by simp [fmem,Agree], ?_⟩
 exact Fin_plain rfl
end Go.Proofs.Vale
namespace Go.Proofs.Vale
open Go.Proofs Go.Proofs.YtplehleekabbaaaGreatDoorT
@[go_sem] theorem isT_mapUpdate (t:TypeId) (x y z:Operand):isT (.mapUpdate t x y z)=true:=nrfl rfl
@[go_sem] theorem isMem_mapUpdate (t:TypeId) (x y z:Operand):isMem (.mapUpdate t x y z)=false:=nrfl rfl
theorem frX_set {B:AV→List AObj→Prop} {m:List AObj} {K:AV→List AObj→Prop} {s:Tag (fun (x:AV) (m':List AObj)=>m.length≤m'.length∧B x m')} {t:Tag K} (x:AV) (i:Nat) (o:AObj) (a:B x (m.set i o)) (k:K x (m.set i o)):frX (fun x m'=>m.length≤m'.length∧B x m') K s t:=⟨x,m.set i o,⟨by simp,a⟩,k⟩
attribute [local irreducible] acode aopsL aopsT dopsL dopsT pop popG aop ALoop ADraw ACall AWP AFin acondT ALoopT ADrawT ACallT doP doG doGd frL frT frX
def ixRow (g:Int) (e:Ev):Rw:=(e.1 - e.1 % g,e.2.1,1,onesG e.2.2)
def hasK (r:Rw) (s:Rw):Bool:=decide (keyR s=keyR r)
def addK (d m:List Str) (g:Int) (R:List Rw) (e:Ev):Int :=
 bif checkS d m e.1 e.2.1 e.2.2 != 0 then checkS d m e.1 e.2.1 e.2.2 else match R.findIdx? (hasK (ixRow g e)) with | none=>0 | some i=>joinC (G R i) (ixRow g e)
def addL (d m:List Str) (g:Int) (R:List Rw) (e:Ev):List Rw :=
 bif addK d m g R e != 0 then R else match R.findIdx? (hasK (ixRow g e)) with | none=>R++[ixRow g e] | some i=>R.set i (joinR (G R i) (ixRow g e))
def RowI (d m:List Str) (r:Rw):Prop:=r.2.1.length=d.length∧(∀ s∈r.2.1,valueS s=true)∧r.2.2.2.length=m.length∧0≤r.1∧r.1≤1099511627776
theorem check_0 {d m:List Str} {e:Ev} (h:checkS d m e.1 e.2.1 e.2.2=0):e.2.1.length=d.length∧e.2.2.length=m.length∧(∀ s∈e.2.1,valueS s=true)∧0≤e.1∧e.1≤1099511627776:=by
 unfold checkS at h
 cases h1:(bif (((e.2.1.length:Int)) != (d.length:Int)) then true else ((e.2.2.length:Int) != (m.length:Int))) with
 | true=>rw [h1] at h; cases h
 | false =>
  rw [h1] at h
  simp only [cond_false] at h
  cases h2:e.2.1.any (fun s=>!valueS s) with
  | true=>rw [h2] at h; cases h
  | false =>
   rw [h2] at h
   simp only [cond_false] at h
   cases h3:e.2.2.any badI with
   | true=>rw [h3] at h; cases h
   | false =>
    rw [h3] at h
    simp only [cond_false] at h
    cases h4:(bif decide (e.1 < 0) then true else decide (1099511627776 < e.1)) with
    | true=>rw [h4] at h; cases h
    | false =>
     have a1:¬ e.1 < 0:=fun q=>by simp [q] at h4
     have a2:¬ 1099511627776 < e.1:=fun q=>by simp [q] at h4
     have b1:¬ ((e.2.1.length:Int))≠(d.length:Int):=fun q=>by
      have:(((e.2.1.length:Int)) != (d.length:Int))=true:=by simpa using q
      rw [this] at h1; cases h1
     have b2:¬ ((e.2.2.length:Int))≠(m.length:Int):=fun q=>by
      have:(((e.2.2.length:Int)) != (m.length:Int))=true:=by simpa using q
      rw [this] at h1
      cases hh:(((e.2.1.length:Int)) != (d.length:Int)) <;> rw [hh] at h1 <;> cases h1
     refine ⟨by omega,by omega,fun s hs=>?_,by omega,by omega⟩
     have:=List.any_eq_false.1 h2 s hs
     simpa using this
theorem rowI_new {d m:List Str} {e:Ev} {g:Int} (hg:gr g=true) (h:checkS d m e.1 e.2.1 e.2.2=0):RowI d m (ixRow g e):=by
 obtain ⟨h1,h2,h3,h4,h5⟩:=check_0 h
 have hg2:=(gr_iff g).1 hg
 have a1:=Int.emod_nonneg e.1 (show g≠0 by omega)
 have a2:=Int.emod_lt_of_pos e.1 (show 0 < g by omega)
 have a3:e.1 % g≤e.1:=by
  have:=Int.mul_ediv_add_emod e.1 g
  have h6:0≤e.1 / g:=Int.ediv_nonneg h4 (by omega)
  have:=Int.mul_nonneg (show (0:Int)≤g by omega) h6
  omega
 exact ⟨h1,h3,by simp [ixRow,onesG,h2],by simp only [ixRow]; omega,by simp only [ixRow]; omega⟩
theorem value_ne0 {s:Str} (h:valueS s=true):(0:UInt8) ∉ s:=by
 intro hz
 unfold valueS at h
 simp only [Bool.and_eq_true,Bool.not_eq_true'] at h
 have:=List.any_eq_false.1 h.2 0 hz
 exact this (by decide)
theorem value_len {s:Str} (h:valueS s=true):s.length≤24:=by
 unfold valueS at h
 simp only [Bool.and_eq_true,decide_eq_true_eq] at h
 exact h.1.1
theorem keyT_iff {d m:List Str} {r s:Rw} (hr:RowI d m r) (hs:RowI d m s):keyT s=keyT r↔keyR s=keyR r :=
 ⟨fun h=>keyT_inj h hs.2.2.2.1 hr.2.2.2.1 (by rw [hs.1,hr.1]) (fun v hv=>value_ne0 (hs.2.1 v hv)) (fun v hv=>value_ne0 (hr.2.1 v hv)),keyT_eq⟩
theorem kq_str (a b:Str):kq (.str a) (.str b)=some (decide (a=b)):=by
 show some (a==b)=_
 by_cases h:a=b <;> simp [h]
theorem find_ent (d m:List Str) (r:Rw) (hr:RowI d m r):∀ (R:List Rw) (j:Nat),(∀ s∈R,RowI d m s)→findM (.str (keyT r)) (entR keyT R) j=some ((R.findIdx? (hasK r)).map (·+j)):=by
 intro R
 induction R with
 | nil=>intro j _; rfl
 | cons s R ih =>
  intro j h
  have hs:=keyT_iff hr (h s (by simp))
  simp only [entR,List.map_cons,findM,kq_str] at ih ⊢
  by_cases e:keyR s=keyR r
  ·have e2:keyT r=keyT s:=(hs.2 e).symm
   simp [e2,List.findIdx?_cons,hasK,e]
  ·have e2:¬ keyT r=keyT s:=fun q=>e (hs.1 q.symm)
   rw [decide_eq_false e2]
   simp only
   rw [ih (j+1) fun x hx=>h x (by simp [hx])]
   simp only [List.findIdx?_cons,hasK,decide_eq_false e]
   have hh:∀ X:Option Nat,some (X.map (·+(j+1)))=some ((X.map (·+1)).map (·+j)):=fun X=>by
    cases X with
    | none=>rfl
    | some i=>simp only [Option.map_some]; congr 2; omega
   exact hh _
theorem joinR_key {a b:Rw} (h:joinC a b=0):keyR (joinR a b)=keyR a:=by
 rw [joinR_ok h]; rfl
theorem iadd_ok (R : List Rw) (d m : List Str) (g n : Int) (e : Ev) (xt mt : Nat) (H0 : List AObj) (hne : xt ≠ mt) (hd : d.length ≤ 1000) (he1 : e.2.1.length ≤ 1000) (he2 : e.2.2.length ≤ 1000) (hv : ∀ s ∈ e.2.1, s.length ≤ 1000) (hg : gr g = true) (hn0 : 0 ≤ n) (hn : n ≤ 1000000) (hR : ∀ r ∈ R, RowI d m r) (hm2 : m.length ≤ 1000) (hx : H0[xt]? = some (ixO d m g mt n)) (hm : H0[mt]? = some (.map (entR keyT R))) :
  ACall Tryz.prog 15 [.ref xt 0 5 0 0,eventA e] H0 (fun r H'=>r=.int .i64 (addK d m g R e)∧(∀ i,i < H0.length→i≠xt→i≠mt→H'[i]? = H0[i]?)∧H0.length≤H'.length∧H'[xt]? = some (ixO d m g mt (bif addK d m g R e != 0 then n else n+1))∧H'[mt]? = some (.map (entR keyT (addL d m g R e)))):=by
 have hxl:xt < H0.length:=(List.getElem?_eq_some_iff.1 hx).1
 have hml:mt < H0.length:=(List.getElem?_eq_some_iff.1 hm).1
 simp only [ixO] at hx
 have hx':∀ x,(H0++x)[xt]? = _:=fun x=>(List.getElem?_append_left hxl).trans hx
 have hm':∀ x,(H0++x)[mt]? = _:=fun x=>(List.getElem?_append_left hml).trans hm
 have hof:=rwof_ok false false false false d m e.2.1 e.1 e.2.2
 simp only [evA',schA] at hof
 simp only [eventA]
 (refine ACall.of_code Tryz.func15 rfl ?_; simp only [Tryz.f15]; simp only [go_sem,uA,uB,uC,uD,uE,uF,uG,uH,uI,uJ,uK,uL,uM,uN,uO,uP,uQ])
 (refine ADrawT.walk [[0],[0],[0],[0],[0],[0,6,10],[6,10],[6,10],[6,10,11],[0,6,10],[10,11],[11]] mixedOrdersD (by kernel_rfl) (by kernel_rfl) ?_; simp only [go_sem,uA,uB,uC,uD,uE,uF,uG,uH,uI,uJ,uK,uL,uM,uN,uO,uP,uQ])
 simp only [go_sem,hx',hm',uA,uB,uC,uD,uE,uF,uG,uH,uI,uJ,uK,uL,uM,uN,uO,uP,uQ]
 have hchk:=@check_0 d m e
 have hrow:=@rowI_new d m e g hg
 generalize hk:checkS d m e.1 e.2.1 e.2.2=k at *
 refine frX_same (.tup [rowA (ofR k e.1 e.2.1 e.2.2),.int .i64 k]) ?_ ?_
 ·simp only [go_sem,uA,uB,uC,uD,uE,uF,uG,uH,uI,uJ,uK,uL,uM,uN,uO,uP,uQ]
  exact ACallT.frame (hof _ (by omega) (by omega) (fun s hs h=>value_all s h (by have:=hv s hs; omega))) fun _ _ q=>by rw [q]; exact ⟨by simp [AV.low,lowL,low_row],rfl,rfl⟩
 by_cases hk0:k=0
 ·subst hk0
  have hof0:ofR 0 e.1 e.2.1 e.2.2=(e.1,e.2.1,1,onesG e.2.2):=rfl
  rw [hof0]
  simp only [rowA]
  simp only [go_sem,hx',hm',uA,uB,uC,uD,uE,uF,uG,uH,uI,uJ,uK,uL,uM,uN,uO,uP,uQ]
  refine ⟨by simp [fmem,Agree,hx'], ?_⟩
  obtain ⟨q1,q2,q3,q4,q5⟩:=hchk rfl
  have hrw:=hrow rfl
  have hfl:floorR e.1 g=.tup [.int .i64 (e.1 - e.1 % g),.int .i64 0]:=by
   unfold floorR
   rw [if_pos ⟨hg,(ft_iff _).2 ⟨by omega,by omega⟩⟩]
  (refine ADrawT.walk [[0],[0],[0],[0],[0],[0],[0,7],[7],[7],[7,12],[7],[7,12]] mixedOrdersD (by kernel_rfl) (by kernel_rfl) ?_; simp only [go_sem,uA,uB,uC,uD,uE,uF,uG,uH,uI,uJ,uK,uL,uM,uN,uO,uP,uQ])
  simp only [go_sem,hx',hm',uA,uB,uC,uD,uE,uF,uG,uH,uI,uJ,uK,uL,uM,uN,uO,uP,uQ]
  refine frX_same (.tup [.int .i64 (e.1 - e.1 % g),.int .i64 0]) ?_ ?_
  ·simp only [go_sem,uA,uB,uC,uD,uE,uF,uG,uH,uI,uJ,uK,uL,uM,uN,uO,uP,uQ]
   exact ACallT.frame (floor_ok e.1 g _) fun _ _ q=>by rw [q.1,hfl]; exact ⟨rfl,rfl,rfl⟩
  simp only [go_sem,hx',hm',uA,uB,uC,uD,uE,uF,uG,uH,uI,uJ,uK,uL,uM,uN,uO,uP,uQ]
  refine ⟨by simp [fmem,Agree,hx'], ?_⟩
  have hkey:=key_ok (ixRow g e) false false
  simp only [rowC,ixRow] at hkey
  refine ACallT.frame (hkey _ (by have:=hrw.2.2.2; simp only [ixRow] at this; omega) (by have:=hrw.2.2.2; simp only [ixRow] at this; omega) (by omega) ?_) ?_
  ·have:=join_len0 24 e.2.1 (fun s hs=>value_len (q3 s hs))
   have:e.2.1.length * 25≤1000 * 25:=Nat.mul_le_mul_right _ he1
   omega
  rintro _ _ rfl
  refine ⟨rfl, ?_⟩
  simp only [go_sem,hx',hm',uA,uB,uC,uD,uE,uF,uG,uH,uI,uJ,uK,uL,uM,uN,uO,uP,uQ]
  have hfind:=find_ent d m (ixRow g e) hrw R 0 hR
  cases hF:R.findIdx? (hasK (ixRow g e)) with
  | none =>
   rw [hF] at hfind
   refine luH_none hfind ?_
   simp only [go_sem,hx',hm',uA,uB,uC,uD,uE,uF,uG,uH,uI,uJ,uK,uL,uM,uN,uO,uP,uQ]
   (refine ADrawT.walk [[0],[0],[0],[0],[0],[0],[0,7]] mixedOrdersD (by kernel_rfl) (by kernel_rfl) ?_; simp only [go_sem,uA,uB,uC,uD,uE,uF,uG,uH,uI,uJ,uK,uL,uM,uN,uO,uP,uQ])
   simp only [go_sem,hx',hm',uA,uB,uC,uD,uE,uF,uG,uH,uI,uJ,uK,uL,uM,uN,uO,uP,uQ]
   refine frX_set (.tup []) mt (.map (entR keyT R++[(.str (keyT (ixRow g e)),rowA (ixRow g e))])) ?_ ?_
   ·simp only [go_sem,hm',uA,uB,uC,uD,uE,uF,uG,uH,uI,uJ,uK,uL,uM,uN,uO,uP,uQ]
    refine muH_none hfind ?_
    exact ⟨rfl,rfl⟩
   have hx2:∀ x v,((H0++x).set mt v)[xt]? = _:=fun x v=>(List.getElem?_set_ne (fun q=>hne q.symm)).trans (hx' x)
   have hA:addK d m g R e=0:=by unfold addK; rw [hk,hF]; rfl
   have hL:addL d m g R e=R++[ixRow g e]:=by unfold addL; rw [hA,hF]; rfl
   simp only [go_sem,hx2,uA,uB,uC,uD,uE,uF,uG,uH,uI,uJ,uK,uL,uM,uN,uO,uP,uQ]
   refine ⟨by simp [fmem,Agree,hx',hx2], ?_⟩
   rw [hA,hL,wrap_id (by omega) (by omega)]
   refine Fin_plain ⟨rfl,fun i hi h1 h2=>?_,by simp,List.getElem?_set_self (by simp; omega), ?_⟩
   ·rw [List.getElem?_set_ne (fun q=>h1 q.symm),List.getElem?_set_ne (fun q=>h2 q.symm),List.getElem?_append_left hi]
   ·rw [List.getElem?_set_ne hne,List.getElem?_set_self (by simp; omega)]
    simp [entR]
  | some i =>
   rw [hF] at hfind
   have hi:i < R.length:=(List.findIdx?_eq_some_iff_getElem.1 hF).1
   have hge:=ent_get keyT R i hi
   simp only [rowA] at hge
   refine luH_some i hfind ?_
   rw [hge]
   simp only [go_sem,hx',hm',uA,uB,uC,uD,uE,uF,uG,uH,uI,uJ,uK,uL,uM,uN,uO,uP,uQ]
   have hRi:=hR R[i] (List.getElem_mem _)
   have hGi:G R i=R[i]:=G_lt hi
   have hjn:=rwjoin_ok R[i] (ixRow g e)
   have hjk:joinC R[i] (ixRow g e)=0→keyR (joinR R[i] (ixRow g e))=keyR R[i]:=joinR_key
   have hA:addK d m g R e=joinC R[i] (ixRow g e):=by unfold addK; rw [hk,hF,← hGi]; rfl
   have hkR:keyR R[i]=keyR (ixRow g e):=by
    have:=(List.findIdx?_eq_some_iff_getElem.1 hF).2.1
    simpa [hasK] using this
   refine ACallT.frame (hjn _ (by rw [hRi.1]; omega) (by have:=hrw.1; omega) (by rw [hRi.2.2.1]; omega) (by have:=hrw.2.2.1; omega)) ?_
   rintro _ _ rfl
   refine ⟨by simp [AV.low,lowL,low_row], ?_⟩
   have hL1:joinC R[i] (ixRow g e)≠0→addL d m g R e=R:=fun h=>by
    unfold addL; rw [hA]
    have:(joinC R[i] (ixRow g e) != 0)=true:=by simpa using h
    rw [this]; rfl
   have hL0:joinC R[i] (ixRow g e)=0→addL d m g R e=R.set i (joinR R[i] (ixRow g e)):=fun h=>by
    unfold addL; rw [hA,h,hF,← hGi]; rfl
   generalize joinC R[i] (ixRow g e)=c at *
   generalize joinR R[i] (ixRow g e)=J at *
   simp only [rowA]
   simp only [go_sem,hx',hm',uA,uB,uC,uD,uE,uF,uG,uH,uI,uJ,uK,uL,uM,uN,uO,uP,uQ]
   refine acond_intro (fun hc=>?_) (fun hc=>?_)
   ·have hc2:c≠0:=by simpa using hc
    simp only [go_sem,uA,uB,uC,uD,uE,uF,uG,uH,uI,uJ,uK,uL,uM,uN,uO,uP,uQ]
    rw [hA,hL1 hc2,hc]
    refine Fin_plain ⟨rfl,fun i hi _ _=>?_,by simp, ?_, ?_⟩
    ·rw [List.getElem?_append_left hi]
    ·exact hx' _
    ·exact hm' _
   ·have hc2:c=0:=by simpa using hc
    subst hc2
    have hjk2:=hjk rfl
    simp only [go_sem,uA,uB,uC,uD,uE,uF,uG,uH,uI,uJ,uK,uL,uM,uN,uO,uP,uQ]
    (refine ADrawT.walk [[0],[0],[0],[0],[0],[0],[0,7]] mixedOrdersD (by kernel_rfl) (by kernel_rfl) ?_; simp only [go_sem,uA,uB,uC,uD,uE,uF,uG,uH,uI,uJ,uK,uL,uM,uN,uO,uP,uQ])
    simp only [go_sem,hx',hm',uA,uB,uC,uD,uE,uF,uG,uH,uI,uJ,uK,uL,uM,uN,uO,uP,uQ]
    refine frX_set (.tup []) mt (.map ((entR keyT R).set i (.str (keyT (ixRow g e)),rowA J))) ?_ ?_
    ·simp only [go_sem,hm',uA,uB,uC,uD,uE,uF,uG,uH,uI,uJ,uK,uL,uM,uN,uO,uP,uQ]
     refine muH_some i hfind ?_
     exact ⟨rfl,rfl⟩
    have hx2:∀ x v,((H0++x).set mt v)[xt]? = _:=fun x v=>(List.getElem?_set_ne (fun q=>hne q.symm)).trans (hx' x)
    simp only [go_sem,hx2,uA,uB,uC,uD,uE,uF,uG,uH,uI,uJ,uK,uL,uM,uN,uO,uP,uQ]
    refine ⟨by simp [fmem,Agree,hx',hx2], ?_⟩
    rw [hA,hL0 rfl,wrap_id (by omega) (by omega)]
    refine Fin_plain ⟨rfl,fun i hi h1 h2=>?_,by simp,List.getElem?_set_self (by simp; omega), ?_⟩
    ·rw [List.getElem?_set_ne (fun q=>h1 q.symm),List.getElem?_set_ne (fun q=>h2 q.symm),List.getElem?_append_left hi]
    ·rw [List.getElem?_set_ne hne,List.getElem?_set_self (by simp; omega)]
     have:keyT (ixRow g e)=keyT J:=keyT_eq (by rw [hjk2,hkR])
     rw [this]
     simp [entR,List.map_set]
 ·have hkd:(k != 0)=true:=by simpa using hk0
  rw [ofR_err _ _ _ hk0]
  simp only [rowA,zeroR]
  simp only [go_sem,hx',hm',uA,uB,uC,uD,uE,uF,uG,uH,uI,uJ,uK,uL,uM,uN,uO,uP,uQ]
  refine ⟨by simp [fmem,Agree,hx'], ?_⟩
  simp only [go_sem,hkd,uA,uB,uC,uD,uE,uF,uG,uH,uI,uJ,uK,uL,uM,uN,uO,uP,uQ]
  have hA:addK d m g R e=k:=by unfold addK; rw [hk,hkd]; rfl
  have hL:addL d m g R e=R:=by unfold addL; rw [hA,hkd]; rfl
  rw [hA,hL,hkd]
  refine Fin_plain ⟨rfl,fun i hi _ _=>List.getElem?_append_left hi,by simp,hx' _,hm' _⟩
end Go.Proofs.Vale
