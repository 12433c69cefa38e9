/- YtplehleekabbaaaGreatDoorVIoA: a text of the proof of this claim, by its prover. -/
import Derived.Test.YtplehleekabbaaaGreatDoorVFldB
import Derived.Test.YtplehleekabbaaaGreatDoorVFdP
import Derived.Test.YtplehleekabbaaaGreatDoorVIxJ
import Derived.Test.YtplehleekabbaaaGreatDoorVPa
open Nat renaming reduceMul → uA, reduceLT → uB, reduceLeDiff → uC, reduceEqDiff → uD, reduceBEq → uE, lt_irrefl → uQ
open Int renaming toNat_natCast → uF, reduceToNat → uG, reduceNeg → uH, reduceLT → uI, reduceLE → uJ, reduceBEq → uK, reduceBNe → uL
open Bool renaming false_eq_true → uO
set_option linter.unusedVariables false
set_option linter.unusedSimpArgs false
set_option maxHeartbeats 8000000
set_option maxRecDepth 100000
namespace Go.Proofs.Vale
open Go.Proofs Go.Proofs.YtplehleekabbaaaGreatDoorT
attribute [local irreducible] grL grT gdQ acode aopsL aopsT dopsL dopsT pop popG aop ALoop ADraw ACall AWP AFin acondT ALoopT ADrawT ACallT doP doG doGd frL frT frX
abbrev sbO (a1 a2:Bool) (d m:List Str):AObj:=.arr 0 2 [.agg [.fz a1 (strs d),.fz a2 (strs m)]]
abbrev nwO (a1 a2:Bool) (d m:List Str) (g:Int) (k:Nat):List AObj:=[sbO a1 a2 d m,.map [],ixO d m g (k+1) 0]
abbrev ordP (a1 a2:Bool) (d m:List Str) (g:Int) (N:Nat):List AObj:=sbO a1 a2 d m::(nwO a1 a2 d m g (N+1)++(nwO a1 a2 d m g (N+4)++(nwO a1 a2 d m g (N+7)++nwO a1 a2 d m g (N+10))))
def TookR (n:Nat) (H:List AObj) (tk:List Ev) (X:AV):Prop:=(tk=[]∧X=.fz true [])∨(tk≠[]∧∃ u g',X=.sl u g' 3 0 tk.length∧n≤u∧H[u]? = some (.arr g' 3 (evs tk)))
def OInv (a1 a2:Bool) (d m:List Str) (g:Int) (N:Nat) (H:List AObj) (Rx Ry Ra Rb:List Rw) (nx ny na nb n:Int) (ss:List Int):Prop :=
 N+15≤H.length∧H[N]? = some (sbO a1 a2 d m)∧H[N+2]? = some (.map (entR keyT Rx))∧H[N+3]? = some (ixO d m g (N+2) nx)∧H[N+5]? = some (.map (entR keyT Ry))∧H[N+6]? = some (ixO d m g (N+5) ny) ∧
 H[N+8]? = some (.map (entR keyT Ra))∧H[N+9]? = some (ixO d m g (N+8) na)∧H[N+11]? = some (.map (entR keyT Rb))∧H[N+12]? = some (ixO d m g (N+11) nb)∧H[N+14]? = some (.arr 0 2 [budA false n ss])
theorem TookR.keep {n:Nat} {H M:List AObj} {tk:List Ev} {X:AV} (p:TookR n H tk X) (h:∀ j,n≤j→j < H.length→M[j]? = H[j]?):TookR n M tk X:=by
 rcases p with q | ⟨h1,u,g',h2,h3,h4⟩
 ·exact .inl q
 ·exact .inr ⟨h1,u,g',h2,h3,(h u h3 (List.getElem?_eq_some_iff.1 h4).1).trans h4⟩
theorem TookR.set {n:Nat} {H:List AObj} {tk:List Ev} {X:AV} (p:TookR n H tk X) (j:Nat) (o:AObj) (hj:j < n):TookR n (H.set j o) tk X:=p.keep fun i h1 _=>List.getElem?_set_ne (by omega)
section
variable {a1 a2:Bool} {d m:List Str} {g:Int} {N:Nat} {H:List AObj} {Rx Ry Ra Rb:List Rw} {nx ny na nb n:Int} {ss:List Int}
theorem OInv.bud (p:OInv a1 a2 d m g N H Rx Ry Ra Rb nx ny na nb n ss) {M:List AObj} {n2:Int} {s2:List Int} (hl:N+15≤M.length) (h:∀ j,j < N+14→M[j]? = H[j]?) (h14:M[N+14]? = some (.arr 0 2 [budA false n2 s2])):OInv a1 a2 d m g N M Rx Ry Ra Rb nx ny na nb n2 s2:=by
 obtain ⟨v0,v1,v2,v3,v5,v6,v8,v9,v11,v12,v14⟩:=p
 exact ⟨hl,(h _ (by omega)).trans v1,(h _ (by omega)).trans v2,(h _ (by omega)).trans v3,(h _ (by omega)).trans v5,(h _ (by omega)).trans v6,(h _ (by omega)).trans v8,(h _ (by omega)).trans v9,(h _ (by omega)).trans v11,(h _ (by omega)).trans v12,h14⟩
theorem set2 {M:List AObj} {x y:Nat} (o p:AObj) (hx:x < M.length) (hy:y < M.length) (hne:x≠y):((M.set x o).set y p)[x]? = some o∧((M.set x o).set y p)[y]? = some p∧∀ j,j≠x→j≠y→((M.set x o).set y p)[j]? = M[j]? :=
 ⟨by rw [List.getElem?_set_ne (fun q=>hne q.symm),List.getElem?_set_self hx],by rw [List.getElem?_set_self (by simpa using hy)],fun j h1 h2=>by rw [List.getElem?_set_ne (fun q=>h2 q.symm),List.getElem?_set_ne (fun q=>h1 q.symm)]⟩
theorem OInv.setx (p:OInv a1 a2 d m g N H Rx Ry Ra Rb nx ny na nb n ss) (R:List Rw) (k:Int):OInv a1 a2 d m g N ((H.set (N+3) (ixO d m g (N+2) k)).set (N+2) (.map (entR keyT R))) R Ry Ra Rb k ny na nb n ss:=by
 obtain ⟨v0,v1,v2,v3,v5,v6,v8,v9,v11,v12,v14⟩:=p
 obtain ⟨s1,s2,h⟩:=set2 (M:=H) (x:=N+3) (y:=N+2) (ixO d m g (N+2) k) (.map (entR keyT R)) (by omega) (by omega) (by omega)
 exact ⟨by simpa using v0,(h _ (by omega) (by omega)).trans v1,s2,s1,(h _ (by omega) (by omega)).trans v5,(h _ (by omega) (by omega)).trans v6,(h _ (by omega) (by omega)).trans v8,(h _ (by omega) (by omega)).trans v9,(h _ (by omega) (by omega)).trans v11,(h _ (by omega) (by omega)).trans v12,(h _ (by omega) (by omega)).trans v14⟩
theorem OInv.sety (p:OInv a1 a2 d m g N H Rx Ry Ra Rb nx ny na nb n ss) (R:List Rw) (k:Int):OInv a1 a2 d m g N ((H.set (N+6) (ixO d m g (N+5) k)).set (N+5) (.map (entR keyT R))) Rx R Ra Rb nx k na nb n ss:=by
 obtain ⟨v0,v1,v2,v3,v5,v6,v8,v9,v11,v12,v14⟩:=p
 obtain ⟨s1,s2,h⟩:=set2 (M:=H) (x:=N+6) (y:=N+5) (ixO d m g (N+5) k) (.map (entR keyT R)) (by omega) (by omega) (by omega)
 exact ⟨by simpa using v0,(h _ (by omega) (by omega)).trans v1,(h _ (by omega) (by omega)).trans v2,(h _ (by omega) (by omega)).trans v3,s2,s1,(h _ (by omega) (by omega)).trans v8,(h _ (by omega) (by omega)).trans v9,(h _ (by omega) (by omega)).trans v11,(h _ (by omega) (by omega)).trans v12,(h _ (by omega) (by omega)).trans v14⟩
theorem OInv.seta (p:OInv a1 a2 d m g N H Rx Ry Ra Rb nx ny na nb n ss) (R:List Rw) (k:Int):OInv a1 a2 d m g N ((H.set (N+9) (ixO d m g (N+8) k)).set (N+8) (.map (entR keyT R))) Rx Ry R Rb nx ny k nb n ss:=by
 obtain ⟨v0,v1,v2,v3,v5,v6,v8,v9,v11,v12,v14⟩:=p
 obtain ⟨s1,s2,h⟩:=set2 (M:=H) (x:=N+9) (y:=N+8) (ixO d m g (N+8) k) (.map (entR keyT R)) (by omega) (by omega) (by omega)
 exact ⟨by simpa using v0,(h _ (by omega) (by omega)).trans v1,(h _ (by omega) (by omega)).trans v2,(h _ (by omega) (by omega)).trans v3,(h _ (by omega) (by omega)).trans v5,(h _ (by omega) (by omega)).trans v6,s2,s1,(h _ (by omega) (by omega)).trans v11,(h _ (by omega) (by omega)).trans v12,(h _ (by omega) (by omega)).trans v14⟩
theorem OInv.setb (p:OInv a1 a2 d m g N H Rx Ry Ra Rb nx ny na nb n ss) (R:List Rw) (k:Int):OInv a1 a2 d m g N ((H.set (N+12) (ixO d m g (N+11) k)).set (N+11) (.map (entR keyT R))) Rx Ry Ra R nx ny na k n ss:=by
 obtain ⟨v0,v1,v2,v3,v5,v6,v8,v9,v11,v12,v14⟩:=p
 obtain ⟨s1,s2,h⟩:=set2 (M:=H) (x:=N+12) (y:=N+11) (ixO d m g (N+11) k) (.map (entR keyT R)) (by omega) (by omega) (by omega)
 exact ⟨by simpa using v0,(h _ (by omega) (by omega)).trans v1,(h _ (by omega) (by omega)).trans v2,(h _ (by omega) (by omega)).trans v3,(h _ (by omega) (by omega)).trans v5,(h _ (by omega) (by omega)).trans v6,(h _ (by omega) (by omega)).trans v8,(h _ (by omega) (by omega)).trans v9,s2,s1,(h _ (by omega) (by omega)).trans v14⟩
end
theorem iadd0 (R : List Rw) (d m : List Str) (g n : Int) (e : Ev) (xt mt : Nat) (H0 : List AObj) (hne : xt ≠ mt) (hd : d.length ≤ 1000) (he1 : e.2.1.length ≤ 1000) (he2 : e.2.2.length ≤ 1000) (hv : ∀ s ∈ e.2.1, s.length ≤ 1000) (hg : gr g = true) (hn0 : 0 ≤ n) (hn : n ≤ 1000000) (hR : ∀ r ∈ R, RowI d m r) (hm2 : m.length ≤ 1000) (hx : H0[xt]? = some (ixO d m g mt n)) (hm : H0[mt]? = some (.map (entR keyT R))) (ha : addK d m g R e = 0) :
  ACall Tryz.prog 15 [.ref xt 0 5 0 0,.agg [.int .i64 e.1,.fz false (strs e.2.1),.fz false (intsA e.2.2)]] H0 (fun r H'=>r=.int .i64 0∧H'=(H0.set xt (ixO d m g mt (n+1))).set mt (.map (entR keyT (addL d m g R e)))):=by
 have:=iaddE R d m g n e xt mt H0 hne hd he1 he2 hv hg hn0 hn hR hm2 hx hm
 rw [ha] at this
 exact this
theorem Ix.len {d m:List Str} {Lm R:List Rw} {n:Int} {ES:List Rw} (h:Ix d m Lm R n ES):(R.length:Int)≤n:=by
 obtain ⟨_,hp,_,hc,hn⟩:=h.st
 have:∀ M:List Rw,(∀ r∈M,1≤r.2.2.1∧r.2.2.1≤1048576)→(M.length:Int)≤cntR M:=by
  intro M
  induction M with
  | nil=>intro _; simp [cntR]
  | cons a M ih=>intro q; rw [cnt_cons]; have:=(q a (by simp)).1; have:=ih (fun r hr=>q r (by simp [hr])); simp; omega
 have:=this Lm hc
 rw [← hp.length_eq]; omega
theorem Ix.bd {d m:List Str} {Lm R:List Rw} {n:Int} {ES:List Rw} (h:Ix d m Lm R n ES) (hd:d.length≤20) (hm:m.length≤20):∀ r∈R,r.2.1.length≤2000000000000∧r.2.2.2.length≤2000000000000:=fun r hr=>by
 have:=h.st.2.2.1 r (h.st.2.1.symm.subset hr)
 exact ⟨by rw [this.1]; omega,by rw [this.2.2.1]; omega⟩
theorem pfold_nil (H:List AObj):ACall Tryz.prog 25 [.fz true []] H (fun r _=>r=.tup [.fz true [],.int .i64 0]):=by
 (refine ACall.of_code Tryz.func25 rfl ?_; simp only [Tryz.f25]; simp only [go_sem,uA,uB,uC,uD,uE,uF,uG,uH,uI,uJ,uK,uL,uM,uN,uO,uP,uQ])
 refine ACallT.frame (copy_nil _) ?_
 rintro _ _ rfl
 refine ⟨rfl, ?_⟩
 simp only [go_sem,uA,uB,uC,uD,uE,uF,uG,uH,uI,uJ,uK,uL,uM,uN,uO,uP,uQ]
 refine ACallT.by (sortStable_nil H) ?_
 rintro _ H1 ⟨rfl,e1⟩
 rw [e1]
 clear e1 H1
 simp only [go_sem,uA,uB,uC,uD,uE,uF,uG,uH,uI,uJ,uK,uL,uM,uN,uO,uP,uQ]
 refine ALoop.over [2,3,4,6,7,8,9,16,17,18,19,20,21,22,23,24,25,26,27,28,29,30,31,32,33,34,35,36,37,38,39,40,41,42,43,44,45,46,47,48,49,50,51,52,53,54,55,56] (fun e H'=>e.getD 4 .any=.fz true []∧e.getD 16 .any=.int .i64 0) (fun _ _=>0) ⟨rfl,rfl⟩ ?_
 simp only [List.length_cons,List.length_nil,Nat.reduceAdd,allL_succ,allL_zero]
 intro y2 y3 y4 y6 y7 y8 y9 y16 y17 y18 y19 y20 y21 y22 y23 y24 y25 y26 y27 y28 y29 y30 y31 y32 y33 y34 y35 y36 y37 y38 y39 y40 y41 y42 y43 y44 y45 y46 y47 y48 y49 y50 y51 y52 y53 y54 y55 y56 H2 hI
 simp only [go_sem] at hI
 obtain ⟨rfl,rfl⟩:=hI
 have hz:((0:Nat):Int)=0:=rfl
 simp only [go_sem,hz,uA,uB,uC,uD,uE,uF,uG,uH,uI,uJ,uK,uL,uM,uN,uO,uP,uQ]
 exact Fin_plain rfl
theorem rep_bud {β:Beta} {fr:Nat→Prop} {H:Array Obj} {v:Value} {c:Bool} {n:Int} {l:List Int} (q:Rep β fr H (budA c n l) v):Rep β fr H (budA false n l) v:=by
 simp only [Rep] at q ⊢
 obtain ⟨us,h1,h2,h3⟩:=q
 refine ⟨us,h1,h2,fun j hj=>?_⟩
 obtain ⟨u,hu,hr⟩:=h3 j hj
 refine ⟨u,hu, ?_⟩
 match j,hj with
 | 0,_=>exact hr
 | 1,_=>exact rep_cut hr
theorem charge2 (a1 a2 c1 c2 cb : Bool) (d m dims : List Str) (t : Int) (ms : List Int) (n : Int) (ss : List Int) (h : List AObj) (hd : dims.length ≤ 9223372036854775807) (hm : ms.length ≤ 8796093022000) (hs : ss.length ≤ 8796093022000) (hM : m.length ≤ 9223372036854775807) (hv : ∀ s ∈ dims, ValOk s) :
  ACall Tryz.prog 11 [schA a1 a2 d m,budA cb n ss,evA' t c1 c2 dims ms] h (fun r _=>r=.tup [budR false (chgC d m t dims ms n ss) n ss ms,.int .i64 (chgC d m t dims ms n ss)]):=by
 refine (charge_ok a1 a2 c1 c2 cb d m dims t ms n ss h hd hm hs hM hv).weak ?_
 rintro r h' ⟨c,rfl⟩
 exact ⟨_,fun β fr H v q=>rep_tup2 (fun u z=>rep_bud z) q,rfl⟩
theorem order_law (a1 a2 c:Bool) (d m:List Str) (g:Int) (l:List Ev) (h:List AObj) (hdm:d.length+m.length≤8796093022000) (hL:∀ s∈d++m,s.length≤9223372036854775807) (hl:l.length≤9223372036854775807) (he:∀ e∈l,e.2.1.length≤9223372036854775807):ACall Tryz.prog 7 [schA a1 a2 d m,.int .i64 g,.fz c (evs l)] h (fun r _=>r=.bool true):=by
 have hfit:=lfits_ok a1 a2 c d m l
 have hne:=inew_err a1 a2 d m g
 have hno:=new_ok a1 a2 d m g
 simp only [schA] at hfit hne hno ⊢
 (refine ACall.of_code Tryz.func7 rfl ?_; simp only [Tryz.f7]; simp only [go_sem,uA,uB,uC,uD,uE,uF,uG,uH,uI,uJ,uK,uL,uM,uN,uO,uP,uQ])
 refine ACallT.frame (hfit _ (by omega) (by omega) hl he) ?_
 rintro _ _ rfl
 refine ⟨rfl, ?_⟩
 generalize hf:(fitS d && fitS m && decide (l.length≤60) && l.all evFit)=fit
 cases hb:(rightS d m && gr g) with
 | false =>
  have hk:∃ k:Int,(bif rightS d m then (111:Int) else 101)=k∧(k != 0)=true:=by
   cases rightS d m
   ·exact ⟨101,rfl,rfl⟩
   ·exact ⟨111,rfl,rfl⟩
  obtain ⟨k,hk1,hk2⟩:=hk
  simp only [go_sem,uA,uB,uC,uD,uE,uF,uG,uH,uI,uJ,uK,uL,uM,uN,uO,uP,uQ]
  refine ACallT.frame (hne _ (by omega) hL hb) ?_
  rintro _ _ rfl
  refine ⟨rfl, ?_⟩
  simp only [go_sem,uA,uB,uC,uD,uE,uF,uG,uH,uI,uJ,uK,uL,uM,uN,uO,uP,uQ]
  refine ACallT.frame (hne _ (by omega) hL hb) ?_
  rintro _ _ rfl
  refine ⟨rfl, ?_⟩
  simp only [go_sem,uA,uB,uC,uD,uE,uF,uG,uH,uI,uJ,uK,uL,uM,uN,uO,uP,uQ]
  refine ACallT.frame (hne _ (by omega) hL hb) ?_
  rintro _ _ rfl
  refine ⟨rfl, ?_⟩
  simp only [go_sem,uA,uB,uC,uD,uE,uF,uG,uH,uI,uJ,uK,uL,uM,uN,uO,uP,uQ]
  refine ACallT.frame (hne _ (by omega) hL hb) ?_
  rintro _ _ rfl
  refine ⟨rfl, ?_⟩
  rw [hk1]
  cases fit
  ·simp only [go_sem,hk2,uA,uB,uC,uD,uE,uF,uG,uH,uI,uJ,uK,uL,uM,uN,uO,uP,uQ]
   refine ACallT.frame (alive_hand _) ?_
   rintro _ _ rfl
   refine ⟨rfl, ?_⟩
   simp only [go_sem,uA,uB,uC,uD,uE,uF,uG,uH,uI,uJ,uK,uL,uM,uN,uO,uP,uQ]
   exact Fin_plain rfl
  ·simp only [go_sem,hk2,uA,uB,uC,uD,uE,uF,uG,uH,uI,uJ,uK,uL,uM,uN,uO,uP,uQ]
   refine ACallT.frame (alive_hand _) ?_
   rintro _ _ rfl
   refine ⟨rfl, ?_⟩
   simp only [go_sem,uA,uB,uC,uD,uE,uF,uG,uH,uI,uJ,uK,uL,uM,uN,uO,uP,uQ]
   exact Fin_plain rfl
 | true =>
  simp only [Bool.and_eq_true] at hb
  obtain ⟨hr,hg⟩:=hb
  simp only [go_sem,uA,uB,uC,uD,uE,uF,uG,uH,uI,uJ,uK,uL,uM,uN,uO,uP,uQ]
  refine ACallT.by (hno _ (by omega) hL hr hg) ?_
  rintro _ _ ⟨rfl,rfl⟩
  simp only [go_sem,uA,uB,uC,uD,uE,uF,uG,uH,uI,uJ,uK,uL,uM,uN,uO,uP,uQ]
  refine ACallT.by (hno _ (by omega) hL hr hg) ?_
  rintro _ _ ⟨rfl,rfl⟩
  simp only [go_sem,uA,uB,uC,uD,uE,uF,uG,uH,uI,uJ,uK,uL,uM,uN,uO,uP,uQ]
  refine ACallT.by (hno _ (by omega) hL hr hg) ?_
  rintro _ _ ⟨rfl,rfl⟩
  simp only [go_sem,uA,uB,uC,uD,uE,uF,uG,uH,uI,uJ,uK,uL,uM,uN,uO,uP,uQ]
  refine ACallT.by (hno _ (by omega) hL hr hg) ?_
  rintro _ _ ⟨rfl,rfl⟩
  cases fit with
  | false =>
   simp only [go_sem,uA,uB,uC,uD,uE,uF,uG,uH,uI,uJ,uK,uL,uM,uN,uO,uP,uQ]
   refine ACallT.frame (alive_hand _) ?_
   rintro _ _ rfl
   refine ⟨rfl, ?_⟩
   simp only [go_sem,uA,uB,uC,uD,uE,uF,uG,uH,uI,uJ,uK,uL,uM,uN,uO,uP,uQ]
   exact Fin_plain rfl
  | true =>
   obtain ⟨f1,f2,f3,f4⟩:=fits_split hf
   simp only [go_sem,uA,uB,uC,uD,uE,uF,uG,uH,uI,uJ,uK,uL,uM,uN,uO,uP,uQ]
   refine ⟨⟨by omega,by omega,by omega,by omega⟩, ?_⟩
   obtain ⟨T,hT⟩:∃ T:Nat→Bool,∀ i,T i=decide (i=h.length+13):=⟨fun i=>decide (i=h.length+13),fun _=>rfl⟩
   show ALoopT _ _ _ _ _ _ (h++(ordP a1 a2 d m g h.length++[.arr 0 1 (List.replicate m.length (AV.int IntKind.i64 0)),.arr 0 2 [.agg [.int .i64 0,.sl (h.length+13) 0 1 0 m.length]]]))
   obtain ⟨zs,hzs⟩:∃ zs:List Int,zs=List.replicate m.length 0:=⟨_,rfl⟩
   have hze:List.replicate m.length (AV.int IntKind.i64 0)=intsA zs:=by rw [hzs]; simp [intsA]
   have hzl:zs.length=m.length:=by rw [hzs]; simp
   rw [hze]
   obtain ⟨H0,hH0⟩:∃ H0,H0=h++(ordP a1 a2 d m g h.length++[.arr 0 1 (intsA zs),.arr 0 2 [.agg [.int .i64 0,.sl (h.length+13) 0 1 0 m.length]]]):=⟨_,rfl⟩
   rw [← hH0]
   have ol:(ordP a1 a2 d m g h.length).length=13:=rfl
   have hz:∀ k,frzT T H0 (k+2) (.sl (h.length+13) 0 1 0 m.length)=.fz false (intsA zs):=fun k=>by
    refine frzT_all (t:=h.length+13) ?_ ?_ ?_ ?_
    ·rw [hH0,List.getElem?_append_right (by omega),show h.length+13 - h.length=13 by omega]; rfl
    ·rw [hT]; simp
    ·rw [ints_len,hzl]
    ·intro y hy
     simp only [intsA,List.mem_map] at hy
     obtain ⟨n,_,rfl⟩:=hy
     rfl
   have hTf:∀ j,j≠13→T (h.length+j)=false:=fun j q=>by rw [hT]; simp; exact q
   refine ALoopT.part T 6 (h2:=h++(ordP a1 a2 d m g h.length++[.dead,.arr 0 2 [.agg [.int .i64 0,.fz false (intsA zs)]]])) ?_ ?_ rfl ?_
   ·rw [hH0]; simp
   ·intro i o ho
    rcases Nat.lt_or_ge i (h.length+13) with q | q
    ·refine .inr ⟨by rw [hT]; simp; omega,.inl ?_⟩
     rw [hH0]
     rcases Nat.lt_or_ge i h.length with q2 | q2
     ·rw [List.getElem?_append_left q2] at ho ⊢; exact ho
     ·rw [List.getElem?_append_right q2,List.getElem?_append_left (by omega)] at ho ⊢; exact ho
    ·rw [List.getElem?_append_right (by omega),List.getElem?_append_right (by omega),ol] at ho
     obtain ⟨j,rfl⟩:∃ j,i=h.length+13+j:=⟨i - (h.length+13),by omega⟩
     rw [show h.length+13+j - h.length - 13=j by omega] at ho
     match j,ho with
     | 0,ho=>injection ho with ho; exact .inl ho.symm
     | 1,ho =>
      injection ho with ho
      refine .inr ⟨hTf 14 (by omega),.inr ⟨0,2,[.agg [.int .i64 0,.sl (h.length+13) 0 1 0 m.length]],4, ?_, ?_, ?_⟩⟩
      ·rw [hH0,List.getElem?_append_right (by omega),show h.length+13+1 - h.length=14 by omega]; rfl
      ·rw [← ho]
       simp only [List.map,fT_agg,fT_int,hz]
      ·intro y hy
       obtain rfl:y=_:=List.mem_singleton.1 hy
       simp only [List.map,fT_agg,fT_int,hz]
       rfl
     | j+2,ho=>simp at ho
   have hTf0:T h.length=false:=by rw [hT]; simp
   simp (config:={ maxSteps:=10000000 }) only [List.map_cons,List.map_nil,fT_int,fT_bool,fT_agg,fT_tup,fT_fz,fT_opt,hz,fT_ref,hTf0,hTf,Nat.add_assoc,Nat.reduceAdd,Nat.reduceEqDiff,ne_eq,not_false_eq_true]
   obtain ⟨N,hN⟩:∃ N,N=h.length:=⟨_,rfl⟩
   have hinv:OInv a1 a2 d m g N (h++(ordP a1 a2 d m g h.length++[.dead,.arr 0 2 [.agg [.int .i64 0,.fz false (intsA zs)]]])) [] [] [] [] 0 0 0 0 0 zs:=by
    have q:∀ j,(h++(ordP a1 a2 d m g h.length++[.dead,.arr 0 2 [.agg [.int .i64 0,.fz false (intsA zs)]]]))[h.length+j]? = (ordP a1 a2 d m g h.length++[.dead,.arr 0 2 [.agg [.int .i64 0,.fz false (intsA zs)]]])[j]? := fun j=>by
     rw [List.getElem?_append_right (by omega),show h.length+j - h.length=j by omega]
    have q0:=q 0
    rw [Nat.add_zero] at q0
    rw [hN]
    exact ⟨by simp,q0,q 2,q 3,q 5,q 6,q 8,q 9,q 11,q 12,q 14⟩
   rw [← hN] at hinv ⊢
   generalize (h++(ordP a1 a2 d m g N++[.dead,.arr 0 2 [.agg [.int .i64 0,.fz false (intsA zs)]]]))=H1 at hinv ⊢
   have hsp:Spent m.length zs 0 []:=⟨hzl,fun i hi=>by
    rw [hzs,List.getD_eq_getElem?_getD,List.getElem?_replicate,if_pos hi]
    simp [wL],rfl⟩
   clear hz hTf hTf0 ol hH0 hze hzs
   clear H0 hT T
   refine ALoop.over [6,17,18,19,20,77,78,79,80,81,82,83,84,85,86,87,88,89,90,91,92,93,94,95,96,97,98,99,100,101,102,103,104,105,106,107,108,109,110,111,112,113,114,115,116,117,118,119,120,121,122,123,124] (fun e H'=>∃ (i:Nat) (X:AV) (tk:List Ev) (Rx Ra Rb Lx La Lb ea eb:List Rw) (na nb:Int) (ss:List Int),e.getD 18 .any=.int .i64 i∧i≤l.length∧e.getD 17 .any=X∧TookR (N+15) H' tk X∧tk.length≤i∧(∀ e∈tk,e∈l∧checkS d m e.1 e.2.1 e.2.2=0) ∧
    Ix d m Lx Rx (tk.length:Int) (tk.map (ixRow g))∧Ixb m.length Lx (tk.map (ixRow g))∧Ix d m La Ra na ea∧Ixb m.length La ea∧Ix d m Lb Rb nb eb∧Ixb m.length Lb eb∧(ea++eb).Perm (tk.map (ixRow g))∧Spent m.length ss (tk.length:Int) (tk.map (ixRow g))∧OInv a1 a2 d m g N H' Rx [] Ra Rb (tk.length:Int) 0 na nb (tk.length:Int) ss)
    (fun e _=>l.length - natA (e.getD 18 .any)) ⟨0,_,[],[],[],[],[],[],[],[],[],0,0,zs,rfl,Nat.zero_le _,rfl,.inl ⟨rfl,rfl⟩,Nat.le_refl _,by simp,Ix.nil d m,Ixb.nil _,Ix.nil d m,Ixb.nil _,Ix.nil d m,Ixb.nil _,.refl _,hsp,hinv⟩ ?_
   clear hinv hsp hzl
   simp (config:={ maxSteps:=10000000 }) only [List.length_cons,List.length_nil,Nat.reduceAdd,allL_succ,allL_zero]
   intro y6 y17 y18 y19 y20 y77 y78 y79 y80 y81 y82 y83 y84 y85 y86 y87 y88 y89 y90 y91 y92 y93 y94 y95 y96 y97 y98 y99 y100 y101 y102 y103 y104 y105 y106 y107 y108 y109 y110 y111 y112 y113 y114 y115 y116 y117 y118 y119 y120 y121 y122 y123 y124 H hI
   simp only [go_sem] at hI
   obtain ⟨i,X,tk,Rx,Ra,Rb,Lx,La,Lb,ea,eb,na,nb,ss,rfl,hil,rfl,hX,htki,htk,xx,xb,aa,ab,bb,bbb,hperm,hsp,hinv⟩:=hI
   obtain ⟨v0,v1,v2,v3,v5,v6,v8,v9,v11,v12,v14⟩:=hinv
   simp only [go_sem,uA,uB,uC,uD,uE,uF,uG,uH,uI,uJ,uK,uL,uM,uN,uO,uP,uQ]
   refine acond_intro (fun hc=>?_) (fun hc=>?_)
   ·have hlt:i < l.length:=by have:=of_decide_eq_true hc; omega
    have hev:=f4 l[i] (List.getElem_mem _)
    have hevg:=evs_get l i hlt
    have hchg:=charge2 a1 a2 false false false d m l[i].2.1 l[i].1 l[i].2.2 (tk.length:Int) ss
    simp only [schA,evA',budA] at hchg v14
    simp only [go_sem,uA,uB,uC,uD,uE,uF,uG,uH,uI,uJ,uK,uL,uM,uN,uO,uP,uQ]
    (refine ADrawT.walk3 [[0],[0],[0],[0],[0],[0],[0,7,11],[7,11],[7,11],[7,11,12],[0,7,11],[11,12],[12]] mixedOrdersD (by kernel_rfl) (by kernel_rfl) ?_; simp only [go_sem,uA,uB,uC,uD,uE,uF,uG,uH,uI,uJ,uK,uL,uM,uN,uO,uP,uQ])
    simp only [go_sem,v1,v14,hevg,uA,uB,uC,uD,uE,uF,uG,uH,uI,uJ,uK,uL,uM,uN,uO,uP,uQ]
    refine ⟨⟨by omega,by omega⟩, ?_⟩
    obtain ⟨kc,hkc⟩:∃ kc,kc=chgC d m l[i].1 l[i].2.1 l[i].2.2 (tk.length:Int) ss:=⟨_,rfl⟩
    obtain ⟨n2,hn2⟩:∃ n2:Int,n2=(bif kc==0 then (tk.length:Int)+1 else 0):=⟨_,rfl⟩
    obtain ⟨s2,hs2⟩:∃ s2:List Int,s2=(bif kc==0 then addZ ss l[i].2.2 else []):=⟨_,rfl⟩
    simp only [budR,budA,← hkc,← hn2,← hs2] at hchg
    have hsl:=hsp.len
    have hvo:∀ s∈l[i].2.1,ValOk s:=fun s hs h=>value_all s h (by have:=hev.2.1 s hs; omega)
    refine frX_same (.tup [.agg [.int .i64 n2,.fz false (intsA s2)],.int .i64 kc]) ?_ ?_
    ·simp only [go_sem,v1,v14,hevg,uA,uB,uC,uD,uE,uF,uG,uH,uI,uJ,uK,uL,uM,uN,uO,uP,uQ]
     refine ACallT.frame (hchg _ (by omega) (by omega) (by omega) (by omega) hvo) ?_
     rintro _ _ rfl
     exact ⟨by simp [AV.low,lowL,low_intsA],rfl,rfl⟩
    simp only [go_sem,v1,v14,hevg,uA,uB,uC,uD,uE,uF,uG,uH,uI,uJ,uK,uL,uM,uN,uO,uP,uQ]
    refine ⟨by simp [fmem,Agree,v1,v14], ?_⟩
    by_cases hk0:kc=0
    ·subst hk0
     have hn2:n2=(tk.length:Int)+1:=hn2
     have hs2:s2=addZ ss l[i].2.2:=hs2
     obtain ⟨ck,hn20,hcov,hsp2⟩:=hsp.take g hkc.symm
     have e14:∀ x,(H++x)[N+14]? = some (.arr 0 2 [.agg [.int .i64 (tk.length:Int),.fz false (intsA ss)]]):=fun x=>by rw [List.getElem?_append_left (by omega)]; exact v14
     have ebx:∀ y:AObj,(H++[y])[H.length]? = some y:=fun y=>by simp
     simp only [go_sem,e14,ebx,hevg,uA,uB,uC,uD,uE,uF,uG,uH,uI,uJ,uK,uL,uM,uN,uO,uP,uQ]
     obtain ⟨D,hD⟩:∃ D,D=(H++[AObj.arr 0 2 [AV.agg [AV.int IntKind.i64 n2,AV.fz false (intsA s2)]]]).set (N+14) (AObj.arr 0 2 [AV.agg [AV.int IntKind.i64 n2,AV.fz false (intsA s2)]]):=⟨_,rfl⟩
     have hDl:D.length=H.length+1:=by rw [hD]; simp
     have hDo:∀ j,j < H.length→j≠N+14→D[j]? = H[j]? := fun j h1 h2=>by rw [hD,List.getElem?_set_ne (fun q=>h2 q.symm),List.getElem?_append_left h1]
     have hD14:D[N+14]? = some (.arr 0 2 [budA false n2 s2]):=by rw [hD,List.getElem?_set_self (by simp; omega)]
     have eD:∀ y:AObj,(D++[y])[H.length+1]? = some y:=fun y=>by rw [← hDl]; simp
     rw [← hD]
     obtain ⟨a0,Lx2,xx2,xb2⟩:=xx.fits xb hg ck hn20 hcov
     have hlen3:=hperm.length_eq
     rw [List.length_append,List.length_map] at hlen3
     have hna:=aa.cn
     have hnb:=bb.cn
     have hwl:∀ j,wL j ea+wL j eb=wL j (tk.map (ixRow g)):=fun j=>by rw [← wL_app,wL_perm j hperm]
     obtain ⟨aa0,La2,aa2,ab2⟩:=aa.fits ab hg ck (by omega) (fun j hj=>by have:=hcov j hj; have:=hwl j; have:=wL_nn j eb; omega)
     obtain ⟨bb0,Lb2,bb2,bbb2⟩:=bb.fits bbb hg ck (by omega) (fun j hj=>by have:=hcov j hj; have:=hwl j; have:=wL_nn j ea; omega)
     have rI:∀ {L R:List Rw} {k:Int} {E:List Rw},Ix d m L R k E→∀ r∈R,RowI d m r:=fun q r hr=>q.st.2.2.1 r (q.st.2.1.symm.subset hr)
     have hev2:∀ s∈l[i].2.1,s.length≤1000:=fun s hs=>by have:=hev.2.1 s hs; omega
     have elen:(((tk++[l[i]]).length:Nat):Int)=(tk.length:Int)+1:=by simp
     have emap:(tk++[l[i]]).map (ixRow g)=tk.map (ixRow g)++[ixRow g l[i]]:=by simp
     have htk2:∀ e∈tk++[l[i]],e∈l∧checkS d m e.1 e.2.1 e.2.2=0:=fun e he=>by
      rcases List.mem_append.1 he with q | q
      ·exact htk e q
      ·obtain rfl:e=l[i]:=by simpa using q
       exact ⟨List.getElem_mem _,ck⟩
     rcases hX with ⟨ht0,rfl⟩ | ⟨htne,u,g',rfl,hu0,hu⟩
     ·simp only [go_sem,eD,hevg,uA,uB,uC,uD,uE,uF,uG,uH,uI,uJ,uK,uL,uM,uN,uO,uP,uQ]
      refine ⟨⟨by omega,by omega⟩,fun q=>absurd q (by simp),fun _=>⟨⟨by omega,by omega⟩, ?_⟩⟩
      obtain ⟨M,hM⟩:∃ M,M=D++[AObj.arr 0 3 [AV.agg [AV.int IntKind.i64 l[i].1,AV.fz false (strs l[i].2.1),AV.fz false (intsA l[i].2.2)]],AObj.arr 0 3 [AV.agg [AV.int IntKind.i64 l[i].1,AV.fz false (strs l[i].2.1),AV.fz false (intsA l[i].2.2)]]]:=⟨_,rfl⟩
      have hMl:H.length+1≤M.length:=by rw [hM]; simp; omega
      have hMo:∀ j,j < N+14→M[j]? = H[j]? := fun j hj=>by rw [hM,List.getElem?_append_left (by omega)]; exact hDo j (by omega) (by omega)
      have hM14:M[N+14]? = some (.arr 0 2 [budA false n2 s2]):=by rw [hM,List.getElem?_append_left (by omega)]; exact hD14
      have hMX:TookR (N+15) M (tk++[l[i]]) (.sl (D.length+1) 0 3 0 1):=.inr ⟨by simp,D.length+1,0,by simp [ht0],by omega,by rw [hM,ht0,List.getElem?_append_right (by omega),show D.length+1 - D.length=1 by omega]; rfl⟩
      rw [← hM]
      have inv1:=OInv.bud (M:=M) (n2:=n2) (s2:=s2) ⟨v0,v1,v2,v3,v5,v6,v8,v9,v11,v12,v14⟩ (by omega) hMo hM14
      clear hM hD hDo hD14 eD e14
      refine ACallT.by (iadd0 Rx d m g (tk.length:Int) l[i] (N+3) (N+2) M (by omega) (by omega) (by omega) (by omega) hev2 hg (by omega) (by omega) (rI xx) (by omega) inv1.2.2.2.1 inv1.2.2.1 a0) ?_
      rintro _ _ ⟨rfl,rfl⟩
      have inv2:=inv1.setx (addL d m g Rx l[i]) ((tk.length:Int)+1)
      have hX2:=(hMX.set (N+3) (ixO d m g (N+2) ((tk.length:Int)+1)) (by omega)).set (N+2) (.map (entR keyT (addL d m g Rx l[i]))) (by omega)
      generalize (M.set (N+3) (ixO d m g (N+2) ((tk.length:Int)+1))).set (N+2) (.map (entR keyT (addL d m g Rx l[i])))=M2 at inv2 hX2 ⊢
      simp only [go_sem,uA,uB,uC,uD,uE,uF,uG,uH,uI,uJ,uK,uL,uM,uN,uO,uP,uQ]
      refine ⟨by decide,acond_intro (fun hz=>?_) (fun hz=>?_)⟩
      ·simp only [go_sem,hevg,uA,uB,uC,uD,uE,uF,uG,uH,uI,uJ,uK,uL,uM,uN,uO,uP,uQ]
       refine ⟨⟨by omega,by omega⟩, ?_⟩
       refine ACallT.by (iadd0 Ra d m g na l[i] (N+9) (N+8) M2 (by omega) (by omega) (by omega) (by omega) hev2 hg (by omega) (by omega) (rI aa) (by omega) inv2.2.2.2.2.2.2.2.1 inv2.2.2.2.2.2.2.1 aa0) ?_
       rintro _ _ ⟨rfl,rfl⟩
       simp only [go_sem,uA,uB,uC,uD,uE,uF,uG,uH,uI,uJ,uK,uL,uM,uN,uO,uP,uQ]
       refine ⟨⟨i+1,_,tk++[l[i]],addL d m g Rx l[i],addL d m g Ra l[i],Rb,Lx2,La2,Lb,ea++[ixRow g l[i]],eb,na+1,nb,s2, ?_,by omega,rfl,(hX2.set (N+9) _ (by omega)).set (N+8) _ (by omega),by simp; omega,htk2, ?_, ?_,aa2,ab2,bb,bbb, ?_, ?_, ?_⟩, ?_⟩
       ·rw [wrap_id (by omega) (by omega)]; rfl
       ·rw [elen,emap]; exact xx2
       ·rw [emap]; exact xb2
       ·rw [emap]
        refine List.Perm.trans ?_ (List.Perm.append_right _ hperm)
        rw [List.append_assoc,List.append_assoc]
        exact List.Perm.append_left _ List.perm_append_comm
       ·rw [elen,emap,hs2]; exact hsp2
       ·rw [elen]
        have:=inv2.seta (addL d m g Ra l[i]) (na+1)
        rw [hn2] at this
        exact this
       ·rw [wrap_id (by omega) (by omega)]; omega
      ·simp only [go_sem,hevg,uA,uB,uC,uD,uE,uF,uG,uH,uI,uJ,uK,uL,uM,uN,uO,uP,uQ]
       refine ⟨⟨by omega,by omega⟩, ?_⟩
       refine ACallT.by (iadd0 Rb d m g nb l[i] (N+12) (N+11) M2 (by omega) (by omega) (by omega) (by omega) hev2 hg (by omega) (by omega) (rI bb) (by omega) inv2.2.2.2.2.2.2.2.2.2.1 inv2.2.2.2.2.2.2.2.2.1 bb0) ?_
       rintro _ _ ⟨rfl,rfl⟩
       simp only [go_sem,uA,uB,uC,uD,uE,uF,uG,uH,uI,uJ,uK,uL,uM,uN,uO,uP,uQ]
       refine ⟨⟨i+1,_,tk++[l[i]],addL d m g Rx l[i],Ra,addL d m g Rb l[i],Lx2,La,Lb2,ea,eb++[ixRow g l[i]],na,nb+1,s2, ?_,by omega,rfl,(hX2.set (N+12) _ (by omega)).set (N+11) _ (by omega),by simp; omega,htk2, ?_, ?_,aa,ab,bb2,bbb2, ?_, ?_, ?_⟩, ?_⟩
       ·rw [wrap_id (by omega) (by omega)]; rfl
       ·rw [elen,emap]; exact xx2
       ·rw [emap]; exact xb2
       ·rw [emap,← List.append_assoc]
        exact List.Perm.append_right _ hperm
       ·rw [elen,emap,hs2]; exact hsp2
       ·rw [elen]
        have:=inv2.setb (addL d m g Rb l[i]) (nb+1)
        rw [hn2] at this
        exact this
       ·rw [wrap_id (by omega) (by omega)]; omega
     ·have hul:=(List.getElem?_eq_some_iff.1 hu).1
      have eu:∀ x,(D++x)[u]? = some (.arr g' 3 (evs tk)):=fun x=>by rw [List.getElem?_append_left (by omega),hDo u hul (by omega)]; exact hu
      simp only [go_sem,eD,hevg,eu,uA,uB,uC,uD,uE,uF,uG,uH,uI,uJ,uK,uL,uM,uN,uO,uP,uQ]
      refine ⟨⟨by omega,by omega⟩,⟨by omega,by omega⟩,⟨by omega,by omega⟩, ?_⟩
      obtain ⟨M,hM⟩:∃ M,M=(D++[AObj.arr 0 3 [AV.agg [AV.int IntKind.i64 l[i].1,AV.fz false (strs l[i].2.1),AV.fz false (intsA l[i].2.2)]]]).set u (AObj.arr (g'+1) 3 (evs tk++[AV.agg [AV.int IntKind.i64 l[i].1,AV.fz false (strs l[i].2.1),AV.fz false (intsA l[i].2.2)]])):=⟨_,rfl⟩
      have hMl:H.length+1≤M.length:=by rw [hM]; simp; omega
      have hMo:∀ j,j < N+14→M[j]? = H[j]? := fun j hj=>by rw [hM,List.getElem?_set_ne (by omega),List.getElem?_append_left (by omega)]; exact hDo j (by omega) (by omega)
      have hM14:M[N+14]? = some (.arr 0 2 [budA false n2 s2]):=by rw [hM,List.getElem?_set_ne (by omega),List.getElem?_append_left (by omega)]; exact hD14
      have hMX:TookR (N+15) M (tk++[l[i]]) (.sl u (g'+1) 3 0 (tk.length+1)):=.inr ⟨by simp,u,g'+1,by simp,hu0,by rw [hM,List.getElem?_set_self (by simp; omega)]; simp [evs,eventA]⟩
      rw [← hM]
      have inv1:=OInv.bud (M:=M) (n2:=n2) (s2:=s2) ⟨v0,v1,v2,v3,v5,v6,v8,v9,v11,v12,v14⟩ (by omega) hMo hM14
      clear hM hD hDo hD14 eD e14
      refine ACallT.by (iadd0 Rx d m g (tk.length:Int) l[i] (N+3) (N+2) M (by omega) (by omega) (by omega) (by omega) hev2 hg (by omega) (by omega) (rI xx) (by omega) inv1.2.2.2.1 inv1.2.2.1 a0) ?_
      rintro _ _ ⟨rfl,rfl⟩
      have inv2:=inv1.setx (addL d m g Rx l[i]) ((tk.length:Int)+1)
      have hX2:=(hMX.set (N+3) (ixO d m g (N+2) ((tk.length:Int)+1)) (by omega)).set (N+2) (.map (entR keyT (addL d m g Rx l[i]))) (by omega)
      generalize (M.set (N+3) (ixO d m g (N+2) ((tk.length:Int)+1))).set (N+2) (.map (entR keyT (addL d m g Rx l[i])))=M2 at inv2 hX2 ⊢
      simp only [go_sem,uA,uB,uC,uD,uE,uF,uG,uH,uI,uJ,uK,uL,uM,uN,uO,uP,uQ]
      refine ⟨by decide,acond_intro (fun hz=>?_) (fun hz=>?_)⟩
      ·simp only [go_sem,hevg,uA,uB,uC,uD,uE,uF,uG,uH,uI,uJ,uK,uL,uM,uN,uO,uP,uQ]
       refine ⟨⟨by omega,by omega⟩, ?_⟩
       refine ACallT.by (iadd0 Ra d m g na l[i] (N+9) (N+8) M2 (by omega) (by omega) (by omega) (by omega) hev2 hg (by omega) (by omega) (rI aa) (by omega) inv2.2.2.2.2.2.2.2.1 inv2.2.2.2.2.2.2.1 aa0) ?_
       rintro _ _ ⟨rfl,rfl⟩
       simp only [go_sem,uA,uB,uC,uD,uE,uF,uG,uH,uI,uJ,uK,uL,uM,uN,uO,uP,uQ]
       refine ⟨⟨i+1,_,tk++[l[i]],addL d m g Rx l[i],addL d m g Ra l[i],Rb,Lx2,La2,Lb,ea++[ixRow g l[i]],eb,na+1,nb,s2, ?_,by omega,rfl,(hX2.set (N+9) _ (by omega)).set (N+8) _ (by omega),by simp; omega,htk2, ?_, ?_,aa2,ab2,bb,bbb, ?_, ?_, ?_⟩, ?_⟩
       ·rw [wrap_id (by omega) (by omega)]; rfl
       ·rw [elen,emap]; exact xx2
       ·rw [emap]; exact xb2
       ·rw [emap]
        refine List.Perm.trans ?_ (List.Perm.append_right _ hperm)
        rw [List.append_assoc,List.append_assoc]
        exact List.Perm.append_left _ List.perm_append_comm
       ·rw [elen,emap,hs2]; exact hsp2
       ·rw [elen]
        have:=inv2.seta (addL d m g Ra l[i]) (na+1)
        rw [hn2] at this
        exact this
       ·rw [wrap_id (by omega) (by omega)]; omega
      ·simp only [go_sem,hevg,uA,uB,uC,uD,uE,uF,uG,uH,uI,uJ,uK,uL,uM,uN,uO,uP,uQ]
       refine ⟨⟨by omega,by omega⟩, ?_⟩
       refine ACallT.by (iadd0 Rb d m g nb l[i] (N+12) (N+11) M2 (by omega) (by omega) (by omega) (by omega) hev2 hg (by omega) (by omega) (rI bb) (by omega) inv2.2.2.2.2.2.2.2.2.2.1 inv2.2.2.2.2.2.2.2.2.1 bb0) ?_
       rintro _ _ ⟨rfl,rfl⟩
       simp only [go_sem,uA,uB,uC,uD,uE,uF,uG,uH,uI,uJ,uK,uL,uM,uN,uO,uP,uQ]
       refine ⟨⟨i+1,_,tk++[l[i]],addL d m g Rx l[i],Ra,addL d m g Rb l[i],Lx2,La,Lb2,ea,eb++[ixRow g l[i]],na,nb+1,s2, ?_,by omega,rfl,(hX2.set (N+12) _ (by omega)).set (N+11) _ (by omega),by simp; omega,htk2, ?_, ?_,aa,ab,bb2,bbb2, ?_, ?_, ?_⟩, ?_⟩
       ·rw [wrap_id (by omega) (by omega)]; rfl
       ·rw [elen,emap]; exact xx2
       ·rw [emap]; exact xb2
       ·rw [emap,← List.append_assoc]
        exact List.Perm.append_right _ hperm
       ·rw [elen,emap,hs2]; exact hsp2
       ·rw [elen]
        have:=inv2.setb (addL d m g Rb l[i]) (nb+1)
        rw [hn2] at this
        exact this
       ·rw [wrap_id (by omega) (by omega)]; omega
    ·have hcd:(kc != 0)=true:=by simpa using hk0
     simp only [go_sem,hcd,uA,uB,uC,uD,uE,uF,uG,uH,uI,uJ,uK,uL,uM,uN,uO,uP,uQ]
     have ext:∀ j,j < H.length→(H++[AObj.arr 0 2 [AV.agg [AV.int IntKind.i64 n2,AV.fz false (intsA s2)]]])[j]? = H[j]? := fun j hj=>List.getElem?_append_left hj
     refine ⟨⟨i+1,_,tk,Rx,Ra,Rb,Lx,La,Lb,ea,eb,na,nb,ss, ?_,by omega,rfl,hX.keep fun j _ h2=>ext j h2,by omega,htk,xx,xb,aa,ab,bb,bbb,hperm,hsp, ?_⟩, ?_⟩
     ·rw [wrap_id (by omega) (by omega)]; rfl
     ·exact OInv.bud ⟨v0,v1,v2,v3,v5,v6,v8,v9,v11,v12,v14⟩ (by simp; omega) (fun j hj=>ext j (by omega)) ((ext _ (by omega)).trans v14)
     ·rw [wrap_id (by omega) (by omega)]; omega
   ·have hinv:OInv a1 a2 d m g N H Rx [] Ra Rb (tk.length:Int) 0 na nb (tk.length:Int) ss:=⟨v0,v1,v2,v3,v5,v6,v8,v9,v11,v12,v14⟩
    have hX0:=hX
    rcases hX with ⟨ht0,rfl⟩ | ⟨htne,u,g',rfl,hu0,hu⟩
    ·simp only [go_sem,uA,uB,uC,uD,uE,uF,uG,uH,uI,uJ,uK,uL,uM,uN,uO,uP,uQ]
     refine ALoop.over [6,21,128,129,130,131,132,133,134,135,136,137,138] (fun e H'=>∃ (r:Nat) (Ry Ly:List Rw),e.getD 21 .any=.int .i64 ((r:Int) - 1)∧r≤tk.length∧Ix d m Ly Ry ((tk.length - r:Nat):Int) ((tk.drop r).reverse.map (ixRow g))∧Ixb m.length Ly ((tk.drop r).reverse.map (ixRow g))∧TookR (N+15) H' tk (.fz true [])∧OInv a1 a2 d m g N H' Rx Ry Ra Rb (tk.length:Int) ((tk.length - r:Nat):Int) na nb (tk.length:Int) ss) (fun e _=>match e.getD 21 .any with | .int _ n=>(n+1).toNat | _=>0) ⟨tk.length,[],[],by rw [ht0]; rfl,Nat.le_refl _,by simpa using Ix.nil d m,by simpa using Ixb.nil m.length,hX0,by simpa using hinv⟩ ?_
     simp (config:={ maxSteps:=10000000 }) only [List.length_cons,List.length_nil,Nat.reduceAdd,allL_succ,allL_zero]
     intro y6 y21 y128 y129 y130 y131 y132 y133 y134 y135 y136 y137 y138 H2 hI
     simp only [go_sem] at hI
     obtain ⟨r,Ry,Ly,rfl,hr,yy,yb,hX2,hinv2⟩:=hI
     simp only [go_sem,uA,uB,uC,uD,uE,uF,uG,uH,uI,uJ,uK,uL,uM,uN,uO,uP,uQ]
     refine acond_intro (fun hc=>?_) (fun hc=>?_)
     ·have hr1:1≤r:=by have:=of_decide_eq_true hc; omega
      rw [ht0] at hr; simp at hr; omega
     ·obtain rfl:r=0:=by have:=of_decide_eq_false hc; omega
      rw [List.drop_zero] at yy yb
      have exy:Lx=Ly:=xx.eq yy (by rw [List.map_reverse]; exact (List.reverse_perm _).symm)
      simp only [go_sem,uA,uB,uC,uD,uE,uF,uG,uH,uI,uJ,uK,uL,uM,uN,uO,uP,uQ]
      have hold3n:=hinv2.2
      obtain ⟨w0,w1,w2,w3,w5,w6,w8,w9,w11,w12,w14⟩:=hinv2
      have lna:=aa.len
      have lnb:=bb.len
      have lnx:=xx.len
      have hlen3:=hperm.length_eq
      rw [List.length_append,List.length_map] at hlen3
      have cna:=aa.cn
      have cnb:=bb.cn
      refine ACallT.by (irows_sl keyT Ra d m g na (N+9) (N+8) H2 (by omega) (aa.bd f1 f2) w9 w8) ?_
      rintro r1 H3 ⟨hold3,Ra',hpa,hsa,hra⟩
      obtain rfl:Ra'=La:=sort_uniq aa.st.1 hsa (hpa.trans aa.st.2.1.symm)
      have k3:∀ j o,H2[j]? = some o→H3[j]? = some o:=fun j o q=>(hold3 j (List.getElem?_eq_some_iff.1 q).1).trans q
      have hFT:∀ M:List Rw,M.Perm (Ra'++Lb)→foldF M=(0,Lx):=fun M hM=>fold_two xx aa bb ab bbb hsp (by omega) hperm hM
      have hall:∀ r∈Ra'++Lb,RwN d.length m.length r:=fun r hr=>by
       rcases List.mem_append.1 hr with q | q
       ·exact aa.rwn r q
       ·exact bb.rwn r q
      have hbf:(Lb.length:Int)≤nb:=by rw [bb.st.2.1.length_eq]; exact lnb
      have haf:(Ra'.length:Int)≤na:=by rw [aa.st.2.1.length_eq]; exact lna
      have hxf:(Lx.length:Int)≤tk.length:=by rw [xx.st.2.1.length_eq]; exact lnx
      have rkx:∀ r∈Lx,RwOk r:=fun r hr=>by have:=(xx.rwn r hr).1; exact ⟨by have:=this.1; omega,by have:=this.2; omega⟩
      have dxy:decide (Lx=Ly)=true:=decide_eq_true exy
      have dxx:decide (Lx=Lx)=true:=decide_eq_true rfl
      have hyl:Ly.length≤60:=by rw [← exy]; omega
      rcases hra with ⟨ea0,rfl⟩ | ⟨u3,g3,rfl,hu30,hu31⟩
      ·simp only [go_sem,uA,uB,uC,uD,uE,uF,uG,uH,uI,uJ,uK,uL,uM,uN,uO,uP,uQ]
       refine ACallT.by (irowsE Lb Rb d m g nb (N+12) (N+11) H3 bb.st.1 bb.st.2.1 (by omega) (bb.bd f1 f2) (k3 _ _ w12) (k3 _ _ w11)) ?_
       rintro _ H4 ⟨rfl,e4⟩
       rw [e4]
       clear e4 H4
       simp only [go_sem,uA,uB,uC,uD,uE,uF,uG,uH,uI,uJ,uK,uL,uM,uN,uO,uP,uQ]
       refine ⟨⟨by omega,by omega,by have:=rows_okEl Lb Lb.length; rwa [List.take_of_length_le (by rw [rowsA_len]; omega)] at this⟩,fun hb0=>?_,fun hb0=>?_⟩
       ·have hLb:Lb=[]:=by simpa [rowsA] using hb0
        refine ACallT.frame (pfold_nil _) ?_
        rintro _ _ rfl
        refine ⟨rfl, ?_⟩
        have hLx:Lx=[]:=by have:=hFT [] (by rw [ea0,hLb]; exact .refl _); injection this with _ e; exact e.symm
        have dxx:decide (Lx=[])=true:=decide_eq_true hLx
        obtain ⟨H4,hH4⟩:∃ H4,H4=H3:=⟨_,rfl⟩
        rw [← hH4]
        have k4:∀ (j:Nat) (o:AObj),H2[j]? = some o→H4[j]? = some o:=by rw [hH4]; exact k3
        simp only [go_sem,uA,uB,uC,uD,uE,uF,uG,uH,uI,uJ,uK,uL,uM,uN,uO,uP,uQ]
        refine ACallT.by (irowsE Lx Rx d m g (tk.length:Int) (N+3) (N+2) H4 xx.st.1 xx.st.2.1 (by omega) (xx.bd f1 f2) (k4 _ _ w3) (k4 _ _ w2)) ?_
        rintro _ H5 ⟨rfl,e5⟩
        rw [e5]
        clear e5 H5
        simp only [go_sem,uA,uB,uC,uD,uE,uF,uG,uH,uI,uJ,uK,uL,uM,uN,uO,uP,uQ]
        refine ACallT.by (irowsE Ly Ry d m g ((tk.length - 0:Nat):Int) (N+6) (N+5) H4 yy.st.1 yy.st.2.1 (by have:=yy.len; omega) (yy.bd f1 f2) (k4 _ _ w6) (k4 _ _ w5)) ?_
        rintro _ H5 ⟨rfl,e5⟩
        rw [e5]
        clear e5 H5
        simp only [go_sem,uA,uB,uC,uD,uE,uF,uG,uH,uI,uJ,uK,uL,uM,uN,uO,uP,uQ]
        refine ACallT.frame (rsame_ok Lx Ly false false _ (by omega) (by omega) rkx (fun r hr=>rkx r (exy ▸ hr))) ?_
        rintro _ _ rfl
        rw [dxy]
        refine ⟨rfl, ?_⟩
        simp only [go_sem,uA,uB,uC,uD,uE,uF,uG,uH,uI,uJ,uK,uL,uM,uN,uO,uP,uQ]
        refine ACallT.by (irowsE Lx Rx d m g (tk.length:Int) (N+3) (N+2) H4 xx.st.1 xx.st.2.1 (by omega) (xx.bd f1 f2) (k4 _ _ w3) (k4 _ _ w2)) ?_
        rintro _ H5 ⟨rfl,e5⟩
        rw [e5]
        clear e5 H5
        simp only [go_sem,uA,uB,uC,uD,uE,uF,uG,uH,uI,uJ,uK,uL,uM,uN,uO,uP,uQ]
        refine ACallT.frame (rsame_ok Lx [] false true _ (by omega) (by simp) rkx (by simp)) ?_
        rintro _ _ rfl
        rw [dxx]
        refine ⟨rfl, ?_⟩
        simp only [go_sem,uA,uB,uC,uD,uE,uF,uG,uH,uI,uJ,uK,uL,uM,uN,uO,uP,uQ]
        refine ACallT.frame (alive_hand _) ?_
        rintro _ _ rfl
        refine ⟨rfl, ?_⟩
        simp only [go_sem,uA,uB,uC,uD,uE,uF,uG,uH,uI,uJ,uK,uL,uM,uN,uO,uP,uQ]
        refine ACallT.by (icount_ok d m g (tk.length:Int) (N+3) (N+2) H4 (k4 _ _ w3)) ?_
        rintro _ H5 ⟨rfl,e5⟩
        rw [e5]
        clear e5 H5
        have w14':=k4 _ _ w14
        simp only [go_sem,w14',uA,uB,uC,uD,uE,uF,uG,uH,uI,uJ,uK,uL,uM,uN,uO,uP,uQ]
        exact Fin_plain (by first | (simp; done) | simp [ht0])
       ·have hp:=pfold_ok Lb d.length m.length H3.length 0 (H3++[.arr 0 4 (rowsA Lb)]) (by omega) (by omega) (by omega) (fun r hr=>hall r (List.mem_append_right _ hr)) (by simp)
        refine ACallT.by hp ?_
        rintro _ H4 ⟨⟨M,hMp,hMs,rfl⟩,hold4⟩
        have hFM:=hFT M (by rw [ea0]; exact hMp)
        rw [hFM]
        have k4:∀ (j:Nat) (o:AObj),H2[j]? = some o→H4[j]? = some o:=fun j o q=>by
         have hj3:=(List.getElem?_eq_some_iff.1 (k3 j o q)).1
         rw [hold4 j (by simp; omega),List.getElem?_append_left hj3]
         exact k3 j o q
        simp only [go_sem,uA,uB,uC,uD,uE,uF,uG,uH,uI,uJ,uK,uL,uM,uN,uO,uP,uQ]
        refine ACallT.by (irowsE Lx Rx d m g (tk.length:Int) (N+3) (N+2) H4 xx.st.1 xx.st.2.1 (by omega) (xx.bd f1 f2) (k4 _ _ w3) (k4 _ _ w2)) ?_
        rintro _ H5 ⟨rfl,e5⟩
        rw [e5]
        clear e5 H5
        simp only [go_sem,uA,uB,uC,uD,uE,uF,uG,uH,uI,uJ,uK,uL,uM,uN,uO,uP,uQ]
        refine ACallT.by (irowsE Ly Ry d m g ((tk.length - 0:Nat):Int) (N+6) (N+5) H4 yy.st.1 yy.st.2.1 (by have:=yy.len; omega) (yy.bd f1 f2) (k4 _ _ w6) (k4 _ _ w5)) ?_
        rintro _ H5 ⟨rfl,e5⟩
        rw [e5]
        clear e5 H5
        simp only [go_sem,uA,uB,uC,uD,uE,uF,uG,uH,uI,uJ,uK,uL,uM,uN,uO,uP,uQ]
        refine ACallT.frame (rsame_ok Lx Ly false false _ (by omega) (by omega) rkx (fun r hr=>rkx r (exy ▸ hr))) ?_
        rintro _ _ rfl
        rw [dxy]
        refine ⟨rfl, ?_⟩
        simp only [go_sem,uA,uB,uC,uD,uE,uF,uG,uH,uI,uJ,uK,uL,uM,uN,uO,uP,uQ]
        refine ACallT.by (irowsE Lx Rx d m g (tk.length:Int) (N+3) (N+2) H4 xx.st.1 xx.st.2.1 (by omega) (xx.bd f1 f2) (k4 _ _ w3) (k4 _ _ w2)) ?_
        rintro _ H5 ⟨rfl,e5⟩
        rw [e5]
        clear e5 H5
        simp only [go_sem,uA,uB,uC,uD,uE,uF,uG,uH,uI,uJ,uK,uL,uM,uN,uO,uP,uQ]
        refine ACallT.frame (rsame_ok Lx Lx false false _ (by omega) (by omega) rkx rkx) ?_
        rintro _ _ rfl
        rw [dxx]
        refine ⟨rfl, ?_⟩
        simp only [go_sem,uA,uB,uC,uD,uE,uF,uG,uH,uI,uJ,uK,uL,uM,uN,uO,uP,uQ]
        refine ACallT.frame (alive_hand _) ?_
        rintro _ _ rfl
        refine ⟨rfl, ?_⟩
        simp only [go_sem,uA,uB,uC,uD,uE,uF,uG,uH,uI,uJ,uK,uL,uM,uN,uO,uP,uQ]
        refine ACallT.by (icount_ok d m g (tk.length:Int) (N+3) (N+2) H4 (k4 _ _ w3)) ?_
        rintro _ H5 ⟨rfl,e5⟩
        rw [e5]
        clear e5 H5
        have w14':=k4 _ _ w14
        simp only [go_sem,w14',uA,uB,uC,uD,uE,uF,uG,uH,uI,uJ,uK,uL,uM,uN,uO,uP,uQ]
        exact Fin_plain (by first | (simp; done) | simp [ht0])
      ·simp only [go_sem,uA,uB,uC,uD,uE,uF,uG,uH,uI,uJ,uK,uL,uM,uN,uO,uP,uQ]
       refine ACallT.by (irowsE Lb Rb d m g nb (N+12) (N+11) H3 bb.st.1 bb.st.2.1 (by omega) (bb.bd f1 f2) (k3 _ _ w12) (k3 _ _ w11)) ?_
       rintro _ H4 ⟨rfl,e4⟩
       rw [e4]
       clear e4 H4
       simp only [go_sem,hu31,uA,uB,uC,uD,uE,uF,uG,uH,uI,uJ,uK,uL,uM,uN,uO,uP,uQ]
       refine ⟨⟨by omega,by omega,by have:=rows_okEl Lb Lb.length; rwa [List.take_of_length_le (by rw [rowsA_len]; omega)] at this⟩, ?_⟩
       have hu3l:=(List.getElem?_eq_some_iff.1 hu31).1
       have hp:=pfold_ok (Ra'++Lb) d.length m.length u3 (g3+1) (H3.set u3 (.arr (g3+1) 4 (rowsA (Ra'++Lb)))) (by simp; omega) (by omega) (by omega) hall (List.getElem?_set_self hu3l)
       rw [rowsA_app,List.length_append] at hp
       refine ACallT.by hp ?_
       rintro _ H4 ⟨⟨M,hMp,hMs,rfl⟩,hold4⟩
       have hFM:=hFT M hMp
       rw [hFM]
       have k4:∀ (j:Nat) (o:AObj),H2[j]? = some o→H4[j]? = some o:=fun j o q=>by
        have hj:=(List.getElem?_eq_some_iff.1 q).1
        have hj3:=(List.getElem?_eq_some_iff.1 (k3 j o q)).1
        rw [hold4 j (by simp; omega),List.getElem?_set_ne (by omega)]
        exact k3 j o q
       simp only [go_sem,uA,uB,uC,uD,uE,uF,uG,uH,uI,uJ,uK,uL,uM,uN,uO,uP,uQ]
       refine ACallT.by (irowsE Lx Rx d m g (tk.length:Int) (N+3) (N+2) H4 xx.st.1 xx.st.2.1 (by omega) (xx.bd f1 f2) (k4 _ _ w3) (k4 _ _ w2)) ?_
       rintro _ H5 ⟨rfl,e5⟩
       rw [e5]
       clear e5 H5
       simp only [go_sem,uA,uB,uC,uD,uE,uF,uG,uH,uI,uJ,uK,uL,uM,uN,uO,uP,uQ]
       refine ACallT.by (irowsE Ly Ry d m g ((tk.length - 0:Nat):Int) (N+6) (N+5) H4 yy.st.1 yy.st.2.1 (by have:=yy.len; omega) (yy.bd f1 f2) (k4 _ _ w6) (k4 _ _ w5)) ?_
       rintro _ H5 ⟨rfl,e5⟩
       rw [e5]
       clear e5 H5
       simp only [go_sem,uA,uB,uC,uD,uE,uF,uG,uH,uI,uJ,uK,uL,uM,uN,uO,uP,uQ]
       refine ACallT.frame (rsame_ok Lx Ly false false _ (by omega) (by omega) rkx (fun r hr=>rkx r (exy ▸ hr))) ?_
       rintro _ _ rfl
       rw [dxy]
       refine ⟨rfl, ?_⟩
       simp only [go_sem,uA,uB,uC,uD,uE,uF,uG,uH,uI,uJ,uK,uL,uM,uN,uO,uP,uQ]
       refine ACallT.by (irowsE Lx Rx d m g (tk.length:Int) (N+3) (N+2) H4 xx.st.1 xx.st.2.1 (by omega) (xx.bd f1 f2) (k4 _ _ w3) (k4 _ _ w2)) ?_
       rintro _ H5 ⟨rfl,e5⟩
       rw [e5]
       clear e5 H5
       simp only [go_sem,uA,uB,uC,uD,uE,uF,uG,uH,uI,uJ,uK,uL,uM,uN,uO,uP,uQ]
       refine ACallT.frame (rsame_ok Lx Lx false false _ (by omega) (by omega) rkx rkx) ?_
       rintro _ _ rfl
       rw [dxx]
       refine ⟨rfl, ?_⟩
       simp only [go_sem,uA,uB,uC,uD,uE,uF,uG,uH,uI,uJ,uK,uL,uM,uN,uO,uP,uQ]
       refine ACallT.frame (alive_hand _) ?_
       rintro _ _ rfl
       refine ⟨rfl, ?_⟩
       simp only [go_sem,uA,uB,uC,uD,uE,uF,uG,uH,uI,uJ,uK,uL,uM,uN,uO,uP,uQ]
       refine ACallT.by (icount_ok d m g (tk.length:Int) (N+3) (N+2) H4 (k4 _ _ w3)) ?_
       rintro _ H5 ⟨rfl,e5⟩
       rw [e5]
       clear e5 H5
       have w14':=k4 _ _ w14
       simp only [go_sem,w14',uA,uB,uC,uD,uE,uF,uG,uH,uI,uJ,uK,uL,uM,uN,uO,uP,uQ]
       exact Fin_plain (by first | (simp; done) | simp [ht0])
    ·simp only [go_sem,uA,uB,uC,uD,uE,uF,uG,uH,uI,uJ,uK,uL,uM,uN,uO,uP,uQ]
     refine ALoop.over [6,21,128,129,130,131,132,133,134,135,136,137,138] (fun e H'=>∃ (r:Nat) (Ry Ly:List Rw),e.getD 21 .any=.int .i64 ((r:Int) - 1)∧r≤tk.length∧Ix d m Ly Ry ((tk.length - r:Nat):Int) ((tk.drop r).reverse.map (ixRow g))∧Ixb m.length Ly ((tk.drop r).reverse.map (ixRow g))∧TookR (N+15) H' tk (.sl u g' 3 0 tk.length)∧OInv a1 a2 d m g N H' Rx Ry Ra Rb (tk.length:Int) ((tk.length - r:Nat):Int) na nb (tk.length:Int) ss) (fun e _=>match e.getD 21 .any with | .int _ n=>(n+1).toNat | _=>0) ⟨tk.length,[],[],congrArg (AV.int .i64) (wrap_id (by omega) (by omega)),Nat.le_refl _,by simpa using Ix.nil d m,by simpa using Ixb.nil m.length,hX0,by simpa using hinv⟩ ?_
     simp (config:={ maxSteps:=10000000 }) only [List.length_cons,List.length_nil,Nat.reduceAdd,allL_succ,allL_zero]
     intro y6 y21 y128 y129 y130 y131 y132 y133 y134 y135 y136 y137 y138 H2 hI
     simp only [go_sem] at hI
     obtain ⟨r,Ry,Ly,rfl,hr,yy,yb,hX2,hinv2⟩:=hI
     simp only [go_sem,uA,uB,uC,uD,uE,uF,uG,uH,uI,uJ,uK,uL,uM,uN,uO,uP,uQ]
     refine acond_intro (fun hc=>?_) (fun hc=>?_)
     ·have hr1:1≤r:=by have:=of_decide_eq_true hc; omega
      obtain ⟨q,rfl⟩:∃ q,r=q+1:=⟨r - 1,by omega⟩
      obtain ⟨-,u2,g2,hu2e,hu2,hu3⟩:tk≠[]∧_:=hX2.resolve_left (fun z=>by cases z.2)
      injection hu2e with e1 e2
      subst e1 e2
      have hq:q < tk.length:=by omega
      have hwq:(((q+1:Nat):Int) - 1)=(q:Int):=by omega
      rw [hwq]
      have hevg:=evs_get tk q hq
      obtain ⟨hem,ck⟩:=htk tk[q] (List.getElem_mem _)
      have hev:=f4 tk[q] hem
      have hev2:∀ s∈tk[q].2.1,s.length≤1000:=fun s hs=>by have:=hev.2.1 s hs; omega
      have hsplit:tk=tk.take q++tk[q]::tk.drop (q+1):=by simp
      have hdq:(tk.drop q).reverse.map (ixRow g)=(tk.drop (q+1)).reverse.map (ixRow g)++[ixRow g tk[q]]:=by
       rw [List.drop_eq_getElem_cons hq,List.reverse_cons,List.map_append]; rfl
      have hwl:∀ j,wL j ((tk.drop (q+1)).reverse.map (ixRow g))+wS j (ixRow g tk[q])≤wL j (tk.map (ixRow g)):=fun j=>by
       have e1:wL j (tk.map (ixRow g))=wL j ((tk.take q).map (ixRow g))+(wS j (ixRow g tk[q])+wL j ((tk.drop (q+1)).map (ixRow g))):=by
        conv=>lhs; rw [hsplit,List.map_append,List.map_cons,wL_app,wL_cons]
       have e2:wL j ((tk.drop (q+1)).reverse.map (ixRow g))=wL j ((tk.drop (q+1)).map (ixRow g)):=by
        rw [List.map_reverse]; exact wL_perm j (List.reverse_perm _)
       have:=wL_nn j ((tk.take q).map (ixRow g))
       omega
      obtain ⟨y0,Ly2,yy2,yb2⟩:=yy.fits yb hg ck (by omega) (fun j hj=>by have:=(hsp.cov j hj); have:=hwl j; omega)
      have rI:∀ r∈Ry,RowI d m r:=fun r hr=>yy.st.2.2.1 r (yy.st.2.1.symm.subset hr)
      have huH:=(List.getElem?_eq_some_iff.1 hu3).1
      simp only [go_sem,hu3,hevg,uA,uB,uC,uD,uE,uF,uG,uH,uI,uJ,uK,uL,uM,uN,uO,uP,uQ]
      refine ⟨⟨by omega,by omega⟩,by omega, ?_⟩
      refine ACallT.by (iadd0 Ry d m g ((tk.length - (q+1):Nat):Int) tk[q] (N+6) (N+5) H2 (by omega) (by omega) (by omega) (by omega) hev2 hg (by omega) (by omega) rI (by omega) hinv2.2.2.2.2.2.1 hinv2.2.2.2.2.1 y0) ?_
      rintro _ _ ⟨rfl,rfl⟩
      simp only [go_sem,uA,uB,uC,uD,uE,uF,uG,uH,uI,uJ,uK,uL,uM,uN,uO,uP,uQ]
      have en:((tk.length - (q+1):Nat):Int)+1=((tk.length - q:Nat):Int):=by omega
      refine ⟨⟨q,addL d m g Ry tk[q],Ly2, ?_,by omega, ?_, ?_,(hX2.set (N+6) _ (by omega)).set (N+5) _ (by omega), ?_⟩, ?_⟩
      ·rw [wrap_id (by omega) (by omega)]
      ·rw [hdq,← en]; exact yy2
      ·rw [hdq]; exact yb2
      ·have:=hinv2.sety (addL d m g Ry tk[q]) (((tk.length - (q+1):Nat):Int)+1)
       rw [en] at this ⊢
       exact this
      ·rw [wrap_id (by omega) (by omega)]; omega
     ·obtain rfl:r=0:=by have:=of_decide_eq_false hc; omega
      rw [List.drop_zero] at yy yb
      have exy:Lx=Ly:=xx.eq yy (by rw [List.map_reverse]; exact (List.reverse_perm _).symm)
      simp only [go_sem,uA,uB,uC,uD,uE,uF,uG,uH,uI,uJ,uK,uL,uM,uN,uO,uP,uQ]
      have hold3n:=hinv2.2
      obtain ⟨w0,w1,w2,w3,w5,w6,w8,w9,w11,w12,w14⟩:=hinv2
      have lna:=aa.len
      have lnb:=bb.len
      have lnx:=xx.len
      have hlen3:=hperm.length_eq
      rw [List.length_append,List.length_map] at hlen3
      have cna:=aa.cn
      have cnb:=bb.cn
      refine ACallT.by (irows_sl keyT Ra d m g na (N+9) (N+8) H2 (by omega) (aa.bd f1 f2) w9 w8) ?_
      rintro r1 H3 ⟨hold3,Ra',hpa,hsa,hra⟩
      obtain rfl:Ra'=La:=sort_uniq aa.st.1 hsa (hpa.trans aa.st.2.1.symm)
      have k3:∀ j o,H2[j]? = some o→H3[j]? = some o:=fun j o q=>(hold3 j (List.getElem?_eq_some_iff.1 q).1).trans q
      have hFT:∀ M:List Rw,M.Perm (Ra'++Lb)→foldF M=(0,Lx):=fun M hM=>fold_two xx aa bb ab bbb hsp (by omega) hperm hM
      have hall:∀ r∈Ra'++Lb,RwN d.length m.length r:=fun r hr=>by
       rcases List.mem_append.1 hr with q | q
       ·exact aa.rwn r q
       ·exact bb.rwn r q
      have hbf:(Lb.length:Int)≤nb:=by rw [bb.st.2.1.length_eq]; exact lnb
      have haf:(Ra'.length:Int)≤na:=by rw [aa.st.2.1.length_eq]; exact lna
      have hxf:(Lx.length:Int)≤tk.length:=by rw [xx.st.2.1.length_eq]; exact lnx
      have rkx:∀ r∈Lx,RwOk r:=fun r hr=>by have:=(xx.rwn r hr).1; exact ⟨by have:=this.1; omega,by have:=this.2; omega⟩
      have dxy:decide (Lx=Ly)=true:=decide_eq_true exy
      have dxx:decide (Lx=Lx)=true:=decide_eq_true rfl
      have hyl:Ly.length≤60:=by rw [← exy]; omega
      rcases hra with ⟨ea0,rfl⟩ | ⟨u3,g3,rfl,hu30,hu31⟩
      ·simp only [go_sem,uA,uB,uC,uD,uE,uF,uG,uH,uI,uJ,uK,uL,uM,uN,uO,uP,uQ]
       refine ACallT.by (irowsE Lb Rb d m g nb (N+12) (N+11) H3 bb.st.1 bb.st.2.1 (by omega) (bb.bd f1 f2) (k3 _ _ w12) (k3 _ _ w11)) ?_
       rintro _ H4 ⟨rfl,e4⟩
       rw [e4]
       clear e4 H4
       simp only [go_sem,uA,uB,uC,uD,uE,uF,uG,uH,uI,uJ,uK,uL,uM,uN,uO,uP,uQ]
       refine ⟨⟨by omega,by omega,by have:=rows_okEl Lb Lb.length; rwa [List.take_of_length_le (by rw [rowsA_len]; omega)] at this⟩,fun hb0=>?_,fun hb0=>?_⟩
       ·have hLb:Lb=[]:=by simpa [rowsA] using hb0
        refine ACallT.frame (pfold_nil _) ?_
        rintro _ _ rfl
        refine ⟨rfl, ?_⟩
        have hLx:Lx=[]:=by have:=hFT [] (by rw [ea0,hLb]; exact .refl _); injection this with _ e; exact e.symm
        have dxx:decide (Lx=[])=true:=decide_eq_true hLx
        obtain ⟨H4,hH4⟩:∃ H4,H4=H3:=⟨_,rfl⟩
        rw [← hH4]
        have k4:∀ (j:Nat) (o:AObj),H2[j]? = some o→H4[j]? = some o:=by rw [hH4]; exact k3
        simp only [go_sem,uA,uB,uC,uD,uE,uF,uG,uH,uI,uJ,uK,uL,uM,uN,uO,uP,uQ]
        refine ACallT.by (irowsE Lx Rx d m g (tk.length:Int) (N+3) (N+2) H4 xx.st.1 xx.st.2.1 (by omega) (xx.bd f1 f2) (k4 _ _ w3) (k4 _ _ w2)) ?_
        rintro _ H5 ⟨rfl,e5⟩
        rw [e5]
        clear e5 H5
        simp only [go_sem,uA,uB,uC,uD,uE,uF,uG,uH,uI,uJ,uK,uL,uM,uN,uO,uP,uQ]
        refine ACallT.by (irowsE Ly Ry d m g ((tk.length - 0:Nat):Int) (N+6) (N+5) H4 yy.st.1 yy.st.2.1 (by have:=yy.len; omega) (yy.bd f1 f2) (k4 _ _ w6) (k4 _ _ w5)) ?_
        rintro _ H5 ⟨rfl,e5⟩
        rw [e5]
        clear e5 H5
        simp only [go_sem,uA,uB,uC,uD,uE,uF,uG,uH,uI,uJ,uK,uL,uM,uN,uO,uP,uQ]
        refine ACallT.frame (rsame_ok Lx Ly false false _ (by omega) (by omega) rkx (fun r hr=>rkx r (exy ▸ hr))) ?_
        rintro _ _ rfl
        rw [dxy]
        refine ⟨rfl, ?_⟩
        simp only [go_sem,uA,uB,uC,uD,uE,uF,uG,uH,uI,uJ,uK,uL,uM,uN,uO,uP,uQ]
        refine ACallT.by (irowsE Lx Rx d m g (tk.length:Int) (N+3) (N+2) H4 xx.st.1 xx.st.2.1 (by omega) (xx.bd f1 f2) (k4 _ _ w3) (k4 _ _ w2)) ?_
        rintro _ H5 ⟨rfl,e5⟩
        rw [e5]
        clear e5 H5
        simp only [go_sem,uA,uB,uC,uD,uE,uF,uG,uH,uI,uJ,uK,uL,uM,uN,uO,uP,uQ]
        refine ACallT.frame (rsame_ok Lx [] false true _ (by omega) (by simp) rkx (by simp)) ?_
        rintro _ _ rfl
        rw [dxx]
        refine ⟨rfl, ?_⟩
        simp only [go_sem,uA,uB,uC,uD,uE,uF,uG,uH,uI,uJ,uK,uL,uM,uN,uO,uP,uQ]
        refine ACallT.frame (alive_hand _) ?_
        rintro _ _ rfl
        refine ⟨rfl, ?_⟩
        simp only [go_sem,uA,uB,uC,uD,uE,uF,uG,uH,uI,uJ,uK,uL,uM,uN,uO,uP,uQ]
        refine ACallT.by (icount_ok d m g (tk.length:Int) (N+3) (N+2) H4 (k4 _ _ w3)) ?_
        rintro _ H5 ⟨rfl,e5⟩
        rw [e5]
        clear e5 H5
        have w14':=k4 _ _ w14
        simp only [go_sem,w14',uA,uB,uC,uD,uE,uF,uG,uH,uI,uJ,uK,uL,uM,uN,uO,uP,uQ]
        exact Fin_plain (by first | (simp; done) | simp [ht0])
       ·have hp:=pfold_ok Lb d.length m.length H3.length 0 (H3++[.arr 0 4 (rowsA Lb)]) (by omega) (by omega) (by omega) (fun r hr=>hall r (List.mem_append_right _ hr)) (by simp)
        refine ACallT.by hp ?_
        rintro _ H4 ⟨⟨M,hMp,hMs,rfl⟩,hold4⟩
        have hFM:=hFT M (by rw [ea0]; exact hMp)
        rw [hFM]
        have k4:∀ (j:Nat) (o:AObj),H2[j]? = some o→H4[j]? = some o:=fun j o q=>by
         have hj3:=(List.getElem?_eq_some_iff.1 (k3 j o q)).1
         rw [hold4 j (by simp; omega),List.getElem?_append_left hj3]
         exact k3 j o q
        simp only [go_sem,uA,uB,uC,uD,uE,uF,uG,uH,uI,uJ,uK,uL,uM,uN,uO,uP,uQ]
        refine ACallT.by (irowsE Lx Rx d m g (tk.length:Int) (N+3) (N+2) H4 xx.st.1 xx.st.2.1 (by omega) (xx.bd f1 f2) (k4 _ _ w3) (k4 _ _ w2)) ?_
        rintro _ H5 ⟨rfl,e5⟩
        rw [e5]
        clear e5 H5
        simp only [go_sem,uA,uB,uC,uD,uE,uF,uG,uH,uI,uJ,uK,uL,uM,uN,uO,uP,uQ]
        refine ACallT.by (irowsE Ly Ry d m g ((tk.length - 0:Nat):Int) (N+6) (N+5) H4 yy.st.1 yy.st.2.1 (by have:=yy.len; omega) (yy.bd f1 f2) (k4 _ _ w6) (k4 _ _ w5)) ?_
        rintro _ H5 ⟨rfl,e5⟩
        rw [e5]
        clear e5 H5
        simp only [go_sem,uA,uB,uC,uD,uE,uF,uG,uH,uI,uJ,uK,uL,uM,uN,uO,uP,uQ]
        refine ACallT.frame (rsame_ok Lx Ly false false _ (by omega) (by omega) rkx (fun r hr=>rkx r (exy ▸ hr))) ?_
        rintro _ _ rfl
        rw [dxy]
        refine ⟨rfl, ?_⟩
        simp only [go_sem,uA,uB,uC,uD,uE,uF,uG,uH,uI,uJ,uK,uL,uM,uN,uO,uP,uQ]
        refine ACallT.by (irowsE Lx Rx d m g (tk.length:Int) (N+3) (N+2) H4 xx.st.1 xx.st.2.1 (by omega) (xx.bd f1 f2) (k4 _ _ w3) (k4 _ _ w2)) ?_
        rintro _ H5 ⟨rfl,e5⟩
        rw [e5]
        clear e5 H5
        simp only [go_sem,uA,uB,uC,uD,uE,uF,uG,uH,uI,uJ,uK,uL,uM,uN,uO,uP,uQ]
        refine ACallT.frame (rsame_ok Lx Lx false false _ (by omega) (by omega) rkx rkx) ?_
        rintro _ _ rfl
        rw [dxx]
        refine ⟨rfl, ?_⟩
        simp only [go_sem,uA,uB,uC,uD,uE,uF,uG,uH,uI,uJ,uK,uL,uM,uN,uO,uP,uQ]
        refine ACallT.frame (alive_hand _) ?_
        rintro _ _ rfl
        refine ⟨rfl, ?_⟩
        simp only [go_sem,uA,uB,uC,uD,uE,uF,uG,uH,uI,uJ,uK,uL,uM,uN,uO,uP,uQ]
        refine ACallT.by (icount_ok d m g (tk.length:Int) (N+3) (N+2) H4 (k4 _ _ w3)) ?_
        rintro _ H5 ⟨rfl,e5⟩
        rw [e5]
        clear e5 H5
        have w14':=k4 _ _ w14
        simp only [go_sem,w14',uA,uB,uC,uD,uE,uF,uG,uH,uI,uJ,uK,uL,uM,uN,uO,uP,uQ]
        exact Fin_plain (by first | (simp; done) | simp [ht0])
      ·simp only [go_sem,uA,uB,uC,uD,uE,uF,uG,uH,uI,uJ,uK,uL,uM,uN,uO,uP,uQ]
       refine ACallT.by (irowsE Lb Rb d m g nb (N+12) (N+11) H3 bb.st.1 bb.st.2.1 (by omega) (bb.bd f1 f2) (k3 _ _ w12) (k3 _ _ w11)) ?_
       rintro _ H4 ⟨rfl,e4⟩
       rw [e4]
       clear e4 H4
       simp only [go_sem,hu31,uA,uB,uC,uD,uE,uF,uG,uH,uI,uJ,uK,uL,uM,uN,uO,uP,uQ]
       refine ⟨⟨by omega,by omega,by have:=rows_okEl Lb Lb.length; rwa [List.take_of_length_le (by rw [rowsA_len]; omega)] at this⟩, ?_⟩
       have hu3l:=(List.getElem?_eq_some_iff.1 hu31).1
       have hp:=pfold_ok (Ra'++Lb) d.length m.length u3 (g3+1) (H3.set u3 (.arr (g3+1) 4 (rowsA (Ra'++Lb)))) (by simp; omega) (by omega) (by omega) hall (List.getElem?_set_self hu3l)
       rw [rowsA_app,List.length_append] at hp
       refine ACallT.by hp ?_
       rintro _ H4 ⟨⟨M,hMp,hMs,rfl⟩,hold4⟩
       have hFM:=hFT M hMp
       rw [hFM]
       have k4:∀ (j:Nat) (o:AObj),H2[j]? = some o→H4[j]? = some o:=fun j o q=>by
        have hj:=(List.getElem?_eq_some_iff.1 q).1
        have hj3:=(List.getElem?_eq_some_iff.1 (k3 j o q)).1
        rw [hold4 j (by simp; omega),List.getElem?_set_ne (by omega)]
        exact k3 j o q
       simp only [go_sem,uA,uB,uC,uD,uE,uF,uG,uH,uI,uJ,uK,uL,uM,uN,uO,uP,uQ]
       refine ACallT.by (irowsE Lx Rx d m g (tk.length:Int) (N+3) (N+2) H4 xx.st.1 xx.st.2.1 (by omega) (xx.bd f1 f2) (k4 _ _ w3) (k4 _ _ w2)) ?_
       rintro _ H5 ⟨rfl,e5⟩
       rw [e5]
       clear e5 H5
       simp only [go_sem,uA,uB,uC,uD,uE,uF,uG,uH,uI,uJ,uK,uL,uM,uN,uO,uP,uQ]
       refine ACallT.by (irowsE Ly Ry d m g ((tk.length - 0:Nat):Int) (N+6) (N+5) H4 yy.st.1 yy.st.2.1 (by have:=yy.len; omega) (yy.bd f1 f2) (k4 _ _ w6) (k4 _ _ w5)) ?_
       rintro _ H5 ⟨rfl,e5⟩
       rw [e5]
       clear e5 H5
       simp only [go_sem,uA,uB,uC,uD,uE,uF,uG,uH,uI,uJ,uK,uL,uM,uN,uO,uP,uQ]
       refine ACallT.frame (rsame_ok Lx Ly false false _ (by omega) (by omega) rkx (fun r hr=>rkx r (exy ▸ hr))) ?_
       rintro _ _ rfl
       rw [dxy]
       refine ⟨rfl, ?_⟩
       simp only [go_sem,uA,uB,uC,uD,uE,uF,uG,uH,uI,uJ,uK,uL,uM,uN,uO,uP,uQ]
       refine ACallT.by (irowsE Lx Rx d m g (tk.length:Int) (N+3) (N+2) H4 xx.st.1 xx.st.2.1 (by omega) (xx.bd f1 f2) (k4 _ _ w3) (k4 _ _ w2)) ?_
       rintro _ H5 ⟨rfl,e5⟩
       rw [e5]
       clear e5 H5
       simp only [go_sem,uA,uB,uC,uD,uE,uF,uG,uH,uI,uJ,uK,uL,uM,uN,uO,uP,uQ]
       refine ACallT.frame (rsame_ok Lx Lx false false _ (by omega) (by omega) rkx rkx) ?_
       rintro _ _ rfl
       rw [dxx]
       refine ⟨rfl, ?_⟩
       simp only [go_sem,uA,uB,uC,uD,uE,uF,uG,uH,uI,uJ,uK,uL,uM,uN,uO,uP,uQ]
       refine ACallT.frame (alive_hand _) ?_
       rintro _ _ rfl
       refine ⟨rfl, ?_⟩
       simp only [go_sem,uA,uB,uC,uD,uE,uF,uG,uH,uI,uJ,uK,uL,uM,uN,uO,uP,uQ]
       refine ACallT.by (icount_ok d m g (tk.length:Int) (N+3) (N+2) H4 (k4 _ _ w3)) ?_
       rintro _ H5 ⟨rfl,e5⟩
       rw [e5]
       clear e5 H5
       have w14':=k4 _ _ w14
       simp only [go_sem,w14',uA,uB,uC,uD,uE,uF,uG,uH,uI,uJ,uK,uL,uM,uN,uO,uP,uQ]
       exact Fin_plain (by first | (simp; done) | simp [ht0])
end Go.Proofs.Vale
