/- YtplehleekabbaaaGreatDoorVPolH: a text of the proof of this claim, by its prover. -/
import Derived.Test.YtplehleekabbaaaGreatDoorVSchI
import Derived.Shelf.SlSorted.Search
open Nat renaming reduceMul → uA, reduceLT → uB, reduceLeDiff → uC, reduceEqDiff → uD, reduceBEq → uE, lt_irrefl → uQ
open Int renaming toNat_natCast → uF, reduceToNat → uG, reduceNeg → uH, reduceLT → uI, reduceLE → uJ, reduceBEq → uK, reduceBNe → uL
open Bool renaming false_eq_true → uO
set_option linter.unusedVariables false
set_option linter.unusedSimpArgs false
set_option maxHeartbeats 4000000
set_option maxRecDepth 100000
namespace Go.Proofs.Vale
open Go.Proofs Go.Proofs.YtplehleekabbaaaGreatDoorT
attribute [local irreducible] acode aopsL aopsT dopsL dopsT dmL dmT pop popG aop ALoop ADraw ACall AWP AFin acondT ALoopT ADrawT ACallT doP doG doGd
def gr (g:Int):Bool:=bif decide ((1:Int)≤g) then decide (g≤1048576) else false
def ag (n:Int):Bool:=bif decide ((0:Int)≤n) then decide (n≤1099511627776) else false
def ft (n:Int):Bool:=bif decide ((-1099511627776:Int)≤n) then decide (n≤1099511627776) else false
theorem gr_ok (g:Int) (h:List AObj):ACall Tryz.prog 35 [.int .i64 g] h (fun r h'=>r=.bool (gr g)∧h'=h):=by
 (refine ACall.of_code Tryz.func35 rfl ?_; simp only [Tryz.f35]; simp only [go_sem,uA,uB,uC,uD,uE,uF,uG,uH,uI,uJ,uK,uL,uM,uN,uO,uP,uQ])
 exact Fin_plain ⟨by simp only [gr],rfl⟩
theorem ft_ok (n:Int) (h:List AObj):ACall Tryz.prog 68 [.int .i64 n] h (fun r h'=>r=.bool (ft n)∧h'=h):=by
 (refine ACall.of_code Tryz.func68 rfl ?_; simp only [Tryz.f68]; simp only [go_sem,uA,uB,uC,uD,uE,uF,uG,uH,uI,uJ,uK,uL,uM,uN,uO,uP,uQ])
 exact Fin_plain ⟨by simp only [ft],rfl⟩
theorem gr_iff (g:Int):gr g=true↔1≤g∧g≤1048576:=by
 by_cases a:(1:Int)≤g <;> by_cases b:g≤1048576 <;> simp [gr,a,b]
theorem ft_iff (n:Int):ft n=true↔-1099511627776≤n∧n≤1099511627776:=by
 by_cases a:(-1099511627776:Int)≤n <;> by_cases b:n≤1099511627776 <;> simp [ft,a,b]
def restZ (t g:Int):Int:=((t.tmod g)+g).tmod g
theorem restZ_eq (t g:Int) (hg:0 < g):restZ t g=t % g:=by
 unfold restZ
 have h1:0≤t.tmod g+g:=by
  have:=Int.tmod_lt_of_pos (-t) hg
  rw [Int.neg_tmod] at this; omega
 rw [Int.tmod_eq_emod_of_nonneg h1,Int.add_emod_right]
 conv=>rhs; rw [← Int.tmod_add_mul_tdiv t g]
 rw [Int.add_mul_emod_self_left]
theorem rest_ok (t g:Int) (h:List AObj) (ht:-1099511627776≤t∧t≤1099511627776) (hg:1≤g∧g≤1048576):ACall Tryz.prog 69 [.int .i64 t,.int .i64 g] h (fun r h'=>r=.int .i64 (t % g)∧h'=h):=by
 (refine ACall.of_code Tryz.func69 rfl ?_; simp only [Tryz.f69]; simp only [go_sem,uA,uB,uC,uD,uE,uF,uG,uH,uI,uJ,uK,uL,uM,uN,uO,uP,uQ])
 have h1:=Int.tmod_lt_of_pos t (show (0:Int) < g by omega)
 have h2:-g < t.tmod g:=by
  have:=Int.tmod_lt_of_pos (-t) (show (0:Int) < g by omega)
  rw [Int.neg_tmod] at this; omega
 rw [wrap_id (by omega) (by omega)]
 refine ⟨by omega,by omega,Fin_plain ⟨?_,rfl⟩⟩
 rw [← restZ_eq t g (by omega)]; rfl
def floorR (t g:Int):AV:=if gr g=true∧ft t=true then .tup [.int .i64 (t - t % g),.int .i64 0] else .tup [.int .i64 0,.int .i64 111]
theorem floor_ok (t g:Int) (h:List AObj):ACall Tryz.prog 38 [.int .i64 t,.int .i64 g] h (fun r h'=>r=floorR t g∧h'=h):=by
 (refine ACall.of_code Tryz.func38 rfl ?_; simp only [Tryz.f38]; simp only [go_sem,uA,uB,uC,uD,uE,uF,uG,uH,uI,uJ,uK,uL,uM,uN,uO,uP,uQ])
 refine ACallT.by (gr_ok g _) ?_
 rintro r h1 ⟨rfl,rfl⟩
 unfold floorR
 cases hg:gr g with
 | false =>
  simp only [go_sem,uA,uB,uC,uD,uE,uF,uG,uH,uI,uJ,uK,uL,uM,uN,uO,uP,uQ]
  exact Fin_plain ⟨by simp,rfl⟩
 | true =>
  simp only [go_sem,uA,uB,uC,uD,uE,uF,uG,uH,uI,uJ,uK,uL,uM,uN,uO,uP,uQ]
  refine ACallT.by (ft_ok t _) ?_
  rintro r h1 ⟨rfl,rfl⟩
  cases hf:ft t with
  | false =>
   simp only [go_sem,uA,uB,uC,uD,uE,uF,uG,uH,uI,uJ,uK,uL,uM,uN,uO,uP,uQ]
   exact Fin_plain ⟨by simp,rfl⟩
  | true =>
   have hg2:=(gr_iff g).1 hg
   have hf2:=(ft_iff t).1 hf
   have h1:=Int.emod_nonneg t (show g≠0 by omega)
   have h2:=Int.emod_lt_of_pos t (show 0 < g by omega)
   simp only [go_sem,uA,uB,uC,uD,uE,uF,uG,uH,uI,uJ,uK,uL,uM,uN,uO,uP,uQ]
   refine ACallT.by (rest_ok t g _ hf2 hg2) ?_
   rintro r h1 ⟨rfl,rfl⟩
   simp only [go_sem,uA,uB,uC,uD,uE,uF,uG,uH,uI,uJ,uK,uL,uM,uN,uO,uP,uQ]
   rw [wrap_id (by omega) (by omega)]
   exact Fin_plain ⟨by simp,rfl⟩
end Go.Proofs.Vale
namespace Go.Proofs.Vale
open Go.Proofs Go.Proofs.YtplehleekabbaaaGreatDoorT
attribute [local irreducible] acode aopsL aopsT dopsL dopsT dmL dmT pop popG aop ALoop ADraw ACall AWP AFin acondT ALoopT ADrawT ACallT doP doG doGd
theorem join_ok (l:List Str) (sep:Str) (c:Bool) (h:List AObj) (hl:l.length≤140737488355328) (hj:(Lib.join l sep).length≤140737488355328):ACall Tryz.prog 71 [.fz c (strs l),.str sep] h (fun r h'=>r=.str (Lib.join l sep)∧h'=h):=by
 unfold ACall; intro w β fr us L Rr
 obtain ⟨hvs,hv⟩:=Rr
 obtain ⟨v,hv1,hv2⟩:=hv 0 (by simp)
 obtain ⟨u,hu1,hu2⟩:=hv 1 (by simp)
 simp only [List.getElem_cons_zero,List.getElem_cons_succ,Rep] at hv2 hu2
 obtain ⟨a,cap,rfl,hcap,-,hel⟩:=hv2
 obtain ⟨b,rfl,rfl⟩:=hu2
 obtain rfl:us=#[.slice a (strs l).length cap,.string b]:=by
  apply Array.ext_getElem?
  intro i
  rcases i with _ | _ | i
  ·rw [hv1]; rfl
  ·rw [hu1]; rfl
  ·rw [Array.getElem?_eq_none (by rw [hvs]; simp),Array.getElem?_eq_none (by simp)]
 have hsl:(strs l).length=l.length:=by simp [strs]
 rw [hsl] at hcap ⊢
 by_cases he:l=[]
 ·subst he
  refine (Tryz.strings_Join_none a cap b w).mono ?_
  rintro e w' ⟨rfl,rfl⟩
  refine ⟨_,_,_,β,fr,rfl,⟨rfl,rfl⟩,L, ?_,Step1.refl _ _ _ _⟩
  simp only [Rep]
  exact ⟨_,rfl,rfl⟩
 ·obtain ⟨ad,s,rfl,hfr,hsp,hs,hcell⟩:=hel (by intro q; exact he (by simpa [strs] using q))
  have hs1:s=1:=by
   obtain ⟨x,hx⟩:=List.exists_mem_of_ne_nil l he
   rw [← hs (.str x) (by simp only [strs,List.mem_map]; exact ⟨x,hx,rfl⟩)]; rfl
  subst hs1
  obtain ⟨bk,o,sp⟩:=ad
  simp only at hsp hfr hcell
  subst hsp
  have hcl:∀ i (hi:i < l.length),∃ y:ByteArray,cellAt w.heap bk (o+i)=some (.string y)∧y.data.toList=l[i]:=by
   intro i hi
   have e1:(strs l)[i]'(by rw [hsl]; exact hi)=.str l[i]:=by simp [strs]
   obtain ⟨u,h1,h2⟩:=hcell i (by rw [hsl]; exact hi) 0 (by rw [e1]; exact Nat.zero_lt_one)
   simp only [e1] at h2
   have e2:∀ p:0 < (AV.str l[i]).cells.length,(AV.cells (.str l[i]))[0]'p=.str l[i]:=fun _=>rfl
   rw [e2] at h2
   simp only [Rep] at h2
   obtain ⟨y,rfl,hy⟩:=h2
   refine ⟨y, ?_,hy⟩
   rw [← h1]; congr 1; omega
  have hxs:(l.map fun x=>(⟨x.toArray⟩:ByteArray)).map (·.data.toList)=l:=by simp [List.map_map,Function.comp_def]
  have hw:∀ (j:Nat) (x:ByteArray),(l.map fun x=>(⟨x.toArray⟩:ByteArray))[j]? = some x→w.cell? ⟨bk,o+j,none⟩=some (.string x):=by
   intro j x hx
   rw [cell?_eq _ _ rfl]
   rw [List.getElem?_map] at hx
   rcases hq:l[j]? with _ | q
   ·rw [hq] at hx; cases hx
   ·rw [hq] at hx
    injection hx with hx
    obtain ⟨hj1,hj2⟩:=List.getElem?_eq_some_iff.1 hq
    obtain ⟨y,h1,h2⟩:=hcl j hj1
    simp only
    rw [h1,← hx]
    have:y=⟨q.toArray⟩:=by
     have h3:y.data=q.toArray:=by rw [← Array.toArray_toList (xs:=y.data),h2,hj2]
     cases y; simp_all
    rw [this]
  have z:=Tryz.strings_Join bk o cap (l.map fun x=>(⟨x.toArray⟩:ByteArray)) b w hw (L.frlt bk hfr) (by rw [List.length_map]; exact hl) (by rw [List.length_map]; exact hcap) (by rw [hxs]; exact hj)
  rw [List.length_map,hxs] at z
  refine z.mono ?_
  rintro e w' ⟨rfl,B⟩
  obtain ⟨L',S'⟩:=below_lay L B
  refine ⟨_,_,_,β,fr,rfl,⟨rfl,rfl⟩,L', ?_,S'⟩
  simp only [Rep]
  exact ⟨_,rfl,by simp⟩
theorem pow_at {β:Beta} {fr:Nat→Prop} {w:World} {h:List AObj} (L:Lay β fr w.heap h):Lib.TabIs Tryz.prog w "internal/strconv.uint64pow10" .u64 Lib.pow10Tab:=by
 obtain ⟨_,cs,e,f,hH,rfl⟩:=L.tab 2 powP (by simp [tabs])
 have hg:Tryz.prog.globalNamed "internal/strconv.uint64pow10"=some 2:=by kernel_rfl
 unfold Lib.TabIs World.var?
 rw [hg]
 simp only [Option.bind_some,hH]
theorem itoa_ok (n:Int) (h:List AObj) (h0:-9223372036854775808≤n) (h1:n≤9223372036854775807):ACall Tryz.prog 70 [.int .i64 n] h (fun r h'=>r=.str (Lib.itoa n)∧h'=h):=by
 unfold ACall; intro w β fr us L Rr
 obtain ⟨hvs,hv⟩:=Rr
 obtain ⟨v,hv1,hv2⟩:=hv 0 (by simp)
 simp only [List.getElem_cons_zero,Rep] at hv2
 subst hv2
 obtain rfl:us=#[.int .i64 n]:=by
  apply Array.ext_getElem?
  intro i
  rcases i with _ | i
  ·rw [hv1]; rfl
  ·rw [Array.getElem?_eq_none (by rw [hvs]; simp),Array.getElem?_eq_none (by simp)]
 refine (Tryz.strconv_Itoa n h0 h1 w (pow_at L)).mono ?_
 rintro e w' ⟨rfl,k,os,rfl⟩
 obtain ⟨L',S'⟩:=below_lay L (below_grown_sl w.heap.size w k os (Nat.le_refl _))
 refine ⟨_,_,_,β,fr,rfl,⟨rfl,rfl⟩,L', ?_,S'⟩
 simp only [Rep]
 exact ⟨_,rfl,by simp⟩
end Go.Proofs.Vale
