/- YtplehleekabbaaaGreatDoorVIngX: a text of the proof of this claim, by its prover. -/
import Derived.Test.YtplehleekabbaaaGreatDoorVIngZ
import Derived.Test.YtplehleekabbaaaGreatDoorVIngC
set_option linter.unusedVariables false
set_option maxRecDepth 100000
namespace Go.Proofs.YtplehleekabbaaaGreatDoor
open Go.ChangeShapes Go.WideShapes Go.ChangeAt Go.RowKit Go.Proofs.Vale
theorem hasC_strs22 {n:Nat} {xs:List AV} (h:HasC Tryz.prog n 22 xs):∃ l:List Str,xs=[.fz false (strs l)]∧l.length≤9223372036854775807∧∀ s∈l,s.length≤9223372036854775807:=by
 obtain ⟨l,m,rfl,hl,hx⟩:=HasC_slice Tryz.underlying22 (by rw [show Tryz.prog.cellsOf 9=1 by kernel_rfl]; simp) (by kernel_rfl) h
 obtain ⟨zs,rfl,hz⟩:=list_of (f:=fun z:Str=>AV.str z) (Q:=fun z=>z.length≤maxLen) l (fun y hy=>by
  obtain ⟨ys,h1,-,h3,-⟩:=hx y hy
  obtain ⟨z,rfl,hz⟩:=HasC_str Tryz.underlying9 h3
  rw [show isAgB Tryz.prog 9=false by kernel_rfl] at h1
  exact ⟨z,h1,hz⟩)
 have e:maxLen≤9223372036854775807:=by decide
 exact ⟨zs,rfl,by rw [List.length_map] at hl; omega,fun s hs=>by have:=hz s hs; omega⟩
theorem hasC_sch24 {n:Nat} {xs:List AV} (h:HasC Tryz.prog n 24 xs):∃ d m:List Str,mkV true xs=schA false false d m∧∀ s∈d++m,s.length≤9223372036854775807:=by
 obtain ⟨xss,k,rfl,hl,hx⟩:=HasC_struct Tryz.underlying24 (by kernel_rfl) h
 obtain ⟨u,v,rfl⟩:∃ u v,xss=[u,v]:=by
  match xss,hl with
  | [u,v],_=>exact ⟨u,v,rfl⟩
 obtain ⟨d,hd,-,hd2⟩:=hasC_strs22 (hx 0 (by simp) (by simp)).1
 obtain ⟨m,hm,-,hm2⟩:=hasC_strs22 (hx 1 (by simp) (by simp)).1
 simp only [List.getElem_cons_zero,List.getElem_cons_succ] at hd hm
 subst hd hm
 refine ⟨d,m,rfl,fun s hs=>?_⟩
 rcases List.mem_append.1 hs with q | q
 ·exact hd2 s q
 ·exact hm2 s q
theorem hasC_i643 {n:Nat} {xs:List AV} (h:HasC Tryz.prog n 3 xs):∃ z:Int,xs=[.int .i64 z]∧-9223372036854775808≤z∧z≤9223372036854775807:=by
 obtain ⟨z,rfl,hz⟩:=HasC_int Tryz.underlying3 h
 simp only [Lit.wf,IntKind.min,IntKind.max,IntKind.signed,IntKind.bits] at hz
 simp at hz
 exact ⟨z,rfl,by omega,by omega⟩
theorem hasC_ints25 {n:Nat} {xs:List AV} (h:HasC Tryz.prog n 25 xs):∃ l:List Int,xs=[.fz false (intsA l)]∧l.length≤9223372036854775807∧∀ z∈l,-9223372036854775808≤z∧z≤9223372036854775807:=by
 obtain ⟨l,m,rfl,hl,hx⟩:=HasC_slice Tryz.underlying25 (by rw [show Tryz.prog.cellsOf 3=1 by kernel_rfl]; simp) (by kernel_rfl) h
 obtain ⟨zs,rfl,hz⟩:=list_of (f:=fun z:Int=>AV.int .i64 z) (Q:=fun z=>-9223372036854775808≤z∧z≤9223372036854775807) l (fun y hy=>by
  obtain ⟨ys,h1,-,h3,-⟩:=hx y hy
  obtain ⟨z,rfl,hz⟩:=hasC_i643 h3
  rw [show isAgB Tryz.prog 3=false by kernel_rfl] at h1
  exact ⟨z,h1,hz⟩)
 have e:maxLen≤9223372036854775807:=by decide
 exact ⟨zs,rfl,by rw [List.length_map] at hl; omega,hz⟩
theorem hasC_ev29 {n:Nat} {xs:List AV} (h:HasC Tryz.prog n 29 xs):∃ (t:Int) (d:List Str) (m:List Int),mkV true xs=evA' t false false d m∧(-9223372036854775808≤t∧t≤9223372036854775807)∧d.length≤9223372036854775807∧m.length≤9223372036854775807∧(∀ s∈d,s.length≤9223372036854775807)∧∀ z∈m,-9223372036854775808≤z∧z≤9223372036854775807:=by
 obtain ⟨xss,k,rfl,hl,hx⟩:=HasC_struct Tryz.underlying29 (by kernel_rfl) h
 obtain ⟨a,u,v,rfl⟩:∃ a u v,xss=[a,u,v]:=by
  match xss,hl with
  | [a,u,v],_=>exact ⟨a,u,v,rfl⟩
 obtain ⟨t,ht,ht2⟩:=hasC_i643 (hx 0 (by simp) (by simp)).1
 obtain ⟨d,hd,hd1,hd2⟩:=hasC_strs22 (hx 1 (by simp) (by simp)).1
 obtain ⟨m,hm,hm1,hm2⟩:=hasC_ints25 (hx 2 (by simp) (by simp)).1
 simp only [List.getElem_cons_zero,List.getElem_cons_succ] at ht hd hm
 subst ht hd hm
 exact ⟨t,d,m,rfl,ht2,hd1,hm1,hd2,hm2⟩
theorem sch_len {H : Type} {enc : TypeId × Value → H} {W : World} {base : Nat} {sp : Nat → Bool} {v : Value} {d : DataW H} {p : List MemPlace} {β : Beta} {fr : Nat → Prop} {M : Array Obj} {c1 c2 : Bool} {l1 l2 : List AV} {ts : List TypeId} {ds : List (DataW H)} {j : Nat}
  (h:DataW.Trod enc Tryz.prog W base sp true 24 v d p) (r:Rep β fr M (.agg [.fz c1 l1,.fz c2 l2]) v)
  (hs:(DataW.weightsEach Tryz.prog ts ds).all (·≤reachBytes)=true) (ht:ts[j]? = some 24) (hd:ds[j]? = some d):l1.length * 16≤140737488351232∧l2.length * 16≤140737488351232:=by
 obtain ⟨m,hm⟩:=h
 obtain ⟨xs,n,rfl,hx,hl,hxl,hat⟩:=DataW.trod_struct Tryz.underlying24 hm
 simp only [Prod.mk.injEq] at hx
 obtain ⟨rfl,rfl⟩:=hx
 simp only [Rep] at r
 obtain ⟨us,rfl,hu,hc⟩:=r
 obtain ⟨u0,hu0,hr0⟩:=hc 0 (by simp)
 obtain ⟨u1,hu1,hr1⟩:=hc 1 (by simp)
 simp only [List.getElem_cons_zero,List.getElem_cons_succ,Rep] at hr0 hr1
 obtain ⟨a0,cap0,rfl,-⟩:=hr0
 obtain ⟨a1,cap1,rfl,-⟩:=hr1
 obtain rfl:us=#[.slice a0 l1.length cap0,.slice a1 l2.length cap1]:=by
  apply Array.ext_getElem?
  intro i
  rcases i with _ | _ | i
  ·rw [hu0]; rfl
  ·rw [hu1]; rfl
  ·rw [Array.getElem?_eq_none (by rw [hu]; simp),Array.getElem?_eq_none (by simp)]
 obtain ⟨x0,x1,rfl⟩:∃ x0 x1,xs=[x0,x1]:=by
  match xs,hxl with
  | [u,v],_=>exact ⟨u,v,rfl⟩
 have hr:reachBytes=140737488351232:=by decide
 have hb:Tryz.prog.bytesOf 9=16:=by kernel_rfl
 have key:∀ (i:Nat) (a:Option Addr) (len cap:Nat) (x:DataW H × List MemPlace),i < 2→[x0,x1][i]? = some x→DataW.Trod enc Tryz.prog W base sp true 22 (.slice a len cap) x.1 x.2→len * 16≤140737488351232:=by
  intro i a len cap x hi hx ht2
  rcases slice_len Tryz.underlying22 ht2 with q | ⟨elems,spare,q,q2⟩
  ·rw [q]; simp
  ·have hmem:(elems.length+spare.length) * 16∈DataW.weightsEach Tryz.prog ts ds:=by
    refine DataW.weights_mem_each ht hd _ ?_
    simp only [DataW.weights,Tryz.underlying24]
    refine DataW.weights_mem_each (j:=i) (t:=22) (d:=.slice elems spare) ?_ ?_ _ ?_
    ·match i,hi with
     | 0,_=>rfl
     | 1,_=>rfl
    ·rw [List.getElem?_map,hx,← q]; rfl
    ·simp [DataW.weights,Tryz.underlying22,hb]
   have:=List.all_eq_true.1 hs _ hmem
   have h2:len * 16≤(elems.length+spare.length) * 16:=Nat.mul_le_mul_right _ (by omega)
   have h3:(elems.length+spare.length) * 16≤reachBytes:=by simpa using this
   omega
 refine ⟨key 0 a0 _ cap0 x0 (by omega) rfl ⟨n,hat 0 _ rfl⟩,key 1 a1 _ cap1 x1 (by omega) rfl ⟨n,hat 1 _ rfl⟩⟩
end Go.Proofs.YtplehleekabbaaaGreatDoor
