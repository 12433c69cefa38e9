/- YtplehleekabbaaaGreatDoorVIoK: a text of the proof of this claim, by its prover. -/
import Derived.Test.YtplehleekabbaaaGreatDoorVIngX
import Derived.Test.YtplehleekabbaaaGreatDoorVIxJ
set_option linter.unusedVariables false
set_option maxRecDepth 100000
namespace Go.Proofs.YtplehleekabbaaaGreatDoor
open Go.ChangeShapes Go.WideShapes Go.ChangeAt Go.RowKit Go.Proofs.Vale
theorem hasC_evs31 {n:Nat} {xs:List AV} (h:HasC Tryz.prog n 31 xs):∃ l:List Ev,xs=[.fz false (evs l)]∧l.length≤9223372036854775807∧∀ e∈l,e.2.1.length≤9223372036854775807:=by
 obtain ⟨l,m,rfl,hl,hx⟩:=HasC_slice Tryz.underlying31 (by rw [show Tryz.prog.cellsOf 29=3 by kernel_rfl]; simp) (by kernel_rfl) h
 obtain ⟨zs,rfl,hz⟩:=list_of (f:=eventA) (Q:=fun e:Ev=>e.2.1.length≤9223372036854775807) l (fun y hy=>by
  obtain ⟨ys,h1,-,h3,-⟩:=hx y hy
  rw [show isAgB Tryz.prog 29=true by kernel_rfl] at h1
  obtain ⟨t,d,ms,ha,-,hd,-⟩:=hasC_ev29 h3
  exact ⟨(t,d,ms),by rw [h1,ha]; rfl,hd⟩)
 have e:maxLen≤9223372036854775807:=by decide
 exact ⟨zs,rfl,by rw [List.length_map] at hl; omega,hz⟩
end Go.Proofs.YtplehleekabbaaaGreatDoor
namespace Go.Proofs.YtplehleekabbaaaGreatDoor
open Go.ChangeShapes Go.WideShapes Go.ChangeAt Go.RowKit Go.Proofs.Vale
theorem bulk_one {H:Type} (d:DataW H):1≤Rows.uptoBulk d:=by
 cases d with
 | lit l=>cases l <;> simp [Rows.uptoBulk]
 | nil=>simp [Rows.uptoBulk]
 | ptr d=>simp [Rows.uptoBulk]
 | slice elems spare=>simp [Rows.uptoBulk]
 | agg parts=>simp [Rows.uptoBulk]
 | iface t d=>simp [Rows.uptoBulk]
 | map entries=>simp [Rows.uptoBulk]
 | held h=>simp [Rows.uptoBulk]
theorem bulk_part {H:Type} {d:DataW H} {l:List (DataW H)} (h:d∈l):Rows.uptoBulk d≤Rows.uptoBulkAll l:=by
 induction l with
 | nil=>cases h
 | cons x r ih =>
  simp only [Rows.uptoBulkAll]
  cases List.mem_cons.1 h with
  | inl e=>subst e; omega
  | inr e=>have:=ih e; omega
theorem bulk_len {H:Type} (l:List (DataW H)):l.length≤Rows.uptoBulkAll l:=by
 induction l with
 | nil=>simp [Rows.uptoBulkAll]
 | cons x r ih=>have:=bulk_one x; simp only [Rows.uptoBulkAll,List.length_cons]; omega
theorem sch_small {H : Type} {enc : TypeId × Value → H} {W : World} {base : Nat} {sp : Nat → Bool} {v : Value} {d : DataW H} {p : List MemPlace} {β : Beta} {fr : Nat → Prop} {M : Array Obj} {c1 c2 : Bool} {l1 l2 : List AV} {ds : List (DataW H)} {j : Nat}
  (h:DataW.Trod enc Tryz.prog W base sp true 24 v d p) (r:Rep β fr M (.agg [.fz c1 l1,.fz c2 l2]) v)
  (hk:Rows.uptoSmall H ds=true) (hd:ds[j]? = some d):l1.length≤1048576∧l2.length≤1048576:=by
 have hk':Rows.uptoBulkAll ds≤1048576:=of_decide_eq_true hk
 have hdd:=bulk_part (List.mem_of_getElem? hd)
 obtain ⟨m,hm⟩:=h
 obtain ⟨xs,n,rfl,hx,hl,hxl,hat⟩:=DataW.trod_struct Tryz.underlying24 hm
 simp only [Prod.mk.injEq] at hx
 obtain ⟨rfl,rfl⟩:=hx
 simp only [Rep] at r
 obtain ⟨us,rfl,hu,hc⟩:=r
 obtain ⟨u0,hu0,hr0⟩:=hc 0 (by simp)
 obtain ⟨u1,hu1,hr1⟩:=hc 1 (by simp)
 simp only [List.getElem_cons_zero,List.getElem_cons_succ,Rep] at hr0 hr1
 obtain ⟨a0,cap0,rfl,-⟩:=hr0
 obtain ⟨a1,cap1,rfl,-⟩:=hr1
 obtain rfl:us=#[.slice a0 l1.length cap0,.slice a1 l2.length cap1]:=by
  apply Array.ext_getElem?
  intro i
  rcases i with _ | _ | i
  ·rw [hu0]; rfl
  ·rw [hu1]; rfl
  ·rw [Array.getElem?_eq_none (by rw [hu]; simp),Array.getElem?_eq_none (by simp)]
 obtain ⟨x0,x1,rfl⟩:∃ x0 x1,xs=[x0,x1]:=by
  match xs,hxl with
  | [u,v],_=>exact ⟨u,v,rfl⟩
 have key:∀ (i:Nat) (a:Option Addr) (len cap:Nat) (x:DataW H × List MemPlace),i < 2→[x0,x1][i]? = some x→DataW.Trod enc Tryz.prog W base sp true 22 (.slice a len cap) x.1 x.2→len≤1048576:=by
  intro i a len cap x hi hx ht2
  rcases slice_len Tryz.underlying22 ht2 with q | ⟨elems,spare,q,q2⟩
  ·rw [q]; simp
  ·have h1:x.1∈[x0,x1].map (·.1):=List.mem_map_of_mem (List.mem_of_getElem? hx)
   have h2:=bulk_part h1
   have h3:=bulk_len elems
   have h4:=bulk_len spare
   have h5:Rows.uptoBulk x.1=Rows.uptoBulkAll elems+Rows.uptoBulkAll spare+1:=by rw [q]; simp [Rows.uptoBulk]
   have h6:Rows.uptoBulk (DataW.agg ([x0,x1].map (·.1)))=Rows.uptoBulkAll ([x0,x1].map (·.1))+1:=by simp [Rows.uptoBulk]
   omega
 exact ⟨key 0 a0 _ cap0 x0 (by omega) rfl ⟨n,hat 0 _ rfl⟩,key 1 a1 _ cap1 x1 (by omega) rfl ⟨n,hat 1 _ rfl⟩⟩
end Go.Proofs.YtplehleekabbaaaGreatDoor
