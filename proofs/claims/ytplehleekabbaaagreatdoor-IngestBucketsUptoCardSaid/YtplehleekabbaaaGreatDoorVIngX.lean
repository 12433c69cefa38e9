/- YtplehleekabbaaaGreatDoorVIngX: a text of the proof of this claim, by its prover. -/
import Derived.Test.YtplehleekabbaaaGreatDoorVIngA
import Derived.Test.YtplehleekabbaaaGreatDoorVZ
import Derived.Test.YtplehleekabbaaaGreatDoorRows
import Derived.WalkKit
import Derived.ProofKit
import Derived.OpenShut
import Derived.ShutString
import Derived.ChangeOld
import Derived.Below
import Derived.SizedLaws
import Derived.LaidLaws
import Derived.Lib.LaidU8
import Derived.Stop.LaidErr
import Derived.Handed
import Derived.Test.YtplehleekabbaaaGreatDoorVIngC
set_option linter.unusedVariables false
set_option maxRecDepth 100000
namespace Go.Proofs.YtplehleekabbaaaGreatDoor
open Go.ChangeShapes Go.WideShapes Go.ChangeAt Go.RowKit Go.Proofs.Vale
theorem own:ownKnob Tryz.prog.godebug=none:=by kernel_rfl
theorem laidOut:laidOutB Tryz.prog=true:=by kernel_rfl
def litV:DataW Unit→Value
 | .lit (.int k n)=>.int k n
 | _=>.nilIface
def rowV:DataW Unit→Array Value
 | .agg l=>(l.flatMap fun d=>match d with
  | .agg m=>m.map litV
  | d=>[litV d]).toArray
 | _=>#[]
noncomputable def laidWorld (os:Os):World :=
 let N:=(World.settled Tryz.prog os).heap.size
 let w0:=World.holding Tryz.prog os ⟨#[.cells (Lib.whiteT.map fun (z:Nat)=>Value.int .u16 (z:Int)).toArray 207,.cells #[.slice (some ⟨N,0,none⟩) 7 7,.slice none 0 0,.int .i64 2] 204],#[],[]⟩
 let put (h:Array Obj) (g:Nat) (cs:Array Value):Array Obj:=h.modify g fun
  | .cells _ t frozen=>.cells cs t frozen
  | o=>o
 let h1:=put w0.heap 4 (rowV Rows.laid_math_bits_deBruijn32tab)
 let h2:=put h1 5 (rowV Rows.laid_math_bits_deBruijn64tab)
 let h3:=put h2 2 (rowV Rows.laid_internal_strconv_uint64pow10)
 let h4:=put h3 1 #[.pointer (some ⟨N+1,0,none⟩)]
 let h5:=put h4 0 (rowV Rows.laid_strings_asciiSpace)
 { w0 with heap:=h5 }
def codeM:MemPlace→Nat
 | .cell b o=>(b * 1024+o) * 2
 | .map b=>b * 2+1
def ndB:List Nat→PT→Bool
 | [],_=>true
 | k::l,t=>(match t.get k with | none=>Nat.blt k 16777000 | some _=>false) && ndB l (t.set .dead 24 k)
theorem ndB_ok:∀ {l:List Nat} {t:PT},ndB l t=true→l.Pairwise (·≠·)∧∀ k∈l,t.get k=none
 | [],t,_=>⟨.nil,fun k h=>by cases h⟩
 | k::l,t,h=>by
  rw [ndB,Bool.and_eq_true] at h
  obtain ⟨h1,h2⟩:=h
  obtain ⟨i1,i2⟩:=ndB_ok h2
  split at h1
  ·rename_i e
   have hk:=blt_iff.1 h1
   have key:∀ j∈l,j≠k∧t.get j=none:=by
    intro j hj
    have:=i2 j hj
    rw [PT.get_set .dead 24 t k j (by simp; omega)] at this
    split at this
    ·cases this
    ·rename_i q; exact ⟨q,this⟩
   exact ⟨List.pairwise_cons.2 ⟨fun j hj q=>(key j hj).1 q.symm,i1⟩,fun j hj=>by
    rcases List.mem_cons.1 hj with rfl | hj
    ·exact e
    ·exact (key j hj).2⟩
  ·cases h1
theorem laidMet_by {P : Program} {w : World} {l : List (String × DataW Unit)} (fuel : Nat) (h : (DataW.laidRun P w fuel (l.map (·.1))).map (·.1) = some l)
  (hn:(DataW.laidRun P w fuel (l.map (·.1))).map (fun x=>ndB (x.2.map codeM) .leaf)=some true) (hr:(DataW.laidRun P w fuel (l.map (·.1))).map (fun x=>laidRowsB P w x.2)=some true):laidMet P l w:=by
 cases hx:DataW.laidRun P w fuel (l.map (·.1)) with
 | none=>simp [hx] at h
 | some x =>
  obtain ⟨l',ps⟩:=x
  simp only [hx,Option.map_some,Option.some.injEq] at h hn hr
  subst h
  refine laidMet_of_run fuel hx (decide_eq_true ?_) hr
  exact List.Pairwise.of_map codeM (fun a b q e=>q (congrArg codeM e)) (ndB_ok hn).1
theorem laid1 (os:Os) (args:Array Value):(DataW.laidRun Tryz.prog ((laidWorld os).forCall (fun _ _=>0) ⟨#[],args,[]⟩).memory 10 (Rows.ingestNilRow.laid.map (·.1))).map (·.1)=some Rows.ingestNilRow.laid:=by kernel_rfl
theorem laid2 (os:Os) (args:Array Value):(DataW.laidRun Tryz.prog ((laidWorld os).forCall (fun _ _=>0) ⟨#[],args,[]⟩).memory 10 (Rows.ingestNilRow.laid.map (·.1))).map (fun x=>ndB (x.2.map codeM) .leaf)=some true:=by kernel_rfl
theorem laid3 (os:Os) (args:Array Value):(DataW.laidRun Tryz.prog ((laidWorld os).forCall (fun _ _=>0) ⟨#[],args,[]⟩).memory 10 (Rows.ingestNilRow.laid.map (·.1))).map (fun x=>laidRowsB Tryz.prog ((laidWorld os).forCall (fun _ _=>0) ⟨#[],args,[]⟩).memory x.2)=some true:=by kernel_rfl
theorem laid_met (os:Os) (args:Array Value):laidMetH Tryz.prog Rows.ingestNilRow.laid ((laidWorld os).forCall (fun _ _=>0) ⟨#[],args,[]⟩).memory :=
 laidMet_by (P:=Tryz.prog) (l:=Rows.ingestNilRow.laid) 10 (laid1 os args) (laid2 os args) (laid3 os args)
end Go.Proofs.YtplehleekabbaaaGreatDoor
namespace Go.Proofs.YtplehleekabbaaaGreatDoor
open Go.ChangeShapes Go.WideShapes Go.ChangeAt Go.RowKit Go.Proofs.Vale
theorem int_of_shape {P : Program} {W : World} (hs : W.ShapedOpen P) {g : Nat} {z : Array Value} {t : TypeId} (hg : g < P.globals.size) (hz : (((begin P (fun _ _ => 0) default).world.heap)[g]?).bind Obj.row? = some (z, t)) (hsz : z.size = 1) (hb : P.buildable t = true) (hu : P.underlying t = some (.int .i64)) :
  ∃ cs e f,W.heap[g]? = some (.cells cs e f)∧intP cs:=by
 obtain ⟨cs,h1,h2,h3⟩:=hs.1 g z t hg hz
 obtain ⟨ts,h4,⟨n,h5⟩,h6⟩:=h3 hb
 refine ⟨cs,t,(0,0),h1, ?_⟩
 have e:ts=[t]:=by
  have:P.cellTypes P.depth t=some [t]:=by
   unfold Program.depth
   simp only [Program.cellTypes,hu]
  rw [this] at h4
  exact (Option.some.inj h4).symm
 subst e
 have hc:cs.size=1:=h2.trans hsz
 have h7:=h6 0 cs[0] (by simp [hc])
 obtain ⟨u,hu1,hu2⟩:=h7
 simp only [List.length_cons,List.length_nil,Nat.zero_mod,List.getElem?_cons_zero,Option.some.injEq] at hu1
 subst hu1
 unfold Cell.ok at hu2
 rw [hu] at hu2
 split at hu2 <;> first | exact hu2.elim | skip
 all_goals rename_i e1 e2
 all_goals first | cases e1 | skip
 obtain ⟨rfl,_⟩:=hu2
 exact ⟨_,by rw [Array.getElem?_eq_getElem (by omega),e2]⟩
theorem tab_of_laid {W:World} (h:laidMetH Tryz.prog Rows.ingestNilRow.laid W) (hs:W.ShapedOpen Tryz.prog):∀ b p,(b,p)∈tabs→∃ cs e f,W.heap[b]? = some (.cells cs e f)∧p cs:=by
 have h':laidMet Tryz.prog Rows.ingestNilRow.laid W:=h
 have h2:=laidMet.tail (laidMet.tail h')
 have h4:=laidMet.tail (laidMet.tail h2)
 have hp:Lib.TabIs Tryz.prog W "internal/strconv.uint64pow10" .u64 Lib.pow10Tab:=by
  rw [show (Rows.laid_internal_strconv_uint64pow10:DataW Unit)=Lib.tabData .u64 Lib.pow10Tab by kernel_rfl] at h2
  exact Lib.tabIs_of_head (g:=2) (t:=198) (e:=154) (n:=20) (by kernel_rfl) (by kernel_rfl) (by kernel_rfl) (by kernel_rfl) (by kernel_rfl) (by kernel_rfl) h2
 have ha:Lib.TabIs Tryz.prog W "strings.asciiSpace" .u8 Lib.asciiSpaceTab:=by
  rw [show (Rows.laid_strings_asciiSpace:DataW Unit)=Lib.tabData .u8 Lib.asciiSpaceTab by kernel_rfl] at h4
  exact Lib.tabIs_of_head (g:=0) (t:=176) (e:=5) (n:=256) (by kernel_rfl) (by kernel_rfl) (by kernel_rfl) (by kernel_rfl) (by kernel_rfl) (by kernel_rfl) h4
 have tab:∀ (n:String) (g:Nat) (cs0:Array Value),Tryz.prog.globalNamed n=some g→W.var? Tryz.prog n=some cs0→∃ cs e f,W.heap[g]? = some (.cells cs e f)∧cs=cs0:=by
  intro n g cs0 hg hv
  unfold World.var? at hv
  rw [hg] at hv
  simp only [Option.bind_some] at hv
  split at hv
  ·rename_i cs e f hc; injection hv with hv; exact ⟨_,e,f,hc,hv⟩
  ·cases hv
 intro b p hb
 simp only [tabs,List.mem_cons,List.not_mem_nil,or_false,Prod.mk.injEq] at hb
 rcases hb with ⟨rfl,rfl⟩ | ⟨rfl,rfl⟩ | ⟨rfl,rfl⟩
 ·exact tab "strings.asciiSpace" 0 _ (by kernel_rfl) ha
 ·exact int_of_shape hs (g:=3) (of_decide_eq_true (by kernel_rfl)) (z:=#[.int .i64 0]) (t:=3) (by kernel_rfl) rfl (by kernel_rfl) (by kernel_rfl)
 ·exact tab "internal/strconv.uint64pow10" 2 _ (by kernel_rfl) hp
end Go.Proofs.YtplehleekabbaaaGreatDoor
namespace Go.Proofs.YtplehleekabbaaaGreatDoor
open Go.ChangeShapes Go.WideShapes Go.ChangeAt Go.RowKit Go.Proofs.Vale
theorem hasC_strs22 {n:Nat} {xs:List AV} (h:HasC Tryz.prog n 22 xs):∃ l:List Str,xs=[.fz false (strs l)]∧l.length≤9223372036854775807∧∀ s∈l,s.length≤9223372036854775807:=by
 obtain ⟨l,m,rfl,hl,hx⟩:=HasC_slice Tryz.underlying22 (by rw [show Tryz.prog.cellsOf 9=1 by kernel_rfl]; simp) (by kernel_rfl) h
 obtain ⟨zs,rfl,hz⟩:=list_of (f:=fun z:Str=>AV.str z) (Q:=fun z=>z.length≤maxLen) l (fun y hy=>by
  obtain ⟨ys,h1,-,h3,-⟩:=hx y hy
  obtain ⟨z,rfl,hz⟩:=HasC_str Tryz.underlying9 h3
  rw [show isAgB Tryz.prog 9=false by kernel_rfl] at h1
  exact ⟨z,h1,hz⟩)
 have e:maxLen≤9223372036854775807:=by decide
 exact ⟨zs,rfl,by rw [List.length_map] at hl; omega,fun s hs=>by have:=hz s hs; omega⟩
theorem hasC_sch24 {n:Nat} {xs:List AV} (h:HasC Tryz.prog n 24 xs):∃ d m:List Str,mkV true xs=schA false false d m∧∀ s∈d++m,s.length≤9223372036854775807:=by
 obtain ⟨xss,k,rfl,hl,hx⟩:=HasC_struct Tryz.underlying24 (by kernel_rfl) h
 obtain ⟨u,v,rfl⟩:∃ u v,xss=[u,v]:=by
  match xss,hl with
  | [u,v],_=>exact ⟨u,v,rfl⟩
 obtain ⟨d,hd,-,hd2⟩:=hasC_strs22 (hx 0 (by simp) (by simp)).1
 obtain ⟨m,hm,-,hm2⟩:=hasC_strs22 (hx 1 (by simp) (by simp)).1
 simp only [List.getElem_cons_zero,List.getElem_cons_succ] at hd hm
 subst hd hm
 refine ⟨d,m,rfl,fun s hs=>?_⟩
 rcases List.mem_append.1 hs with q | q
 ·exact hd2 s q
 ·exact hm2 s q
theorem hasC_i643 {n:Nat} {xs:List AV} (h:HasC Tryz.prog n 3 xs):∃ z:Int,xs=[.int .i64 z]∧-9223372036854775808≤z∧z≤9223372036854775807:=by
 obtain ⟨z,rfl,hz⟩:=HasC_int Tryz.underlying3 h
 simp only [Lit.wf,IntKind.min,IntKind.max,IntKind.signed,IntKind.bits] at hz
 simp at hz
 exact ⟨z,rfl,by omega,by omega⟩
theorem hasC_ints25 {n:Nat} {xs:List AV} (h:HasC Tryz.prog n 25 xs):∃ l:List Int,xs=[.fz false (intsA l)]∧l.length≤9223372036854775807∧∀ z∈l,-9223372036854775808≤z∧z≤9223372036854775807:=by
 obtain ⟨l,m,rfl,hl,hx⟩:=HasC_slice Tryz.underlying25 (by rw [show Tryz.prog.cellsOf 3=1 by kernel_rfl]; simp) (by kernel_rfl) h
 obtain ⟨zs,rfl,hz⟩:=list_of (f:=fun z:Int=>AV.int .i64 z) (Q:=fun z=>-9223372036854775808≤z∧z≤9223372036854775807) l (fun y hy=>by
  obtain ⟨ys,h1,-,h3,-⟩:=hx y hy
  obtain ⟨z,rfl,hz⟩:=hasC_i643 h3
  rw [show isAgB Tryz.prog 3=false by kernel_rfl] at h1
  exact ⟨z,h1,hz⟩)
 have e:maxLen≤9223372036854775807:=by decide
 exact ⟨zs,rfl,by rw [List.length_map] at hl; omega,hz⟩
theorem hasC_ev29 {n:Nat} {xs:List AV} (h:HasC Tryz.prog n 29 xs):∃ (t:Int) (d:List Str) (m:List Int),mkV true xs=evA' t false false d m∧(-9223372036854775808≤t∧t≤9223372036854775807)∧d.length≤9223372036854775807∧m.length≤9223372036854775807∧(∀ s∈d,s.length≤9223372036854775807)∧∀ z∈m,-9223372036854775808≤z∧z≤9223372036854775807:=by
 obtain ⟨xss,k,rfl,hl,hx⟩:=HasC_struct Tryz.underlying29 (by kernel_rfl) h
 obtain ⟨a,u,v,rfl⟩:∃ a u v,xss=[a,u,v]:=by
  match xss,hl with
  | [a,u,v],_=>exact ⟨a,u,v,rfl⟩
 obtain ⟨t,ht,ht2⟩:=hasC_i643 (hx 0 (by simp) (by simp)).1
 obtain ⟨d,hd,hd1,hd2⟩:=hasC_strs22 (hx 1 (by simp) (by simp)).1
 obtain ⟨m,hm,hm1,hm2⟩:=hasC_ints25 (hx 2 (by simp) (by simp)).1
 simp only [List.getElem_cons_zero,List.getElem_cons_succ] at ht hd hm
 subst ht hd hm
 exact ⟨t,d,m,rfl,ht2,hd1,hm1,hd2,hm2⟩
end Go.Proofs.YtplehleekabbaaaGreatDoor
