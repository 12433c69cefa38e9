/- IngestBuckets of columbarylaw18 is true at every input of bulk at most 1048576 and never panics; what it reads stays as it was. Conditions: that bound, and the variables of the library that the row lists; the card ties them to the program text. -/
import Derived.Test.YtplehleekabbaaaGreatDoorVIoK
import Derived.Test.YtplehleekabbaaaGreatDoorVBkD
import Derived.Handed
import Derived.Deep.DeepHandedRow
import Derived.Deep.DeepWitnessRowRef
import Derived.JoinedOf
import Derived.SevenTiedAt
import Derived.Test.YtplehleekabbaaaGreatDoorCards
import Derived.Test.YtplehleekabbaaaGreatDoorTie
set_option linter.unusedVariables false
set_option maxRecDepth 100000
namespace Go.Proofs.YtplehleekabbaaaGreatDoor.ingestBuckets
open Go.ChangeShapes Go.WideShapes Go.ChangeAt Go.RowKit Go.Proofs.Vale
theorem reads (os:Os) {H:Type} (enc:TypeId × Value→H):∃ places,DataW.whole enc Tryz.prog ((laidWorld os).forCall (fun _ _=>0) ⟨#[],#[.agg #[.slice none 0 0,.slice none 0 0],.int .i64 0,.slice none 0 0],[]⟩).memory Tryz.f4.params.toList Rows.ingestBucketsSpec.vars false #[.agg #[.slice none 0 0,.slice none 0 0],.int .i64 0,.slice none 0 0].toList 8=some ([.agg [.nil,.nil],.lit (.int .i64 0),.nil],[],places) :=
 ⟨[],by kernel_rfl⟩
theorem lifted (os : Os) (started : os.Started) (H : Type) (enc : TypeId × Value → H) (F : Stop.Interp) :
  ReturnsInHanded {} Tryz.checked os 4 .any ((Rows.OpenSpec.upto Rows.ingestBucketsSpec).preRow enc Tryz.prog Tryz.f4 Rows.ingestBucketsUptoRow.domain false Rows.ingestBucketsUptoRow.laid) (((Rows.OpenSpec.upto Rows.ingestBucketsSpec).at F).post enc Tryz.prog Tryz.f4 false true false false):=by
 obtain ⟨places,hx⟩:=reads os enc
 refine returnsInHanded_of_row (C:=Tryz.checked) (s:=Rows.OpenSpec.upto Rows.ingestBucketsSpec) own started (by kernel_rfl) Tryz.func4
  (witness_row_atRef (enc:=enc) (C:=Tryz.checked) false (laidWorld os) #[.agg #[.slice none 0 0,.slice none 0 0],.int .i64 0,.slice none 0 0] rfl (by kernel_rfl) (by kernel_rfl) (by kernel_rfl)
   (OpenSpec.preRow_of_cond 8 hx (by kernel_rfl) (fun k hk=>by cases hk; kernel_rfl) (by kernel_rfl) (laid_met os _))) ?_
 intro W base args ds gs before hval0 hW _ hcond hsz0 hL hsh _
 have hval:∀ (j:Nat) t v,Tryz.f4.params[j]? = some t→args[j]? = some v→Value.okWide Tryz.prog W .any base t v:=hval0
 have hW':=hW
 obtain ⟨p,q,hA0,hV,rfl,hfz,hnd⟩:=hW
 have hA:DataW.TrodAll enc Tryz.prog W 0 (fun _=>true) true Tryz.f4.params.toList args.toList ds p:=hA0
 have hsz:(DataW.weightsEach Tryz.prog (Tryz.f4.params.toList++Rows.ingestBucketsSpec.plain.varTypes Tryz.prog) (ds++gs)).all (·≤reachBytes)=true:=hsz0
 rw [Tryz.params4] at hA hval hsz
 obtain ⟨v0,vs0,d0,ds0,p0,q0,hargs0,rfl,rfl,h0,r0⟩:=trodAll_cons hA
 obtain ⟨v1,vs1,d1,ds1,p1,q1,hargs1,rfl,rfl,h1,r1⟩:=trodAll_cons r0
 obtain ⟨v2,vs2,d2,ds2,p2,q2,hargs2,rfl,rfl,h2,r2⟩:=trodAll_cons r1
 obtain ⟨rfl,rfl,rfl⟩:=trodAll_nil r2
 obtain rfl:args=#[v0,v1,v2]:=by cases args; simp_all
 obtain ⟨rfl,rfl⟩:=trodVars_none hV
 have lt0:∀ x∈p0,x.block < W.heap.size:=by obtain ⟨m,hm⟩:=h0; exact DataW.trod_lt m _ _ _ hm
 have lt1:∀ x∈p1,x.block < W.heap.size:=by obtain ⟨m,hm⟩:=h1; exact DataW.trod_lt m _ _ _ hm
 have lt2:∀ x∈p2,x.block < W.heap.size:=by obtain ⟨m,hm⟩:=h2; exact DataW.trod_lt m _ _ _ hm
 obtain ⟨n0,x0,e0,c0,m0⟩:=arg_rep (hval 0 24 v0 rfl rfl) h0 (by kernel_rfl) (by intro h; exact absurd h (by rw [show isAgB Tryz.prog 24=true by kernel_rfl]; simp))
 rw [show isAgB Tryz.prog 24=true by kernel_rfl] at m0
 obtain ⟨sd0,sm0,ha0,hs0⟩:=hasC_sch24 c0
 rw [m0,ha0] at e0
 have E0:Rep β0 (frOf W) W.heap (schA false false sd0 sm0) v0:=e0
 obtain ⟨hz0,hz0'⟩:=sch_small h0 e0 (hcond _ rfl) (j:=0) rfl
 rw [strs_len] at hz0 hz0'
 obtain ⟨n1,x1,e1,c1,m1⟩:=arg_rep (hval 1 3 v1 rfl rfl) h1 (by kernel_rfl) (fun _=>by kernel_rfl)
 rw [show isAgB Tryz.prog 3=false by kernel_rfl] at m1
 obtain ⟨z1,ha1,hz1⟩:=hasC_i643 c1
 rw [m1,ha1] at e1
 have E1:Rep β0 (frOf W) W.heap (.int .i64 z1) v1:=e1
 obtain ⟨n2,x2,e2,c2,m2⟩:=arg_rep (hval 2 31 v2 rfl rfl) h2 (by kernel_rfl) (fun _=>by kernel_rfl)
 rw [show isAgB Tryz.prog 31=false by kernel_rfl] at m2
 obtain ⟨l2,ha2,hl2,hs2⟩:=hasC_evs31 c2
 rw [m2,ha2] at e2
 have E2:Rep β0 (frOf W) W.heap (.fz false (evs l2)) v2:=e2
 refine (law_calls (buckets_law false false false sd0 sm0 z1 l2 [] (by omega) hs0 hl2 hs2) (cells3 E0 E1 E2) (tab_of_laid hL hsh)).mono fun e W' ⟨he,bel⟩=>?_
 subst he
 exact ⟨_,rfl,_,_,_,[],_,[],hW',trodAll_mk1 (shut_bool Tryz.underlying4 _),
  (trodAll_cons_mk (Below.trod laidOut (by kernel_rfl) (of_decide_eq_true (by kernel_rfl)) h0 bel lt0) (trodAll_cons_mk (Below.trod laidOut (by kernel_rfl) (of_decide_eq_true (by kernel_rfl)) h1 bel lt1) (trodAll_cons_mk (Below.trod laidOut (by kernel_rfl) (of_decide_eq_true (by kernel_rfl)) h2 bel lt2) trodAll_mk0))),rfl,bel.frame _,fun h=>by cases h⟩
theorem over:Rows.IngestBucketsUptoSaid :=
 OpenClaim.holds_of_cond 4 Tryz.f4 rfl rfl rfl rfl rfl rfl rfl ⟨rfl,rfl,rfl,rfl,rfl⟩ rfl rfl rfl rfl rfl (by kernel_rfl) Tryz.func4 (by kernel_rfl)
  (of_decide_eq_true (by kernel_rfl)) (by unfold Func.isWrapper; first | (rw [if_pos (by decide +kernel)]; kernel_rfl) | (rw [if_neg (by decide +kernel)]; exact ⟨rfl,rfl⟩))
  (fun os started H enc _ F=>by rw [OpenClaim.pre_eq_preRow]; exact lifted os started H enc F)
theorem proved:Rows.IngestBucketsUptoCardSaid :=
 Claim7.holds_tied_plain_at .later [] [.data,.data,.data,.listed,.data] true (true, "96a1ae12b5130497405f42e594c85ffbbc7f0f8cad1ac1aa2b166887b77bfe7e") true
  over (fun _ h=>by cases h) (by kernel_rfl) (fun _ h=>by cases h) ingestBucketsUpto_row_tie rfl ⟨rfl,rfl⟩ (by kernel_rfl) rfl
  (fun f fn hf hfn=>by
   obtain rfl:f=4:=Option.some.inj ((show Tryz.prog.funcNamed "columbary/columbarylaw18.IngestBuckets"=some 4 by kernel_rfl).symm.trans hf) |>.symm
   obtain rfl:fn=Tryz.f4:=(Option.some.inj (Tryz.func4.symm.trans hfn)).symm
   exact ⟨by kernel_rfl,fun j t ht=>by
    rw [Tryz.params4] at ht
    have h3:t=24∨t=3∨t=31:=by
     rcases j with _ | _ | _ | j
     ·exact .inl (by simpa using ht.symm)
     ·exact .inr (.inl (by simpa using ht.symm))
     ·exact .inr (.inr ((by simpa using ht.symm)))
     ·simp at ht
    rcases h3 with rfl | rfl | rfl
    ·exact (show Tryz.prog.wantsStandIn 24=false by kernel_rfl)
    ·exact (show Tryz.prog.wantsStandIn 3=false by kernel_rfl)
    ·exact (show Tryz.prog.wantsStandIn 31=false by kernel_rfl)⟩)
  (by kernel_rfl)
end Go.Proofs.YtplehleekabbaaaGreatDoor.ingestBuckets
namespace Go.Proofs.YtplehleekabbaaaGreatDoor
theorem ingestBuckets_holds:Rows.IngestBucketsUptoCardSaid:=ingestBuckets.proved
end Go.Proofs.YtplehleekabbaaaGreatDoor
