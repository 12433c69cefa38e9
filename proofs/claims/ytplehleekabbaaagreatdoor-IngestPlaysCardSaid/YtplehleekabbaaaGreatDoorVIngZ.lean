/- YtplehleekabbaaaGreatDoorVIngZ: a text of the proof of this claim, by its prover. -/
import Derived.Test.YtplehleekabbaaaGreatDoorVIngY
set_option linter.unusedVariables false
set_option maxRecDepth 100000
namespace Go.Proofs.YtplehleekabbaaaGreatDoor
open Go.ChangeShapes Go.WideShapes Go.ChangeAt Go.RowKit Go.Proofs.Vale
theorem returnsInHanded_of_change_shaped {H : Type} {enc : TypeId × Value → H} {a : Assume} {C : Checked} {os : Os} {f : FuncId} {fn : Func} {s : ChangeSpec} {conds : List PathCond} {apart fresh handsOn again : Bool} {X : World → Array Value → Prop}
  (hX:∀ (w w':World) (args:Array Value),w.heap=w'.heap→X w args→X w' args)
  (own:ownKnob C.prog.godebug=none) (started:os.Started) (noInit:C.prog.inits.idxOf? f=none) (hfn:C.prog.funcs[f]? = some fn)
  (witness:∃ (w:World) (tape:Tape) (i:Input),w.os=os∧(w.forCall tape i).Shaped C.prog∧i.vars=[]∧Input.okWide C.prog (w.forCall tape i) .any w.heap.size f i ∧
   ((s.pre enc C.prog fn conds apart (w.forCall tape i).memory i.args∧X (w.forCall tape i).memory i.args)∧sizedMet enc C.prog fn (OpenSpec.ofChange s) apart (w.forCall tape i).memory i.args)∧a.holds C.prog (lone (Frame.enter C.prog f i.args .normal) [] (w.forCall tape i)))
  (contract:∀ (W:World) (base:Nat) (args:Array Value) (ds gs:List (DataW H)) (before:List MemPlace),W.ShapedOpen C.prog →
   (∀ (j:Nat) t v,fn.params[j]? = some t→args[j]? = some v→Value.okWide C.prog W .any base t v) →
   DataW.Whole enc C.prog fn.params.toList s.vars apart W args.toList ds gs before →
   conds.all (PathCond.test C.prog ⟨fn.params.toList,ds,s.plain.varTypes C.prog,gs⟩)=true →
   (DataW.weightsEach C.prog (fn.params.toList++s.plain.varTypes C.prog) (ds++gs)).all (·≤reachBytes)=true→X W args →
   a.holds C.prog (lone (Frame.enter C.prog f args .normal) [] W) →
   Calls C.prog f args W fun e W'=>∃ v,e=.returned v∧s.post enc C.prog fn apart fresh handsOn again W args v W') :
  ReturnsInHanded a C os f .any (fun w args=>(s.pre enc C.prog fn conds apart w args∧X w args)∧sizedMet enc C.prog fn (OpenSpec.ofChange s) apart w args) (s.post enc C.prog fn apart fresh handsOn again):=by
 refine returnsInHanded_of_calls own started noInit witness ?_
 intro w tape i _ hsh _ hok hpre hholds
 obtain ⟨_,_,_,fn',hfn',_,_,_,_,hval⟩:=hok
 have e:fn'=fn:=Option.some.inj (hfn'.symm.trans hfn)
 subst e
 obtain ⟨⟨⟨ds,gs,before,hw,hc⟩,hx⟩,hz⟩:=hpre
 have hw':=DataW.Whole.of_heap (w':=w.forCall tape i) (by rfl) hw
 refine (contract (w.forCall tape i) w.heap.size i.args ds gs before hsh hval hw' hc (hz.weights hw) (hX _ _ _ (by rfl) hx) hholds).mono fun e W' ⟨v,he,hp⟩=>?_
 subst he
 exact ChangeSpec.post_blind hp
theorem int_of_shape {P : Program} {W : World} (hs : W.ShapedOpen P) {g : Nat} {z : Array Value} {t : TypeId} (hg : g < P.globals.size) (hz : (((begin P (fun _ _ => 0) default).world.heap)[g]?).bind Obj.row? = some (z, t)) (hsz : z.size = 1) (hb : P.buildable t = true) (hu : P.underlying t = some (.int .i64)) :
  ∃ cs e f,W.heap[g]? = some (.cells cs e f)∧intP cs:=by
 obtain ⟨cs,h1,h2,h3⟩:=hs.1 g z t hg hz
 obtain ⟨ts,h4,⟨n,h5⟩,h6⟩:=h3 hb
 refine ⟨cs,t,(0,0),h1, ?_⟩
 have e:ts=[t]:=by
  have:P.cellTypes P.depth t=some [t]:=by
   unfold Program.depth
   simp only [Program.cellTypes,hu]
  rw [this] at h4
  exact (Option.some.inj h4).symm
 subst e
 have hc:cs.size=1:=h2.trans hsz
 have h7:=h6 0 cs[0] (by simp [hc])
 obtain ⟨u,hu1,hu2⟩:=h7
 simp only [List.length_cons,List.length_nil,Nat.zero_mod,List.getElem?_cons_zero,Option.some.injEq] at hu1
 subst hu1
 unfold Cell.ok at hu2
 rw [hu] at hu2
 split at hu2 <;> first | exact hu2.elim | skip
 all_goals rename_i e1 e2
 all_goals first | cases e1 | skip
 obtain ⟨rfl,_⟩:=hu2
 exact ⟨_,by rw [Array.getElem?_eq_getElem (by omega),e2]⟩
theorem tab_of_laid {W:World} (h:laidMetH Tryz.prog Rows.ingestNilRow.laid W) (hs:W.ShapedOpen Tryz.prog):∀ b p,(b,p)∈tabs→∃ cs e f,W.heap[b]? = some (.cells cs e f)∧p cs:=by
 have h':laidMet Tryz.prog Rows.ingestNilRow.laid W:=h
 have h2:=laidMet.tail (laidMet.tail h')
 have h4:=laidMet.tail (laidMet.tail h2)
 have hp:Lib.TabIs Tryz.prog W "internal/strconv.uint64pow10" .u64 Lib.pow10Tab:=by
  rw [show (Rows.laid_internal_strconv_uint64pow10:DataW Unit)=Lib.tabData .u64 Lib.pow10Tab by kernel_rfl] at h2
  exact Lib.tabIs_of_head (g:=2) (t:=198) (e:=154) (n:=20) (by kernel_rfl) (by kernel_rfl) (by kernel_rfl) (by kernel_rfl) (by kernel_rfl) (by kernel_rfl) h2
 have ha:Lib.TabIs Tryz.prog W "strings.asciiSpace" .u8 Lib.asciiSpaceTab:=by
  rw [show (Rows.laid_strings_asciiSpace:DataW Unit)=Lib.tabData .u8 Lib.asciiSpaceTab by kernel_rfl] at h4
  exact Lib.tabIs_of_head (g:=0) (t:=176) (e:=5) (n:=256) (by kernel_rfl) (by kernel_rfl) (by kernel_rfl) (by kernel_rfl) (by kernel_rfl) (by kernel_rfl) h4
 have tab:∀ (n:String) (g:Nat) (cs0:Array Value),Tryz.prog.globalNamed n=some g→W.var? Tryz.prog n=some cs0→∃ cs e f,W.heap[g]? = some (.cells cs e f)∧cs=cs0:=by
  intro n g cs0 hg hv
  unfold World.var? at hv
  rw [hg] at hv
  simp only [Option.bind_some] at hv
  split at hv
  ·rename_i cs e f hc; injection hv with hv; exact ⟨_,e,f,hc,hv⟩
  ·cases hv
 intro b p hb
 simp only [tabs,List.mem_cons,List.not_mem_nil,or_false,Prod.mk.injEq] at hb
 rcases hb with ⟨rfl,rfl⟩ | ⟨rfl,rfl⟩ | ⟨rfl,rfl⟩
 ·exact tab "strings.asciiSpace" 0 _ (by kernel_rfl) ha
 ·exact int_of_shape hs (g:=3) (of_decide_eq_true (by kernel_rfl)) (z:=#[.int .i64 0]) (t:=3) (by kernel_rfl) rfl (by kernel_rfl) (by kernel_rfl)
 ·exact tab "internal/strconv.uint64pow10" 2 _ (by kernel_rfl) hp
end Go.Proofs.YtplehleekabbaaaGreatDoor
