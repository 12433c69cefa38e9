/- YtplehleekabbaaaGreatDoorVS: a text of the proof of this claim, by its prover. -/
import Derived.Test.YtplehleekabbaaaGreatDoorVR
set_option linter.unusedVariables false
set_option linter.unusedSimpArgs false
namespace Go.Proofs.Vale
def overs (env:List AV):List Nat→List AV→List AV
 | w::ws,y::ys=>overs (env.set w y) ws ys
 | _,_=>env
def allL:Nat→(List AV→Prop)→Prop
 | 0,P=>P []
 | n+1,P=>∀ y,allL n fun ys=>P (y::ys)
theorem allL_spec:∀ (n:Nat) (P:List AV→Prop),allL n P→∀ ys:List AV,ys.length=n→P ys
 | 0,P,h,ys,hl=>by
  have:ys=[]:=List.eq_nil_of_length_eq_zero hl
  subst this; exact h
 | n+1,P,h,ys,hl=>by
  cases ys with
  | nil=>simp at hl
  | cons y ys=>exact allL_spec n _ (h y) ys (by simpa using hl)
theorem set_self (env:List AV) (w:Nat):env.set w (env.getD w .any)=env:=by
 apply List.ext_getElem?
 intro i
 by_cases h:w=i
 ·subst h
  by_cases hl:w < env.length
  ·rw [List.getElem?_set_self hl,List.getD_eq_getElem?_getD,List.getElem?_eq_getElem hl]; rfl
  ·rw [List.getElem?_eq_none (by simp; omega),List.getElem?_eq_none (by omega)]
 ·rw [List.getElem?_set_ne h]
theorem overs_self (env:List AV):∀ ws:List Nat,overs env ws (ws.map fun w=>env.getD w .any)=env
 | []=>rfl
 | w::ws=>by simp only [List.map_cons,overs,set_self]; exact overs_self env ws
def RoundEnd (env:List AV) (ws:List Nat) (env':List AV):Prop:=env'=overs env ws (ws.map fun w=>env'.getD w .any)
theorem ALoop.over {P : Program} {c : Code} {Q : Post} {t1 : Tag c} {t2 : Tag Q} {env : List AV} {h : List AObj} (ws : List Nat) (I : List AV → List AObj → Prop) (μ : List AV → List AObj → Nat) (h0 : I env h)
  (round:allL ws.length fun ys=>∀ h,I (overs env ws ys) h→acode P c (overs env ws ys) h fun e env' h'=>match e with | .normal=>RoundEnd env ws env'∧I env' h'∧μ env' h' < μ (overs env ws ys) h | e=>Q e env' h'):ALoopT P c Q t1 t2 env h:=by
 unfold ALoopT
 refine ALoop.intro (fun env' h'=>(∃ ys:List AV,ys.length=ws.length∧env'=overs env ws ys)∧I env' h') μ ⟨⟨_,by simp,(overs_self env ws).symm⟩,h0⟩ ?_
 rintro env1 h1 ⟨⟨ys,hl,rfl⟩,hI⟩
 have:=allL_spec _ _ round ys hl h1 hI
 exact (acode_ok c _ _ _ this).mono fun e env' h' q=>by
  cases e <;> first | exact ⟨⟨⟨_,by simp,q.1⟩,q.2.1⟩,q.2.2⟩ | exact q
def natA:AV→Nat
 | .int _ n=>n.toNat
 | _=>0
@[go_sem] theorem natA_int (k:IntKind) (n:Int):natA (.int k n)=n.toNat:=nrfl rfl
@[go_sem] theorem overs_cons (env:List AV) (w:Nat) (ws:List Nat) (y:AV) (ys:List AV):overs env (w::ws) (y::ys)=overs (env.set w y) ws ys:=nrfl rfl
@[go_sem] theorem overs_nil (env:List AV) (ys:List AV):overs env [] ys=env:=by cases ys <;> rfl
@[go_sem] theorem allL_zero (P:List AV→Prop):allL 0 P=P []:=nrfl rfl
@[go_sem] theorem allL_succ (n:Nat) (P:List AV→Prop):allL (n+1) P=∀ y,allL n fun ys=>P (y::ys):=nrfl rfl
@[go_sem] theorem RoundEnd_eq (env:List AV) (ws:List Nat) (env':List AV):RoundEnd env ws env'=(env'=overs env ws (ws.map fun w=>env'.getD w .any)):=nrfl rfl
attribute [go_sem] TK.sl.injEq exists_eq'
theorem wrap_id {x:Int} (h0:-9223372036854775808≤x) (h1:x≤9223372036854775807):IntKind.i64.wrap x=x:=by
 simp [IntKind.wrap,IntKind.signed,IntKind.bits]; omega
theorem wrap_u64 {x:Int} (h0:0≤x) (h1:x≤18446744073709551615):IntKind.u64.wrap x=x:=by
 simp [IntKind.wrap,IntKind.signed,IntKind.bits]; omega
end Go.Proofs.Vale
