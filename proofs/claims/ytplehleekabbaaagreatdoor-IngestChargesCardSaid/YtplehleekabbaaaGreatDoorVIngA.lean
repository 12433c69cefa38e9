/- YtplehleekabbaaaGreatDoorVIngA: a text of the proof of this claim, by its prover. -/
import Derived.Test.YtplehleekabbaaaGreatDoorVIngV
import Derived.Test.YtplehleekabbaaaGreatDoorVRk
set_option linter.unusedVariables false
set_option linter.unusedSimpArgs false
set_option maxHeartbeats 4000000
set_option maxRecDepth 100000
namespace Go.Proofs.Vale
open Go.Proofs Go.Proofs.YtplehleekabbaaaGreatDoorT
attribute [local irreducible] acode aopsL aopsT dopsL dopsT pop popG aop ALoop ADraw ACall AWP AFin acondT ALoopT ADrawT ACallT doP doG doGd

def memOk (m : Mem) (k : Nat) : Bool := Nat.blt (m.n + k) Mem.lim
def xNew (args : List AV) (m : Mem) : OV :=
  match args with
  | [.agg [.fz c1 l1, .fz c2 l2], .int .i64 g] => (match unstr l1, unstr l2 with
    | some d, some e => bif Nat.ble (lenB d) 1000 && Nat.ble (lenB e) 1000 && shortB (d ++ e) && (decide (d ++ e).Nodup && sizesS d e && (d ++ e).all nameS) && gr g && memOk m 3 then
        .val (.tup [.ref (m.n + 2) 0 5 0 0, .int .i64 0]) (((m.push (.arr 0 2 [schA c1 c2 d e])).push (.map [])).push (.arr 0 5 [.agg [.fz false (strs d), .fz false (strs e), .int .i64 g, .mp (m.n + 1), .int .i64 0]])) else .none
    | _, _ => .none)
  | _ => .none
def ingY (g : FuncId) : XS :=
  match g with
  | 14 => .some xNew
  | g => ingX g
end Go.Proofs.Vale
