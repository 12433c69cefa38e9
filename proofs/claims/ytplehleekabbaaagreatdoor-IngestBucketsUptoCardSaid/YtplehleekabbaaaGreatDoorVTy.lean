/- YtplehleekabbaaaGreatDoorVTy: a text of the proof of this claim, by its prover. -/
import Derived.Test.YtplehleekabbaaaGreatDoorVS
import Derived.Test.YtplehleekabbaaaGreatDoorProg
import Derived.KernelRfl
namespace Go.Proofs.YtplehleekabbaaaGreatDoorT
open Go.Proofs.Vale Go.Proofs
theorem tk3:tk Tryz.prog 3=.int .i64:=by kernel_rfl
theorem tI3:tI Tryz.prog 3=some (1,false):=by kernel_rfl
theorem un3:(∃ d,Tryz.prog.underlying 3=some d)=True:=eq_true ⟨_,tk_int tk3⟩
theorem zI3:zI Tryz.prog 3=some (.int .i64 0):=by kernel_rfl
theorem tk4:tk Tryz.prog 4=.bool:=by kernel_rfl
theorem tk9:tk Tryz.prog 9=.str:=by kernel_rfl
theorem tI9:tI Tryz.prog 9=some (1,false):=by kernel_rfl
theorem tk21:tk Tryz.prog 21=.int .i32:=by kernel_rfl
theorem tk22:tk Tryz.prog 22=.sl 9:=by kernel_rfl
theorem tI22:tI Tryz.prog 22=some (1,false):=by kernel_rfl
theorem eI22:eI Tryz.prog 22=some (9,1,16):=by kernel_rfl
theorem tI24:tI Tryz.prog 24=some (2,true):=by kernel_rfl
theorem zI24:zI Tryz.prog 24=some (.agg [.fz true [],.fz true []]):=by kernel_rfl
theorem fI24_0:fI Tryz.prog 24 0=some (0,1,false):=by kernel_rfl
theorem fI24_1:fI Tryz.prog 24 1=some (1,1,false):=by kernel_rfl
theorem bI24:bI Tryz.prog 24=some ([(0,1),(1,1)],[.fz true [],.fz true []]):=by kernel_rfl
theorem tk25:tk Tryz.prog 25=.sl 3:=by kernel_rfl
theorem tI25:tI Tryz.prog 25=some (1,false):=by kernel_rfl
theorem eI25:eI Tryz.prog 25=some (3,1,8):=by kernel_rfl
theorem tI27:tI Tryz.prog 27=some (2,true):=by kernel_rfl
theorem zI27:zI Tryz.prog 27=some (.agg [.int .i64 0,.fz true []]):=by kernel_rfl
theorem fI27_0:fI Tryz.prog 27 0=some (0,1,false):=by kernel_rfl
theorem fI27_1:fI Tryz.prog 27 1=some (1,1,false):=by kernel_rfl
theorem bI27:bI Tryz.prog 27=some ([(0,1),(1,1)],[.int .i64 0,.fz true []]):=by kernel_rfl
theorem tI29:tI Tryz.prog 29=some (3,true):=by kernel_rfl
theorem fI29_0:fI Tryz.prog 29 0=some (0,1,false):=by kernel_rfl
theorem fI29_1:fI Tryz.prog 29 1=some (1,1,false):=by kernel_rfl
theorem fI29_2:fI Tryz.prog 29 2=some (2,1,false):=by kernel_rfl
theorem bI29:bI Tryz.prog 29=some ([(0,1),(1,1),(2,1)],[.int .i64 0,.fz true [],.fz true []]):=by kernel_rfl
theorem tk31:tk Tryz.prog 31=.sl 29:=by kernel_rfl
theorem eI31:eI Tryz.prog 31=some (29,3,56):=by kernel_rfl
theorem tk39:tk Tryz.prog 39=.ptr:=by kernel_rfl
theorem tk43:tk Tryz.prog 43=.sl 47:=by kernel_rfl
theorem tI43:tI Tryz.prog 43=some (1,false):=by kernel_rfl
theorem zI43:zI Tryz.prog 43=some (.fz true []):=by kernel_rfl
theorem eI43:eI Tryz.prog 43=some (47,4,64):=by kernel_rfl
theorem tk45:tk Tryz.prog 45=.sl 64:=by kernel_rfl
theorem tI45:tI Tryz.prog 45=some (1,false):=by kernel_rfl
theorem eI45:eI Tryz.prog 45=some (64,3,24):=by kernel_rfl
theorem tI47:tI Tryz.prog 47=some (4,true):=by kernel_rfl
theorem zI47:zI Tryz.prog 47=some (.agg [.int .i64 0,.fz true [],.int .i64 0,.fz true []]):=by kernel_rfl
theorem fI47_0:fI Tryz.prog 47 0=some (0,1,false):=by kernel_rfl
theorem fI47_1:fI Tryz.prog 47 1=some (1,1,false):=by kernel_rfl
theorem fI47_2:fI Tryz.prog 47 2=some (2,1,false):=by kernel_rfl
theorem fI47_3:fI Tryz.prog 47 3=some (3,1,false):=by kernel_rfl
theorem bI47:bI Tryz.prog 47=some ([(0,1),(1,1),(2,1),(3,1)],[.int .i64 0,.fz true [],.int .i64 0,.fz true []]):=by kernel_rfl
theorem tI64:tI Tryz.prog 64=some (3,true):=by kernel_rfl
theorem zI64:zI Tryz.prog 64=some (.agg [.int .i64 0,.int .i64 0,.int .i64 0]):=by kernel_rfl
theorem fI64_0:fI Tryz.prog 64 0=some (0,1,false):=by kernel_rfl
theorem fI64_1:fI Tryz.prog 64 1=some (1,1,false):=by kernel_rfl
theorem fI64_2:fI Tryz.prog 64 2=some (2,1,false):=by kernel_rfl
theorem bI64:bI Tryz.prog 64=some ([(0,1),(1,1),(2,1)],[.int .i64 0,.int .i64 0,.int .i64 0]):=by kernel_rfl
theorem flatI64:flatI Tryz.prog 64=true:=by kernel_rfl
theorem flatK64:flatK Tryz.prog 64=[.int .i64,.int .i64,.int .i64]:=by kernel_rfl
theorem tk71:tk Tryz.prog 71=.map 9 47:=by kernel_rfl
theorem tI71:tI Tryz.prog 71=some (1,false):=by kernel_rfl
theorem fI73_0:fI Tryz.prog 73 0=some (0,2,true):=by kernel_rfl
theorem fI73_1:fI Tryz.prog 73 1=some (2,1,false):=by kernel_rfl
theorem fI73_2:fI Tryz.prog 73 2=some (3,1,false):=by kernel_rfl
theorem fI73_3:fI Tryz.prog 73 3=some (4,1,false):=by kernel_rfl
theorem bI73:bI Tryz.prog 73=some ([(0,2),(2,1),(3,1),(4,1)],[.fz true [],.fz true [],.int .i64 0,.nilm,.int .i64 0]):=by kernel_rfl
theorem tk121:tk Tryz.prog 121=.sl 22:=by kernel_rfl
theorem eI121:eI Tryz.prog 121=some (22,1,24):=by kernel_rfl
theorem tk125:tk Tryz.prog 125=.int .u64:=by kernel_rfl
theorem un125:(∃ d,Tryz.prog.underlying 125=some d)=True:=eq_true ⟨_,tk_int tk125⟩
theorem tk170:tk Tryz.prog 170=.int .u64:=by kernel_rfl
theorem tI170:tI Tryz.prog 170=some (1,false):=by kernel_rfl
theorem zI170:zI Tryz.prog 170=some (.int .u64 0):=by kernel_rfl
theorem en8:entersB Tryz.prog 8=true:=by kernel_rfl
theorem en10:entersB Tryz.prog 10=true:=by kernel_rfl
theorem en11:entersB Tryz.prog 11=true:=by kernel_rfl
theorem en14:entersB Tryz.prog 14=true:=by kernel_rfl
theorem en15:entersB Tryz.prog 15=true:=by kernel_rfl
theorem en16:entersB Tryz.prog 16=true:=by kernel_rfl
theorem en17:entersB Tryz.prog 17=true:=by kernel_rfl
theorem en18:entersB Tryz.prog 18=true:=by kernel_rfl
theorem en19:entersB Tryz.prog 19=true:=by kernel_rfl
theorem en26:entersB Tryz.prog 26=true:=by kernel_rfl
theorem en28:entersB Tryz.prog 28=true:=by kernel_rfl
theorem en29:entersB Tryz.prog 29=true:=by kernel_rfl
theorem en30:entersB Tryz.prog 30=true:=by kernel_rfl
theorem en34:entersB Tryz.prog 34=true:=by kernel_rfl
theorem en35:entersB Tryz.prog 35=true:=by kernel_rfl
theorem en36:entersB Tryz.prog 36=true:=by kernel_rfl
theorem en37:entersB Tryz.prog 37=true:=by kernel_rfl
theorem en38:entersB Tryz.prog 38=true:=by kernel_rfl
theorem en39:entersB Tryz.prog 39=true:=by kernel_rfl
theorem en40:entersB Tryz.prog 40=true:=by kernel_rfl
theorem en41:entersB Tryz.prog 41=true:=by kernel_rfl
theorem en42:entersB Tryz.prog 42=true:=by kernel_rfl
theorem en43:entersB Tryz.prog 43=true:=by kernel_rfl
theorem en44:entersB Tryz.prog 44=true:=by kernel_rfl
theorem en45:entersB Tryz.prog 45=true:=by kernel_rfl
theorem en46:entersB Tryz.prog 46=true:=by kernel_rfl
theorem en47:entersB Tryz.prog 47=true:=by kernel_rfl
theorem en48:entersB Tryz.prog 48=true:=by kernel_rfl
theorem en49:entersB Tryz.prog 49=true:=by kernel_rfl
theorem en52:entersB Tryz.prog 52=true:=by kernel_rfl
theorem en55:entersB Tryz.prog 55=true:=by kernel_rfl
theorem en57:entersB Tryz.prog 57=true:=by kernel_rfl
theorem en58:entersB Tryz.prog 58=true:=by kernel_rfl
theorem en59:entersB Tryz.prog 59=true:=by kernel_rfl
theorem en60:entersB Tryz.prog 60=true:=by kernel_rfl
theorem en62:entersB Tryz.prog 62=true:=by kernel_rfl
theorem en63:entersB Tryz.prog 63=true:=by kernel_rfl
theorem en64:entersB Tryz.prog 64=true:=by kernel_rfl
theorem en66:entersB Tryz.prog 66=true:=by kernel_rfl
theorem en67:entersB Tryz.prog 67=true:=by kernel_rfl
theorem en68:entersB Tryz.prog 68=true:=by kernel_rfl
theorem en69:entersB Tryz.prog 69=true:=by kernel_rfl
theorem en70:entersB Tryz.prog 70=true:=by kernel_rfl
theorem en71:entersB Tryz.prog 71=true:=by kernel_rfl
theorem en72:entersB Tryz.prog 72=true:=by kernel_rfl
theorem en73:entersB Tryz.prog 73=true:=by kernel_rfl
theorem en74:entersB Tryz.prog 74=true:=by kernel_rfl
theorem en75:entersB Tryz.prog 75=true:=by kernel_rfl
theorem en76:entersB Tryz.prog 76=true:=by kernel_rfl
theorem en77:entersB Tryz.prog 77=true:=by kernel_rfl
theorem en78:entersB Tryz.prog 78=true:=by kernel_rfl
theorem en79:entersB Tryz.prog 79=true:=by kernel_rfl
theorem en80:entersB Tryz.prog 80=true:=by kernel_rfl
theorem en81:entersB Tryz.prog 81=true:=by kernel_rfl
theorem en82:entersB Tryz.prog 82=true:=by kernel_rfl
theorem en83:entersB Tryz.prog 83=true:=by kernel_rfl
theorem en84:entersB Tryz.prog 84=true:=by kernel_rfl
theorem en85:entersB Tryz.prog 85=true:=by kernel_rfl
theorem en88:entersB Tryz.prog 88=true:=by kernel_rfl
theorem en90:entersB Tryz.prog 90=true:=by kernel_rfl
theorem en91:entersB Tryz.prog 91=true:=by kernel_rfl
theorem en92:entersB Tryz.prog 92=true:=by kernel_rfl
theorem en93:entersB Tryz.prog 93=true:=by kernel_rfl
theorem en94:entersB Tryz.prog 94=true:=by kernel_rfl
theorem en95:entersB Tryz.prog 95=true:=by kernel_rfl
theorem en97:entersB Tryz.prog 97=true:=by kernel_rfl
theorem en98:entersB Tryz.prog 98=true:=by kernel_rfl
theorem en99:entersB Tryz.prog 99=true:=by kernel_rfl
theorem en104:entersB Tryz.prog 104=true:=by kernel_rfl
theorem en105:entersB Tryz.prog 105=true:=by kernel_rfl
theorem en106:entersB Tryz.prog 106=true:=by kernel_rfl
theorem en107:entersB Tryz.prog 107=true:=by kernel_rfl
theorem en108:entersB Tryz.prog 108=true:=by kernel_rfl
theorem en109:entersB Tryz.prog 109=true:=by kernel_rfl
theorem en110:entersB Tryz.prog 110=true:=by kernel_rfl
theorem en111:entersB Tryz.prog 111=true:=by kernel_rfl
theorem en112:entersB Tryz.prog 112=true:=by kernel_rfl
theorem en113:entersB Tryz.prog 113=true:=by kernel_rfl
theorem en114:entersB Tryz.prog 114=true:=by kernel_rfl
theorem en116:entersB Tryz.prog 116=true:=by kernel_rfl
theorem en117:entersB Tryz.prog 117=true:=by kernel_rfl
theorem en129:entersB Tryz.prog 129=true:=by kernel_rfl
theorem en130:entersB Tryz.prog 130=true:=by kernel_rfl
theorem en134:entersB Tryz.prog 134=true:=by kernel_rfl
theorem en135:entersB Tryz.prog 135=true:=by kernel_rfl
theorem en136:entersB Tryz.prog 136=true:=by kernel_rfl
theorem en137:entersB Tryz.prog 137=true:=by kernel_rfl
theorem en138:entersB Tryz.prog 138=true:=by kernel_rfl
theorem en139:entersB Tryz.prog 139=true:=by kernel_rfl
theorem en140:entersB Tryz.prog 140=true:=by kernel_rfl
theorem en141:entersB Tryz.prog 141=true:=by kernel_rfl
theorem en142:entersB Tryz.prog 142=true:=by kernel_rfl
theorem en144:entersB Tryz.prog 144=true:=by kernel_rfl
theorem en145:entersB Tryz.prog 145=true:=by kernel_rfl
theorem en148:entersB Tryz.prog 148=true:=by kernel_rfl
theorem en150:entersB Tryz.prog 150=true:=by kernel_rfl
theorem en151:entersB Tryz.prog 151=true:=by kernel_rfl
theorem en162:entersB Tryz.prog 162=true:=by kernel_rfl
theorem en163:entersB Tryz.prog 163=true:=by kernel_rfl
theorem en164:entersB Tryz.prog 164=true:=by kernel_rfl
theorem en166:entersB Tryz.prog 166=true:=by kernel_rfl
theorem en167:entersB Tryz.prog 167=true:=by kernel_rfl
theorem en176:entersB Tryz.prog 176=true:=by kernel_rfl
attribute [go_sem] tk3 tI3 un3 zI3 tk4 tk9 tI9 tk21 tk22 tI22 eI22 tI24 zI24 fI24_0 fI24_1 bI24 tk25 tI25 eI25 tI27 zI27 fI27_0 fI27_1 bI27 tI29 fI29_0 fI29_1 fI29_2 bI29 tk31 eI31 tk39 tk43 tI43 zI43 eI43 tk45 tI45 eI45 tI47 zI47 fI47_0 fI47_1 fI47_2 fI47_3 bI47 tI64 zI64 fI64_0 fI64_1 fI64_2 bI64 flatI64 flatK64 tk71 tI71 fI73_0 fI73_1 fI73_2 fI73_3 bI73 tk121 eI121 tk125 un125 tk170 tI170 zI170 en8 en10 en11 en14 en15 en16 en17 en18 en19 en26 en28 en29 en30 en34 en35 en36 en37 en38 en39 en40 en41 en42 en43 en44 en45 en46 en47 en48 en49 en52 en55 en57 en58 en59 en60 en62 en63 en64 en66 en67 en68 en69 en70 en71 en72 en73 en74 en75 en76 en77 en78 en79 en80 en81 en82 en83 en84 en85 en88 en90 en91 en92 en93 en94 en95 en97 en98 en99 en104 en105 en106 en107 en108 en109 en110 en111 en112 en113 en114 en116 en117 en129 en130 en134 en135 en136 en137 en138 en139 en140 en141 en142 en144 en145 en148 en150 en151 en162 en163 en164 en166 en167 en176
end Go.Proofs.YtplehleekabbaaaGreatDoorT
