/-
 DERIVED: THE SHELF's CONTRACTS AT THIS DUMP, IN PLAIN WORDS (tools/lay-plain.mjs out of 'TryzShelf.lean', which tools/lay-shelf.mjs wrote): THE SAME DECLARATIONS UNDER THE SAME NAMES: 'import', 'namespace', 'open', 'def', 'theorem' AND NOTHING ELSE: no command of the shelf's: FOR A HAND-IN. Each laying: the table of numbers ('.._ren') and one theorem, a field a fact of the dump's own or the kernel's comparison; each contract: ONE APPLICATION.
-/
import Derived.Shelf.Strings.Builder1
import Derived.Shelf.Strings.Builder2
import Derived.Shelf.Strings.OnBuilder
import Derived.Shelf.Small.Utf8
import Derived.Shelf.Small.Bits
import Derived.Shelf.Small.Strs
import Derived.Shelf.Strings.BuilderF
import Derived.Shelf.Strings.BuilderK
import Derived.Shelf.Strings.Builder2Cap
import Derived.Shelf.Strconv.Itoa0
import Derived.Shelf.Strconv.Itoa1
import Derived.Shelf.LaysM
import Derived.Shelf.Strconv.Itoa2
import Derived.Shelf.Strconv.Itoa3
import Derived.Shelf.Strings.Search1
import Derived.Shelf.Sort.Plain
import Derived.Shelf.Strings.Fields
import Derived.Shelf.Strings.SplitShaped
import Derived.Shelf.Unicode.Latin
import Derived.Shelf.Strings.Runes
import Derived.Shelf.Strings.IndexAny
import Derived.Shelf.Strings.AsciiSet
import Derived.Shelf.Strings.IndexAnyAll
import Derived.Shelf.Unicode.Is16White
import Derived.Shelf.Unicode.IsSpaceAny
import Derived.Shelf.Unicode.Is16Any
import Derived.Shelf.Unicode.Is32Any
import Derived.Shelf.Unicode.ExclAny
import Derived.Shelf.Strings.BuilderCap
import Derived.Shelf.Slices.Turned
import Derived.Ground.Names2Prog
import Derived.Shelf.Slices.Clone
import Derived.Shelf.Slices.CompactS
import Derived.Shelf.Slices.SearchI
import Derived.Shelf.Slices.Cells
import Derived.Shelf.Slices.In.SortNone
import Derived.Ground.SlgnProg
import Derived.Shelf.SlicesE.Clone
import Derived.Test.YtplehleekabbaaaGreatDoorProg
namespace Go.Proofs
open Go.Shelf
def Tryz.lays156_ren:Go.Shelf.Ren:=⟨fun | 156=>71 | 165=>101 | 166=>102 | 169=>103 | 240=>132 | 241=>133 | 276=>160 | 277=>161 | n=>n,fun | 31=>22 | 9=>9 | 3=>3 | 4=>4 | 0=>0 | 20=>20 | 72=>130 | 76=>134 | 70=>127 | 37=>128 | 75=>133 | 127=>158 | 164=>182 | 5=>5 | 80=>136 | n=>n,fun | n=>n⟩
theorem Tryz.lays156:Go.Proofs.Lays.n156 Tryz.prog Tryz.lays156_ren:={
 mixed:=by kernel_rfl
 f156:=Tryz.func71.trans (congrArg some (by kernel_rfl))
 f165:=Tryz.func101.trans (congrArg some (by kernel_rfl))
 f166:=Tryz.func102.trans (congrArg some (by kernel_rfl))
 f169:=Tryz.func103.trans (congrArg some (by kernel_rfl))
 f240:=Tryz.func132.trans (congrArg some (by kernel_rfl))
 f241:=Tryz.func133.trans (congrArg some (by kernel_rfl))
 f276:=Tryz.func160.trans (congrArg some (by kernel_rfl))
 f277:=Tryz.func161.trans (congrArg some (by kernel_rfl))
 t0:=Tryz.underlying0
 a0:=Tryz.isAgg0
 z0:=Tryz.sizeOf0
 v0:=Tryz.zeroValue0
 t3:=Tryz.underlying3
 a3:=Tryz.isAgg3
 z3:=Tryz.sizeOf3
 v3:=Tryz.zeroValue3
 t4:=Tryz.underlying4
 a4:=Tryz.isAgg4
 z4:=Tryz.sizeOf4
 v4:=Tryz.zeroValue4
 t9:=Tryz.underlying9
 a9:=Tryz.isAgg9
 z9:=Tryz.sizeOf9
 v9:=Tryz.zeroValue9
 t20:=Tryz.underlying20
 a20:=Tryz.isAgg20
 z20:=Tryz.sizeOf20
 v20:=Tryz.zeroValue20
 t31:=Tryz.underlying22
 a31:=Tryz.isAgg22
 z31:=Tryz.sizeOf22
 v31:=Tryz.zeroValue22
 t37:=Tryz.underlying128
 a37:=Tryz.isAgg128
 z37:=Tryz.sizeOf128
 v37:=Tryz.zeroValue128
 t70:=Tryz.underlying127
 a70:=Tryz.isAgg127
 z70:=Tryz.sizeOf127
 v70:=Tryz.zeroValue127
 t72:=Tryz.underlying130
 a72:=Tryz.isAgg130
 z72:=Tryz.sizeOf130
 v72:=Tryz.zeroValue130
 t75:=Tryz.underlying133
 a75:=Tryz.isAgg133
 z75:=Tryz.sizeOf133
 v75:=Tryz.zeroValue133
 t76:=Tryz.underlying134
 a76:=Tryz.isAgg134
 z76:=Tryz.sizeOf134
 v76:=Tryz.zeroValue134
 t127:=Tryz.underlying158
 a127:=Tryz.isAgg158
 z127:=Tryz.sizeOf158
 v127:=Tryz.zeroValue158
 t164:=Tryz.underlying182
 a164:=Tryz.isAgg182
 z164:=Tryz.sizeOf182
 v164:=Tryz.zeroValue182 }
theorem Tryz.Builder_Extra_156:Builder.Extra Tryz.prog Tryz.lays156_ren:={
 sizeBuilder:=by kernel_rfl
 liesBuilder:=by kernel_rfl
 t5:=Tryz.underlying5
 a5:=Tryz.isAgg5
 z5:=Tryz.sizeOf5
 v5:=Tryz.zeroValue5
 infoByte:=by kernel_rfl
 cellsByte:=by kernel_rfl
 sizeByte:=by kernel_rfl
 neB5:=by decide }
open Go.RowKit in
theorem Tryz.strings_Join_none (a : Option Addr) (c : Nat) (sep : ByteArray) (w : World) :
  Calls Tryz.prog 71 #[.slice a 0 c,.string sep] w fun e w'=>e=.returned (.string ⟨#[]⟩)∧w'=w:=Any.strings_Join_none Tryz.lays156 Tryz.Builder_Extra_156 a c sep w
open Go.RowKit in
theorem Tryz.strings_Join (bk o c : Nat) (xs : List ByteArray) (sep : ByteArray) (w : World) (hcells : ∀ (j : Nat) x, xs[j]? = some x → w.cell? ⟨bk, o + j, none⟩ = some (.string x)) (hbk : bk < w.heap.size) (hN : xs.length ≤ 140737488355328) (hcap : xs.length ≤ c) (hlen : (Lib.join (xs.map (·.data.toList)) sep.data.toList).length ≤ 140737488355328) :
  Calls Tryz.prog 71 #[.slice (some ⟨bk,o,none⟩) xs.length c,.string sep] w fun e w'=>e=.returned (.string ⟨(Lib.join (xs.map (·.data.toList)) sep.data.toList).toArray⟩)∧Below w.heap.size w w':=Any.strings_Join Tryz.lays156 Tryz.Builder_Extra_156 bk o c xs sep w hcells hbk hN hcap hlen
def Tryz.lays137_ren:Go.Shelf.Ren:=⟨fun | 137=>166 | 217=>177 | 266=>182 | n=>n,fun | 9=>9 | 5=>5 | 3=>3 | n=>n,fun | n=>n⟩
theorem Tryz.lays137:Go.Proofs.Lays.n137 Tryz.prog Tryz.lays137_ren:={
 mixed:=by kernel_rfl
 f137:=Tryz.func166.trans (congrArg some (by kernel_rfl))
 f217:=Tryz.func177.trans (congrArg some (by kernel_rfl))
 f266:=Tryz.func182.trans (congrArg some (by kernel_rfl))
 t3:=Tryz.underlying3
 a3:=Tryz.isAgg3
 z3:=Tryz.sizeOf3
 v3:=Tryz.zeroValue3
 t5:=Tryz.underlying5
 a5:=Tryz.isAgg5
 z5:=Tryz.sizeOf5
 v5:=Tryz.zeroValue5
 t9:=Tryz.underlying9
 a9:=Tryz.isAgg9
 z9:=Tryz.sizeOf9
 v9:=Tryz.zeroValue9 }
open Go.RowKit in
theorem Tryz.strings_IndexByte (s : ByteArray) (c : Int) (w : World) :
  Calls Tryz.prog 166 #[.string s,.int .u8 c] w fun e w'=>e=.returned (.int .i64 (Lib.indexByte s.data.toList c.toNat.toUInt8))∧w'=w:=Any.strings_IndexByte Tryz.lays137 s c w
def Tryz.laysM246_ren:Go.Shelf.Ren:=⟨fun | 246=>131 | 283=>156 | 284=>157 | 285=>158 | 286=>159 | 129=>128 | 317=>172 | 318=>173 | 319=>174 | 320=>175 | 337=>180 | 338=>181 | n=>n,fun | 2=>2 | 3=>3 | 9=>9 | 4=>4 | 171=>178 | 0=>0 | 53=>154 | 37=>128 | 5=>5 | 173=>180 | 212=>198 | 51=>152 | 20=>20 | 213=>199 | 46=>125 | 232=>214 | 233=>215 | n=>n,fun | 17=>2 | 18=>4 | 19=>5 | n=>n⟩
def Tryz.laysM243_ren:Go.Shelf.Ren:=⟨fun | 243=>100 | 246=>131 | 283=>156 | 284=>157 | 285=>158 | 286=>159 | 129=>128 | 317=>172 | 318=>173 | 319=>174 | 320=>175 | 337=>180 | 338=>181 | n=>n,fun | 3=>3 | 9=>9 | 2=>2 | 4=>4 | 171=>178 | 0=>0 | 53=>154 | 37=>128 | 5=>5 | 173=>180 | 212=>198 | 51=>152 | 20=>20 | 213=>199 | 46=>125 | 232=>214 | 233=>215 | n=>n,fun | 17=>2 | 18=>4 | 19=>5 | n=>n⟩
def Tryz.laysM171_ren:Go.Shelf.Ren:=⟨fun | 171=>70 | 243=>100 | 246=>131 | 283=>156 | 284=>157 | 285=>158 | 286=>159 | 129=>128 | 317=>172 | 318=>173 | 319=>174 | 320=>175 | 337=>180 | 338=>181 | n=>n,fun | 3=>3 | 9=>9 | 2=>2 | 4=>4 | 171=>178 | 0=>0 | 53=>154 | 37=>128 | 5=>5 | 173=>180 | 212=>198 | 51=>152 | 20=>20 | 213=>199 | 46=>125 | 232=>214 | 233=>215 | n=>n,fun | 17=>2 | 18=>4 | 19=>5 | n=>n⟩
theorem Tryz.laysM171:Go.Proofs.LaysM.n171 Tryz.prog Tryz.laysM171_ren:={
 mixed:=by kernel_rfl
 f129:=Tryz.func128.trans (congrArg some (by kernel_rfl))
 f171:=Tryz.func70.trans (congrArg some (by kernel_rfl))
 f243:=Tryz.func100.trans (congrArg some (by kernel_rfl))
 f246:=Tryz.func131.trans (congrArg some (by kernel_rfl))
 f283:=Tryz.func156.trans (congrArg some (by kernel_rfl))
 f284:=Tryz.func157.trans (congrArg some (by kernel_rfl))
 f285:=Tryz.func158.trans (congrArg some (by kernel_rfl))
 f286:=Tryz.func159.trans (congrArg some (by kernel_rfl))
 f317:=Tryz.func172.trans (congrArg some (by kernel_rfl))
 f318:=Tryz.func173.trans (congrArg some (by kernel_rfl))
 f319:=Tryz.func174.trans (congrArg some (by kernel_rfl))
 f320:=Tryz.func175.trans (congrArg some (by kernel_rfl))
 f337:=Tryz.func180.trans (congrArg some (by kernel_rfl))
 f338:=Tryz.func181.trans (congrArg some (by kernel_rfl))
 t0:=Tryz.underlying0
 a0:=Tryz.isAgg0
 z0:=Tryz.sizeOf0
 v0:=Tryz.zeroValue0
 t2:=Tryz.underlying2
 a2:=Tryz.isAgg2
 z2:=Tryz.sizeOf2
 v2:=Tryz.zeroValue2
 t3:=Tryz.underlying3
 a3:=Tryz.isAgg3
 z3:=Tryz.sizeOf3
 v3:=Tryz.zeroValue3
 t4:=Tryz.underlying4
 a4:=Tryz.isAgg4
 z4:=Tryz.sizeOf4
 v4:=Tryz.zeroValue4
 t5:=Tryz.underlying5
 a5:=Tryz.isAgg5
 z5:=Tryz.sizeOf5
 v5:=Tryz.zeroValue5
 t9:=Tryz.underlying9
 a9:=Tryz.isAgg9
 z9:=Tryz.sizeOf9
 v9:=Tryz.zeroValue9
 t20:=Tryz.underlying20
 a20:=Tryz.isAgg20
 z20:=Tryz.sizeOf20
 v20:=Tryz.zeroValue20
 t37:=Tryz.underlying128
 a37:=Tryz.isAgg128
 z37:=Tryz.sizeOf128
 v37:=Tryz.zeroValue128
 t46:=Tryz.underlying125
 a46:=Tryz.isAgg125
 z46:=Tryz.sizeOf125
 v46:=Tryz.zeroValue125
 t51:=Tryz.underlying152
 a51:=Tryz.isAgg152
 z51:=Tryz.sizeOf152
 v51:=Tryz.zeroValue152
 t53:=Tryz.underlying154
 a53:=Tryz.isAgg154
 z53:=Tryz.sizeOf154
 v53:=Tryz.zeroValue154
 t171:=Tryz.underlying178
 a171:=Tryz.isAgg178
 z171:=Tryz.sizeOf178
 v171:=Tryz.zeroValue178
 t173:=Tryz.underlying180
 a173:=Tryz.isAgg180
 z173:=Tryz.sizeOf180
 v173:=Tryz.zeroValue180
 t212:=Tryz.underlying198
 a212:=Tryz.isAgg198
 z212:=Tryz.sizeOf198
 v212:=Tryz.zeroValue198
 t213:=Tryz.underlying199
 a213:=Tryz.isAgg199
 z213:=Tryz.sizeOf199
 t232:=Tryz.underlying214
 a232:=Tryz.isAgg214
 z232:=Tryz.sizeOf214
 v232:=Tryz.zeroValue214
 t233:=Tryz.underlying215
 a233:=Tryz.isAgg215
 z233:=Tryz.sizeOf215
 v233:=Tryz.zeroValue215
 g17:=by kernel_rfl
 g18:=by kernel_rfl
 g19:=by kernel_rfl
 i0:=by kernel_rfl
 i2:=by kernel_rfl
 i3:=by kernel_rfl
 i4:=by kernel_rfl
 i5:=by kernel_rfl
 i9:=by kernel_rfl
 i20:=by kernel_rfl
 i37:=by kernel_rfl
 i46:=by kernel_rfl
 i51:=by kernel_rfl
 i53:=by kernel_rfl
 i171:=by kernel_rfl
 i173:=by kernel_rfl
 i212:=by kernel_rfl
 i232:=by kernel_rfl
 i233:=by kernel_rfl
 m17:=by kernel_rfl
 m18:=by kernel_rfl
 m19:=by kernel_rfl }
open Go.RowKit Go.Sort Go.Lib in
theorem Tryz.strconv_Itoa (n : Int) (h0 : -9223372036854775808 ≤ n) (h1 : n ≤ 9223372036854775807) (w : World) (htab : Lib.TabIs Tryz.prog w "internal/strconv.uint64pow10" .u64 Lib.pow10Tab) :
  Calls Tryz.prog 70 #[.int .i64 n] w fun e w'=>e=.returned (.string ⟨(Lib.itoa n).toArray⟩)∧∃ k os,w'=grow (w.drewN k) os:=Any.strconv_Itoa Tryz.laysM171 n h0 h1 w htab
def Tryz.lays190_ren:Go.Shelf.Ren:=⟨fun | 190=>63 | 125=>97 | 258=>96 | 128=>127 | 129=>128 | 302=>118 | 303=>119 | 304=>120 | 305=>121 | 306=>122 | 307=>123 | 308=>124 | 309=>125 | 310=>126 | 333=>149 | 329=>150 | 330=>151 | 334=>152 | 335=>153 | 336=>141 | 344=>170 | n=>n,fun | 31=>22 | 9=>9 | 3=>3 | 46=>125 | 0=>0 | 51=>152 | 53=>154 | 4=>4 | 183=>146 | 182=>145 | 131=>110 | 5=>5 | 218=>170 | 222=>174 | 228=>189 | 229=>190 | n=>n,fun | n=>n⟩
theorem Tryz.lays190:Go.Proofs.Lays.n190 Tryz.prog Tryz.lays190_ren:={
 mixed:=by kernel_rfl
 f125:=Tryz.func97.trans (congrArg some (by kernel_rfl))
 f128:=Tryz.func127.trans (congrArg some (by kernel_rfl))
 f129:=Tryz.func128.trans (congrArg some (by kernel_rfl))
 f190:=Tryz.func63.trans (congrArg some (by kernel_rfl))
 f258:=Tryz.func96.trans (congrArg some (by kernel_rfl))
 f302:=Tryz.func118.trans (congrArg some (by kernel_rfl))
 f303:=Tryz.func119.trans (congrArg some (by kernel_rfl))
 f304:=Tryz.func120.trans (congrArg some (by kernel_rfl))
 f305:=Tryz.func121.trans (congrArg some (by kernel_rfl))
 f306:=Tryz.func122.trans (congrArg some (by kernel_rfl))
 f307:=Tryz.func123.trans (congrArg some (by kernel_rfl))
 f308:=Tryz.func124.trans (congrArg some (by kernel_rfl))
 f309:=Tryz.func125.trans (congrArg some (by kernel_rfl))
 f310:=Tryz.func126.trans (congrArg some (by kernel_rfl))
 f329:=Tryz.func150.trans (congrArg some (by kernel_rfl))
 f330:=Tryz.func151.trans (congrArg some (by kernel_rfl))
 f333:=Tryz.func149.trans (congrArg some (by kernel_rfl))
 f334:=Tryz.func152.trans (congrArg some (by kernel_rfl))
 f335:=Tryz.func153.trans (congrArg some (by kernel_rfl))
 f336:=Tryz.func141.trans (congrArg some (by kernel_rfl))
 f344:=Tryz.func170.trans (congrArg some (by kernel_rfl))
 t0:=Tryz.underlying0
 a0:=Tryz.isAgg0
 z0:=Tryz.sizeOf0
 v0:=Tryz.zeroValue0
 t3:=Tryz.underlying3
 a3:=Tryz.isAgg3
 z3:=Tryz.sizeOf3
 v3:=Tryz.zeroValue3
 t4:=Tryz.underlying4
 a4:=Tryz.isAgg4
 z4:=Tryz.sizeOf4
 v4:=Tryz.zeroValue4
 t5:=Tryz.underlying5
 a5:=Tryz.isAgg5
 z5:=Tryz.sizeOf5
 v5:=Tryz.zeroValue5
 t9:=Tryz.underlying9
 a9:=Tryz.isAgg9
 z9:=Tryz.sizeOf9
 v9:=Tryz.zeroValue9
 t31:=Tryz.underlying22
 a31:=Tryz.isAgg22
 z31:=Tryz.sizeOf22
 v31:=Tryz.zeroValue22
 t46:=Tryz.underlying125
 a46:=Tryz.isAgg125
 z46:=Tryz.sizeOf125
 v46:=Tryz.zeroValue125
 t51:=Tryz.underlying152
 a51:=Tryz.isAgg152
 z51:=Tryz.sizeOf152
 v51:=Tryz.zeroValue152
 t53:=Tryz.underlying154
 a53:=Tryz.isAgg154
 z53:=Tryz.sizeOf154
 v53:=Tryz.zeroValue154
 t131:=Tryz.underlying110
 a131:=Tryz.isAgg110
 z131:=Tryz.sizeOf110
 v131:=Tryz.zeroValue110
 t182:=Tryz.underlying145
 a182:=Tryz.isAgg145
 z182:=Tryz.sizeOf145
 v182:=Tryz.zeroValue145
 t183:=Tryz.underlying146
 a183:=Tryz.isAgg146
 z183:=Tryz.sizeOf146
 v183:=Tryz.zeroValue146
 t218:=Tryz.underlying170
 a218:=Tryz.isAgg170
 z218:=Tryz.sizeOf170
 v218:=Tryz.zeroValue170
 t222:=Tryz.underlying174
 a222:=Tryz.isAgg174
 z222:=Tryz.sizeOf174
 v222:=Tryz.zeroValue174
 t228:=Tryz.underlying189
 a228:=Tryz.isAgg189
 z228:=Tryz.sizeOf189
 v228:=Tryz.zeroValue189
 t229:=Tryz.underlying190
 a229:=Tryz.isAgg190
 z229:=Tryz.sizeOf190
 v229:=Tryz.zeroValue190 }
open Go.Sort Go.RowKit in
theorem Tryz.slices_Sort_string (blk off cap : Nat) (ss : List (List UInt8)) (w : World) (hH : Holds encStr w blk off ss.toArray) (hblk : blk < w.heap.size) (hsz : ss.length < 4611686018427387904) :
  Calls Tryz.prog 63 #[.slice (some ⟨blk,off,none⟩) ss.length cap] w fun e w' =>
   e=.returned (.tuple #[])∧∃ n os,w'=grow (putRow encStr (Sort.ahead w n) blk off (ss.mergeSort fun x y=>decide (x≤y)).toArray) os:=Any.slices_Sort_string Tryz.lays190 blk off cap ss w hH hblk hsz
def Tryz.lays157_ren:Go.Shelf.Ren:=⟨fun | 157=>130 | 229=>154 | 199=>155 | 261=>171 | 311=>178 | 312=>179 | n=>n,fun | 9=>9 | 31=>22 | 3=>3 | 5=>5 | 4=>4 | 119=>176 | 0=>0 | 40=>119 | 152=>192 | 21=>21 | 154=>194 | 51=>152 | 141=>196 | 196=>204 | 193=>201 | 198=>207 | 49=>205 | 194=>202 | 201=>210 | 226=>212 | 46=>125 | 227=>213 | n=>n,fun | 0=>0 | 6=>1 | n=>n⟩
def Tryz.laysM157_ren:Go.Shelf.Ren:=⟨fun | 157=>130 | 229=>154 | 199=>155 | 261=>171 | 311=>178 | 312=>179 | n=>n,fun | 9=>9 | 31=>22 | 3=>3 | 5=>5 | 4=>4 | 119=>176 | 0=>0 | 40=>119 | 152=>192 | 21=>21 | 154=>194 | 51=>152 | 141=>196 | 196=>204 | 193=>201 | 198=>207 | 49=>205 | 194=>202 | 201=>210 | 226=>212 | 46=>125 | 227=>213 | n=>n,fun | 0=>0 | 6=>1 | n=>n⟩
theorem Tryz.laysM157:Go.Proofs.LaysM.n157 Tryz.prog Tryz.laysM157_ren:={
 mixed:=by kernel_rfl
 f157:=Tryz.func130.trans (congrArg some (by kernel_rfl))
 f199:=Tryz.func155.trans (congrArg some (by kernel_rfl))
 f229:=Tryz.func154.trans (congrArg some (by kernel_rfl))
 f261:=Tryz.func171.trans (congrArg some (by kernel_rfl))
 f311:=Tryz.func178.trans (congrArg some (by kernel_rfl))
 f312:=Tryz.func179.trans (congrArg some (by kernel_rfl))
 t0:=Tryz.underlying0
 a0:=Tryz.isAgg0
 z0:=Tryz.sizeOf0
 v0:=Tryz.zeroValue0
 t3:=Tryz.underlying3
 a3:=Tryz.isAgg3
 z3:=Tryz.sizeOf3
 v3:=Tryz.zeroValue3
 t4:=Tryz.underlying4
 a4:=Tryz.isAgg4
 z4:=Tryz.sizeOf4
 v4:=Tryz.zeroValue4
 t5:=Tryz.underlying5
 a5:=Tryz.isAgg5
 z5:=Tryz.sizeOf5
 v5:=Tryz.zeroValue5
 t9:=Tryz.underlying9
 a9:=Tryz.isAgg9
 z9:=Tryz.sizeOf9
 v9:=Tryz.zeroValue9
 t21:=Tryz.underlying21
 a21:=Tryz.isAgg21
 z21:=Tryz.sizeOf21
 v21:=Tryz.zeroValue21
 t31:=Tryz.underlying22
 a31:=Tryz.isAgg22
 z31:=Tryz.sizeOf22
 v31:=Tryz.zeroValue22
 t40:=Tryz.underlying119
 a40:=Tryz.isAgg119
 z40:=Tryz.sizeOf119
 v40:=Tryz.zeroValue119
 t46:=Tryz.underlying125
 a46:=Tryz.isAgg125
 z46:=Tryz.sizeOf125
 v46:=Tryz.zeroValue125
 t49:=Tryz.underlying205
 a49:=Tryz.isAgg205
 z49:=Tryz.sizeOf205
 v49:=Tryz.zeroValue205
 t51:=Tryz.underlying152
 a51:=Tryz.isAgg152
 z51:=Tryz.sizeOf152
 v51:=Tryz.zeroValue152
 t119:=Tryz.underlying176
 a119:=Tryz.isAgg176
 z119:=Tryz.sizeOf176
 t141:=Tryz.underlying196
 a141:=Tryz.isAgg196
 z141:=Tryz.sizeOf196
 v141:=Tryz.zeroValue196
 t152:=Tryz.underlying192
 a152:=Tryz.isAgg192
 z152:=Tryz.sizeOf192
 v152:=Tryz.zeroValue192
 t154:=Tryz.underlying194
 a154:=Tryz.isAgg194
 z154:=Tryz.sizeOf194
 v154:=Tryz.zeroValue194
 t193:=Tryz.underlying201
 a193:=Tryz.isAgg201
 z193:=Tryz.sizeOf201
 v193:=Tryz.zeroValue201
 t194:=Tryz.underlying202
 a194:=Tryz.isAgg202
 z194:=Tryz.sizeOf202
 v194:=Tryz.zeroValue202
 t196:=Tryz.underlying204
 a196:=Tryz.isAgg204
 z196:=Tryz.sizeOf204
 v196:=Tryz.zeroValue204
 t198:=Tryz.underlying207
 a198:=Tryz.isAgg207
 z198:=Tryz.sizeOf207
 v198:=Tryz.zeroValue207
 t201:=Tryz.underlying210
 a201:=Tryz.isAgg210
 z201:=Tryz.sizeOf210
 v201:=Tryz.zeroValue210
 t226:=Tryz.underlying212
 a226:=Tryz.isAgg212
 z226:=Tryz.sizeOf212
 v226:=Tryz.zeroValue212
 t227:=Tryz.underlying213
 a227:=Tryz.isAgg213
 z227:=Tryz.sizeOf213
 v227:=Tryz.zeroValue213
 g0:=by kernel_rfl
 g6:=by kernel_rfl
 i0:=by kernel_rfl
 i3:=by kernel_rfl
 i4:=by kernel_rfl
 i5:=by kernel_rfl
 i9:=by kernel_rfl
 i21:=by kernel_rfl
 i31:=by kernel_rfl
 i40:=by kernel_rfl
 i46:=by kernel_rfl
 i49:=by kernel_rfl
 i51:=by kernel_rfl
 i141:=by kernel_rfl
 i152:=by kernel_rfl
 i154:=by kernel_rfl
 i193:=by kernel_rfl
 i194:=by kernel_rfl
 i196:=by kernel_rfl
 i198:=by kernel_rfl
 i201:=by kernel_rfl
 i226:=by kernel_rfl
 i227:=by kernel_rfl
 m0:=by kernel_rfl
 m6:=by kernel_rfl }
open Go.RowKit Go.Lib in
theorem Tryz.strings_Fields_laid (s : ByteArray) (w : World) (hs : s.size < 4294967281) (hascii : ∀ (j : Nat) b, s.data.toList[j]? = some b → b.toNat < 128) (htab : Lib.TabIs Tryz.prog w "strings.asciiSpace" .u8 Lib.asciiSpaceTab) :
  Calls Tryz.prog 130 #[.string s] w fun e w' =>
   e=.returned (.slice (some ⟨w.heap.size,0,none⟩) (Lib.fields s.data.toList).length (Lib.fields s.data.toList).length)∧w'=w.alloc (.cells ((Lib.fields s.data.toList).map fun l=>Value.string ⟨l.toArray⟩).toArray 9):=Any.strings_Fields_laid Tryz.laysM157 s w hs hascii htab
def Tryz.lays152_ren:Go.Shelf.Ren:=⟨fun | 152=>144 | 137=>166 | 119=>167 | 224=>168 | 225=>169 | 217=>177 | 266=>182 | n=>n,fun | 9=>9 | 21=>21 | 3=>3 | 4=>4 | 5=>5 | 0=>0 | 46=>125 | n=>n,fun | n=>n⟩
theorem Tryz.lays152:Go.Proofs.Lays.n152 Tryz.prog Tryz.lays152_ren:={
 mixed:=by kernel_rfl
 f119:=Tryz.func167.trans (congrArg some (by kernel_rfl))
 f137:=Tryz.func166.trans (congrArg some (by kernel_rfl))
 f152:=Tryz.func144.trans (congrArg some (by kernel_rfl))
 f217:=Tryz.func177.trans (congrArg some (by kernel_rfl))
 f224:=Tryz.func168.trans (congrArg some (by kernel_rfl))
 f225:=Tryz.func169.trans (congrArg some (by kernel_rfl))
 f266:=Tryz.func182.trans (congrArg some (by kernel_rfl))
 t0:=Tryz.underlying0
 a0:=Tryz.isAgg0
 z0:=Tryz.sizeOf0
 v0:=Tryz.zeroValue0
 t3:=Tryz.underlying3
 a3:=Tryz.isAgg3
 z3:=Tryz.sizeOf3
 v3:=Tryz.zeroValue3
 t4:=Tryz.underlying4
 a4:=Tryz.isAgg4
 z4:=Tryz.sizeOf4
 v4:=Tryz.zeroValue4
 t5:=Tryz.underlying5
 a5:=Tryz.isAgg5
 z5:=Tryz.sizeOf5
 v5:=Tryz.zeroValue5
 t9:=Tryz.underlying9
 a9:=Tryz.isAgg9
 z9:=Tryz.sizeOf9
 v9:=Tryz.zeroValue9
 t21:=Tryz.underlying21
 a21:=Tryz.isAgg21
 z21:=Tryz.sizeOf21
 v21:=Tryz.zeroValue21
 t46:=Tryz.underlying125
 a46:=Tryz.isAgg125
 z46:=Tryz.sizeOf125
 v46:=Tryz.zeroValue125 }
open Go.RowKit Go.Lib in
theorem Tryz.strings_IndexRune_ascii (s : ByteArray) (r : Int) (w : World) (h0 : 0 ≤ r) (h1 : r < 128) :
  Calls Tryz.prog 144 #[.string s,.int .i32 r] w fun e w'=>e=.returned (.int .i64 (Lib.indexByte s.data.toList r.toNat.toUInt8))∧w'=w:=Any.strings_IndexRune_ascii Tryz.lays152 s r w h0 h1
def Tryz.lays153_ren:Go.Shelf.Ren:=⟨fun | 153=>116 | 152=>144 | 226=>145 | 227=>146 | 228=>147 | 137=>166 | 119=>167 | 224=>168 | 225=>169 | 217=>177 | 266=>182 | n=>n,fun | 9=>9 | 3=>3 | 4=>4 | 5=>5 | 21=>21 | 117=>166 | 116=>165 | 0=>0 | 46=>125 | 124=>188 | n=>n,fun | n=>n⟩
theorem Tryz.lays153:Go.Proofs.Lays.n153 Tryz.prog Tryz.lays153_ren:={
 mixed:=by kernel_rfl
 f119:=Tryz.func167.trans (congrArg some (by kernel_rfl))
 f137:=Tryz.func166.trans (congrArg some (by kernel_rfl))
 f152:=Tryz.func144.trans (congrArg some (by kernel_rfl))
 f153:=Tryz.func116.trans (congrArg some (by kernel_rfl))
 f217:=Tryz.func177.trans (congrArg some (by kernel_rfl))
 f224:=Tryz.func168.trans (congrArg some (by kernel_rfl))
 f225:=Tryz.func169.trans (congrArg some (by kernel_rfl))
 f226:=Tryz.func145.trans (congrArg some (by kernel_rfl))
 f227:=Tryz.func146.trans (congrArg some (by kernel_rfl))
 f228:=Tryz.func147.trans (congrArg some (by kernel_rfl))
 f266:=Tryz.func182.trans (congrArg some (by kernel_rfl))
 t0:=Tryz.underlying0
 a0:=Tryz.isAgg0
 z0:=Tryz.sizeOf0
 v0:=Tryz.zeroValue0
 t3:=Tryz.underlying3
 a3:=Tryz.isAgg3
 z3:=Tryz.sizeOf3
 v3:=Tryz.zeroValue3
 t4:=Tryz.underlying4
 a4:=Tryz.isAgg4
 z4:=Tryz.sizeOf4
 v4:=Tryz.zeroValue4
 t5:=Tryz.underlying5
 a5:=Tryz.isAgg5
 z5:=Tryz.sizeOf5
 v5:=Tryz.zeroValue5
 t9:=Tryz.underlying9
 a9:=Tryz.isAgg9
 z9:=Tryz.sizeOf9
 v9:=Tryz.zeroValue9
 t21:=Tryz.underlying21
 a21:=Tryz.isAgg21
 z21:=Tryz.sizeOf21
 v21:=Tryz.zeroValue21
 t46:=Tryz.underlying125
 a46:=Tryz.isAgg125
 z46:=Tryz.sizeOf125
 v46:=Tryz.zeroValue125
 t116:=Tryz.underlying165
 a116:=Tryz.isAgg165
 z116:=Tryz.sizeOf165
 t117:=Tryz.underlying166
 a117:=Tryz.isAgg166
 z117:=Tryz.sizeOf166
 v117:=Tryz.zeroValue166
 t124:=Tryz.underlying188
 a124:=Tryz.isAgg188
 z124:=Tryz.sizeOf188
 v124:=Tryz.zeroValue188 }
open Go.RowKit Go.Lib in
theorem Tryz.strings_IndexAny_long (hv116 : ∀ w, (zeroValue 165).run Tryz.prog w = .ok (.agg (Array.replicate 256 (.bool false))) w) (s chars : ByteArray) (w : World) (h2 : 2 ≤ chars.size) (h8 : 8 < s.size) (hs : s.size < 4294967281) (hcs : chars.size < 4294967281) (hascii : ∀ (j : Nat) b, chars.data.toList[j]? = some b → b.toNat < 128) :
  Calls Tryz.prog 116 #[.string s,.string chars] w fun e w'=>e=.returned (.int .i64 (Lib.indexAny s.data.toList chars.data.toList))∧w'=((w.alloc (.cells (Lib.setCells chars.data.toList) 165)).alloc (.cells (Lib.setCells chars.data.toList) 165)):=Any.strings_IndexAny_long Tryz.lays153 hv116 (by kernel_rfl) s chars w h2 h8 hs hcs hascii
def Tryz.lays150_ren:Go.Shelf.Ren:=⟨fun | 150=>91 | 153=>116 | 152=>144 | 226=>145 | 227=>146 | 228=>147 | 137=>166 | 119=>167 | 224=>168 | 225=>169 | 217=>177 | 266=>182 | n=>n,fun | 9=>9 | 4=>4 | 3=>3 | 5=>5 | 21=>21 | 117=>166 | 116=>165 | 0=>0 | 46=>125 | 124=>188 | n=>n,fun | n=>n⟩
theorem Tryz.lays150:Go.Proofs.Lays.n150 Tryz.prog Tryz.lays150_ren:={
 mixed:=by kernel_rfl
 f119:=Tryz.func167.trans (congrArg some (by kernel_rfl))
 f137:=Tryz.func166.trans (congrArg some (by kernel_rfl))
 f150:=Tryz.func91.trans (congrArg some (by kernel_rfl))
 f152:=Tryz.func144.trans (congrArg some (by kernel_rfl))
 f153:=Tryz.func116.trans (congrArg some (by kernel_rfl))
 f217:=Tryz.func177.trans (congrArg some (by kernel_rfl))
 f224:=Tryz.func168.trans (congrArg some (by kernel_rfl))
 f225:=Tryz.func169.trans (congrArg some (by kernel_rfl))
 f226:=Tryz.func145.trans (congrArg some (by kernel_rfl))
 f227:=Tryz.func146.trans (congrArg some (by kernel_rfl))
 f228:=Tryz.func147.trans (congrArg some (by kernel_rfl))
 f266:=Tryz.func182.trans (congrArg some (by kernel_rfl))
 t0:=Tryz.underlying0
 a0:=Tryz.isAgg0
 z0:=Tryz.sizeOf0
 v0:=Tryz.zeroValue0
 t3:=Tryz.underlying3
 a3:=Tryz.isAgg3
 z3:=Tryz.sizeOf3
 v3:=Tryz.zeroValue3
 t4:=Tryz.underlying4
 a4:=Tryz.isAgg4
 z4:=Tryz.sizeOf4
 v4:=Tryz.zeroValue4
 t5:=Tryz.underlying5
 a5:=Tryz.isAgg5
 z5:=Tryz.sizeOf5
 v5:=Tryz.zeroValue5
 t9:=Tryz.underlying9
 a9:=Tryz.isAgg9
 z9:=Tryz.sizeOf9
 v9:=Tryz.zeroValue9
 t21:=Tryz.underlying21
 a21:=Tryz.isAgg21
 z21:=Tryz.sizeOf21
 v21:=Tryz.zeroValue21
 t46:=Tryz.underlying125
 a46:=Tryz.isAgg125
 z46:=Tryz.sizeOf125
 v46:=Tryz.zeroValue125
 t116:=Tryz.underlying165
 a116:=Tryz.isAgg165
 z116:=Tryz.sizeOf165
 t117:=Tryz.underlying166
 a117:=Tryz.isAgg166
 z117:=Tryz.sizeOf166
 v117:=Tryz.zeroValue166
 t124:=Tryz.underlying188
 a124:=Tryz.isAgg188
 z124:=Tryz.sizeOf188
 v124:=Tryz.zeroValue188 }
open Go.RowKit Go.Lib in
theorem Tryz.strings_ContainsAny_laid (s chars : ByteArray) (w : World) (hs : s.size < 4294967281) (hcs : chars.size < 4294967281) (has : ∀ (j : Nat) b, s.data.toList[j]? = some b → b.toNat < 128) (hac : ∀ (j : Nat) b, chars.data.toList[j]? = some b → b.toNat < 128) :
  Calls Tryz.prog 91 #[.string s,.string chars] w fun e w'=>e=.returned (.bool (Lib.containsAny s.data.toList chars.data.toList))∧Below w.heap.size w w':=Any.strings_ContainsAny_laid Tryz.lays150 (by kernel_rfl) s chars w hs hcs has hac
def Tryz.lays194_ren:Go.Shelf.Ren:=⟨fun | 194=>64 | n=>n,fun | 31=>22 | 9=>9 | 3=>3 | 4=>4 | 0=>0 | n=>n,fun | n=>n⟩
theorem Tryz.lays194:Go.Proofs.Lays.n194 Tryz.prog Tryz.lays194_ren:={
 mixed:=by kernel_rfl
 f194:=Tryz.func64.trans (congrArg some (by kernel_rfl))
 t0:=Tryz.underlying0
 a0:=Tryz.isAgg0
 z0:=Tryz.sizeOf0
 v0:=Tryz.zeroValue0
 t3:=Tryz.underlying3
 a3:=Tryz.isAgg3
 z3:=Tryz.sizeOf3
 v3:=Tryz.zeroValue3
 t4:=Tryz.underlying4
 a4:=Tryz.isAgg4
 z4:=Tryz.sizeOf4
 v4:=Tryz.zeroValue4
 t9:=Tryz.underlying9
 a9:=Tryz.isAgg9
 z9:=Tryz.sizeOf9
 v9:=Tryz.zeroValue9
 t31:=Tryz.underlying22
 a31:=Tryz.isAgg22
 z31:=Tryz.sizeOf22
 v31:=Tryz.zeroValue22 }
open Go.RowKit Go.Lib Go.Sort in
theorem Tryz.slices_Compact_string (blk off cap : Nat) (zs : List (List UInt8)) (w : World) (hH : Holds encStr w blk off zs.toArray) (hsz : zs.length ≤ 9223372036854775807) (hcap : zs.length ≤ cap) :
  Calls Tryz.prog 64 #[.slice (some ⟨blk,off,none⟩) zs.length cap] w fun e w'=>e=.returned (.slice (some ⟨blk,off,none⟩) (Lib.compact zs).length cap)∧∃ q,w'=putRow encStr (Sort.ahead w q) blk off (Lib.compact zs++List.replicate (zs.length - (Lib.compact zs).length) []).toArray:=Any.slices_Compact_string Tryz.lays194 blk off cap zs w hH hsz hcap
open Go.RowKit Go.Lib Go.Sort in
theorem Tryz.slices_Compact_string_empty (a : Option Addr) (cap : Nat) (w : World) :
  Calls Tryz.prog 64 #[.slice a 0 cap] w fun e w'=>e=.returned (.slice a 0 cap)∧w'=w:=Any.slices_Compact_string_empty Tryz.lays194 a cap w
open Go.RowKit Go.Sort in
theorem Tryz.slices_Sort_string_none (p : Option Addr) (cap : Nat) (w : World) :
  Calls Tryz.prog 63 #[.slice p 0 cap] w fun e w'=>e=.returned (.tuple #[])∧w'=w:=Any.slices_Sort_string_none Tryz.lays190 p cap w
end Go.Proofs
