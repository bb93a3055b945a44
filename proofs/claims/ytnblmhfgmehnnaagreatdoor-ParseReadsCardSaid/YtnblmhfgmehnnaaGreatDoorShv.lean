/- Contracts of the library that the seat lays (by the kit's tool), those that are used. -/
import Derived.Shelf.Strings.Builder1
import Derived.Shelf.Strings.Builder2
import Derived.Shelf.Strings.Trim
import Derived.Shelf.Small.Utf8
import Derived.Shelf.Small.Strs
import Derived.Shelf.Small.Wraps
import Derived.Shelf.Strings.BuilderF
import Derived.Shelf.Strings.BuilderK
import Derived.Shelf.Strings.Builder2Cap
import Derived.Shelf.Strconv.Itoa0
import Derived.Shelf.Strconv.Itoa1
import Derived.Shelf.LaysM
import Derived.Shelf.Strconv.Itoa2
import Derived.Shelf.Strconv.Itoa3
import Derived.Shelf.Strconv.ParseIntEmpty
import Derived.Shelf.Strconv.Clone
import Derived.Shelf.Strconv.SyntaxError
import Derived.Shelf.LaysC
import Derived.Shelf.Strconv.ToError
import Derived.Shelf.Strconv.Lower
import Derived.Shelf.Strconv.ParseUint10
import Derived.Shelf.Strconv.ParseUint10Empty
import Derived.Shelf.Strconv.ParseUint10Any
import Derived.Shelf.Strconv.ParseInt10
import Derived.Shelf.Strconv.RangeError
import Derived.Shelf.Strconv.ToErrorRange
import Derived.Shelf.Strconv.ParseUintEmpty
import Derived.Shelf.Strconv.ParseUint10b64
import Derived.Shelf.Strconv.ParseUint10b32
import Derived.Shelf.Strconv.ParseUint10b16
import Derived.Shelf.Strconv.ParseUint10b8
import Derived.Shelf.Strconv.ParseUint10At
import Derived.Shelf.Strconv.ParseInt10At64
import Derived.Shelf.Strconv.ParseInt10At32
import Derived.Shelf.Strconv.ParseInt10At16
import Derived.Shelf.Strconv.ParseInt10At8
import Derived.Shelf.Strconv.ParseInt10All
import Derived.Shelf.Strconv.ParseIntPublic10
import Derived.Shelf.Strconv.ErrVarParseInt
import Derived.Shelf.Strings.Search1
import Derived.Shelf.Strings.Search2
import Derived.Shelf.Strings.Search3
import Derived.Shelf.Strings.Shaped
import Derived.Shelf.Strings.Prefix
import Derived.Shelf.Unicode.Decode
import Derived.Shelf.Strings.Runes
import Derived.Shelf.Strings.AsciiSet
import Derived.Shelf.Bits.Mul64
import Derived.Shelf.Strings.Repeat
import Derived.Shelf.Unicode.DecodeSlow
import Derived.Shelf.Unicode.DecodeAny
import Derived.Shelf.Unicode.DecodeLast
import Derived.Shelf.Strings.BuilderCap
import Derived.Test.YtnblmhfgmehnnaaGreatDoorProg
namespace Go.Proofs
open Go.Shelf
def Tryz.lays169_ren:Go.Shelf.Ren:=⟨fun | 169=>44 | n=>n,fun | 70=>87 | 9=>9 | 0=>0 | 72=>89 | 37=>23 | 127=>125 | 3=>3 | 5=>5 | n=>n,fun | n=>n⟩
theorem Tryz.lays169:Go.Proofs.Lays.n169 Tryz.prog Tryz.lays169_ren:={
 mixed:=by kernel_rfl
 f169:=Tryz.func44.trans (congrArg some (by kernel_rfl))
 t0:=Tryz.underlying0
 a0:=Tryz.isAgg0
 z0:=Tryz.sizeOf0
 v0:=Tryz.zeroValue0
 t3:=Tryz.underlying3
 a3:=Tryz.isAgg3
 z3:=Tryz.sizeOf3
 v3:=Tryz.zeroValue3
 t9:=Tryz.underlying9
 a9:=Tryz.isAgg9
 z9:=Tryz.sizeOf9
 v9:=Tryz.zeroValue9
 t37:=Tryz.underlying23
 a37:=Tryz.isAgg23
 z37:=Tryz.sizeOf23
 v37:=Tryz.zeroValue23
 t70:=Tryz.underlying87
 a70:=Tryz.isAgg87
 z70:=Tryz.sizeOf87
 v70:=Tryz.zeroValue87
 t72:=Tryz.underlying89
 a72:=Tryz.isAgg89
 z72:=Tryz.sizeOf89
 v72:=Tryz.zeroValue89
 t127:=Tryz.underlying125
 a127:=Tryz.isAgg125
 z127:=Tryz.sizeOf125
 v127:=Tryz.zeroValue125}
theorem Tryz.Builder_Extra_169:Builder.Extra Tryz.prog Tryz.lays169_ren:={
 sizeBuilder:=by kernel_rfl
 liesBuilder:=by kernel_rfl
 t5:=Tryz.underlying5
 a5:=Tryz.isAgg5
 z5:=Tryz.sizeOf5
 v5:=Tryz.zeroValue5
 infoByte:=by kernel_rfl
 cellsByte:=by kernel_rfl
 sizeByte:=by kernel_rfl
 neB5:=by decide}
def Tryz.lays161_ren:Go.Shelf.Ren:=⟨fun | 161=>50 | 231=>71 | 227=>72 | 233=>73 | 235=>74 | 228=>92 | 197=>93 | 151=>94 | 260=>101 | 152=>102 | 137=>109 | 119=>110 | 224=>90 | 225=>89 | 217=>88 | 266=>99 | n=>n,fun | 9=>9 | 4=>4 | 3=>3 | 5=>5 | 117=>129 | 116=>128 | 0=>0 | 124=>132 | 105=>140 | 21=>21 | 119=>154 | 46=>83 | 139=>157 | 138=>156 | n=>n,fun | 3=>1 | 4=>2 | n=>n⟩
theorem Tryz.lays161:Go.Proofs.Lays.n161 Tryz.prog Tryz.lays161_ren:={
 mixed:=by kernel_rfl
 f119:=Tryz.func110.trans (congrArg some (by kernel_rfl))
 f137:=Tryz.func109.trans (congrArg some (by kernel_rfl))
 f151:=Tryz.func94.trans (congrArg some (by kernel_rfl))
 f152:=Tryz.func102.trans (congrArg some (by kernel_rfl))
 f161:=Tryz.func50.trans (congrArg some (by kernel_rfl))
 f197:=Tryz.func93.trans (congrArg some (by kernel_rfl))
 f217:=Tryz.func88.trans (congrArg some (by kernel_rfl))
 f224:=Tryz.func90.trans (congrArg some (by kernel_rfl))
 f225:=Tryz.func89.trans (congrArg some (by kernel_rfl))
 f227:=Tryz.func72.trans (congrArg some (by kernel_rfl))
 f228:=Tryz.func92.trans (congrArg some (by kernel_rfl))
 f231:=Tryz.func71.trans (congrArg some (by kernel_rfl))
 f233:=Tryz.func73.trans (congrArg some (by kernel_rfl))
 f235:=Tryz.func74.trans (congrArg some (by kernel_rfl))
 f260:=Tryz.func101.trans (congrArg some (by kernel_rfl))
 f266:=Tryz.func99.trans (congrArg some (by kernel_rfl))
 t0:=Tryz.underlying0
 a0:=Tryz.isAgg0
 z0:=Tryz.sizeOf0
 v0:=Tryz.zeroValue0
 t3:=Tryz.underlying3
 a3:=Tryz.isAgg3
 z3:=Tryz.sizeOf3
 v3:=Tryz.zeroValue3
 t4:=Tryz.underlying4
 a4:=Tryz.isAgg4
 z4:=Tryz.sizeOf4
 v4:=Tryz.zeroValue4
 t5:=Tryz.underlying5
 a5:=Tryz.isAgg5
 z5:=Tryz.sizeOf5
 v5:=Tryz.zeroValue5
 t9:=Tryz.underlying9
 a9:=Tryz.isAgg9
 z9:=Tryz.sizeOf9
 v9:=Tryz.zeroValue9
 t21:=Tryz.underlying21
 a21:=Tryz.isAgg21
 z21:=Tryz.sizeOf21
 v21:=Tryz.zeroValue21
 t46:=Tryz.underlying83
 a46:=Tryz.isAgg83
 z46:=Tryz.sizeOf83
 v46:=Tryz.zeroValue83
 t105:=Tryz.underlying140
 a105:=Tryz.isAgg140
 z105:=Tryz.sizeOf140
 v105:=Tryz.zeroValue140
 t116:=Tryz.underlying128
 a116:=Tryz.isAgg128
 z116:=Tryz.sizeOf128
 t117:=Tryz.underlying129
 a117:=Tryz.isAgg129
 z117:=Tryz.sizeOf129
 v117:=Tryz.zeroValue129
 t119:=Tryz.underlying154
 a119:=Tryz.isAgg154
 z119:=Tryz.sizeOf154
 t124:=Tryz.underlying132
 a124:=Tryz.isAgg132
 z124:=Tryz.sizeOf132
 v124:=Tryz.zeroValue132
 t138:=Tryz.underlying156
 a138:=Tryz.isAgg156
 z138:=Tryz.sizeOf156
 v138:=Tryz.zeroValue156
 t139:=Tryz.underlying157
 a139:=Tryz.isAgg157
 z139:=Tryz.sizeOf157
 v139:=Tryz.zeroValue157
 g3:=by kernel_rfl
 g4:=by kernel_rfl}
def Tryz.lays162_ren:Go.Shelf.Ren:=⟨fun | 162=>53 | 232=>75 | 227=>72 | 234=>76 | 236=>77 | 228=>92 | 271=>95 | 151=>94 | 120=>103 | 197=>93 | 152=>102 | 260=>101 | 137=>109 | 119=>110 | 224=>90 | 225=>89 | 217=>88 | 266=>99 | n=>n,fun | 9=>9 | 4=>4 | 3=>3 | 5=>5 | 117=>129 | 116=>128 | 0=>0 | 124=>132 | 21=>21 | 105=>140 | 46=>83 | 119=>154 | 139=>157 | 138=>156 | n=>n,fun | 3=>1 | 4=>2 | n=>n⟩
theorem Tryz.lays162:Go.Proofs.Lays.n162 Tryz.prog Tryz.lays162_ren:={
 mixed:=by kernel_rfl
 f119:=Tryz.func110.trans (congrArg some (by kernel_rfl))
 f120:=Tryz.func103.trans (congrArg some (by kernel_rfl))
 f137:=Tryz.func109.trans (congrArg some (by kernel_rfl))
 f151:=Tryz.func94.trans (congrArg some (by kernel_rfl))
 f152:=Tryz.func102.trans (congrArg some (by kernel_rfl))
 f162:=Tryz.func53.trans (congrArg some (by kernel_rfl))
 f197:=Tryz.func93.trans (congrArg some (by kernel_rfl))
 f217:=Tryz.func88.trans (congrArg some (by kernel_rfl))
 f224:=Tryz.func90.trans (congrArg some (by kernel_rfl))
 f225:=Tryz.func89.trans (congrArg some (by kernel_rfl))
 f227:=Tryz.func72.trans (congrArg some (by kernel_rfl))
 f228:=Tryz.func92.trans (congrArg some (by kernel_rfl))
 f232:=Tryz.func75.trans (congrArg some (by kernel_rfl))
 f234:=Tryz.func76.trans (congrArg some (by kernel_rfl))
 f236:=Tryz.func77.trans (congrArg some (by kernel_rfl))
 f260:=Tryz.func101.trans (congrArg some (by kernel_rfl))
 f266:=Tryz.func99.trans (congrArg some (by kernel_rfl))
 f271:=Tryz.func95.trans (congrArg some (by kernel_rfl))
 t0:=Tryz.underlying0
 a0:=Tryz.isAgg0
 z0:=Tryz.sizeOf0
 v0:=Tryz.zeroValue0
 t3:=Tryz.underlying3
 a3:=Tryz.isAgg3
 z3:=Tryz.sizeOf3
 v3:=Tryz.zeroValue3
 t4:=Tryz.underlying4
 a4:=Tryz.isAgg4
 z4:=Tryz.sizeOf4
 v4:=Tryz.zeroValue4
 t5:=Tryz.underlying5
 a5:=Tryz.isAgg5
 z5:=Tryz.sizeOf5
 v5:=Tryz.zeroValue5
 t9:=Tryz.underlying9
 a9:=Tryz.isAgg9
 z9:=Tryz.sizeOf9
 v9:=Tryz.zeroValue9
 t21:=Tryz.underlying21
 a21:=Tryz.isAgg21
 z21:=Tryz.sizeOf21
 v21:=Tryz.zeroValue21
 t46:=Tryz.underlying83
 a46:=Tryz.isAgg83
 z46:=Tryz.sizeOf83
 v46:=Tryz.zeroValue83
 t105:=Tryz.underlying140
 a105:=Tryz.isAgg140
 z105:=Tryz.sizeOf140
 v105:=Tryz.zeroValue140
 t116:=Tryz.underlying128
 a116:=Tryz.isAgg128
 z116:=Tryz.sizeOf128
 t117:=Tryz.underlying129
 a117:=Tryz.isAgg129
 z117:=Tryz.sizeOf129
 v117:=Tryz.zeroValue129
 t119:=Tryz.underlying154
 a119:=Tryz.isAgg154
 z119:=Tryz.sizeOf154
 t124:=Tryz.underlying132
 a124:=Tryz.isAgg132
 z124:=Tryz.sizeOf132
 v124:=Tryz.zeroValue132
 t138:=Tryz.underlying156
 a138:=Tryz.isAgg156
 z138:=Tryz.sizeOf156
 v138:=Tryz.zeroValue156
 t139:=Tryz.underlying157
 a139:=Tryz.isAgg157
 z139:=Tryz.sizeOf157
 v139:=Tryz.zeroValue157
 g3:=by kernel_rfl
 g4:=by kernel_rfl}
def Tryz.lays160_ren:Go.Shelf.Ren:=⟨fun | 160=>55 | 232=>75 | 231=>71 | 227=>72 | 234=>76 | 233=>73 | 236=>77 | 235=>74 | 228=>92 | 271=>95 | 151=>94 | 197=>93 | 120=>103 | 152=>102 | 260=>101 | 137=>109 | 119=>110 | 224=>90 | 225=>89 | 217=>88 | 266=>99 | n=>n,fun | 9=>9 | 4=>4 | 3=>3 | 5=>5 | 117=>129 | 116=>128 | 0=>0 | 124=>132 | 21=>21 | 105=>140 | 46=>83 | 119=>154 | 139=>157 | 138=>156 | n=>n,fun | 3=>1 | 4=>2 | n=>n⟩
theorem Tryz.lays160:Go.Proofs.Lays.n160 Tryz.prog Tryz.lays160_ren:={
 mixed:=by kernel_rfl
 f119:=Tryz.func110.trans (congrArg some (by kernel_rfl))
 f120:=Tryz.func103.trans (congrArg some (by kernel_rfl))
 f137:=Tryz.func109.trans (congrArg some (by kernel_rfl))
 f151:=Tryz.func94.trans (congrArg some (by kernel_rfl))
 f152:=Tryz.func102.trans (congrArg some (by kernel_rfl))
 f160:=Tryz.func55.trans (congrArg some (by kernel_rfl))
 f197:=Tryz.func93.trans (congrArg some (by kernel_rfl))
 f217:=Tryz.func88.trans (congrArg some (by kernel_rfl))
 f224:=Tryz.func90.trans (congrArg some (by kernel_rfl))
 f225:=Tryz.func89.trans (congrArg some (by kernel_rfl))
 f227:=Tryz.func72.trans (congrArg some (by kernel_rfl))
 f228:=Tryz.func92.trans (congrArg some (by kernel_rfl))
 f231:=Tryz.func71.trans (congrArg some (by kernel_rfl))
 f232:=Tryz.func75.trans (congrArg some (by kernel_rfl))
 f233:=Tryz.func73.trans (congrArg some (by kernel_rfl))
 f234:=Tryz.func76.trans (congrArg some (by kernel_rfl))
 f235:=Tryz.func74.trans (congrArg some (by kernel_rfl))
 f236:=Tryz.func77.trans (congrArg some (by kernel_rfl))
 f260:=Tryz.func101.trans (congrArg some (by kernel_rfl))
 f266:=Tryz.func99.trans (congrArg some (by kernel_rfl))
 f271:=Tryz.func95.trans (congrArg some (by kernel_rfl))
 t0:=Tryz.underlying0
 a0:=Tryz.isAgg0
 z0:=Tryz.sizeOf0
 v0:=Tryz.zeroValue0
 t3:=Tryz.underlying3
 a3:=Tryz.isAgg3
 z3:=Tryz.sizeOf3
 v3:=Tryz.zeroValue3
 t4:=Tryz.underlying4
 a4:=Tryz.isAgg4
 z4:=Tryz.sizeOf4
 v4:=Tryz.zeroValue4
 t5:=Tryz.underlying5
 a5:=Tryz.isAgg5
 z5:=Tryz.sizeOf5
 v5:=Tryz.zeroValue5
 t9:=Tryz.underlying9
 a9:=Tryz.isAgg9
 z9:=Tryz.sizeOf9
 v9:=Tryz.zeroValue9
 t21:=Tryz.underlying21
 a21:=Tryz.isAgg21
 z21:=Tryz.sizeOf21
 v21:=Tryz.zeroValue21
 t46:=Tryz.underlying83
 a46:=Tryz.isAgg83
 z46:=Tryz.sizeOf83
 v46:=Tryz.zeroValue83
 t105:=Tryz.underlying140
 a105:=Tryz.isAgg140
 z105:=Tryz.sizeOf140
 v105:=Tryz.zeroValue140
 t116:=Tryz.underlying128
 a116:=Tryz.isAgg128
 z116:=Tryz.sizeOf128
 t117:=Tryz.underlying129
 a117:=Tryz.isAgg129
 z117:=Tryz.sizeOf129
 v117:=Tryz.zeroValue129
 t119:=Tryz.underlying154
 a119:=Tryz.isAgg154
 z119:=Tryz.sizeOf154
 t124:=Tryz.underlying132
 a124:=Tryz.isAgg132
 z124:=Tryz.sizeOf132
 v124:=Tryz.zeroValue132
 t138:=Tryz.underlying156
 a138:=Tryz.isAgg156
 z138:=Tryz.sizeOf156
 v138:=Tryz.zeroValue156
 t139:=Tryz.underlying157
 a139:=Tryz.isAgg157
 z139:=Tryz.sizeOf157
 v139:=Tryz.zeroValue157
 g3:=by kernel_rfl
 g4:=by kernel_rfl}
def Tryz.lays210_ren:Go.Shelf.Ren:=⟨fun | 210=>97 | 206=>67 | n=>n,fun | 9=>9 | 4=>4 | 3=>3 | n=>n,fun | n=>n⟩
def Tryz.lays103_ren:Go.Shelf.Ren:=⟨fun | 103=>82 | 210=>97 | 206=>67 | n=>n,fun | 9=>9 | 4=>4 | 24=>133 | 3=>3 | n=>n,fun | n=>n⟩
theorem Tryz.lays103:Go.Proofs.Lays.n103 Tryz.prog Tryz.lays103_ren:={
 mixed:=by kernel_rfl
 f103:=Tryz.func82.trans (congrArg some (by kernel_rfl))
 f206:=Tryz.func67.trans (congrArg some (by kernel_rfl))
 f210:=Tryz.func97.trans (congrArg some (by kernel_rfl))
 t3:=Tryz.underlying3
 a3:=Tryz.isAgg3
 z3:=Tryz.sizeOf3
 v3:=Tryz.zeroValue3
 t4:=Tryz.underlying4
 a4:=Tryz.isAgg4
 z4:=Tryz.sizeOf4
 v4:=Tryz.zeroValue4
 t9:=Tryz.underlying9
 a9:=Tryz.isAgg9
 z9:=Tryz.sizeOf9
 v9:=Tryz.zeroValue9
 t24:=Tryz.underlying133
 a24:=Tryz.isAgg133
 z24:=Tryz.sizeOf133
 v24:=Tryz.zeroValue133}
open Go.RowKit in
theorem Tryz.strings_CutPrefix (s p:ByteArray) (w:World):
  Calls Tryz.prog 82 #[.string s,.string p] w fun e w'=>e=.returned (.tuple #[.string ⟨(Lib.trimPrefix s.data.toList p.data.toList).toArray⟩,.bool (Lib.hasPrefix s.data.toList p.data.toList)])/\w'=w:=Any.strings_CutPrefix Tryz.lays103 s p w
open Go.RowKit in
theorem Tryz.Builder_String_any_k (B b:Nat) (l:List UInt8) (w:World) (h:Lib.IsBuilderF 89 5 B b (Lib.byteCells l) w) (hBw:B<=w.heap.size):
  Calls Tryz.prog 44 #[.pointer (some ⟨b,0,none⟩)] w fun e w'=>e=.returned (.string ⟨l.toArray⟩)/\(Lib.IsBuilderF 89 5 B b (Lib.byteCells l) w'/\Below B w w'/\Lib.OthersKept 5 (some b) w w'):=Any.Builder_String_any_k Tryz.lays169 Tryz.Builder_Extra_169 B b l w h hBw
def Tryz.laysC245_ren:Go.Shelf.Ren:=⟨fun | 245=>122 | 279=>125 | 280=>126 | 281=>127 | 282=>128 | 316=>131 | 171=>133 | 205=>132 | 243=>134 | 246=>135 | 283=>136 | 284=>137 | 285=>138 | 286=>139 | 129=>141 | 317=>140 | 318=>142 | 319=>143 | 320=>144 | 337=>145 | 338=>146 | n=>n,fun | 9=>9 | 3=>3 | 75=>92 | 167=>167 | 4=>4 | 168=>170 | 210=>175 | 37=>23 | 0=>0 | 127=>125 | 145=>180 | 143=>178 | 2=>2 | 171=>182 | 53=>122 | 5=>5 | 173=>185 | 212=>188 | 51=>119 | 20=>20 | 213=>189 | 46=>83 | 232=>193 | 233=>194 | 80=>81 | n=>n,fun | 15=>3 | 16=>4 | 17=>5 | 18=>6 | 19=>7 | n=>n⟩
def Tryz.laysC174_ren:Go.Shelf.Ren:=⟨fun | 174=>117 | 247=>121 | 245=>122 | 287=>124 | 279=>125 | 280=>126 | 281=>127 | 282=>128 | 321=>129 | 322=>130 | 316=>131 | 171=>133 | 205=>132 | 243=>134 | 246=>135 | 283=>136 | 284=>137 | 285=>138 | 286=>139 | 129=>141 | 317=>140 | 318=>142 | 319=>143 | 320=>144 | 337=>145 | 338=>146 | n=>n,fun | 9=>9 | 3=>3 | 2=>2 | 75=>92 | 85=>163 | 4=>4 | 167=>167 | 5=>5 | 53=>122 | 175=>168 | 46=>83 | 168=>170 | 37=>23 | 0=>0 | 210=>175 | 21=>21 | 127=>125 | 145=>180 | 143=>178 | 171=>182 | 173=>185 | 212=>188 | 51=>119 | 20=>20 | 213=>189 | 232=>193 | 233=>194 | 80=>81 | n=>n,fun | 15=>3 | 16=>4 | 17=>5 | 18=>6 | 19=>7 | n=>n⟩
theorem Tryz.laysC174:Go.Proofs.LaysC.n174 Tryz.prog Tryz.laysC174_ren:={
 mixed:=by kernel_rfl
 f129:=Tryz.func141.trans (congrArg some (by kernel_rfl))
 f171:=Tryz.func133.trans (congrArg some (by kernel_rfl))
 f174:=Tryz.func117.trans (congrArg some (by kernel_rfl))
 f205:=Tryz.func132.trans (congrArg some (by kernel_rfl))
 f243:=Tryz.func134.trans (congrArg some (by kernel_rfl))
 f245:=Tryz.func122.trans (congrArg some (by kernel_rfl))
 f246:=Tryz.func135.trans (congrArg some (by kernel_rfl))
 f247:=Tryz.func121.trans (congrArg some (by kernel_rfl))
 f279:=Tryz.func125.trans (congrArg some (by kernel_rfl))
 f280:=Tryz.func126.trans (congrArg some (by kernel_rfl))
 f281:=Tryz.func127.trans (congrArg some (by kernel_rfl))
 f282:=Tryz.func128.trans (congrArg some (by kernel_rfl))
 f283:=Tryz.func136.trans (congrArg some (by kernel_rfl))
 f284:=Tryz.func137.trans (congrArg some (by kernel_rfl))
 f285:=Tryz.func138.trans (congrArg some (by kernel_rfl))
 f286:=Tryz.func139.trans (congrArg some (by kernel_rfl))
 f287:=Tryz.func124.trans (congrArg some (by kernel_rfl))
 f316:=Tryz.func131.trans (congrArg some (by kernel_rfl))
 f317:=Tryz.func140.trans (congrArg some (by kernel_rfl))
 f318:=Tryz.func142.trans (congrArg some (by kernel_rfl))
 f319:=Tryz.func143.trans (congrArg some (by kernel_rfl))
 f320:=Tryz.func144.trans (congrArg some (by kernel_rfl))
 f321:=Tryz.func129.trans (congrArg some (by kernel_rfl))
 f322:=Tryz.func130.trans (congrArg some (by kernel_rfl))
 f337:=Tryz.func145.trans (congrArg some (by kernel_rfl))
 f338:=Tryz.func146.trans (congrArg some (by kernel_rfl))
 t0:=Tryz.underlying0
 a0:=Tryz.isAgg0
 z0:=Tryz.sizeOf0
 v0:=Tryz.zeroValue0
 t2:=Tryz.underlying2
 a2:=Tryz.isAgg2
 z2:=Tryz.sizeOf2
 v2:=Tryz.zeroValue2
 t3:=Tryz.underlying3
 a3:=Tryz.isAgg3
 z3:=Tryz.sizeOf3
 v3:=Tryz.zeroValue3
 t4:=Tryz.underlying4
 a4:=Tryz.isAgg4
 z4:=Tryz.sizeOf4
 v4:=Tryz.zeroValue4
 t5:=Tryz.underlying5
 a5:=Tryz.isAgg5
 z5:=Tryz.sizeOf5
 v5:=Tryz.zeroValue5
 t9:=Tryz.underlying9
 a9:=Tryz.isAgg9
 z9:=Tryz.sizeOf9
 v9:=Tryz.zeroValue9
 t20:=Tryz.underlying20
 a20:=Tryz.isAgg20
 z20:=Tryz.sizeOf20
 v20:=Tryz.zeroValue20
 t21:=Tryz.underlying21
 a21:=Tryz.isAgg21
 z21:=Tryz.sizeOf21
 v21:=Tryz.zeroValue21
 t37:=Tryz.underlying23
 a37:=Tryz.isAgg23
 z37:=Tryz.sizeOf23
 v37:=Tryz.zeroValue23
 t46:=Tryz.underlying83
 a46:=Tryz.isAgg83
 z46:=Tryz.sizeOf83
 v46:=Tryz.zeroValue83
 t51:=Tryz.underlying119
 a51:=Tryz.isAgg119
 z51:=Tryz.sizeOf119
 v51:=Tryz.zeroValue119
 t53:=Tryz.underlying122
 a53:=Tryz.isAgg122
 z53:=Tryz.sizeOf122
 v53:=Tryz.zeroValue122
 t75:=Tryz.underlying92
 a75:=Tryz.isAgg92
 z75:=Tryz.sizeOf92
 v75:=Tryz.zeroValue92
 t85:=Tryz.underlying163
 a85:=Tryz.isAgg163
 z85:=Tryz.sizeOf163
 v85:=Tryz.zeroValue163
 t127:=Tryz.underlying125
 a127:=Tryz.isAgg125
 z127:=Tryz.sizeOf125
 v127:=Tryz.zeroValue125
 t143:=Tryz.underlying178
 a143:=Tryz.isAgg178
 z143:=Tryz.sizeOf178
 v143:=Tryz.zeroValue178
 t145:=Tryz.underlying180
 a145:=Tryz.isAgg180
 z145:=Tryz.sizeOf180
 v145:=Tryz.zeroValue180
 t167:=Tryz.underlying167
 a167:=Tryz.isAgg167
 z167:=Tryz.sizeOf167
 v167:=Tryz.zeroValue167
 t168:=Tryz.underlying170
 a168:=Tryz.isAgg170
 z168:=Tryz.sizeOf170
 v168:=Tryz.zeroValue170
 t171:=Tryz.underlying182
 a171:=Tryz.isAgg182
 z171:=Tryz.sizeOf182
 v171:=Tryz.zeroValue182
 t173:=Tryz.underlying185
 a173:=Tryz.isAgg185
 z173:=Tryz.sizeOf185
 v173:=Tryz.zeroValue185
 t175:=Tryz.underlying168
 a175:=Tryz.isAgg168
 z175:=Tryz.sizeOf168
 v175:=Tryz.zeroValue168
 t210:=Tryz.underlying175
 a210:=Tryz.isAgg175
 z210:=Tryz.sizeOf175
 v210:=Tryz.zeroValue175
 t212:=Tryz.underlying188
 a212:=Tryz.isAgg188
 z212:=Tryz.sizeOf188
 v212:=Tryz.zeroValue188
 t213:=Tryz.underlying189
 a213:=Tryz.isAgg189
 z213:=Tryz.sizeOf189
 t232:=Tryz.underlying193
 a232:=Tryz.isAgg193
 z232:=Tryz.sizeOf193
 v232:=Tryz.zeroValue193
 t233:=Tryz.underlying194
 a233:=Tryz.isAgg194
 z233:=Tryz.sizeOf194
 v233:=Tryz.zeroValue194
 g15:=by kernel_rfl
 g16:=by kernel_rfl
 g17:=by kernel_rfl
 g18:=by kernel_rfl
 g19:=by kernel_rfl
 t80:=Tryz.underlying81
 a80:=Tryz.isAgg81
 z80:=Tryz.sizeOf81
 v80:=Tryz.zeroValue81
 i0:=by kernel_rfl
 i2:=by kernel_rfl
 i3:=by kernel_rfl
 i4:=by kernel_rfl
 i5:=by kernel_rfl
 i9:=by kernel_rfl
 i20:=by kernel_rfl
 i21:=by kernel_rfl
 i37:=by kernel_rfl
 i46:=by kernel_rfl
 i51:=by kernel_rfl
 i53:=by kernel_rfl
 i75:=by kernel_rfl
 i80:=by kernel_rfl
 i85:=by kernel_rfl
 i127:=by kernel_rfl
 i143:=by kernel_rfl
 i145:=by kernel_rfl
 i167:=by kernel_rfl
 i168:=by kernel_rfl
 i171:=by kernel_rfl
 i173:=by kernel_rfl
 i175:=by kernel_rfl
 i210:=by kernel_rfl
 i212:=by kernel_rfl
 i232:=by kernel_rfl
 i233:=by kernel_rfl
 m15:=by kernel_rfl
 m16:=by kernel_rfl
 m17:=by kernel_rfl
 m18:=by kernel_rfl
 m19:=by kernel_rfl
 c0:=by kernel_rfl
 c2:=by kernel_rfl
 c3:=by kernel_rfl
 c4:=by kernel_rfl
 c5:=by kernel_rfl
 c9:=by kernel_rfl
 c20:=by kernel_rfl
 c21:=by kernel_rfl
 c37:=by kernel_rfl
 c46:=by kernel_rfl
 c51:=by kernel_rfl
 c53:=by kernel_rfl
 c75:=by kernel_rfl
 c80:=by kernel_rfl
 c85:=by kernel_rfl
 c127:=by kernel_rfl
 c143:=by kernel_rfl
 c145:=by kernel_rfl
 c167:=by kernel_rfl
 c168:=by kernel_rfl
 c171:=by kernel_rfl
 c173:=by kernel_rfl
 c175:=by kernel_rfl
 c210:=by kernel_rfl
 c212:=by kernel_rfl
 c213:=by kernel_rfl
 c232:=by kernel_rfl
 c233:=by kernel_rfl}
open Go.RowKit in
theorem Tryz.strconv_ParseInt_10_at64_ok (s:ByteArray) (hmax:s.size<=9223372036854775806) (v:Int) (h:Lib.parseIntB 64 s.data.toList=.ok v) (w:World):
  Calls Tryz.prog 117 #[.string s,.int .i64 10,.int .i64 64] w fun e w'=>e=.returned (.tuple #[.int .i64 v,.nilIface])/\(w'=w\/∃ t,w'=Lib.bytesWorld w 5 t):=Any.strconv_ParseInt_10_at64_ok Tryz.laysC174 s hmax v h w
open Go.RowKit in
theorem Tryz.strconv_ParseInt_10_at64_range_var (s:ByteArray) (hlim:s.size<=281474976710656) (h:Lib.parseIntB 64 s.data.toList=.range) (tp:TypeId) (p:Value) (w:World) (hvar:w.var? Tryz.prog "strconv.ErrRange" =some #[.iface tp p]):
  Calls Tryz.prog 117 #[.string s,.int .i64 10,.int .i64 64] w fun e w'=>∃ N,e=.returned (.tuple #[.int .i64 (Lib.intSat 64 s.data.toList),.iface 170 (.pointer (some ⟨N,0,none⟩))])/\w.heap.size<=N/\w'.heap[N]? =some (.cells #[.string ⟨#[80,97,114,115,101,73,110,116]⟩,.string s,.iface tp p] 175 (0,0))/\Below w.heap.size w w':=Any.strconv_ParseInt_10_at64_range_var Tryz.laysC174 s hlim h tp p w hvar
def Tryz.lays219_ren:Go.Shelf.Ren:=⟨fun | 219=>70 | 217=>88 | 225=>89 | 224=>90 | 267=>91 | 266=>99 | 314=>100 | n=>n,fun | 9=>9 | 3=>3 | 4=>4 | 5=>5 | 46=>83 | 146=>120 | 51=>119 | n=>n,fun | 1=>0 | n=>n⟩
def Tryz.lays143_ren:Go.Shelf.Ren:=⟨fun | 143=>49 | 219=>70 | 217=>88 | 225=>89 | 224=>90 | 267=>91 | 266=>99 | 314=>100 | n=>n,fun | 9=>9 | 3=>3 | 4=>4 | 5=>5 | 46=>83 | 146=>120 | 51=>119 | n=>n,fun | 1=>0 | n=>n⟩
theorem Tryz.lays143:Go.Proofs.Lays.n143 Tryz.prog Tryz.lays143_ren:={
 mixed:=by kernel_rfl
 f143:=Tryz.func49.trans (congrArg some (by kernel_rfl))
 f217:=Tryz.func88.trans (congrArg some (by kernel_rfl))
 f219:=Tryz.func70.trans (congrArg some (by kernel_rfl))
 f224:=Tryz.func90.trans (congrArg some (by kernel_rfl))
 f225:=Tryz.func89.trans (congrArg some (by kernel_rfl))
 f266:=Tryz.func99.trans (congrArg some (by kernel_rfl))
 f267:=Tryz.func91.trans (congrArg some (by kernel_rfl))
 f314:=Tryz.func100.trans (congrArg some (by kernel_rfl))
 t3:=Tryz.underlying3
 a3:=Tryz.isAgg3
 z3:=Tryz.sizeOf3
 v3:=Tryz.zeroValue3
 t4:=Tryz.underlying4
 a4:=Tryz.isAgg4
 z4:=Tryz.sizeOf4
 v4:=Tryz.zeroValue4
 t5:=Tryz.underlying5
 a5:=Tryz.isAgg5
 z5:=Tryz.sizeOf5
 v5:=Tryz.zeroValue5
 t9:=Tryz.underlying9
 a9:=Tryz.isAgg9
 z9:=Tryz.sizeOf9
 v9:=Tryz.zeroValue9
 t46:=Tryz.underlying83
 a46:=Tryz.isAgg83
 z46:=Tryz.sizeOf83
 v46:=Tryz.zeroValue83
 t51:=Tryz.underlying119
 a51:=Tryz.isAgg119
 z51:=Tryz.sizeOf119
 v51:=Tryz.zeroValue119
 t146:=Tryz.underlying120
 a146:=Tryz.isAgg120
 z146:=Tryz.sizeOf120
 v146:=Tryz.zeroValue120
 g1:=by kernel_rfl}
open Go.RowKit Go.Lib in
theorem Tryz.strings_Index (s sub:ByteArray) (m:Int) (w:World) (hs:s.size < 4294967281) (hm:w.cell? ⟨0,0,none⟩=some (.int .i64 m)):
  Calls Tryz.prog 49 #[.string s,.string sub] w fun e w'=>e=.returned (.int .i64 (Lib.index s.data.toList sub.data.toList))/\w'=w:=Any.strings_Index Tryz.lays143 s sub m w hs hm
def Tryz.laysM143_ren:Go.Shelf.Ren:=⟨fun | 143=>49 | 219=>70 | 217=>88 | 225=>89 | 224=>90 | 267=>91 | 266=>99 | 314=>100 | n=>n,fun | 9=>9 | 3=>3 | 4=>4 | 5=>5 | 46=>83 | 146=>120 | 51=>119 | n=>n,fun | 1=>0 | n=>n⟩
theorem Tryz.laysM143:Go.Proofs.LaysM.n143 Tryz.prog Tryz.laysM143_ren:={
 mixed:=by kernel_rfl
 f143:=Tryz.func49.trans (congrArg some (by kernel_rfl))
 f217:=Tryz.func88.trans (congrArg some (by kernel_rfl))
 f219:=Tryz.func70.trans (congrArg some (by kernel_rfl))
 f224:=Tryz.func90.trans (congrArg some (by kernel_rfl))
 f225:=Tryz.func89.trans (congrArg some (by kernel_rfl))
 f266:=Tryz.func99.trans (congrArg some (by kernel_rfl))
 f267:=Tryz.func91.trans (congrArg some (by kernel_rfl))
 f314:=Tryz.func100.trans (congrArg some (by kernel_rfl))
 t3:=Tryz.underlying3
 a3:=Tryz.isAgg3
 z3:=Tryz.sizeOf3
 v3:=Tryz.zeroValue3
 t4:=Tryz.underlying4
 a4:=Tryz.isAgg4
 z4:=Tryz.sizeOf4
 v4:=Tryz.zeroValue4
 t5:=Tryz.underlying5
 a5:=Tryz.isAgg5
 z5:=Tryz.sizeOf5
 v5:=Tryz.zeroValue5
 t9:=Tryz.underlying9
 a9:=Tryz.isAgg9
 z9:=Tryz.sizeOf9
 v9:=Tryz.zeroValue9
 t46:=Tryz.underlying83
 a46:=Tryz.isAgg83
 z46:=Tryz.sizeOf83
 v46:=Tryz.zeroValue83
 t51:=Tryz.underlying119
 a51:=Tryz.isAgg119
 z51:=Tryz.sizeOf119
 v51:=Tryz.zeroValue119
 t146:=Tryz.underlying120
 a146:=Tryz.isAgg120
 z146:=Tryz.sizeOf120
 v146:=Tryz.zeroValue120
 g1:=by kernel_rfl
 i3:=by kernel_rfl
 i4:=by kernel_rfl
 i5:=by kernel_rfl
 i9:=by kernel_rfl
 i46:=by kernel_rfl
 i51:=by kernel_rfl
 i146:=by kernel_rfl
 m1:=by kernel_rfl
 s1_3:=fun w h=>Go.Proofs.cell_of_shapedOpen_int (zero:=#[.int .i64 0]) (t:=3) h (of_decide_eq_true (by kernel_rfl)) (by kernel_rfl) rfl (by kernel_rfl) (by kernel_rfl) Tryz.underlying3}
def Tryz.lays99_ren:Go.Shelf.Ren:=⟨fun | 99=>40 | 206=>67 | n=>n,fun | 9=>9 | 4=>4 | 3=>3 | n=>n,fun | n=>n⟩
theorem Tryz.lays99:Go.Proofs.Lays.n99 Tryz.prog Tryz.lays99_ren:={
 mixed:=by kernel_rfl
 f99:=Tryz.func40.trans (congrArg some (by kernel_rfl))
 f206:=Tryz.func67.trans (congrArg some (by kernel_rfl))
 t3:=Tryz.underlying3
 a3:=Tryz.isAgg3
 z3:=Tryz.sizeOf3
 v3:=Tryz.zeroValue3
 t4:=Tryz.underlying4
 a4:=Tryz.isAgg4
 z4:=Tryz.sizeOf4
 v4:=Tryz.zeroValue4
 t9:=Tryz.underlying9
 a9:=Tryz.isAgg9
 z9:=Tryz.sizeOf9
 v9:=Tryz.zeroValue9}
open Go.RowKit Go.Lib in
theorem Tryz.strings_HasPrefix (s p:ByteArray) (w:World):
  Calls Tryz.prog 40 #[.string s,.string p] w fun e w'=>e=.returned (.bool (Lib.hasPrefix s.data.toList p.data.toList))/\w'=w:=Any.strings_HasPrefix Tryz.lays99 s p w
def Tryz.lays100_ren:Go.Shelf.Ren:=⟨fun | 100=>54 | 207=>78 | n=>n,fun | 9=>9 | 4=>4 | 3=>3 | n=>n,fun | n=>n⟩
theorem Tryz.lays100:Go.Proofs.Lays.n100 Tryz.prog Tryz.lays100_ren:={
 mixed:=by kernel_rfl
 f100:=Tryz.func54.trans (congrArg some (by kernel_rfl))
 f207:=Tryz.func78.trans (congrArg some (by kernel_rfl))
 t3:=Tryz.underlying3
 a3:=Tryz.isAgg3
 z3:=Tryz.sizeOf3
 v3:=Tryz.zeroValue3
 t4:=Tryz.underlying4
 a4:=Tryz.isAgg4
 z4:=Tryz.sizeOf4
 v4:=Tryz.zeroValue4
 t9:=Tryz.underlying9
 a9:=Tryz.isAgg9
 z9:=Tryz.sizeOf9
 v9:=Tryz.zeroValue9}
open Go.RowKit Go.Lib in
theorem Tryz.strings_HasSuffix (s p:ByteArray) (w:World) (hs:s.size<=9223372036854775807):
  Calls Tryz.prog 54 #[.string s,.string p] w fun e w'=>e=.returned (.bool (Lib.hasSuffix s.data.toList p.data.toList))/\w'=w:=Any.strings_HasSuffix Tryz.lays100 s p w hs
def Tryz.lays101_ren:Go.Shelf.Ren:=⟨fun | 101=>119 | 208=>123 | 206=>67 | n=>n,fun | 9=>9 | 4=>4 | 3=>3 | n=>n,fun | n=>n⟩
theorem Tryz.lays101:Go.Proofs.Lays.n101 Tryz.prog Tryz.lays101_ren:={
 mixed:=by kernel_rfl
 f101:=Tryz.func119.trans (congrArg some (by kernel_rfl))
 f206:=Tryz.func67.trans (congrArg some (by kernel_rfl))
 f208:=Tryz.func123.trans (congrArg some (by kernel_rfl))
 t3:=Tryz.underlying3
 a3:=Tryz.isAgg3
 z3:=Tryz.sizeOf3
 v3:=Tryz.zeroValue3
 t4:=Tryz.underlying4
 a4:=Tryz.isAgg4
 z4:=Tryz.sizeOf4
 v4:=Tryz.zeroValue4
 t9:=Tryz.underlying9
 a9:=Tryz.isAgg9
 z9:=Tryz.sizeOf9
 v9:=Tryz.zeroValue9}
open Go.RowKit Go.Lib in
theorem Tryz.strings_TrimPrefix (s p:ByteArray) (w:World):
  Calls Tryz.prog 119 #[.string s,.string p] w fun e w'=>e=.returned (.string ⟨(Lib.trimPrefix s.data.toList p.data.toList).toArray⟩)/\w'=w:=Any.strings_TrimPrefix Tryz.lays101 s p w
end Go.Proofs
