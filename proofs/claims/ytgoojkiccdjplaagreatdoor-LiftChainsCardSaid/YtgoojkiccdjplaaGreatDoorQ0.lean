/-
  Parts of this claim's texts, one behind the other: S. No condition.
-/
import Derived.Shelf.Strings.Builder1
import Derived.Shelf.Small.Utf8
import Derived.Shelf.Small.Bits
import Derived.Shelf.Small.Wraps
import Derived.Shelf.Strings.BuilderF
import Derived.Shelf.Strings.BuilderK
import Derived.Shelf.Utf8.AppendRune
import Derived.Shelf.Utf8.AppendRunePlain
import Derived.Shelf.Strconv.Bsearch
import Derived.Shelf.Strconv.IsPrint
import Derived.Shelf.Strconv.IsPrint16
import Derived.Shelf.Strconv.IsPrint32
import Derived.Shelf.Strconv.Escaped
import Derived.Shelf.Strconv.Quoted
import Derived.Shelf.Strconv.Quote
import Derived.Shelf.Strconv.Itoa0
import Derived.Shelf.Strconv.Itoa1
import Derived.Shelf.LaysM
import Derived.Shelf.Strconv.Itoa2
import Derived.Shelf.Strconv.Itoa3
import Derived.Shelf.Strings.Fields
import Derived.Shelf.Strings.SplitShaped
import Derived.Shelf.Unicode.Latin
import Derived.Shelf.Unicode.Decode
import Derived.Shelf.Bits.Mul64
import Derived.Shelf.Unicode.DecodeSlow
import Derived.Shelf.Unicode.DecodeAny
import Derived.Shelf.Unicode.Is16White
import Derived.Shelf.Unicode.IsSpaceAny
import Derived.Shelf.Unicode.Is16WhiteD
import Derived.Shelf.Unicode.IsSpaceAnyD
import Derived.Shelf.Strings.FieldsAny
import Derived.Shelf.Strings.FieldsFuncAny
import Derived.Shelf.Unicode.Is16Any
import Derived.Shelf.Unicode.Is32Any
import Derived.Shelf.Unicode.ExclAny
import Derived.Shelf.Strings.BuilderCap
import Derived.Shelf.Slices.Turned
import Derived.Shelf.Slices.Equal
import Derived.Ground.Names2Prog
import Derived.Shelf.Slices.Clone
import Derived.Shelf.Slices.SearchI
import Derived.Shelf.Slices.Empties2
import Derived.Test.YtgoojkiccdjplaaGreatDoorProg
set_option linter.unusedVariables false
set_option linter.unusedSimpArgs false
set_option maxRecDepth 100000
set_option maxHeartbeats 16000000
namespace Go.Proofs
open Go.Shelf
def Tryz.lays169_ren:Go.Shelf.Ren:=⟨fun | 169=>179 | n=>n,fun | 70=>213 | 9=>9 | 0=>0 | 72=>216 | 37=>214 | 127=>244 | 3=>3 | 5=>5 | n=>n,fun | n=>n⟩
theorem Tryz.lays169:Go.Proofs.Lays.n169 Tryz.prog Tryz.lays169_ren:={
 mixed:=by kernel_rfl
 f169:=Tryz.func179.trans (congrArg some (by kernel_rfl))
 t0:=Tryz.underlying0
 a0:=Tryz.isAgg0
 z0:=Tryz.sizeOf0
 v0:=Tryz.zeroValue0
 t3:=Tryz.underlying3
 a3:=Tryz.isAgg3
 z3:=Tryz.sizeOf3
 v3:=Tryz.zeroValue3
 t9:=Tryz.underlying9
 a9:=Tryz.isAgg9
 z9:=Tryz.sizeOf9
 v9:=Tryz.zeroValue9
 t37:=Tryz.underlying214
 a37:=Tryz.isAgg214
 z37:=Tryz.sizeOf214
 v37:=Tryz.zeroValue214
 t70:=Tryz.underlying213
 a70:=Tryz.isAgg213
 z70:=Tryz.sizeOf213
 v70:=Tryz.zeroValue213
 t72:=Tryz.underlying216
 a72:=Tryz.isAgg216
 z72:=Tryz.sizeOf216
 v72:=Tryz.zeroValue216
 t127:=Tryz.underlying244
 a127:=Tryz.isAgg244
 z127:=Tryz.sizeOf244
 v127:=Tryz.zeroValue244 }
theorem Tryz.Builder_Extra_169:Builder.Extra Tryz.prog Tryz.lays169_ren:={
 sizeBuilder:=by kernel_rfl
 liesBuilder:=by kernel_rfl
 t5:=Tryz.underlying5
 a5:=Tryz.isAgg5
 z5:=Tryz.sizeOf5
 v5:=Tryz.zeroValue5
 infoByte:=by kernel_rfl
 cellsByte:=by kernel_rfl
 sizeByte:=by kernel_rfl
 neB5:=by decide }
open Go.RowKit in
theorem Tryz.Builder_String_any (B b:Nat) (l:List UInt8) (w:World) (h:Lib.IsBuilder 216 5 B b (Lib.byteCells l) w) (a:B<=w.heap.size) :
  Calls Tryz.prog 179 #[.pointer (some ⟨b,0,none⟩)] w fun e w'=>e = .returned (.string ⟨l.toArray⟩)/\Below B w w':=Any.Builder_String_any Tryz.lays169 Tryz.Builder_Extra_169 B b l w h a
def Tryz.lays134_ren:Go.Shelf.Ren:=⟨fun | 134=>199 | 129=>231 | n=>n,fun | 53=>177 | 3=>3 | 4=>4 | 46=>233 | 5=>5 | 9=>9 | n=>n,fun | n=>n⟩
theorem Tryz.lays134:Go.Proofs.Lays.n134 Tryz.prog Tryz.lays134_ren:={
 mixed:=by kernel_rfl
 f129:=Tryz.func231.trans (congrArg some (by kernel_rfl))
 f134:=Tryz.func199.trans (congrArg some (by kernel_rfl))
 t3:=Tryz.underlying3
 a3:=Tryz.isAgg3
 z3:=Tryz.sizeOf3
 v3:=Tryz.zeroValue3
 t4:=Tryz.underlying4
 a4:=Tryz.isAgg4
 z4:=Tryz.sizeOf4
 v4:=Tryz.zeroValue4
 t5:=Tryz.underlying5
 a5:=Tryz.isAgg5
 z5:=Tryz.sizeOf5
 v5:=Tryz.zeroValue5
 t9:=Tryz.underlying9
 a9:=Tryz.isAgg9
 z9:=Tryz.sizeOf9
 v9:=Tryz.zeroValue9
 t46:=Tryz.underlying233
 a46:=Tryz.isAgg233
 z46:=Tryz.sizeOf233
 v46:=Tryz.zeroValue233
 t53:=Tryz.underlying177
 a53:=Tryz.isAgg177
 z53:=Tryz.sizeOf177
 v53:=Tryz.zeroValue177 }
theorem Tryz.bits_LeadingZeros64 (x:Int) (w:World) (a:0<=x) (b:x<=18446744073709551615) :
  Calls Tryz.prog 199 #[.int .u64 x] w fun e w'=>e = .returned (.int .i64 (64 - (Lib.bitLen x.toNat:Int)))/\w'=w:=Any.bits_LeadingZeros64 Tryz.lays134 x w a b
def Tryz.lays214_ren:Go.Shelf.Ren:=⟨fun | 214=>208 | n=>n,fun | 4=>4 | 9=>9 | n=>n,fun | n=>n⟩
def Tryz.lays121_ren:Go.Shelf.Ren:=⟨fun | 121=>177 | 214=>208 | n=>n,fun | 4=>4 | 9=>9 | n=>n,fun | n=>n⟩
theorem Tryz.lays121:Go.Proofs.Lays.n121 Tryz.prog Tryz.lays121_ren:={
 mixed:=by kernel_rfl
 f121:=Tryz.func177.trans (congrArg some (by kernel_rfl))
 f214:=Tryz.func208.trans (congrArg some (by kernel_rfl))
 t4:=Tryz.underlying4
 a4:=Tryz.isAgg4
 z4:=Tryz.sizeOf4
 v4:=Tryz.zeroValue4
 t9:=Tryz.underlying9
 a9:=Tryz.isAgg9
 z9:=Tryz.sizeOf9
 v9:=Tryz.zeroValue9 }
open Go.RowKit in
theorem Tryz.strconv_FormatBool (b:Bool) (w:World) :
  Calls Tryz.prog 177 #[.bool b] w fun e w'=>e = .returned (.string ⟨(Lib.formatBool b).toArray⟩)/\w'=w:=Any.strconv_FormatBool Tryz.lays121 b w
def Tryz.lays215_ren:Go.Shelf.Ren:=⟨fun | 215=>195 | n=>n,fun | 3=>3 | 4=>4 | n=>n,fun | n=>n⟩
def Tryz.lays122_ren:Go.Shelf.Ren:=⟨fun | 122=>168 | 215=>195 | n=>n,fun | 3=>3 | 4=>4 | n=>n,fun | n=>n⟩
theorem Tryz.lays122:Go.Proofs.Lays.n122 Tryz.prog Tryz.lays122_ren:={
 mixed:=by kernel_rfl
 f122:=Tryz.func168.trans (congrArg some (by kernel_rfl))
 f215:=Tryz.func195.trans (congrArg some (by kernel_rfl))
 t3:=Tryz.underlying3
 a3:=Tryz.isAgg3
 z3:=Tryz.sizeOf3
 v3:=Tryz.zeroValue3
 t4:=Tryz.underlying4
 a4:=Tryz.isAgg4
 z4:=Tryz.sizeOf4
 v4:=Tryz.zeroValue4 }
open Go.RowKit in
theorem Tryz.cmp_Compare_int (x y:Int) (w:World) :
  Calls Tryz.prog 168 #[.int .i64 x,.int .i64 y] w fun e w'=>e = .returned (.int .i64 (Lib.compareInt x y))/\w'=w:=Any.cmp_Compare_int Tryz.lays122 x y w
def Tryz.lays339_ren:Go.Shelf.Ren:=⟨fun | 339=>264 | 345=>268 | 346=>269 | n=>n,fun | 21=>21 | 4=>4 | 49=>294 | 234=>311 | 131=>137 | 3=>3 | 0=>0 | 51=>261 | 236=>313 | 46=>233 | n=>n,fun | 20=>9 | 21=>10 | 22=>11 | 23=>12 | n=>n⟩
theorem Tryz.lays339:Go.Proofs.Lays.n339 Tryz.prog Tryz.lays339_ren:={
 mixed:=by kernel_rfl
 f339:=Tryz.func264.trans (congrArg some (by kernel_rfl))
 f345:=Tryz.func268.trans (congrArg some (by kernel_rfl))
 f346:=Tryz.func269.trans (congrArg some (by kernel_rfl))
 t0:=Tryz.underlying0
 a0:=Tryz.isAgg0
 z0:=Tryz.sizeOf0
 v0:=Tryz.zeroValue0
 t3:=Tryz.underlying3
 a3:=Tryz.isAgg3
 z3:=Tryz.sizeOf3
 v3:=Tryz.zeroValue3
 t4:=Tryz.underlying4
 a4:=Tryz.isAgg4
 z4:=Tryz.sizeOf4
 v4:=Tryz.zeroValue4
 t21:=Tryz.underlying21
 a21:=Tryz.isAgg21
 z21:=Tryz.sizeOf21
 v21:=Tryz.zeroValue21
 t46:=Tryz.underlying233
 a46:=Tryz.isAgg233
 z46:=Tryz.sizeOf233
 v46:=Tryz.zeroValue233
 t49:=Tryz.underlying294
 a49:=Tryz.isAgg294
 z49:=Tryz.sizeOf294
 v49:=Tryz.zeroValue294
 t51:=Tryz.underlying261
 a51:=Tryz.isAgg261
 z51:=Tryz.sizeOf261
 v51:=Tryz.zeroValue261
 t131:=Tryz.underlying137
 a131:=Tryz.isAgg137
 z131:=Tryz.sizeOf137
 v131:=Tryz.zeroValue137
 t234:=Tryz.underlying311
 a234:=Tryz.isAgg311
 z234:=Tryz.sizeOf311
 v234:=Tryz.zeroValue311
 t236:=Tryz.underlying313
 a236:=Tryz.isAgg313
 z236:=Tryz.sizeOf313
 v236:=Tryz.zeroValue313
 g20:=by kernel_rfl
 g21:=by kernel_rfl
 g22:=by kernel_rfl
 g23:=by kernel_rfl }
def Tryz.lays289_ren:Go.Shelf.Ren:=⟨fun | 289=>241 | 197=>256 | 323=>257 | 260=>263 | 339=>264 | 340=>265 | 242=>266 | 119=>267 | 345=>268 | 346=>269 | 278=>270 | n=>n,fun | 37=>214 | 9=>9 | 5=>5 | 4=>4 | 3=>3 | 21=>21 | 105=>287 | 46=>233 | 119=>250 | 0=>0 | 139=>310 | 138=>309 | 49=>294 | 234=>311 | 131=>137 | 51=>261 | 236=>313 | n=>n,fun | 3=>7 | 4=>8 | 20=>9 | 21=>10 | 22=>11 | 23=>12 | 24=>13 | n=>n⟩
def Tryz.lays250_ren:Go.Shelf.Ren:=⟨fun | 250=>207 | 289=>241 | 197=>256 | 323=>257 | 260=>263 | 339=>264 | 340=>265 | 242=>266 | 119=>267 | 345=>268 | 346=>269 | 278=>270 | n=>n,fun | 9=>9 | 5=>5 | 4=>4 | 3=>3 | 37=>214 | 21=>21 | 105=>287 | 46=>233 | 119=>250 | 0=>0 | 139=>310 | 138=>309 | 49=>294 | 234=>311 | 131=>137 | 51=>261 | 236=>313 | n=>n,fun | 3=>7 | 4=>8 | 20=>9 | 21=>10 | 22=>11 | 23=>12 | 24=>13 | n=>n⟩
def Tryz.lays177_ren:Go.Shelf.Ren:=⟨fun | 177=>176 | 250=>207 | 289=>241 | 197=>256 | 323=>257 | 260=>263 | 339=>264 | 340=>265 | 242=>266 | 119=>267 | 345=>268 | 346=>269 | 278=>270 | n=>n,fun | 9=>9 | 5=>5 | 4=>4 | 3=>3 | 37=>214 | 21=>21 | 105=>287 | 46=>233 | 119=>250 | 0=>0 | 139=>310 | 138=>309 | 49=>294 | 234=>311 | 131=>137 | 51=>261 | 236=>313 | n=>n,fun | 3=>7 | 4=>8 | 20=>9 | 21=>10 | 22=>11 | 23=>12 | 24=>13 | n=>n⟩
theorem Tryz.lays177:Go.Proofs.Lays.n177 Tryz.prog Tryz.lays177_ren:={
 mixed:=by kernel_rfl
 f119:=Tryz.func267.trans (congrArg some (by kernel_rfl))
 f177:=Tryz.func176.trans (congrArg some (by kernel_rfl))
 f197:=Tryz.func256.trans (congrArg some (by kernel_rfl))
 f242:=Tryz.func266.trans (congrArg some (by kernel_rfl))
 f250:=Tryz.func207.trans (congrArg some (by kernel_rfl))
 f260:=Tryz.func263.trans (congrArg some (by kernel_rfl))
 f278:=Tryz.func270.trans (congrArg some (by kernel_rfl))
 f289:=Tryz.func241.trans (congrArg some (by kernel_rfl))
 f323:=Tryz.func257.trans (congrArg some (by kernel_rfl))
 f339:=Tryz.func264.trans (congrArg some (by kernel_rfl))
 f340:=Tryz.func265.trans (congrArg some (by kernel_rfl))
 f345:=Tryz.func268.trans (congrArg some (by kernel_rfl))
 f346:=Tryz.func269.trans (congrArg some (by kernel_rfl))
 t0:=Tryz.underlying0
 a0:=Tryz.isAgg0
 z0:=Tryz.sizeOf0
 v0:=Tryz.zeroValue0
 t3:=Tryz.underlying3
 a3:=Tryz.isAgg3
 z3:=Tryz.sizeOf3
 v3:=Tryz.zeroValue3
 t4:=Tryz.underlying4
 a4:=Tryz.isAgg4
 z4:=Tryz.sizeOf4
 v4:=Tryz.zeroValue4
 t5:=Tryz.underlying5
 a5:=Tryz.isAgg5
 z5:=Tryz.sizeOf5
 v5:=Tryz.zeroValue5
 t9:=Tryz.underlying9
 a9:=Tryz.isAgg9
 z9:=Tryz.sizeOf9
 v9:=Tryz.zeroValue9
 t21:=Tryz.underlying21
 a21:=Tryz.isAgg21
 z21:=Tryz.sizeOf21
 v21:=Tryz.zeroValue21
 t37:=Tryz.underlying214
 a37:=Tryz.isAgg214
 z37:=Tryz.sizeOf214
 v37:=Tryz.zeroValue214
 t46:=Tryz.underlying233
 a46:=Tryz.isAgg233
 z46:=Tryz.sizeOf233
 v46:=Tryz.zeroValue233
 t49:=Tryz.underlying294
 a49:=Tryz.isAgg294
 z49:=Tryz.sizeOf294
 v49:=Tryz.zeroValue294
 t51:=Tryz.underlying261
 a51:=Tryz.isAgg261
 z51:=Tryz.sizeOf261
 v51:=Tryz.zeroValue261
 t105:=Tryz.underlying287
 a105:=Tryz.isAgg287
 z105:=Tryz.sizeOf287
 v105:=Tryz.zeroValue287
 t119:=Tryz.underlying250
 a119:=Tryz.isAgg250
 z119:=Tryz.sizeOf250
 t131:=Tryz.underlying137
 a131:=Tryz.isAgg137
 z131:=Tryz.sizeOf137
 v131:=Tryz.zeroValue137
 t138:=Tryz.underlying309
 a138:=Tryz.isAgg309
 z138:=Tryz.sizeOf309
 v138:=Tryz.zeroValue309
 t139:=Tryz.underlying310
 a139:=Tryz.isAgg310
 z139:=Tryz.sizeOf310
 v139:=Tryz.zeroValue310
 t234:=Tryz.underlying311
 a234:=Tryz.isAgg311
 z234:=Tryz.sizeOf311
 v234:=Tryz.zeroValue311
 t236:=Tryz.underlying313
 a236:=Tryz.isAgg313
 z236:=Tryz.sizeOf313
 v236:=Tryz.zeroValue313
 g3:=by kernel_rfl
 g4:=by kernel_rfl
 g20:=by kernel_rfl
 g21:=by kernel_rfl
 g22:=by kernel_rfl
 g23:=by kernel_rfl
 g24:=by kernel_rfl }
open Go.RowKit in
theorem Tryz.strconv_Quote (T:Lib.PrintTabs) (s:ByteArray) (w:World) (c:10 * s.size+12<=140737488355328) (a:Lib.PrintTabsAt 9 10 11 12 T w) (b:Lib.Utf8Tabs 7 8 w) :
  Calls Tryz.prog 176 #[.string s] w fun e w'=>e = .returned (.string (strOfNums (Lib.quoteZ T s)))/\Below w.heap.size w w':=Any.strconv_Quote Tryz.lays177 (by kernel_rfl) T s w c a b
def Tryz.lays129_ren:Go.Shelf.Ren:=⟨fun | 129=>231 | n=>n,fun | 53=>177 | 3=>3 | 4=>4 | 46=>233 | 5=>5 | 9=>9 | n=>n,fun | n=>n⟩
theorem Tryz.lays129:Go.Proofs.Lays.n129 Tryz.prog Tryz.lays129_ren:={
 mixed:=by kernel_rfl
 f129:=Tryz.func231.trans (congrArg some (by kernel_rfl))
 t3:=Tryz.underlying3
 a3:=Tryz.isAgg3
 z3:=Tryz.sizeOf3
 v3:=Tryz.zeroValue3
 t4:=Tryz.underlying4
 a4:=Tryz.isAgg4
 z4:=Tryz.sizeOf4
 v4:=Tryz.zeroValue4
 t5:=Tryz.underlying5
 a5:=Tryz.isAgg5
 z5:=Tryz.sizeOf5
 v5:=Tryz.zeroValue5
 t9:=Tryz.underlying9
 a9:=Tryz.isAgg9
 z9:=Tryz.sizeOf9
 v9:=Tryz.zeroValue9
 t46:=Tryz.underlying233
 a46:=Tryz.isAgg233
 z46:=Tryz.sizeOf233
 v46:=Tryz.zeroValue233
 t53:=Tryz.underlying177
 a53:=Tryz.isAgg177
 z53:=Tryz.sizeOf177
 v53:=Tryz.zeroValue177 }
theorem Tryz.bits_Len64 (x:Int) (w:World) (a:0<=x) (b:x<=18446744073709551615) :
  Calls Tryz.prog 231 #[.int .u64 x] w fun e w'=>e = .returned (.int .i64 (Lib.bitLen x.toNat))/\w'=w:=Any.bits_Len64 Tryz.lays129 x w a b
def Tryz.lays283_ren:Go.Shelf.Ren:=⟨fun | 283=>232 | n=>n,fun | 3=>3 | 9=>9 | 4=>4 | n=>n,fun | n=>n⟩
theorem Tryz.lays283:Go.Proofs.Lays.n283 Tryz.prog Tryz.lays283_ren:={
 mixed:=by kernel_rfl
 f283:=Tryz.func232.trans (congrArg some (by kernel_rfl))
 t3:=Tryz.underlying3
 a3:=Tryz.isAgg3
 z3:=Tryz.sizeOf3
 v3:=Tryz.zeroValue3
 t4:=Tryz.underlying4
 a4:=Tryz.isAgg4
 z4:=Tryz.sizeOf4
 v4:=Tryz.zeroValue4
 t9:=Tryz.underlying9
 a9:=Tryz.isAgg9
 z9:=Tryz.sizeOf9
 v9:=Tryz.zeroValue9 }
open Go.Lib in
theorem Tryz.internal_strconv_small (i:Nat) (h:i<100) (w:World) :
  Calls Tryz.prog 232 #[.int .i64 i] w fun e w'=>e = .returned (.string ⟨(Lib.decDigits i).toArray⟩)/\w'=w:=Any.internal_strconv_small Tryz.lays283 i h w
def Tryz.laysM284_ren:Go.Shelf.Ren:=⟨fun | 284=>233 | 129=>231 | 317=>252 | 318=>253 | n=>n,fun | 53=>177 | 3=>3 | 212=>285 | 0=>0 | 4=>4 | 46=>233 | 5=>5 | 9=>9 | n=>n,fun | 17=>2 | n=>n⟩
theorem Tryz.laysM284:Go.Proofs.LaysM.n284 Tryz.prog Tryz.laysM284_ren:={
 mixed:=by kernel_rfl
 f129:=Tryz.func231.trans (congrArg some (by kernel_rfl))
 f284:=Tryz.func233.trans (congrArg some (by kernel_rfl))
 f317:=Tryz.func252.trans (congrArg some (by kernel_rfl))
 f318:=Tryz.func253.trans (congrArg some (by kernel_rfl))
 t0:=Tryz.underlying0
 a0:=Tryz.isAgg0
 z0:=Tryz.sizeOf0
 v0:=Tryz.zeroValue0
 t3:=Tryz.underlying3
 a3:=Tryz.isAgg3
 z3:=Tryz.sizeOf3
 v3:=Tryz.zeroValue3
 t4:=Tryz.underlying4
 a4:=Tryz.isAgg4
 z4:=Tryz.sizeOf4
 v4:=Tryz.zeroValue4
 t5:=Tryz.underlying5
 a5:=Tryz.isAgg5
 z5:=Tryz.sizeOf5
 v5:=Tryz.zeroValue5
 t9:=Tryz.underlying9
 a9:=Tryz.isAgg9
 z9:=Tryz.sizeOf9
 v9:=Tryz.zeroValue9
 t46:=Tryz.underlying233
 a46:=Tryz.isAgg233
 z46:=Tryz.sizeOf233
 v46:=Tryz.zeroValue233
 t53:=Tryz.underlying177
 a53:=Tryz.isAgg177
 z53:=Tryz.sizeOf177
 v53:=Tryz.zeroValue177
 t212:=Tryz.underlying285
 a212:=Tryz.isAgg285
 z212:=Tryz.sizeOf285
 v212:=Tryz.zeroValue285
 g17:=by kernel_rfl
 i0:=by kernel_rfl
 i3:=by kernel_rfl
 i4:=by kernel_rfl
 i5:=by kernel_rfl
 i9:=by kernel_rfl
 i46:=by kernel_rfl
 i53:=by kernel_rfl
 i212:=by kernel_rfl
 m17:=by kernel_rfl }
open Go.Lib in
theorem Tryz.internal_strconv_numDigits (u:Nat) (a:1<=u) (b:u<18446744073709551616) (w:World) (c:Lib.TabIs Tryz.prog w "internal/strconv.uint64pow10" .u64 Lib.pow10Tab) :
  Calls Tryz.prog 233 #[.int .u64 u] w fun e w'=>e = .returned (.int .i64 (Lib.nDigits u))/\w'=w:=Any.internal_strconv_numDigits Tryz.laysM284 u a b w c
def Tryz.lays285_ren:Go.Shelf.Ren:=⟨fun | 285=>234 | n=>n,fun | 37=>214 | 53=>177 | 3=>3 | 4=>4 | 51=>261 | 9=>9 | 5=>5 | 0=>0 | n=>n,fun | n=>n⟩
theorem Tryz.lays285:Go.Proofs.Lays.n285 Tryz.prog Tryz.lays285_ren:={
 mixed:=by kernel_rfl
 f285:=Tryz.func234.trans (congrArg some (by kernel_rfl))
 t0:=Tryz.underlying0
 a0:=Tryz.isAgg0
 z0:=Tryz.sizeOf0
 v0:=Tryz.zeroValue0
 t3:=Tryz.underlying3
 a3:=Tryz.isAgg3
 z3:=Tryz.sizeOf3
 v3:=Tryz.zeroValue3
 t4:=Tryz.underlying4
 a4:=Tryz.isAgg4
 z4:=Tryz.sizeOf4
 v4:=Tryz.zeroValue4
 t5:=Tryz.underlying5
 a5:=Tryz.isAgg5
 z5:=Tryz.sizeOf5
 v5:=Tryz.zeroValue5
 t9:=Tryz.underlying9
 a9:=Tryz.isAgg9
 z9:=Tryz.sizeOf9
 v9:=Tryz.zeroValue9
 t37:=Tryz.underlying214
 a37:=Tryz.isAgg214
 z37:=Tryz.sizeOf214
 v37:=Tryz.zeroValue214
 t51:=Tryz.underlying261
 a51:=Tryz.isAgg261
 z51:=Tryz.sizeOf261
 v51:=Tryz.zeroValue261
 t53:=Tryz.underlying177
 a53:=Tryz.isAgg177
 z53:=Tryz.sizeOf177
 v53:=Tryz.zeroValue177 }
open Go.RowKit Go.Sort Go.Lib in
theorem Tryz.internal_strconv_formatBase10 (a c f:Nat) (u:Nat) (d:Array UInt8) (w:World) (h:Holds (fun(b:UInt8)=>Value.int .u8 (b.toNat:Int)) w a c d) (j:u<10 ^ d.size) (k:u<18446744073709551616) (i:d.size<4611686018427387904) :
  Calls Tryz.prog 234 #[.slice (some ⟨a,c,none⟩) d.size f,.int .u64 u] w fun e w'=>
   e = .returned (.tuple #[])/\∃(n v':Nat) (g:Array UInt8),w'=(putRow (fun(b:UInt8)=>Value.int .u8 (b.toNat:Int)) w a c g).drewN n/\FmtInv d.size u 0 v' g:=Any.internal_strconv_formatBase10 Tryz.lays285 a c f u d w h j k i
def Tryz.laysM246_ren:Go.Shelf.Ren:=⟨fun | 246=>194 | 283=>232 | 284=>233 | 285=>234 | 286=>235 | 129=>231 | 317=>252 | 318=>253 | 319=>254 | 320=>255 | 337=>261 | 338=>262 | n=>n,fun | 2=>2 | 3=>3 | 9=>9 | 4=>4 | 171=>262 | 0=>0 | 53=>177 | 37=>214 | 5=>5 | 173=>264 | 212=>285 | 51=>261 | 20=>20 | 213=>286 | 46=>233 | 232=>306 | 233=>307 | n=>n,fun | 17=>2 | 18=>5 | 19=>6 | n=>n⟩
def Tryz.laysM243_ren:Go.Shelf.Ren:=⟨fun | 243=>167 | 246=>194 | 283=>232 | 284=>233 | 285=>234 | 286=>235 | 129=>231 | 317=>252 | 318=>253 | 319=>254 | 320=>255 | 337=>261 | 338=>262 | n=>n,fun | 3=>3 | 9=>9 | 2=>2 | 4=>4 | 171=>262 | 0=>0 | 53=>177 | 37=>214 | 5=>5 | 173=>264 | 212=>285 | 51=>261 | 20=>20 | 213=>286 | 46=>233 | 232=>306 | 233=>307 | n=>n,fun | 17=>2 | 18=>5 | 19=>6 | n=>n⟩
def Tryz.laysM171_ren:Go.Shelf.Ren:=⟨fun | 171=>122 | 243=>167 | 246=>194 | 283=>232 | 284=>233 | 285=>234 | 286=>235 | 129=>231 | 317=>252 | 318=>253 | 319=>254 | 320=>255 | 337=>261 | 338=>262 | n=>n,fun | 3=>3 | 9=>9 | 2=>2 | 4=>4 | 171=>262 | 0=>0 | 53=>177 | 37=>214 | 5=>5 | 173=>264 | 212=>285 | 51=>261 | 20=>20 | 213=>286 | 46=>233 | 232=>306 | 233=>307 | n=>n,fun | 17=>2 | 18=>5 | 19=>6 | n=>n⟩
theorem Tryz.laysM171:Go.Proofs.LaysM.n171 Tryz.prog Tryz.laysM171_ren:={
 mixed:=by kernel_rfl
 f129:=Tryz.func231.trans (congrArg some (by kernel_rfl))
 f171:=Tryz.func122.trans (congrArg some (by kernel_rfl))
 f243:=Tryz.func167.trans (congrArg some (by kernel_rfl))
 f246:=Tryz.func194.trans (congrArg some (by kernel_rfl))
 f283:=Tryz.func232.trans (congrArg some (by kernel_rfl))
 f284:=Tryz.func233.trans (congrArg some (by kernel_rfl))
 f285:=Tryz.func234.trans (congrArg some (by kernel_rfl))
 f286:=Tryz.func235.trans (congrArg some (by kernel_rfl))
 f317:=Tryz.func252.trans (congrArg some (by kernel_rfl))
 f318:=Tryz.func253.trans (congrArg some (by kernel_rfl))
 f319:=Tryz.func254.trans (congrArg some (by kernel_rfl))
 f320:=Tryz.func255.trans (congrArg some (by kernel_rfl))
 f337:=Tryz.func261.trans (congrArg some (by kernel_rfl))
 f338:=Tryz.func262.trans (congrArg some (by kernel_rfl))
 t0:=Tryz.underlying0
 a0:=Tryz.isAgg0
 z0:=Tryz.sizeOf0
 v0:=Tryz.zeroValue0
 t2:=Tryz.underlying2
 a2:=Tryz.isAgg2
 z2:=Tryz.sizeOf2
 v2:=Tryz.zeroValue2
 t3:=Tryz.underlying3
 a3:=Tryz.isAgg3
 z3:=Tryz.sizeOf3
 v3:=Tryz.zeroValue3
 t4:=Tryz.underlying4
 a4:=Tryz.isAgg4
 z4:=Tryz.sizeOf4
 v4:=Tryz.zeroValue4
 t5:=Tryz.underlying5
 a5:=Tryz.isAgg5
 z5:=Tryz.sizeOf5
 v5:=Tryz.zeroValue5
 t9:=Tryz.underlying9
 a9:=Tryz.isAgg9
 z9:=Tryz.sizeOf9
 v9:=Tryz.zeroValue9
 t20:=Tryz.underlying20
 a20:=Tryz.isAgg20
 z20:=Tryz.sizeOf20
 v20:=Tryz.zeroValue20
 t37:=Tryz.underlying214
 a37:=Tryz.isAgg214
 z37:=Tryz.sizeOf214
 v37:=Tryz.zeroValue214
 t46:=Tryz.underlying233
 a46:=Tryz.isAgg233
 z46:=Tryz.sizeOf233
 v46:=Tryz.zeroValue233
 t51:=Tryz.underlying261
 a51:=Tryz.isAgg261
 z51:=Tryz.sizeOf261
 v51:=Tryz.zeroValue261
 t53:=Tryz.underlying177
 a53:=Tryz.isAgg177
 z53:=Tryz.sizeOf177
 v53:=Tryz.zeroValue177
 t171:=Tryz.underlying262
 a171:=Tryz.isAgg262
 z171:=Tryz.sizeOf262
 v171:=Tryz.zeroValue262
 t173:=Tryz.underlying264
 a173:=Tryz.isAgg264
 z173:=Tryz.sizeOf264
 v173:=Tryz.zeroValue264
 t212:=Tryz.underlying285
 a212:=Tryz.isAgg285
 z212:=Tryz.sizeOf285
 v212:=Tryz.zeroValue285
 t213:=Tryz.underlying286
 a213:=Tryz.isAgg286
 z213:=Tryz.sizeOf286
 t232:=Tryz.underlying306
 a232:=Tryz.isAgg306
 z232:=Tryz.sizeOf306
 v232:=Tryz.zeroValue306
 t233:=Tryz.underlying307
 a233:=Tryz.isAgg307
 z233:=Tryz.sizeOf307
 v233:=Tryz.zeroValue307
 g17:=by kernel_rfl
 g18:=by kernel_rfl
 g19:=by kernel_rfl
 i0:=by kernel_rfl
 i2:=by kernel_rfl
 i3:=by kernel_rfl
 i4:=by kernel_rfl
 i5:=by kernel_rfl
 i9:=by kernel_rfl
 i20:=by kernel_rfl
 i37:=by kernel_rfl
 i46:=by kernel_rfl
 i51:=by kernel_rfl
 i53:=by kernel_rfl
 i171:=by kernel_rfl
 i173:=by kernel_rfl
 i212:=by kernel_rfl
 i232:=by kernel_rfl
 i233:=by kernel_rfl
 m17:=by kernel_rfl
 m18:=by kernel_rfl
 m19:=by kernel_rfl }
open Go.RowKit Go.Sort Go.Lib in
theorem Tryz.strconv_Itoa (n:Int) (a:-9223372036854775808<=n) (b:n<=9223372036854775807) (w:World) (c:Lib.TabIs Tryz.prog w "internal/strconv.uint64pow10" .u64 Lib.pow10Tab) :
  Calls Tryz.prog 122 #[.int .i64 n] w fun e w'=>e = .returned (.string ⟨(Lib.itoa n).toArray⟩)/\∃k os,w'=grow (w.drewN k) os:=Any.strconv_Itoa Tryz.laysM171 n a b w c
def Tryz.lays157_ren:Go.Shelf.Ren:=⟨fun | 157=>188 | 229=>220 | 199=>221 | 261=>246 | 311=>258 | 312=>259 | n=>n,fun | 9=>9 | 31=>60 | 3=>3 | 5=>5 | 4=>4 | 119=>250 | 0=>0 | 40=>252 | 152=>273 | 21=>21 | 154=>275 | 51=>261 | 141=>277 | 196=>293 | 193=>290 | 198=>296 | 49=>294 | 194=>291 | 201=>299 | 226=>304 | 46=>233 | 227=>305 | n=>n,fun | 0=>0 | 6=>1 | n=>n⟩
def Tryz.laysM157_ren:Go.Shelf.Ren:=⟨fun | 157=>188 | 229=>220 | 199=>221 | 261=>246 | 311=>258 | 312=>259 | n=>n,fun | 9=>9 | 31=>60 | 3=>3 | 5=>5 | 4=>4 | 119=>250 | 0=>0 | 40=>252 | 152=>273 | 21=>21 | 154=>275 | 51=>261 | 141=>277 | 196=>293 | 193=>290 | 198=>296 | 49=>294 | 194=>291 | 201=>299 | 226=>304 | 46=>233 | 227=>305 | n=>n,fun | 0=>0 | 6=>1 | n=>n⟩
theorem Tryz.laysM157:Go.Proofs.LaysM.n157 Tryz.prog Tryz.laysM157_ren:={
 mixed:=by kernel_rfl
 f157:=Tryz.func188.trans (congrArg some (by kernel_rfl))
 f199:=Tryz.func221.trans (congrArg some (by kernel_rfl))
 f229:=Tryz.func220.trans (congrArg some (by kernel_rfl))
 f261:=Tryz.func246.trans (congrArg some (by kernel_rfl))
 f311:=Tryz.func258.trans (congrArg some (by kernel_rfl))
 f312:=Tryz.func259.trans (congrArg some (by kernel_rfl))
 t0:=Tryz.underlying0
 a0:=Tryz.isAgg0
 z0:=Tryz.sizeOf0
 v0:=Tryz.zeroValue0
 t3:=Tryz.underlying3
 a3:=Tryz.isAgg3
 z3:=Tryz.sizeOf3
 v3:=Tryz.zeroValue3
 t4:=Tryz.underlying4
 a4:=Tryz.isAgg4
 z4:=Tryz.sizeOf4
 v4:=Tryz.zeroValue4
 t5:=Tryz.underlying5
 a5:=Tryz.isAgg5
 z5:=Tryz.sizeOf5
 v5:=Tryz.zeroValue5
 t9:=Tryz.underlying9
 a9:=Tryz.isAgg9
 z9:=Tryz.sizeOf9
 v9:=Tryz.zeroValue9
 t21:=Tryz.underlying21
 a21:=Tryz.isAgg21
 z21:=Tryz.sizeOf21
 v21:=Tryz.zeroValue21
 t31:=Tryz.underlying60
 a31:=Tryz.isAgg60
 z31:=Tryz.sizeOf60
 v31:=Tryz.zeroValue60
 t40:=Tryz.underlying252
 a40:=Tryz.isAgg252
 z40:=Tryz.sizeOf252
 v40:=Tryz.zeroValue252
 t46:=Tryz.underlying233
 a46:=Tryz.isAgg233
 z46:=Tryz.sizeOf233
 v46:=Tryz.zeroValue233
 t49:=Tryz.underlying294
 a49:=Tryz.isAgg294
 z49:=Tryz.sizeOf294
 v49:=Tryz.zeroValue294
 t51:=Tryz.underlying261
 a51:=Tryz.isAgg261
 z51:=Tryz.sizeOf261
 v51:=Tryz.zeroValue261
 t119:=Tryz.underlying250
 a119:=Tryz.isAgg250
 z119:=Tryz.sizeOf250
 t141:=Tryz.underlying277
 a141:=Tryz.isAgg277
 z141:=Tryz.sizeOf277
 v141:=Tryz.zeroValue277
 t152:=Tryz.underlying273
 a152:=Tryz.isAgg273
 z152:=Tryz.sizeOf273
 v152:=Tryz.zeroValue273
 t154:=Tryz.underlying275
 a154:=Tryz.isAgg275
 z154:=Tryz.sizeOf275
 v154:=Tryz.zeroValue275
 t193:=Tryz.underlying290
 a193:=Tryz.isAgg290
 z193:=Tryz.sizeOf290
 v193:=Tryz.zeroValue290
 t194:=Tryz.underlying291
 a194:=Tryz.isAgg291
 z194:=Tryz.sizeOf291
 v194:=Tryz.zeroValue291
 t196:=Tryz.underlying293
 a196:=Tryz.isAgg293
 z196:=Tryz.sizeOf293
 v196:=Tryz.zeroValue293
 t198:=Tryz.underlying296
 a198:=Tryz.isAgg296
 z198:=Tryz.sizeOf296
 v198:=Tryz.zeroValue296
 t201:=Tryz.underlying299
 a201:=Tryz.isAgg299
 z201:=Tryz.sizeOf299
 v201:=Tryz.zeroValue299
 t226:=Tryz.underlying304
 a226:=Tryz.isAgg304
 z226:=Tryz.sizeOf304
 v226:=Tryz.zeroValue304
 t227:=Tryz.underlying305
 a227:=Tryz.isAgg305
 z227:=Tryz.sizeOf305
 v227:=Tryz.zeroValue305
 g0:=by kernel_rfl
 g6:=by kernel_rfl
 i0:=by kernel_rfl
 i3:=by kernel_rfl
 i4:=by kernel_rfl
 i5:=by kernel_rfl
 i9:=by kernel_rfl
 i21:=by kernel_rfl
 i31:=by kernel_rfl
 i40:=by kernel_rfl
 i46:=by kernel_rfl
 i49:=by kernel_rfl
 i51:=by kernel_rfl
 i141:=by kernel_rfl
 i152:=by kernel_rfl
 i154:=by kernel_rfl
 i193:=by kernel_rfl
 i194:=by kernel_rfl
 i196:=by kernel_rfl
 i198:=by kernel_rfl
 i201:=by kernel_rfl
 i226:=by kernel_rfl
 i227:=by kernel_rfl
 m0:=by kernel_rfl
 m6:=by kernel_rfl }
open Go.RowKit Go.Lib in
theorem Tryz.strings_Fields_laid (s:ByteArray) (w:World) (c:s.size<4294967281) (a:∀(j:Nat) b,s.data.toList[j]? = some b->b.toNat<128) (d:Lib.TabIs Tryz.prog w "strings.asciiSpace" .u8 Lib.asciiSpaceTab) :
  Calls Tryz.prog 188 #[.string s] w fun e w'=>
   e = .returned (.slice (some ⟨w.heap.size,0,none⟩) (Lib.fields s.data.toList).length (Lib.fields s.data.toList).length)/\w'=w.alloc (.cells ((Lib.fields s.data.toList).map fun l=>Value.string ⟨l.toArray⟩).toArray 9):=Any.strings_Fields_laid Tryz.laysM157 s w c a d
def Tryz.lays197_ren:Go.Shelf.Ren:=⟨fun | 197=>256 | 260=>263 | n=>n,fun | 9=>9 | 21=>21 | 3=>3 | 4=>4 | 5=>5 | 105=>287 | 119=>250 | 0=>0 | 46=>233 | 139=>310 | 138=>309 | n=>n,fun | 3=>7 | 4=>8 | n=>n⟩
def Tryz.lays264_ren:Go.Shelf.Ren:=⟨fun | 264=>237 | n=>n,fun | 53=>177 | 46=>233 | n=>n,fun | n=>n⟩
theorem Tryz.lays264:Go.Proofs.Lays.n264 Tryz.prog Tryz.lays264_ren:={
 mixed:=by kernel_rfl
 f264:=Tryz.func237.trans (congrArg some (by kernel_rfl))
 t46:=Tryz.underlying233
 a46:=Tryz.isAgg233
 z46:=Tryz.sizeOf233
 v46:=Tryz.zeroValue233
 t53:=Tryz.underlying177
 a53:=Tryz.isAgg177
 z53:=Tryz.sizeOf177
 v53:=Tryz.zeroValue177 }
open Go.RowKit Go.Lib in
theorem Tryz.bits_Mul64 (x y:Nat) (a:x<18446744073709551616) (hy:y<18446744073709551616) (w:World) :
  Calls Tryz.prog 237 #[.int .u64 x,.int .u64 y] w fun e w'=>e = .returned (.tuple #[.int .u64 ((x * y / 18446744073709551616:Nat):Int),.int .u64 ((x * y % 18446744073709551616:Nat):Int)])/\w'=w:=Any.bits_Mul64 Tryz.lays264 x y a hy w
def Tryz.lays260_ren:Go.Shelf.Ren:=⟨fun | 260=>263 | n=>n,fun | 9=>9 | 21=>21 | 3=>3 | 4=>4 | 5=>5 | 119=>250 | 0=>0 | 46=>233 | 139=>310 | 138=>309 | n=>n,fun | 3=>7 | 4=>8 | n=>n⟩
theorem Tryz.lays260:Go.Proofs.Lays.n260 Tryz.prog Tryz.lays260_ren:={
 mixed:=by kernel_rfl
 f260:=Tryz.func263.trans (congrArg some (by kernel_rfl))
 t0:=Tryz.underlying0
 a0:=Tryz.isAgg0
 z0:=Tryz.sizeOf0
 v0:=Tryz.zeroValue0
 t3:=Tryz.underlying3
 a3:=Tryz.isAgg3
 z3:=Tryz.sizeOf3
 v3:=Tryz.zeroValue3
 t4:=Tryz.underlying4
 a4:=Tryz.isAgg4
 z4:=Tryz.sizeOf4
 v4:=Tryz.zeroValue4
 t5:=Tryz.underlying5
 a5:=Tryz.isAgg5
 z5:=Tryz.sizeOf5
 v5:=Tryz.zeroValue5
 t9:=Tryz.underlying9
 a9:=Tryz.isAgg9
 z9:=Tryz.sizeOf9
 v9:=Tryz.zeroValue9
 t21:=Tryz.underlying21
 a21:=Tryz.isAgg21
 z21:=Tryz.sizeOf21
 v21:=Tryz.zeroValue21
 t46:=Tryz.underlying233
 a46:=Tryz.isAgg233
 z46:=Tryz.sizeOf233
 v46:=Tryz.zeroValue233
 t119:=Tryz.underlying250
 a119:=Tryz.isAgg250
 z119:=Tryz.sizeOf250
 t138:=Tryz.underlying309
 a138:=Tryz.isAgg309
 z138:=Tryz.sizeOf309
 v138:=Tryz.zeroValue309
 t139:=Tryz.underlying310
 a139:=Tryz.isAgg310
 z139:=Tryz.sizeOf310
 v139:=Tryz.zeroValue310
 g3:=by kernel_rfl
 g4:=by kernel_rfl }
def Tryz.lays110_ren:Go.Shelf.Ren:=⟨fun | 110=>106 | 109=>154 | n=>n,fun | 31=>60 | 9=>9 | 4=>4 | 3=>3 | 0=>0 | n=>n,fun | n=>n⟩
theorem Tryz.lays110:Go.Proofs.Lays.n110 Tryz.prog Tryz.lays110_ren:={
 mixed:=by kernel_rfl
 f109:=Tryz.func154.trans (congrArg some (by kernel_rfl))
 f110:=Tryz.func106.trans (congrArg some (by kernel_rfl))
 t0:=Tryz.underlying0
 a0:=Tryz.isAgg0
 z0:=Tryz.sizeOf0
 v0:=Tryz.zeroValue0
 t3:=Tryz.underlying3
 a3:=Tryz.isAgg3
 z3:=Tryz.sizeOf3
 v3:=Tryz.zeroValue3
 t4:=Tryz.underlying4
 a4:=Tryz.isAgg4
 z4:=Tryz.sizeOf4
 v4:=Tryz.zeroValue4
 t9:=Tryz.underlying9
 a9:=Tryz.isAgg9
 z9:=Tryz.sizeOf9
 v9:=Tryz.zeroValue9
 t31:=Tryz.underlying60
 a31:=Tryz.isAgg60
 z31:=Tryz.sizeOf60
 v31:=Tryz.zeroValue60 }
open Go.Lib in
theorem Tryz.slices_Contains_string (b a n c:Nat) (zs:List ByteArray) (x:ByteArray) (w:World) (g:n<=zs.length) (d:n<=9223372036854775807) (f:∀j,j<zs.length->w.cell? ⟨b,a+j,none⟩=some (.string (zs.getD j ByteArray.empty))) :
  Calls Tryz.prog 106 #[.slice (some ⟨b,a,none⟩) n c,.string x] w fun e w'=>e = .returned (.bool (Lib.containsS (zs.take n) x))/\w'=w:=Any.slices_Contains_string Tryz.lays110 b a n c zs x w g d f
open Go.Lib in
theorem Tryz.slices_Contains_string_empty (a:Option Addr) (c:Nat) (x:ByteArray) (w:World) :
  Calls Tryz.prog 106 #[.slice a 0 c,.string x] w fun e w'=>e = .returned (.bool false)/\w'=w:=Any.slices_Contains_string_empty Tryz.lays110 a c x w
def Tryz.laysNm215_ren:Go.Shelf.Ren:=⟨fun | 15=>119 | n=>n,fun | 22=>23 | 3=>3 | 4=>4 | n=>n,fun | n=>n⟩
theorem Tryz.laysNm215:Go.Proofs.Lays2.n15 Tryz.prog Tryz.laysNm215_ren:={
 mixed:=by kernel_rfl
 f15:=Tryz.func119.trans (congrArg some (by kernel_rfl))
 t3:=Tryz.underlying3
 a3:=Tryz.isAgg3
 z3:=Tryz.sizeOf3
 v3:=Tryz.zeroValue3
 t4:=Tryz.underlying4
 a4:=Tryz.isAgg4
 z4:=Tryz.sizeOf4
 v4:=Tryz.zeroValue4
 t22:=Tryz.underlying23
 a22:=Tryz.isAgg23
 z22:=Tryz.sizeOf23
 v22:=Tryz.zeroValue23
 i3:=by kernel_rfl }
open Go.RowKit Go.Lib in
theorem Tryz.slices_Clone_int (b a n c:Nat) (zs:List Int) (w:World) (g:n<=zs.length) (d:n * 8<=140737488355328) (f:∀j,j<zs.length->w.cell? ⟨b,a+j,none⟩=some (.int .i64 (zs.getD j 0))) :
  Calls Tryz.prog 119 #[.slice (some ⟨b,a,none⟩) n c] w fun e w'=>∃v',e = .returned v'/\w'.ownsRow w.heap.size 3 1 v' n ((zs.take n).map (Value.int .i64))/\v' ≠ .slice none 0 0/\Below w.heap.size w w':=Any.slices_Clone_int Tryz.laysNm215 b a n c zs w g d f
open Go.RowKit Go.Lib in
theorem Tryz.slices_Clone_int_nil (n c:Nat) (w:World) :
  Calls Tryz.prog 119 #[.slice none n c] w fun e w'=>e = .returned (.slice none 0 0)/\w'=w:=Any.slices_Clone_int_nil Tryz.laysNm215 n c w
open Go.RowKit Go.Lib in
theorem Tryz.slices_Clone_int_zero (a:Addr) (c:Nat) (w:World) :
  Calls Tryz.prog 119 #[.slice (some a) 0 c] w fun e w'=>∃v',e = .returned v'/\w'.ownsRow w.heap.size 3 1 v' 0 []/\v' ≠ .slice none 0 0/\Below w.heap.size w w':=Any.slices_Clone_int_zero Tryz.laysNm215 a c w
end Go.Proofs
