/-
  DERIVED: THE SHELF's CONTRACTS AT THIS DUMP, IN PLAIN WORDS (tools/lay-plain.mjs out of 'YtjlcilmjfejimaaGreatShelf.lean', which tools/lay-shelf.mjs wrote): THE SAME DECLARATIONS UNDER THE SAME NAMES: 'import', 'namespace', 'open', 'def', 'theorem' AND NOTHING ELSE: no command of the shelf's: FOR A HAND-IN. Each laying: the table of numbers ('.._ren') and one theorem, a field a fact of the dump's own or the kernel's comparison; each contract: ONE APPLICATION.
-/
import Derived.Shelf.Small.Bits
import Derived.Shelf.Small.Wraps
import Derived.Shelf.Strconv.Itoa0
import Derived.Shelf.Sort.Plain
import Derived.Shelf.GgClosure.StringsIndexFunc
import Derived.Ground.GgwProg
import Derived.Shelf.GgClosure.StringsIndexFuncTop
import Derived.Shelf.Bits.Mul64
import Derived.Shelf.Strings.FuncGrows
import Derived.Ground.Names2Prog
import Derived.Shelf.Slices.Clone
import Derived.Shelf.Slices.CompactI
import Derived.Shelf.Slices.Cells
import Derived.Shelf.Slices.In.SortNone
import Derived.Test.YtjlcilmjfejimaaGreatProg
namespace Go.Proofs
open Go.Shelf Go.RowKit Go.Lib Go.Sort Tryz
def Tryz.lays134_ren:Go.Shelf.Ren:=⟨fun |134=>226 |129=>199 |n=>n,fun |53=>165 |3=>3 |4=>4 |46=>167 |5=>5 |9=>9 |n=>n,fun |n=>n⟩
theorem Tryz.lays134:Go.Proofs.Lays.n134 prog lays134_ren:={
  mixed:=by kernel_rfl
  f129:=func199.trans (congrArg some (by kernel_rfl))
  f134:=func226.trans (congrArg some (by kernel_rfl))
  t3:=underlying3
  a3:=isAgg3
  z3:=sizeOf3
  v3:=zeroValue3
  t4:=underlying4
  a4:=isAgg4
  z4:=sizeOf4
  v4:=zeroValue4
  t5:=underlying5
  a5:=isAgg5
  z5:=sizeOf5
  v5:=zeroValue5
  t9:=underlying9
  a9:=isAgg9
  z9:=sizeOf9
  v9:=zeroValue9
  t46:=underlying167
  a46:=isAgg167
  z46:=sizeOf167
  v46:=zeroValue167
  t53:=underlying165
  a53:=isAgg165
  z53:=sizeOf165
  v53:=zeroValue165}
theorem Tryz.bits_LeadingZeros64(x:Int)(w:World)(h0:0≤x)(h1:x≤18446744073709551615):
    Calls prog 226 #[.int .u64 x] w fun e w'=>e= .returned (.int .i64 (64 - (Lib.bitLen x.toNat:Int)))∧w'=w:=Any.bits_LeadingZeros64 lays134 x w h0 h1
def Tryz.lays122_ren:Go.Shelf.Ren:=⟨fun |122=>97 |215=>145 |n=>n,fun |3=>3 |4=>4 |n=>n,fun |n=>n⟩
theorem Tryz.lays122:Go.Proofs.Lays.n122 prog lays122_ren:={
  mixed:=by kernel_rfl
  f122:=func97.trans (congrArg some (by kernel_rfl))
  f215:=func145.trans (congrArg some (by kernel_rfl))
  t3:=underlying3
  a3:=isAgg3
  z3:=sizeOf3
  v3:=zeroValue3
  t4:=underlying4
  a4:=isAgg4
  z4:=sizeOf4
  v4:=zeroValue4}
theorem Tryz.cmp_Compare_int(x y:Int)(w:World):
    Calls prog 97 #[.int .i64 x,.int .i64 y] w fun e w'=>e= .returned (.int .i64 (Lib.compareInt x y))∧w'=w:=Any.cmp_Compare_int lays122 x y w
def Tryz.lays129_ren:Go.Shelf.Ren:=⟨fun |129=>199 |n=>n,fun |53=>165 |3=>3 |4=>4 |46=>167 |5=>5 |9=>9 |n=>n,fun |n=>n⟩
theorem Tryz.lays129:Go.Proofs.Lays.n129 prog lays129_ren:={
  mixed:=by kernel_rfl
  f129:=func199.trans (congrArg some (by kernel_rfl))
  t3:=underlying3
  a3:=isAgg3
  z3:=sizeOf3
  v3:=zeroValue3
  t4:=underlying4
  a4:=isAgg4
  z4:=sizeOf4
  v4:=zeroValue4
  t5:=underlying5
  a5:=isAgg5
  z5:=sizeOf5
  v5:=zeroValue5
  t9:=underlying9
  a9:=isAgg9
  z9:=sizeOf9
  v9:=zeroValue9
  t46:=underlying167
  a46:=isAgg167
  z46:=sizeOf167
  v46:=zeroValue167
  t53:=underlying165
  a53:=isAgg165
  z53:=sizeOf165
  v53:=zeroValue165}
theorem Tryz.bits_Len64(x:Int)(w:World)(h0:0≤x)(h1:x≤18446744073709551615):
    Calls prog 199 #[.int .u64 x] w fun e w'=>e= .returned (.int .i64 (Lib.bitLen x.toNat))∧w'=w:=Any.bits_Len64 lays129 x w h0 h1
def Tryz.lays189_ren:Go.Shelf.Ren:=⟨fun |189=>93 |125=>143 |257=>142 |128=>198 |129=>199 |294=>189 |295=>190 |296=>191 |297=>192 |298=>193 |299=>194 |216=>195 |300=>196 |301=>197 |328=>231 |329=>232 |330=>233 |331=>234 |332=>235 |215=>145 |343=>245 |n=>n,fun |28=>55 |3=>3 |46=>167 |0=>0 |51=>240 |53=>165 |4=>4 |183=>233 |182=>232 |131=>201 |5=>5 |9=>9 |218=>261 |222=>265 |228=>272 |229=>273 |n=>n,fun |n=>n⟩
theorem Tryz.lays189:Go.Proofs.Lays.n189 prog lays189_ren:={
  mixed:=by kernel_rfl
  f125:=func143.trans (congrArg some (by kernel_rfl))
  f128:=func198.trans (congrArg some (by kernel_rfl))
  f129:=func199.trans (congrArg some (by kernel_rfl))
  f189:=func93.trans (congrArg some (by kernel_rfl))
  f215:=func145.trans (congrArg some (by kernel_rfl))
  f216:=func195.trans (congrArg some (by kernel_rfl))
  f257:=func142.trans (congrArg some (by kernel_rfl))
  f294:=func189.trans (congrArg some (by kernel_rfl))
  f295:=func190.trans (congrArg some (by kernel_rfl))
  f296:=func191.trans (congrArg some (by kernel_rfl))
  f297:=func192.trans (congrArg some (by kernel_rfl))
  f298:=func193.trans (congrArg some (by kernel_rfl))
  f299:=func194.trans (congrArg some (by kernel_rfl))
  f300:=func196.trans (congrArg some (by kernel_rfl))
  f301:=func197.trans (congrArg some (by kernel_rfl))
  f328:=func231.trans (congrArg some (by kernel_rfl))
  f329:=func232.trans (congrArg some (by kernel_rfl))
  f330:=func233.trans (congrArg some (by kernel_rfl))
  f331:=func234.trans (congrArg some (by kernel_rfl))
  f332:=func235.trans (congrArg some (by kernel_rfl))
  f343:=func245.trans (congrArg some (by kernel_rfl))
  t0:=underlying0
  a0:=isAgg0
  z0:=sizeOf0
  v0:=zeroValue0
  t3:=underlying3
  a3:=isAgg3
  z3:=sizeOf3
  v3:=zeroValue3
  t4:=underlying4
  a4:=isAgg4
  z4:=sizeOf4
  v4:=zeroValue4
  t5:=underlying5
  a5:=isAgg5
  z5:=sizeOf5
  v5:=zeroValue5
  t9:=underlying9
  a9:=isAgg9
  z9:=sizeOf9
  v9:=zeroValue9
  t28:=underlying55
  a28:=isAgg55
  z28:=sizeOf55
  v28:=zeroValue55
  t46:=underlying167
  a46:=isAgg167
  z46:=sizeOf167
  v46:=zeroValue167
  t51:=underlying240
  a51:=isAgg240
  z51:=sizeOf240
  v51:=zeroValue240
  t53:=underlying165
  a53:=isAgg165
  z53:=sizeOf165
  v53:=zeroValue165
  t131:=underlying201
  a131:=isAgg201
  z131:=sizeOf201
  v131:=zeroValue201
  t182:=underlying232
  a182:=isAgg232
  z182:=sizeOf232
  v182:=zeroValue232
  t183:=underlying233
  a183:=isAgg233
  z183:=sizeOf233
  v183:=zeroValue233
  t218:=underlying261
  a218:=isAgg261
  z218:=sizeOf261
  v218:=zeroValue261
  t222:=underlying265
  a222:=isAgg265
  z222:=sizeOf265
  v222:=zeroValue265
  t228:=underlying272
  a228:=isAgg272
  z228:=sizeOf272
  v228:=zeroValue272
  t229:=underlying273
  a229:=isAgg273
  z229:=sizeOf273
  v229:=zeroValue273}
theorem Tryz.slices_Sort_int(blk off cap:Nat)(zs:List Int)(w:World)(hH:Holds (Value.int .i64) w blk off zs.toArray)(hblk:blk<w.heap.size)(hsz:zs.length<4611686018427387904):
    Calls prog 93 #[.slice (some ⟨blk,off,none⟩) zs.length cap] w fun e w'=>
      e= .returned (.tuple #[])∧∃n os,w'=grow (putRow (Value.int .i64) (Sort.ahead w n) blk off (zs.mergeSort fun x y=>decide (x≤y)).toArray) os:=Any.slices_Sort_int lays189 blk off cap zs w hH hblk hsz
def Tryz.laysGw17_ren:Go.Shelf.Ren:=⟨fun |17=>214 |15=>242 |20=>248 |n=>n,fun |9=>9 |23=>250 |4=>4 |3=>3 |0=>0 |21=>21 |n=>n,fun |n=>n⟩
theorem Tryz.laysGw17:Go.Proofs.LaysGw.n17 prog laysGw17_ren:={
  mixed:=by kernel_rfl
  f15:=func242.trans (congrArg some (by kernel_rfl))
  f17:=func214.trans (congrArg some (by kernel_rfl))
  f20:=func248.trans (congrArg some (by kernel_rfl))
  t0:=underlying0
  a0:=isAgg0
  z0:=sizeOf0
  v0:=zeroValue0
  i0:=by kernel_rfl
  t3:=underlying3
  a3:=isAgg3
  z3:=sizeOf3
  v3:=zeroValue3
  i3:=by kernel_rfl
  t4:=underlying4
  a4:=isAgg4
  z4:=sizeOf4
  v4:=zeroValue4
  i4:=by kernel_rfl
  t9:=underlying9
  a9:=isAgg9
  z9:=sizeOf9
  v9:=zeroValue9
  i9:=by kernel_rfl
  t21:=underlying21
  a21:=isAgg21
  z21:=sizeOf21
  v21:=zeroValue21
  i21:=by kernel_rfl
  t23:=underlying250
  a23:=isAgg250
  z23:=sizeOf250
  v23:=zeroValue250
  i23:=by kernel_rfl}
def Tryz.lays264_ren:Go.Shelf.Ren:=⟨fun |264=>239 |n=>n,fun |53=>165 |46=>167 |n=>n,fun |n=>n⟩
theorem Tryz.lays264:Go.Proofs.Lays.n264 prog lays264_ren:={
  mixed:=by kernel_rfl
  f264:=func239.trans (congrArg some (by kernel_rfl))
  t46:=underlying167
  a46:=isAgg167
  z46:=sizeOf167
  v46:=zeroValue167
  t53:=underlying165
  a53:=isAgg165
  z53:=sizeOf165
  v53:=zeroValue165}
theorem Tryz.bits_Mul64(x y:Nat)(hx:x<18446744073709551616)(hy:y<18446744073709551616)(w:World):
    Calls prog 239 #[.int .u64 x,.int .u64 y] w fun e w'=>e= .returned (.tuple #[.int .u64 ((x*y / 18446744073709551616:Nat):Int),.int .u64 ((x*y % 18446744073709551616:Nat):Int)])∧w'=w:=Any.bits_Mul64 lays264 x y hx hy w
theorem Tryz.strings_ContainsFunc_grows(g:Nat)(lb:Array Value)(eg:∀args w,(callFunc g args).run prog w= .ok (.enter g args) w)(p:Nat→Bool)(s:ByteArray)(w:World)(hp:PredGrows prog g lb p w):
    Calls prog 214 #[.string s,.func (.func g) #[] lb] w fun e w'=>e= .returned (.bool (decide (0≤Lib.idxFunc p true s)))∧Below w.heap.size w w':=Any.strings_ContainsFunc_grows laysGw17 g lb eg p s w hp
def Tryz.laysNm215_ren:Go.Shelf.Ren:=⟨fun |15=>58 |n=>n,fun |22=>55 |3=>3 |4=>4 |n=>n,fun |n=>n⟩
theorem Tryz.laysNm215:Go.Proofs.Lays2.n15 prog laysNm215_ren:={
  mixed:=by kernel_rfl
  f15:=func58.trans (congrArg some (by kernel_rfl))
  t3:=underlying3
  a3:=isAgg3
  z3:=sizeOf3
  v3:=zeroValue3
  t4:=underlying4
  a4:=isAgg4
  z4:=sizeOf4
  v4:=zeroValue4
  t22:=underlying55
  a22:=isAgg55
  z22:=sizeOf55
  v22:=zeroValue55
  i3:=by kernel_rfl}
theorem Tryz.slices_Clone_int(b off n c:Nat)(zs:List Int)(w:World)(hz:n≤zs.length)(hbig:n*8≤140737488355328)(hc:∀j,j<zs.length→w.cell? ⟨b,off+j,none⟩=some (.int .i64 (zs.getD j 0))):
    Calls prog 58 #[.slice (some ⟨b,off,none⟩) n c] w fun e w'=>∃v',e= .returned v'∧w'.ownsRow w.heap.size 3 1 v' n ((zs.take n).map (Value.int .i64))∧v'≠ .slice none 0 0∧Below w.heap.size w w':=Any.slices_Clone_int laysNm215 b off n c zs w hz hbig hc
theorem Tryz.slices_Clone_int_nil(n c:Nat)(w:World):
    Calls prog 58 #[.slice none n c] w fun e w'=>e= .returned (.slice none 0 0)∧w'=w:=Any.slices_Clone_int_nil laysNm215 n c w
def Tryz.laysNm216_ren:Go.Shelf.Ren:=⟨fun |16=>124 |n=>n,fun |24=>69 |9=>9 |4=>4 |n=>n,fun |n=>n⟩
theorem Tryz.laysNm216:Go.Proofs.Lays2.n16 prog laysNm216_ren:={
  mixed:=by kernel_rfl
  f16:=func124.trans (congrArg some (by kernel_rfl))
  t4:=underlying4
  a4:=isAgg4
  z4:=sizeOf4
  v4:=zeroValue4
  t9:=underlying9
  a9:=isAgg9
  z9:=sizeOf9
  v9:=zeroValue9
  t24:=underlying69
  a24:=isAgg69
  z24:=sizeOf69
  v24:=zeroValue69
  i9:=by kernel_rfl}
theorem Tryz.slices_Clone_string(b off n c:Nat)(zs:List ByteArray)(w:World)(hz:n≤zs.length)(hbig:n*16≤140737488355328)(hc:∀j,j<zs.length→w.cell? ⟨b,off+j,none⟩=some (.string (zs.getD j ByteArray.empty))):
    Calls prog 124 #[.slice (some ⟨b,off,none⟩) n c] w fun e w'=>∃v',e= .returned v'∧w'.ownsRow w.heap.size 9 1 v' n ((zs.take n).map (Value.string))∧v'≠ .slice none 0 0∧Below w.heap.size w w':=Any.slices_Clone_string laysNm216 b off n c zs w hz hbig hc
def Tryz.laysNm220_ren:Go.Shelf.Ren:=⟨fun |20=>94 |n=>n,fun |22=>55 |3=>3 |4=>4 |0=>0 |n=>n,fun |n=>n⟩
theorem Tryz.laysNm220:Go.Proofs.Lays2.n20 prog laysNm220_ren:={
  mixed:=by kernel_rfl
  f20:=func94.trans (congrArg some (by kernel_rfl))
  t0:=underlying0
  a0:=isAgg0
  z0:=sizeOf0
  v0:=zeroValue0
  t3:=underlying3
  a3:=isAgg3
  z3:=sizeOf3
  v3:=zeroValue3
  t4:=underlying4
  a4:=isAgg4
  z4:=sizeOf4
  v4:=zeroValue4
  t22:=underlying55
  a22:=isAgg55
  z22:=sizeOf55
  v22:=zeroValue55
  i3:=by kernel_rfl}
theorem Tryz.slices_Compact_int(blk off cap:Nat)(zs:List Int)(w:World)(hH:Holds (Value.int .i64) w blk off zs.toArray)(hsz:zs.length≤9223372036854775807)(hcap:zs.length≤cap):
    Calls prog 94 #[.slice (some ⟨blk,off,none⟩) zs.length cap] w fun e w'=>e= .returned (.slice (some ⟨blk,off,none⟩) (Lib.compact zs).length cap)∧∃q,w'=putRow (Value.int .i64) (Sort.ahead w q) blk off (Lib.compact zs++List.replicate (zs.length - (Lib.compact zs).length) 0).toArray:=Any.slices_Compact_int laysNm220 blk off cap zs w hH hsz hcap
theorem Tryz.slices_Compact_int_empty(a:Option Addr)(cap:Nat)(w:World):
    Calls prog 94 #[.slice a 0 cap] w fun e w'=>e= .returned (.slice a 0 cap)∧w'=w:=Any.slices_Compact_int_empty laysNm220 a cap w
theorem Tryz.slices_Sort_int_none(p:Option Addr)(cap:Nat)(w:World):
    Calls prog 93 #[.slice p 0 cap] w fun e w'=>e= .returned (.tuple #[])∧w'=w:=Any.slices_Sort_int_none lays189 p cap w
end Go.Proofs
