/- SortInts: what the shelf says, at this program. -/
import Derived.Shelf.Sort.Plain
import Derived.Shelf.Slices.In.SortNone
import Derived.Test.YtcohlmdnahdnaaaGreatDoorProg
namespace Go.Proofs
open Go.Shelf
def Tryz.lays189_ren:Go.Shelf.Ren:=⟨fun | 189=>98 | 125=>88 | 257=>141 | 128=>137 | 129=>138 | 294=>173 | 295=>174 | 296=>175 | 297=>176 | 298=>177 | 299=>178 | 216=>179 | 300=>180 | 301=>181 | 328=>203 | 329=>169 | 330=>170 | 331=>204 | 332=>205 | 215=>164 | 343=>217 | n=>n,fun | 28=>59 | 3=>3 | 46=>164 | 0=>0 | 51=>208 | 53=>210 | 4=>4 | 183=>202 | 182=>201 | 131=>171 | 5=>5 | 9=>9 | 218=>231 | 222=>235 | 228=>255 | 229=>256 | n=>n,fun | n=>n⟩
theorem Tryz.lays189:Go.Proofs.Lays.n189 Tryz.prog Tryz.lays189_ren:= {
  mixed:=by kernel_rfl
  f125:=Tryz.func88.trans (congrArg some (by kernel_rfl))
  f128:=Tryz.func137.trans (congrArg some (by kernel_rfl))
  f129:=Tryz.func138.trans (congrArg some (by kernel_rfl))
  f189:=Tryz.func98.trans (congrArg some (by kernel_rfl))
  f215:=Tryz.func164.trans (congrArg some (by kernel_rfl))
  f216:=Tryz.func179.trans (congrArg some (by kernel_rfl))
  f257:=Tryz.func141.trans (congrArg some (by kernel_rfl))
  f294:=Tryz.func173.trans (congrArg some (by kernel_rfl))
  f295:=Tryz.func174.trans (congrArg some (by kernel_rfl))
  f296:=Tryz.func175.trans (congrArg some (by kernel_rfl))
  f297:=Tryz.func176.trans (congrArg some (by kernel_rfl))
  f298:=Tryz.func177.trans (congrArg some (by kernel_rfl))
  f299:=Tryz.func178.trans (congrArg some (by kernel_rfl))
  f300:=Tryz.func180.trans (congrArg some (by kernel_rfl))
  f301:=Tryz.func181.trans (congrArg some (by kernel_rfl))
  f328:=Tryz.func203.trans (congrArg some (by kernel_rfl))
  f329:=Tryz.func169.trans (congrArg some (by kernel_rfl))
  f330:=Tryz.func170.trans (congrArg some (by kernel_rfl))
  f331:=Tryz.func204.trans (congrArg some (by kernel_rfl))
  f332:=Tryz.func205.trans (congrArg some (by kernel_rfl))
  f343:=Tryz.func217.trans (congrArg some (by kernel_rfl))
  t0:=Tryz.underlying0
  a0:=Tryz.isAgg0
  z0:=Tryz.sizeOf0
  v0:=Tryz.zeroValue0
  t3:=Tryz.underlying3
  a3:=Tryz.isAgg3
  z3:=Tryz.sizeOf3
  v3:=Tryz.zeroValue3
  t4:=Tryz.underlying4
  a4:=Tryz.isAgg4
  z4:=Tryz.sizeOf4
  v4:=Tryz.zeroValue4
  t5:=Tryz.underlying5
  a5:=Tryz.isAgg5
  z5:=Tryz.sizeOf5
  v5:=Tryz.zeroValue5
  t9:=Tryz.underlying9
  a9:=Tryz.isAgg9
  z9:=Tryz.sizeOf9
  v9:=Tryz.zeroValue9
  t28:=Tryz.underlying59
  a28:=Tryz.isAgg59
  z28:=Tryz.sizeOf59
  v28:=Tryz.zeroValue59
  t46:=Tryz.underlying164
  a46:=Tryz.isAgg164
  z46:=Tryz.sizeOf164
  v46:=Tryz.zeroValue164
  t51:=Tryz.underlying208
  a51:=Tryz.isAgg208
  z51:=Tryz.sizeOf208
  v51:=Tryz.zeroValue208
  t53:=Tryz.underlying210
  a53:=Tryz.isAgg210
  z53:=Tryz.sizeOf210
  v53:=Tryz.zeroValue210
  t131:=Tryz.underlying171
  a131:=Tryz.isAgg171
  z131:=Tryz.sizeOf171
  v131:=Tryz.zeroValue171
  t182:=Tryz.underlying201
  a182:=Tryz.isAgg201
  z182:=Tryz.sizeOf201
  v182:=Tryz.zeroValue201
  t183:=Tryz.underlying202
  a183:=Tryz.isAgg202
  z183:=Tryz.sizeOf202
  v183:=Tryz.zeroValue202
  t218:=Tryz.underlying231
  a218:=Tryz.isAgg231
  z218:=Tryz.sizeOf231
  v218:=Tryz.zeroValue231
  t222:=Tryz.underlying235
  a222:=Tryz.isAgg235
  z222:=Tryz.sizeOf235
  v222:=Tryz.zeroValue235
  t228:=Tryz.underlying255
  a228:=Tryz.isAgg255
  z228:=Tryz.sizeOf255
  v228:=Tryz.zeroValue255
  t229:=Tryz.underlying256
  a229:=Tryz.isAgg256
  z229:=Tryz.sizeOf256
  v229:=Tryz.zeroValue256}
open Go.Sort Go.RowKit in
theorem Tryz.slices_Sort_int(blk off cap:Nat)(zs:List Int)(w:World)(hH:Holds (Value.int .i64) w blk off zs.toArray)(hblk:blk<w.heap.size)(hsz:zs.length<4611686018427387904):
    Calls Tryz.prog 98 #[.slice (some ⟨blk,off,none⟩) zs.length cap] w fun e w'=>
      e=.returned (.tuple #[])/\∃n os,w'=grow (putRow (Value.int .i64) (Sort.ahead w n) blk off (zs.mergeSort fun x y=>decide (x<=y)).toArray) os:=Any.slices_Sort_int Tryz.lays189 blk off cap zs w hH hblk hsz
end Go.Proofs
