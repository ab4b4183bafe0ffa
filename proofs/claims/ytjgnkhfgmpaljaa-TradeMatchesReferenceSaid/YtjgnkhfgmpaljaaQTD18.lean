/- Lemmas, readings of functions as plain Lean functions and contracts of functions of the program, for the claimed theorem; each one's conditions stand in its statement. -/
import Derived.Shelf.SortM.Plain
import Derived.Shelf.SortM.SortNone
import Derived.Ground.SlgmProg
import Derived.Test.YtjgnkhfgmpaljaaProg
namespace Go.Proofs
set_option linter.unusedSimpArgs false
open Go.Shelf
def Try.sortI82_ren:Go.Shelf.Ren:=⟨fun|5=>82|8=>92|7=>91|19=>106|20=>107|10=>97|11=>98|12=>99|13=>100|14=>101|15=>102|16=>103|17=>104|18=>105|30=>109|31=>110|32=>111|33=>112|34=>113|35=>114|40=>117|n=>n,fun|23=>26|25=>3|3=>3|32=>120|22=>26|0=>0|44=>133|46=>135|4=>4|36=>127|35=>126|41=>121|5=>5|9=>9|53=>138|57=>142|63=>148|64=>149|n=>n,fun|n=>n⟩
theorem Try.sortI82:Go.Proofs.SlLaysM.n5 Try.prog Try.sortI82_ren:={
  mixed:=by kernel_rfl
  f5:=⟨Try.f82.name,by decide,Try.func82.trans (congrArg some (by kernel_rfl))⟩
  f7:=⟨Try.f91.name,by decide,Try.func91.trans (congrArg some (by kernel_rfl))⟩
  f8:=Try.func92.trans (congrArg some (by kernel_rfl))
  f10:=⟨Try.f97.name,by decide,Try.func97.trans (congrArg some (by kernel_rfl))⟩
  f11:=⟨Try.f98.name,by decide,Try.func98.trans (congrArg some (by kernel_rfl))⟩
  f12:=⟨Try.f99.name,by decide,Try.func99.trans (congrArg some (by kernel_rfl))⟩
  f13:=⟨Try.f100.name,by decide,Try.func100.trans (congrArg some (by kernel_rfl))⟩
  f14:=⟨Try.f101.name,by decide,Try.func101.trans (congrArg some (by kernel_rfl))⟩
  f15:=⟨Try.f102.name,by decide,Try.func102.trans (congrArg some (by kernel_rfl))⟩
  f16:=⟨Try.f103.name,by decide,Try.func103.trans (congrArg some (by kernel_rfl))⟩
  f17:=⟨Try.f104.name,by decide,Try.func104.trans (congrArg some (by kernel_rfl))⟩
  f18:=⟨Try.f105.name,by decide,Try.func105.trans (congrArg some (by kernel_rfl))⟩
  f19:=Try.func106.trans (congrArg some (by kernel_rfl))
  f20:=Try.func107.trans (congrArg some (by kernel_rfl))
  f30:=⟨Try.f109.name,by decide,Try.func109.trans (congrArg some (by kernel_rfl))⟩
  f31:=Try.func110.trans (congrArg some (by kernel_rfl))
  f32:=Try.func111.trans (congrArg some (by kernel_rfl))
  f33:=⟨Try.f112.name,by decide,Try.func112.trans (congrArg some (by kernel_rfl))⟩
  f34:=⟨Try.f113.name,by decide,Try.func113.trans (congrArg some (by kernel_rfl))⟩
  f35:=⟨Try.f114.name,by decide,Try.func114.trans (congrArg some (by kernel_rfl))⟩
  f40:=⟨Try.f117.name,by decide,Try.func117.trans (congrArg some (by kernel_rfl))⟩
  t0:=Try.underlying0
  a0:=Try.isAgg0
  z0:=Try.sizeOf0
  v0:=Try.zeroValue0
  t3:=Try.underlying3
  a3:=Try.isAgg3
  z3:=Try.sizeOf3
  v3:=Try.zeroValue3
  t4:=Try.underlying4
  a4:=Try.isAgg4
  z4:=Try.sizeOf4
  v4:=Try.zeroValue4
  t5:=Try.underlying5
  a5:=Try.isAgg5
  z5:=Try.sizeOf5
  v5:=Try.zeroValue5
  t9:=Try.underlying9
  a9:=Try.isAgg9
  z9:=Try.sizeOf9
  v9:=Try.zeroValue9
  t22:=Try.underlying26
  a22:=Try.isAgg26
  z22:=Try.sizeOf26
  v22:=Try.zeroValue26
  t23:=Try.underlying26
  a23:=Try.isAgg26
  z23:=Try.sizeOf26
  v23:=Try.zeroValue26
  t25:=Try.underlying3
  a25:=Try.isAgg3
  z25:=Try.sizeOf3
  v25:=Try.zeroValue3
  t32:=Try.underlying120
  a32:=Try.isAgg120
  z32:=Try.sizeOf120
  v32:=Try.zeroValue120
  t35:=Try.underlying126
  a35:=Try.isAgg126
  z35:=Try.sizeOf126
  v35:=Try.zeroValue126
  t36:=Try.underlying127
  a36:=Try.isAgg127
  z36:=Try.sizeOf127
  v36:=Try.zeroValue127
  t41:=Try.underlying121
  a41:=Try.isAgg121
  z41:=Try.sizeOf121
  v41:=Try.zeroValue121
  t44:=Try.underlying133
  a44:=Try.isAgg133
  z44:=Try.sizeOf133
  v44:=Try.zeroValue133
  t46:=Try.underlying135
  a46:=Try.isAgg135
  z46:=Try.sizeOf135
  v46:=Try.zeroValue135
  t53:=Try.underlying138
  a53:=Try.isAgg138
  z53:=Try.sizeOf138
  v53:=Try.zeroValue138
  t57:=Try.underlying142
  a57:=Try.isAgg142
  z57:=Try.sizeOf142
  v57:=Try.zeroValue142
  t63:=Try.underlying148
  a63:=Try.isAgg148
  z63:=Try.sizeOf148
  v63:=Try.zeroValue148
  t64:=Try.underlying149
  a64:=Try.isAgg149
  z64:=Try.sizeOf149
  v64:=Try.zeroValue149 }
open Go.RowKit Go.Sort Go.Shelf
theorem Try.sort_some (blk off cap:Nat) (ss:List Int) (W:World) (hH:Holds (Value.int .i64) W blk off ss.toArray) (hblk:blk < W.heap.size) (hsz:ss.length < 4611686018427387904) :
    Calls Try.prog 82 #[.slice (some ⟨blk,off,none⟩) ss.length cap] W fun e w'=>e = .returned (.tuple #[])∧∃ k os,w'=grow (putRow (Value.int .i64) (Sort.ahead W k) blk off (ss.mergeSort fun x y=>decide (x≤y)).toArray) os :=
  AnyM.slices_Sort_int Try.sortI82 blk off cap ss W hH hblk hsz
theorem Try.sort_none (p:Option Addr) (cap:Nat) (W:World):Calls Try.prog 82 #[.slice p 0 cap] W fun e w'=>e = .returned (.tuple #[])∧w'=W:=AnyM.slices_Sort_int_none Try.sortI82 p cap W

end Go.Proofs
