/- Contracts of the library at this program, laid in plain words by the kit's tool. -/
import Derived.Test.YtambinjjfapcgaaDoorProg
import Derived.Ground.SlsfProg
import Derived.Shelf.SlGeneric
import Derived.Shelf.SlLaysF0
namespace Go.Proofs
open Go.Shelf
def Tryd.sortProcs_ren : Go.Shelf.Ren := ⟨fun | 6 => 14 | 15 => 25 | 14 => 24 | 28 => 40 | 29 => 41 | 20 => 32 | 21 => 33 | 22 => 34 | 23 => 35 | 24 => 36 | 25 => 37 | 26 => 38 | 27 => 39 | 46 => 51 | 47 => 52 | 48 => 53 | 49 => 54 | 50 => 55 | 57 => 67 | n => n, fun | 22 => 22 | 24 => 24 | 25 => 28 | 3 => 3 | 39 => 53 | 0 => 0 | 53 => 67 | 55 => 69 | 4 => 4 | 46 => 60 | 45 => 59 | 50 => 64 | 5 => 5 | 9 => 9 | 66 => 80 | 70 => 84 | 76 => 100 | 77 => 101 | n => n, fun | n => n⟩
theorem Tryd.sortProcs : Go.Proofs.SlLaysF0.n6 Tryd.prog Tryd.sortProcs_ren := {
  mixed := by kernel_rfl
  f6 := ⟨Tryd.f14.name, by decide, Tryd.func14.trans (congrArg some (by kernel_rfl))⟩
  f14 := ⟨Tryd.f24.name, by decide, Tryd.func24.trans (congrArg some (by kernel_rfl))⟩
  f15 := Tryd.func25.trans (congrArg some (by kernel_rfl))
  f20 := ⟨Tryd.f32.name, by decide, Tryd.func32.trans (congrArg some (by kernel_rfl))⟩
  f21 := ⟨Tryd.f33.name, by decide, Tryd.func33.trans (congrArg some (by kernel_rfl))⟩
  f22 := ⟨Tryd.f34.name, by decide, Tryd.func34.trans (congrArg some (by kernel_rfl))⟩
  f23 := ⟨Tryd.f35.name, by decide, Tryd.func35.trans (congrArg some (by kernel_rfl))⟩
  f24 := ⟨Tryd.f36.name, by decide, Tryd.func36.trans (congrArg some (by kernel_rfl))⟩
  f25 := ⟨Tryd.f37.name, by decide, Tryd.func37.trans (congrArg some (by kernel_rfl))⟩
  f26 := ⟨Tryd.f38.name, by decide, Tryd.func38.trans (congrArg some (by kernel_rfl))⟩
  f27 := ⟨Tryd.f39.name, by decide, Tryd.func39.trans (congrArg some (by kernel_rfl))⟩
  f28 := Tryd.func40.trans (congrArg some (by kernel_rfl))
  f29 := Tryd.func41.trans (congrArg some (by kernel_rfl))
  f46 := ⟨Tryd.f51.name, by decide, Tryd.func51.trans (congrArg some (by kernel_rfl))⟩
  f47 := Tryd.func52.trans (congrArg some (by kernel_rfl))
  f48 := Tryd.func53.trans (congrArg some (by kernel_rfl))
  f49 := ⟨Tryd.f54.name, by decide, Tryd.func54.trans (congrArg some (by kernel_rfl))⟩
  f50 := ⟨Tryd.f55.name, by decide, Tryd.func55.trans (congrArg some (by kernel_rfl))⟩
  f57 := ⟨Tryd.f67.name, by decide, Tryd.func67.trans (congrArg some (by kernel_rfl))⟩
  t0 := Tryd.underlying0
  a0 := Tryd.isAgg0
  z0 := Tryd.sizeOf0
  v0 := Tryd.zeroValue0
  t3 := Tryd.underlying3
  a3 := Tryd.isAgg3
  z3 := Tryd.sizeOf3
  v3 := Tryd.zeroValue3
  t4 := Tryd.underlying4
  a4 := Tryd.isAgg4
  z4 := Tryd.sizeOf4
  v4 := Tryd.zeroValue4
  t5 := Tryd.underlying5
  a5 := Tryd.isAgg5
  z5 := Tryd.sizeOf5
  v5 := Tryd.zeroValue5
  t9 := Tryd.underlying9
  a9 := Tryd.isAgg9
  z9 := Tryd.sizeOf9
  v9 := Tryd.zeroValue9
  t22 := Tryd.underlying22
  a22 := Tryd.isAgg22
  z22 := Tryd.sizeOf22
  v22 := Tryd.zeroValue22
  t25 := Tryd.underlying28
  a25 := Tryd.isAgg28
  z25 := Tryd.sizeOf28
  v25 := Tryd.zeroValue28
  t39 := Tryd.underlying53
  a39 := Tryd.isAgg53
  z39 := Tryd.sizeOf53
  v39 := Tryd.zeroValue53
  t45 := Tryd.underlying59
  a45 := Tryd.isAgg59
  z45 := Tryd.sizeOf59
  v45 := Tryd.zeroValue59
  t46 := Tryd.underlying60
  a46 := Tryd.isAgg60
  z46 := Tryd.sizeOf60
  v46 := Tryd.zeroValue60
  t50 := Tryd.underlying64
  a50 := Tryd.isAgg64
  z50 := Tryd.sizeOf64
  v50 := Tryd.zeroValue64
  t53 := Tryd.underlying67
  a53 := Tryd.isAgg67
  z53 := Tryd.sizeOf67
  v53 := Tryd.zeroValue67
  t55 := Tryd.underlying69
  a55 := Tryd.isAgg69
  z55 := Tryd.sizeOf69
  v55 := Tryd.zeroValue69
  t66 := Tryd.underlying80
  a66 := Tryd.isAgg80
  z66 := Tryd.sizeOf80
  v66 := Tryd.zeroValue80
  t70 := Tryd.underlying84
  a70 := Tryd.isAgg84
  z70 := Tryd.sizeOf84
  v70 := Tryd.zeroValue84
  t76 := Tryd.underlying100
  a76 := Tryd.isAgg100
  z76 := Tryd.sizeOf100
  v76 := Tryd.zeroValue100
  t77 := Tryd.underlying101
  a77 := Tryd.isAgg101
  z77 := Tryd.sizeOf101
  v77 := Tryd.zeroValue101 }
end Go.Proofs
