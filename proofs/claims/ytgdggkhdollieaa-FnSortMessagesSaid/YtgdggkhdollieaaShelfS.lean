/-
  Where the library's sort of ints lies in this program.
-/
import Derived.Shelf.SlGeneric
import Derived.Shelf.SortM.Plain
import Derived.Shelf.SortM.SortNone
import Derived.Ground.SlgmProg
import Derived.Test.YtgdggkhdollieaaChecked
namespace Go.Proofs.Ytgdggkhdollieaa
open Go.Shelf
def sortA_ren : Go.Shelf.Ren := ⟨fun | 5 => 90 | 8 => 109 | 7 => 108 | 19 => 124 | 20 => 125 | 10 => 115 | 11 => 116 | 12 => 117 | 13 => 118 | 14 => 119 | 15 => 120 | 16 => 121 | 17 => 122 | 18 => 123 | 30 => 135 | 31 => 136 | 32 => 137 | 33 => 138 | 34 => 139 | 35 => 134 | 40 => 143 | n => n, fun | 23 => 23 | 25 => 3 | 3 => 3 | 32 => 132 | 22 => 23 | 0 => 0 | 44 => 153 | 46 => 155 | 4 => 4 | 36 => 145 | 35 => 144 | 41 => 150 | 5 => 5 | 9 => 9 | 53 => 161 | 57 => 165 | 63 => 169 | 64 => 170 | n => n, fun | n => n⟩
theorem sortA : Go.Proofs.SlLaysM.n5 Try.prog sortA_ren := {
  mixed := by kernel_rfl
  f5 := ⟨Try.f90.name, by decide, Try.func90.trans (congrArg some (by kernel_rfl))⟩
  f7 := ⟨Try.f108.name, by decide, Try.func108.trans (congrArg some (by kernel_rfl))⟩
  f8 := Try.func109.trans (congrArg some (by kernel_rfl))
  f10 := ⟨Try.f115.name, by decide, Try.func115.trans (congrArg some (by kernel_rfl))⟩
  f11 := ⟨Try.f116.name, by decide, Try.func116.trans (congrArg some (by kernel_rfl))⟩
  f12 := ⟨Try.f117.name, by decide, Try.func117.trans (congrArg some (by kernel_rfl))⟩
  f13 := ⟨Try.f118.name, by decide, Try.func118.trans (congrArg some (by kernel_rfl))⟩
  f14 := ⟨Try.f119.name, by decide, Try.func119.trans (congrArg some (by kernel_rfl))⟩
  f15 := ⟨Try.f120.name, by decide, Try.func120.trans (congrArg some (by kernel_rfl))⟩
  f16 := ⟨Try.f121.name, by decide, Try.func121.trans (congrArg some (by kernel_rfl))⟩
  f17 := ⟨Try.f122.name, by decide, Try.func122.trans (congrArg some (by kernel_rfl))⟩
  f18 := ⟨Try.f123.name, by decide, Try.func123.trans (congrArg some (by kernel_rfl))⟩
  f19 := Try.func124.trans (congrArg some (by kernel_rfl))
  f20 := Try.func125.trans (congrArg some (by kernel_rfl))
  f30 := ⟨Try.f135.name, by decide, Try.func135.trans (congrArg some (by kernel_rfl))⟩
  f31 := Try.func136.trans (congrArg some (by kernel_rfl))
  f32 := Try.func137.trans (congrArg some (by kernel_rfl))
  f33 := ⟨Try.f138.name, by decide, Try.func138.trans (congrArg some (by kernel_rfl))⟩
  f34 := ⟨Try.f139.name, by decide, Try.func139.trans (congrArg some (by kernel_rfl))⟩
  f35 := ⟨Try.f134.name, by decide, Try.func134.trans (congrArg some (by kernel_rfl))⟩
  f40 := ⟨Try.f143.name, by decide, Try.func143.trans (congrArg some (by kernel_rfl))⟩
  t0 := Try.underlying0
  a0 := Try.isAgg0
  z0 := Try.sizeOf0
  v0 := Try.zeroValue0
  t3 := Try.underlying3
  a3 := Try.isAgg3
  z3 := Try.sizeOf3
  v3 := Try.zeroValue3
  t4 := Try.underlying4
  a4 := Try.isAgg4
  z4 := Try.sizeOf4
  v4 := Try.zeroValue4
  t5 := Try.underlying5
  a5 := Try.isAgg5
  z5 := Try.sizeOf5
  v5 := Try.zeroValue5
  t9 := Try.underlying9
  a9 := Try.isAgg9
  z9 := Try.sizeOf9
  v9 := Try.zeroValue9
  t22 := Try.underlying23
  a22 := Try.isAgg23
  z22 := Try.sizeOf23
  v22 := Try.zeroValue23
  t23 := Try.underlying23
  a23 := Try.isAgg23
  z23 := Try.sizeOf23
  v23 := Try.zeroValue23
  t25 := Try.underlying3
  a25 := Try.isAgg3
  z25 := Try.sizeOf3
  v25 := Try.zeroValue3
  t32 := Try.underlying132
  a32 := Try.isAgg132
  z32 := Try.sizeOf132
  v32 := Try.zeroValue132
  t35 := Try.underlying144
  a35 := Try.isAgg144
  z35 := Try.sizeOf144
  v35 := Try.zeroValue144
  t36 := Try.underlying145
  a36 := Try.isAgg145
  z36 := Try.sizeOf145
  v36 := Try.zeroValue145
  t41 := Try.underlying150
  a41 := Try.isAgg150
  z41 := Try.sizeOf150
  v41 := Try.zeroValue150
  t44 := Try.underlying153
  a44 := Try.isAgg153
  z44 := Try.sizeOf153
  v44 := Try.zeroValue153
  t46 := Try.underlying155
  a46 := Try.isAgg155
  z46 := Try.sizeOf155
  v46 := Try.zeroValue155
  t53 := Try.underlying161
  a53 := Try.isAgg161
  z53 := Try.sizeOf161
  v53 := Try.zeroValue161
  t57 := Try.underlying165
  a57 := Try.isAgg165
  z57 := Try.sizeOf165
  v57 := Try.zeroValue165
  t63 := Try.underlying169
  a63 := Try.isAgg169
  z63 := Try.sizeOf169
  v63 := Try.zeroValue169
  t64 := Try.underlying170
  a64 := Try.isAgg170
  z64 := Try.sizeOf170
  v64 := Try.zeroValue170 }
end Go.Proofs.Ytgdggkhdollieaa
