import Derived.Shelf.SlIterI.Nil
import Derived.Ground.GgzProg
import Derived.Test.YtmgmdnmfalepkaaProg
namespace Go.Proofs
open Go.Shelf
def Try.sorted96_ren : Go.Shelf.Ren := ⟨fun | 6 => 96 | 8 => 138 | 9 => 75 | 11 => 170 | 13 => 129 | 12 => 128 | 23 => 166 | 24 => 167 | 14 => 157 | 15 => 158 | 16 => 159 | 17 => 160 | 18 => 161 | 19 => 162 | 20 => 163 | 21 => 164 | 22 => 165 | 25 => 175 | 26 => 176 | 27 => 177 | 28 => 178 | 29 => 179 | 30 => 180 | 31 => 184 | n => n, fun | 26 => 3 | 28 => 94 | 24 => 22 | 0 => 0 | 3 => 3 | 37 => 140 | 48 => 157 | 50 => 183 | 4 => 4 | 40 => 175 | 39 => 174 | 45 => 89 | 5 => 5 | 9 => 9 | 51 => 188 | 55 => 192 | 57 => 197 | 58 => 149 | 33 => 107 | n => n, fun | n => n⟩
theorem Try.sorted96 : Go.Proofs.SlLaysZI.n6 Try.prog Try.sorted96_ren := {
  mixed := by kernel_rfl
  f6 := ⟨Try.f96.name, by decide, Try.func96.trans (congrArg some (by kernel_rfl))⟩
  f8 := ⟨Try.f138.name, by decide, Try.func138.trans (congrArg some (by kernel_rfl))⟩
  f11 := ⟨Try.f170.name, by decide, Try.func170.trans (congrArg some (by kernel_rfl))⟩
  t0 := Try.underlying0
  a0 := Try.isAgg0
  z0 := Try.sizeOf0
  v0 := Try.zeroValue0
  t24 := Try.underlying22
  a24 := Try.isAgg22
  z24 := Try.sizeOf22
  v24 := Try.zeroValue22
  t26 := Try.underlying3
  a26 := Try.isAgg3
  z26 := Try.sizeOf3
  v26 := Try.zeroValue3
  t28 := Try.underlying94
  a28 := Try.isAgg94
  z28 := Try.sizeOf94
  v28 := Try.zeroValue94
  i26 := by kernel_rfl }
def Try.keys97_ren : Go.Shelf.Ren := ⟨fun | 7 => 97 | 10 => 139 | n => n, fun | 23 => 104 | 26 => 3 | 3 => 22 | 28 => 94 | 0 => 0 | 27 => 93 | 33 => 107 | 4 => 4 | n => n, fun | n => n⟩
theorem Try.keys97 : Go.Proofs.SlLaysZI.n7 Try.prog Try.keys97_ren := {
  mixed := by kernel_rfl
  f7 := ⟨Try.f97.name, by decide, Try.func97.trans (congrArg some (by kernel_rfl))⟩
  f10 := ⟨Try.f139.name, by decide, Try.func139.trans (congrArg some (by kernel_rfl))⟩
  t0 := Try.underlying0
  a0 := Try.isAgg0
  z0 := Try.sizeOf0
  v0 := Try.zeroValue0
  t4 := Try.underlying4
  a4 := Try.isAgg4
  z4 := Try.sizeOf4
  v4 := Try.zeroValue4
  t23 := Try.underlying104
  a23 := Try.isAgg104
  z23 := Try.sizeOf104
  v23 := Try.zeroValue104
  t26 := Try.underlying3
  a26 := Try.isAgg3
  z26 := Try.sizeOf3
  v26 := Try.zeroValue3
  t27 := Try.underlying93
  a27 := Try.isAgg93
  z27 := Try.sizeOf93
  v27 := Try.zeroValue93
  t28 := Try.underlying94
  a28 := Try.isAgg94
  z28 := Try.sizeOf94
  v28 := Try.zeroValue94
  t33 := Try.underlying107
  a33 := Try.isAgg107
  z33 := Try.sizeOf107
  v33 := Try.zeroValue107 }
end Go.Proofs
