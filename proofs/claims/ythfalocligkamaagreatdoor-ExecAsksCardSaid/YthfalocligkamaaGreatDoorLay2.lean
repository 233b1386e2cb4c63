/-
  DERIVED: THE SHELF's CONTRACTS AT THIS DUMP, IN PLAIN WORDS (tools/lay-plain.mjs out of 'YthfalocligkamaaGreatDoorLayTry2.lean', which tools/lay-shelf.mjs wrote): THE SAME DECLARATIONS UNDER THE SAME NAMES: 'import', 'namespace', 'open', 'def', 'theorem' AND NOTHING ELSE: no command of the shelf's: FOR A HAND-IN. Each laying: the table of numbers ('.._ren') and one theorem, a field a fact of the dump's own or the kernel's comparison; each contract: ONE APPLICATION.
-/
import Derived.Shelf.SlIterI.Sorted
import Derived.Shelf.SortM.Plain
import Derived.Shelf.SortM.SortNone
import Derived.Ground.GgzProg
import Derived.Ground.SlgmProg
import Derived.Test.YthfalocligkamaaGreatDoorProg
namespace Go.Proofs
open Go.Shelf
def Tryz.sortedInts_ren : Go.Shelf.Ren := ⟨fun | 6 => 136 | 8 => 157 | 9 => 158 | 11 => 181 | 13 => 183 | 12 => 182 | 23 => 200 | 24 => 201 | 14 => 191 | 15 => 192 | 16 => 193 | 17 => 194 | 18 => 195 | 19 => 196 | 20 => 197 | 21 => 198 | 22 => 199 | 25 => 205 | 26 => 206 | 27 => 207 | 28 => 208 | 29 => 209 | 30 => 210 | 31 => 213 | n => n, fun | 26 => 3 | 28 => 167 | 24 => 23 | 0 => 0 | 3 => 3 | 37 => 117 | 48 => 217 | 50 => 107 | 4 => 4 | 40 => 211 | 39 => 210 | 45 => 67 | 5 => 5 | 9 => 9 | 51 => 222 | 55 => 193 | 57 => 228 | 58 => 229 | 33 => 65 | n => n, fun | n => n⟩
theorem Tryz.sortedInts : Go.Proofs.SlLaysZI.n6 Tryz.prog Tryz.sortedInts_ren := {
  mixed := by kernel_rfl
  f6 := ⟨Tryz.f136.name, by decide, Tryz.func136.trans (congrArg some (by kernel_rfl))⟩
  f8 := ⟨Tryz.f157.name, by decide, Tryz.func157.trans (congrArg some (by kernel_rfl))⟩
  f11 := ⟨Tryz.f181.name, by decide, Tryz.func181.trans (congrArg some (by kernel_rfl))⟩
  t0 := Tryz.underlying0
  a0 := Tryz.isAgg0
  z0 := Tryz.sizeOf0
  v0 := Tryz.zeroValue0
  t24 := Tryz.underlying23
  a24 := Tryz.isAgg23
  z24 := Tryz.sizeOf23
  v24 := Tryz.zeroValue23
  t26 := Tryz.underlying3
  a26 := Tryz.isAgg3
  z26 := Tryz.sizeOf3
  v26 := Tryz.zeroValue3
  t28 := Tryz.underlying167
  a28 := Tryz.isAgg167
  z28 := Tryz.sizeOf167
  v28 := Tryz.zeroValue167
  i26 := by kernel_rfl }
def Tryz.sortInts_ren : Go.Shelf.Ren := ⟨fun | 5 => 158 | 8 => 183 | 7 => 182 | 19 => 200 | 20 => 201 | 10 => 191 | 11 => 192 | 12 => 193 | 13 => 194 | 14 => 195 | 15 => 196 | 16 => 197 | 17 => 198 | 18 => 199 | 30 => 205 | 31 => 206 | 32 => 207 | 33 => 208 | 34 => 209 | 35 => 210 | 40 => 213 | n => n, fun | 23 => 23 | 25 => 3 | 3 => 3 | 32 => 117 | 22 => 23 | 0 => 0 | 44 => 217 | 46 => 107 | 4 => 4 | 36 => 211 | 35 => 210 | 41 => 67 | 5 => 5 | 9 => 9 | 53 => 222 | 57 => 193 | 63 => 228 | 64 => 229 | n => n, fun | n => n⟩
theorem Tryz.sortInts : Go.Proofs.SlLaysM.n5 Tryz.prog Tryz.sortInts_ren := {
  mixed := by kernel_rfl
  f5 := ⟨Tryz.f158.name, by decide, Tryz.func158.trans (congrArg some (by kernel_rfl))⟩
  f7 := ⟨Tryz.f182.name, by decide, Tryz.func182.trans (congrArg some (by kernel_rfl))⟩
  f8 := Tryz.func183.trans (congrArg some (by kernel_rfl))
  f10 := ⟨Tryz.f191.name, by decide, Tryz.func191.trans (congrArg some (by kernel_rfl))⟩
  f11 := ⟨Tryz.f192.name, by decide, Tryz.func192.trans (congrArg some (by kernel_rfl))⟩
  f12 := ⟨Tryz.f193.name, by decide, Tryz.func193.trans (congrArg some (by kernel_rfl))⟩
  f13 := ⟨Tryz.f194.name, by decide, Tryz.func194.trans (congrArg some (by kernel_rfl))⟩
  f14 := ⟨Tryz.f195.name, by decide, Tryz.func195.trans (congrArg some (by kernel_rfl))⟩
  f15 := ⟨Tryz.f196.name, by decide, Tryz.func196.trans (congrArg some (by kernel_rfl))⟩
  f16 := ⟨Tryz.f197.name, by decide, Tryz.func197.trans (congrArg some (by kernel_rfl))⟩
  f17 := ⟨Tryz.f198.name, by decide, Tryz.func198.trans (congrArg some (by kernel_rfl))⟩
  f18 := ⟨Tryz.f199.name, by decide, Tryz.func199.trans (congrArg some (by kernel_rfl))⟩
  f19 := Tryz.func200.trans (congrArg some (by kernel_rfl))
  f20 := Tryz.func201.trans (congrArg some (by kernel_rfl))
  f30 := ⟨Tryz.f205.name, by decide, Tryz.func205.trans (congrArg some (by kernel_rfl))⟩
  f31 := Tryz.func206.trans (congrArg some (by kernel_rfl))
  f32 := Tryz.func207.trans (congrArg some (by kernel_rfl))
  f33 := ⟨Tryz.f208.name, by decide, Tryz.func208.trans (congrArg some (by kernel_rfl))⟩
  f34 := ⟨Tryz.f209.name, by decide, Tryz.func209.trans (congrArg some (by kernel_rfl))⟩
  f35 := ⟨Tryz.f210.name, by decide, Tryz.func210.trans (congrArg some (by kernel_rfl))⟩
  f40 := ⟨Tryz.f213.name, by decide, Tryz.func213.trans (congrArg some (by kernel_rfl))⟩
  t0 := Tryz.underlying0
  a0 := Tryz.isAgg0
  z0 := Tryz.sizeOf0
  v0 := Tryz.zeroValue0
  t3 := Tryz.underlying3
  a3 := Tryz.isAgg3
  z3 := Tryz.sizeOf3
  v3 := Tryz.zeroValue3
  t4 := Tryz.underlying4
  a4 := Tryz.isAgg4
  z4 := Tryz.sizeOf4
  v4 := Tryz.zeroValue4
  t5 := Tryz.underlying5
  a5 := Tryz.isAgg5
  z5 := Tryz.sizeOf5
  v5 := Tryz.zeroValue5
  t9 := Tryz.underlying9
  a9 := Tryz.isAgg9
  z9 := Tryz.sizeOf9
  v9 := Tryz.zeroValue9
  t22 := Tryz.underlying23
  a22 := Tryz.isAgg23
  z22 := Tryz.sizeOf23
  v22 := Tryz.zeroValue23
  t23 := Tryz.underlying23
  a23 := Tryz.isAgg23
  z23 := Tryz.sizeOf23
  v23 := Tryz.zeroValue23
  t25 := Tryz.underlying3
  a25 := Tryz.isAgg3
  z25 := Tryz.sizeOf3
  v25 := Tryz.zeroValue3
  t32 := Tryz.underlying117
  a32 := Tryz.isAgg117
  z32 := Tryz.sizeOf117
  v32 := Tryz.zeroValue117
  t35 := Tryz.underlying210
  a35 := Tryz.isAgg210
  z35 := Tryz.sizeOf210
  v35 := Tryz.zeroValue210
  t36 := Tryz.underlying211
  a36 := Tryz.isAgg211
  z36 := Tryz.sizeOf211
  v36 := Tryz.zeroValue211
  t41 := Tryz.underlying67
  a41 := Tryz.isAgg67
  z41 := Tryz.sizeOf67
  v41 := Tryz.zeroValue67
  t44 := Tryz.underlying217
  a44 := Tryz.isAgg217
  z44 := Tryz.sizeOf217
  v44 := Tryz.zeroValue217
  t46 := Tryz.underlying107
  a46 := Tryz.isAgg107
  z46 := Tryz.sizeOf107
  v46 := Tryz.zeroValue107
  t53 := Tryz.underlying222
  a53 := Tryz.isAgg222
  z53 := Tryz.sizeOf222
  v53 := Tryz.zeroValue222
  t57 := Tryz.underlying193
  a57 := Tryz.isAgg193
  z57 := Tryz.sizeOf193
  v57 := Tryz.zeroValue193
  t63 := Tryz.underlying228
  a63 := Tryz.isAgg228
  z63 := Tryz.sizeOf228
  v63 := Tryz.zeroValue228
  t64 := Tryz.underlying229
  a64 := Tryz.isAgg229
  z64 := Tryz.sizeOf229
  v64 := Tryz.zeroValue229 }
end Go.Proofs
