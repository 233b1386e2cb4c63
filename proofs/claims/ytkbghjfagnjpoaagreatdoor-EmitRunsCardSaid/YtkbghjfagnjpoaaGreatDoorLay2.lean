/-
  DERIVED: THE SHELF's CONTRACTS AT THIS DUMP, IN PLAIN WORDS (tools/lay-plain.mjs out of 'YtkbghjfagnjpoaaGreatDoorLayTry2.lean', which tools/lay-shelf.mjs wrote): THE SAME DECLARATIONS UNDER THE SAME NAMES: 'import', 'namespace', 'open', 'def', 'theorem' AND NOTHING ELSE: no command of the shelf's: FOR A HAND-IN. Each laying: the table of numbers ('.._ren') and one theorem, a field a fact of the dump's own or the kernel's comparison; each contract: ONE APPLICATION.
-/
import Derived.Shelf.SlIterI.Sorted
import Derived.Shelf.SortM.Plain
import Derived.Shelf.SortM.SortNone
import Derived.Ground.GgzProg
import Derived.Ground.SlgmProg
import Derived.Test.YtkbghjfagnjpoaaGreatDoorProg
namespace Go.Proofs
open Go.Shelf
def Tryz.sortedInts_ren : Go.Shelf.Ren := ⟨fun | 6 => 123 | 8 => 154 | 9 => 155 | 11 => 168 | 13 => 170 | 12 => 169 | 23 => 185 | 24 => 186 | 14 => 176 | 15 => 177 | 16 => 178 | 17 => 179 | 18 => 180 | 19 => 181 | 20 => 182 | 21 => 183 | 22 => 184 | 25 => 192 | 26 => 193 | 27 => 194 | 28 => 195 | 29 => 196 | 30 => 197 | 31 => 202 | n => n, fun | 26 => 3 | 28 => 162 | 24 => 23 | 0 => 0 | 3 => 3 | 37 => 134 | 48 => 205 | 50 => 207 | 4 => 4 | 40 => 199 | 39 => 198 | 45 => 117 | 5 => 5 | 9 => 9 | 51 => 210 | 55 => 166 | 57 => 220 | 58 => 221 | 33 => 97 | n => n, fun | n => n⟩
theorem Tryz.sortedInts : Go.Proofs.SlLaysZI.n6 Tryz.prog Tryz.sortedInts_ren := {
  mixed := by kernel_rfl
  f6 := ⟨Tryz.f123.name, by decide, Tryz.func123.trans (congrArg some (by kernel_rfl))⟩
  f8 := ⟨Tryz.f154.name, by decide, Tryz.func154.trans (congrArg some (by kernel_rfl))⟩
  f11 := ⟨Tryz.f168.name, by decide, Tryz.func168.trans (congrArg some (by kernel_rfl))⟩
  t0 := Tryz.underlying0
  a0 := Tryz.isAgg0
  z0 := Tryz.sizeOf0
  v0 := Tryz.zeroValue0
  t24 := Tryz.underlying23
  a24 := Tryz.isAgg23
  z24 := Tryz.sizeOf23
  v24 := Tryz.zeroValue23
  t26 := Tryz.underlying3
  a26 := Tryz.isAgg3
  z26 := Tryz.sizeOf3
  v26 := Tryz.zeroValue3
  t28 := Tryz.underlying162
  a28 := Tryz.isAgg162
  z28 := Tryz.sizeOf162
  v28 := Tryz.zeroValue162
  i26 := by kernel_rfl }
def Tryz.sortInts_ren : Go.Shelf.Ren := ⟨fun | 5 => 155 | 8 => 170 | 7 => 169 | 19 => 185 | 20 => 186 | 10 => 176 | 11 => 177 | 12 => 178 | 13 => 179 | 14 => 180 | 15 => 181 | 16 => 182 | 17 => 183 | 18 => 184 | 30 => 192 | 31 => 193 | 32 => 194 | 33 => 195 | 34 => 196 | 35 => 197 | 40 => 202 | n => n, fun | 23 => 23 | 25 => 3 | 3 => 3 | 32 => 134 | 22 => 23 | 0 => 0 | 44 => 205 | 46 => 207 | 4 => 4 | 36 => 199 | 35 => 198 | 41 => 117 | 5 => 5 | 9 => 9 | 53 => 210 | 57 => 166 | 63 => 220 | 64 => 221 | n => n, fun | n => n⟩
theorem Tryz.sortInts : Go.Proofs.SlLaysM.n5 Tryz.prog Tryz.sortInts_ren := {
  mixed := by kernel_rfl
  f5 := ⟨Tryz.f155.name, by decide, Tryz.func155.trans (congrArg some (by kernel_rfl))⟩
  f7 := ⟨Tryz.f169.name, by decide, Tryz.func169.trans (congrArg some (by kernel_rfl))⟩
  f8 := Tryz.func170.trans (congrArg some (by kernel_rfl))
  f10 := ⟨Tryz.f176.name, by decide, Tryz.func176.trans (congrArg some (by kernel_rfl))⟩
  f11 := ⟨Tryz.f177.name, by decide, Tryz.func177.trans (congrArg some (by kernel_rfl))⟩
  f12 := ⟨Tryz.f178.name, by decide, Tryz.func178.trans (congrArg some (by kernel_rfl))⟩
  f13 := ⟨Tryz.f179.name, by decide, Tryz.func179.trans (congrArg some (by kernel_rfl))⟩
  f14 := ⟨Tryz.f180.name, by decide, Tryz.func180.trans (congrArg some (by kernel_rfl))⟩
  f15 := ⟨Tryz.f181.name, by decide, Tryz.func181.trans (congrArg some (by kernel_rfl))⟩
  f16 := ⟨Tryz.f182.name, by decide, Tryz.func182.trans (congrArg some (by kernel_rfl))⟩
  f17 := ⟨Tryz.f183.name, by decide, Tryz.func183.trans (congrArg some (by kernel_rfl))⟩
  f18 := ⟨Tryz.f184.name, by decide, Tryz.func184.trans (congrArg some (by kernel_rfl))⟩
  f19 := Tryz.func185.trans (congrArg some (by kernel_rfl))
  f20 := Tryz.func186.trans (congrArg some (by kernel_rfl))
  f30 := ⟨Tryz.f192.name, by decide, Tryz.func192.trans (congrArg some (by kernel_rfl))⟩
  f31 := Tryz.func193.trans (congrArg some (by kernel_rfl))
  f32 := Tryz.func194.trans (congrArg some (by kernel_rfl))
  f33 := ⟨Tryz.f195.name, by decide, Tryz.func195.trans (congrArg some (by kernel_rfl))⟩
  f34 := ⟨Tryz.f196.name, by decide, Tryz.func196.trans (congrArg some (by kernel_rfl))⟩
  f35 := ⟨Tryz.f197.name, by decide, Tryz.func197.trans (congrArg some (by kernel_rfl))⟩
  f40 := ⟨Tryz.f202.name, by decide, Tryz.func202.trans (congrArg some (by kernel_rfl))⟩
  t0 := Tryz.underlying0
  a0 := Tryz.isAgg0
  z0 := Tryz.sizeOf0
  v0 := Tryz.zeroValue0
  t3 := Tryz.underlying3
  a3 := Tryz.isAgg3
  z3 := Tryz.sizeOf3
  v3 := Tryz.zeroValue3
  t4 := Tryz.underlying4
  a4 := Tryz.isAgg4
  z4 := Tryz.sizeOf4
  v4 := Tryz.zeroValue4
  t5 := Tryz.underlying5
  a5 := Tryz.isAgg5
  z5 := Tryz.sizeOf5
  v5 := Tryz.zeroValue5
  t9 := Tryz.underlying9
  a9 := Tryz.isAgg9
  z9 := Tryz.sizeOf9
  v9 := Tryz.zeroValue9
  t22 := Tryz.underlying23
  a22 := Tryz.isAgg23
  z22 := Tryz.sizeOf23
  v22 := Tryz.zeroValue23
  t23 := Tryz.underlying23
  a23 := Tryz.isAgg23
  z23 := Tryz.sizeOf23
  v23 := Tryz.zeroValue23
  t25 := Tryz.underlying3
  a25 := Tryz.isAgg3
  z25 := Tryz.sizeOf3
  v25 := Tryz.zeroValue3
  t32 := Tryz.underlying134
  a32 := Tryz.isAgg134
  z32 := Tryz.sizeOf134
  v32 := Tryz.zeroValue134
  t35 := Tryz.underlying198
  a35 := Tryz.isAgg198
  z35 := Tryz.sizeOf198
  v35 := Tryz.zeroValue198
  t36 := Tryz.underlying199
  a36 := Tryz.isAgg199
  z36 := Tryz.sizeOf199
  v36 := Tryz.zeroValue199
  t41 := Tryz.underlying117
  a41 := Tryz.isAgg117
  z41 := Tryz.sizeOf117
  v41 := Tryz.zeroValue117
  t44 := Tryz.underlying205
  a44 := Tryz.isAgg205
  z44 := Tryz.sizeOf205
  v44 := Tryz.zeroValue205
  t46 := Tryz.underlying207
  a46 := Tryz.isAgg207
  z46 := Tryz.sizeOf207
  v46 := Tryz.zeroValue207
  t53 := Tryz.underlying210
  a53 := Tryz.isAgg210
  z53 := Tryz.sizeOf210
  v53 := Tryz.zeroValue210
  t57 := Tryz.underlying166
  a57 := Tryz.isAgg166
  z57 := Tryz.sizeOf166
  v57 := Tryz.zeroValue166
  t63 := Tryz.underlying220
  a63 := Tryz.isAgg220
  z63 := Tryz.sizeOf220
  v63 := Tryz.zeroValue220
  t64 := Tryz.underlying221
  a64 := Tryz.isAgg221
  z64 := Tryz.sizeOf221
  v64 := Tryz.zeroValue221 }
end Go.Proofs
