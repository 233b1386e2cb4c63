/-
  DERIVED: THE SHELF's CONTRACTS AT THIS DUMP, IN PLAIN WORDS (tools/lay-plain.mjs out of 'YtgobdndjemicjaaGreatDoorLayTry2.lean', which tools/lay-shelf.mjs wrote): THE SAME DECLARATIONS UNDER THE SAME NAMES: 'import', 'namespace', 'open', 'def', 'theorem' AND NOTHING ELSE: no command of the shelf's: FOR A HAND-IN. Each laying: the table of numbers ('.._ren') and one theorem, a field a fact of the dump's own or the kernel's comparison; each contract: ONE APPLICATION.
-/
import Derived.Shelf.SlIterI.Sorted
import Derived.Shelf.SortM.Plain
import Derived.Shelf.SortM.SortNone
import Derived.Ground.GgzProg
import Derived.Ground.SlgmProg
import Derived.Test.YtgobdndjemicjaaGreatDoorProg
namespace Go.Proofs
open Go.Shelf
def Tryz.sortedInts_ren : Go.Shelf.Ren := ⟨fun | 6 => 180 | 8 => 231 | 9 => 232 | 11 => 256 | 13 => 258 | 12 => 257 | 23 => 276 | 24 => 277 | 14 => 267 | 15 => 268 | 16 => 269 | 17 => 270 | 18 => 271 | 19 => 272 | 20 => 273 | 21 => 274 | 22 => 275 | 25 => 283 | 26 => 284 | 27 => 285 | 28 => 286 | 29 => 287 | 30 => 288 | 31 => 290 | n => n, fun | 26 => 3 | 28 => 198 | 24 => 23 | 0 => 0 | 3 => 3 | 37 => 48 | 48 => 267 | 50 => 227 | 4 => 4 | 40 => 261 | 39 => 260 | 45 => 148 | 5 => 5 | 9 => 9 | 51 => 274 | 55 => 210 | 57 => 279 | 58 => 280 | 33 => 117 | n => n, fun | n => n⟩
theorem Tryz.sortedInts : Go.Proofs.SlLaysZI.n6 Tryz.prog Tryz.sortedInts_ren := {
  mixed := by kernel_rfl
  f6 := ⟨Tryz.f180.name, by decide, Tryz.func180.trans (congrArg some (by kernel_rfl))⟩
  f8 := ⟨Tryz.f231.name, by decide, Tryz.func231.trans (congrArg some (by kernel_rfl))⟩
  f11 := ⟨Tryz.f256.name, by decide, Tryz.func256.trans (congrArg some (by kernel_rfl))⟩
  t0 := Tryz.underlying0
  a0 := Tryz.isAgg0
  z0 := Tryz.sizeOf0
  v0 := Tryz.zeroValue0
  t24 := Tryz.underlying23
  a24 := Tryz.isAgg23
  z24 := Tryz.sizeOf23
  v24 := Tryz.zeroValue23
  t26 := Tryz.underlying3
  a26 := Tryz.isAgg3
  z26 := Tryz.sizeOf3
  v26 := Tryz.zeroValue3
  t28 := Tryz.underlying198
  a28 := Tryz.isAgg198
  z28 := Tryz.sizeOf198
  v28 := Tryz.zeroValue198
  i26 := by kernel_rfl }
def Tryz.sortInts_ren : Go.Shelf.Ren := ⟨fun | 5 => 232 | 8 => 258 | 7 => 257 | 19 => 276 | 20 => 277 | 10 => 267 | 11 => 268 | 12 => 269 | 13 => 270 | 14 => 271 | 15 => 272 | 16 => 273 | 17 => 274 | 18 => 275 | 30 => 283 | 31 => 284 | 32 => 285 | 33 => 286 | 34 => 287 | 35 => 288 | 40 => 290 | n => n, fun | 23 => 23 | 25 => 3 | 3 => 3 | 32 => 48 | 22 => 23 | 0 => 0 | 44 => 267 | 46 => 227 | 4 => 4 | 36 => 261 | 35 => 260 | 41 => 148 | 5 => 5 | 9 => 9 | 53 => 274 | 57 => 210 | 63 => 279 | 64 => 280 | n => n, fun | n => n⟩
theorem Tryz.sortInts : Go.Proofs.SlLaysM.n5 Tryz.prog Tryz.sortInts_ren := {
  mixed := by kernel_rfl
  f5 := ⟨Tryz.f232.name, by decide, Tryz.func232.trans (congrArg some (by kernel_rfl))⟩
  f7 := ⟨Tryz.f257.name, by decide, Tryz.func257.trans (congrArg some (by kernel_rfl))⟩
  f8 := Tryz.func258.trans (congrArg some (by kernel_rfl))
  f10 := ⟨Tryz.f267.name, by decide, Tryz.func267.trans (congrArg some (by kernel_rfl))⟩
  f11 := ⟨Tryz.f268.name, by decide, Tryz.func268.trans (congrArg some (by kernel_rfl))⟩
  f12 := ⟨Tryz.f269.name, by decide, Tryz.func269.trans (congrArg some (by kernel_rfl))⟩
  f13 := ⟨Tryz.f270.name, by decide, Tryz.func270.trans (congrArg some (by kernel_rfl))⟩
  f14 := ⟨Tryz.f271.name, by decide, Tryz.func271.trans (congrArg some (by kernel_rfl))⟩
  f15 := ⟨Tryz.f272.name, by decide, Tryz.func272.trans (congrArg some (by kernel_rfl))⟩
  f16 := ⟨Tryz.f273.name, by decide, Tryz.func273.trans (congrArg some (by kernel_rfl))⟩
  f17 := ⟨Tryz.f274.name, by decide, Tryz.func274.trans (congrArg some (by kernel_rfl))⟩
  f18 := ⟨Tryz.f275.name, by decide, Tryz.func275.trans (congrArg some (by kernel_rfl))⟩
  f19 := Tryz.func276.trans (congrArg some (by kernel_rfl))
  f20 := Tryz.func277.trans (congrArg some (by kernel_rfl))
  f30 := ⟨Tryz.f283.name, by decide, Tryz.func283.trans (congrArg some (by kernel_rfl))⟩
  f31 := Tryz.func284.trans (congrArg some (by kernel_rfl))
  f32 := Tryz.func285.trans (congrArg some (by kernel_rfl))
  f33 := ⟨Tryz.f286.name, by decide, Tryz.func286.trans (congrArg some (by kernel_rfl))⟩
  f34 := ⟨Tryz.f287.name, by decide, Tryz.func287.trans (congrArg some (by kernel_rfl))⟩
  f35 := ⟨Tryz.f288.name, by decide, Tryz.func288.trans (congrArg some (by kernel_rfl))⟩
  f40 := ⟨Tryz.f290.name, by decide, Tryz.func290.trans (congrArg some (by kernel_rfl))⟩
  t0 := Tryz.underlying0
  a0 := Tryz.isAgg0
  z0 := Tryz.sizeOf0
  v0 := Tryz.zeroValue0
  t3 := Tryz.underlying3
  a3 := Tryz.isAgg3
  z3 := Tryz.sizeOf3
  v3 := Tryz.zeroValue3
  t4 := Tryz.underlying4
  a4 := Tryz.isAgg4
  z4 := Tryz.sizeOf4
  v4 := Tryz.zeroValue4
  t5 := Tryz.underlying5
  a5 := Tryz.isAgg5
  z5 := Tryz.sizeOf5
  v5 := Tryz.zeroValue5
  t9 := Tryz.underlying9
  a9 := Tryz.isAgg9
  z9 := Tryz.sizeOf9
  v9 := Tryz.zeroValue9
  t22 := Tryz.underlying23
  a22 := Tryz.isAgg23
  z22 := Tryz.sizeOf23
  v22 := Tryz.zeroValue23
  t23 := Tryz.underlying23
  a23 := Tryz.isAgg23
  z23 := Tryz.sizeOf23
  v23 := Tryz.zeroValue23
  t25 := Tryz.underlying3
  a25 := Tryz.isAgg3
  z25 := Tryz.sizeOf3
  v25 := Tryz.zeroValue3
  t32 := Tryz.underlying48
  a32 := Tryz.isAgg48
  z32 := Tryz.sizeOf48
  v32 := Tryz.zeroValue48
  t35 := Tryz.underlying260
  a35 := Tryz.isAgg260
  z35 := Tryz.sizeOf260
  v35 := Tryz.zeroValue260
  t36 := Tryz.underlying261
  a36 := Tryz.isAgg261
  z36 := Tryz.sizeOf261
  v36 := Tryz.zeroValue261
  t41 := Tryz.underlying148
  a41 := Tryz.isAgg148
  z41 := Tryz.sizeOf148
  v41 := Tryz.zeroValue148
  t44 := Tryz.underlying267
  a44 := Tryz.isAgg267
  z44 := Tryz.sizeOf267
  v44 := Tryz.zeroValue267
  t46 := Tryz.underlying227
  a46 := Tryz.isAgg227
  z46 := Tryz.sizeOf227
  v46 := Tryz.zeroValue227
  t53 := Tryz.underlying274
  a53 := Tryz.isAgg274
  z53 := Tryz.sizeOf274
  v53 := Tryz.zeroValue274
  t57 := Tryz.underlying210
  a57 := Tryz.isAgg210
  z57 := Tryz.sizeOf210
  v57 := Tryz.zeroValue210
  t63 := Tryz.underlying279
  a63 := Tryz.isAgg279
  z63 := Tryz.sizeOf279
  v63 := Tryz.zeroValue279
  t64 := Tryz.underlying280
  a64 := Tryz.isAgg280
  z64 := Tryz.sizeOf280
  v64 := Tryz.zeroValue280 }
end Go.Proofs
