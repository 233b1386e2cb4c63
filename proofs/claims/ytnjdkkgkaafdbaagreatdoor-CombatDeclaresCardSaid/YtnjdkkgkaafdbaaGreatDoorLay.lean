/-
  DERIVED: THE SHELF's CONTRACTS AT THIS DUMP, IN PLAIN WORDS (tools/lay-plain.mjs out of 'YtnjdkkgkaafdbaaGreatDoorLayTry.lean', which tools/lay-shelf.mjs wrote): THE SAME DECLARATIONS UNDER THE SAME NAMES: 'import', 'namespace', 'open', 'def', 'theorem' AND NOTHING ELSE: no command of the shelf's: FOR A HAND-IN. Each laying: the table of numbers ('.._ren') and one theorem, a field a fact of the dump's own or the kernel's comparison; each contract: ONE APPLICATION.
-/
import Derived.Shelf.SlicesE.Clone
import Derived.Shelf.SlGeneric
import Derived.Ground.SlgnProg
import Derived.Shelf.SlicesE.IndexFunc
import Derived.Shelf.SlicesQ.IndexFunc
import Derived.Ground.SlgfProg
import Derived.Ground.Names2Prog
import Derived.Shelf.SlicesE.Delete
import Derived.Shelf.SlicesG.Turned
import Derived.Shelf.Spec.SlicesInsert
import Derived.Shelf.Spec.SlicesInsertGrow
import Derived.Test.YtnjdkkgkaafdbaaGreatDoorProg
namespace Go.Proofs
open Go.Shelf
def Tryz.cloneInts_ren : Go.Shelf.Ren := ⟨fun | 41 => 44 | n => n, fun | 22 => 23 | 23 => 3 | 4 => 4 | n => n, fun | n => n⟩
theorem Tryz.cloneInts : Go.Proofs.SlLaysE0.n41 Tryz.prog Tryz.cloneInts_ren := {
  mixed := by kernel_rfl
  f41 := ⟨Tryz.f44.name, by decide, Tryz.func44.trans (congrArg some (by kernel_rfl))⟩
  t4 := Tryz.underlying4
  a4 := Tryz.isAgg4
  z4 := Tryz.sizeOf4
  v4 := Tryz.zeroValue4
  t22 := Tryz.underlying23
  a22 := Tryz.isAgg23
  z22 := Tryz.sizeOf23
  v22 := Tryz.zeroValue23 }
def Tryz.cloneObjs_ren : Go.Shelf.Ren := ⟨fun | 41 => 83 | n => n, fun | 22 => 22 | 23 => 58 | 4 => 4 | n => n, fun | n => n⟩
theorem Tryz.cloneObjs : Go.Proofs.SlLaysE0.n41 Tryz.prog Tryz.cloneObjs_ren := {
  mixed := by kernel_rfl
  f41 := ⟨Tryz.f83.name, by decide, Tryz.func83.trans (congrArg some (by kernel_rfl))⟩
  t4 := Tryz.underlying4
  a4 := Tryz.isAgg4
  z4 := Tryz.sizeOf4
  v4 := Tryz.zeroValue4
  t22 := Tryz.underlying22
  a22 := Tryz.isAgg22
  z22 := Tryz.sizeOf22
  v22 := Tryz.zeroValue22 }
def Tryz.cloneEvents_ren : Go.Shelf.Ren := ⟨fun | 41 => 92 | n => n, fun | 22 => 70 | 23 => 129 | 4 => 4 | n => n, fun | n => n⟩
theorem Tryz.cloneEvents : Go.Proofs.SlLaysE0.n41 Tryz.prog Tryz.cloneEvents_ren := {
  mixed := by kernel_rfl
  f41 := ⟨Tryz.f92.name, by decide, Tryz.func92.trans (congrArg some (by kernel_rfl))⟩
  t4 := Tryz.underlying4
  a4 := Tryz.isAgg4
  z4 := Tryz.sizeOf4
  v4 := Tryz.zeroValue4
  t22 := Tryz.underlying70
  a22 := Tryz.isAgg70
  z22 := Tryz.sizeOf70
  v22 := Tryz.zeroValue70 }
def Tryz.clonePends_ren : Go.Shelf.Ren := ⟨fun | 41 => 93 | n => n, fun | 22 => 71 | 23 => 88 | 4 => 4 | n => n, fun | n => n⟩
theorem Tryz.clonePends : Go.Proofs.SlLaysE0.n41 Tryz.prog Tryz.clonePends_ren := {
  mixed := by kernel_rfl
  f41 := ⟨Tryz.f93.name, by decide, Tryz.func93.trans (congrArg some (by kernel_rfl))⟩
  t4 := Tryz.underlying4
  a4 := Tryz.isAgg4
  z4 := Tryz.sizeOf4
  v4 := Tryz.zeroValue4
  t22 := Tryz.underlying71
  a22 := Tryz.isAgg71
  z22 := Tryz.sizeOf71
  v22 := Tryz.zeroValue71 }
def Tryz.hasInts_ren : Go.Shelf.Ren := ⟨fun | 8 => 108 | 6 => 127 | n => n, fun | 22 => 23 | 23 => 3 | 25 => 126 | 4 => 4 | 3 => 3 | 0 => 0 | n => n, fun | n => n⟩
theorem Tryz.hasInts : Go.Proofs.SlLaysH.n8 Tryz.prog Tryz.hasInts_ren := {
  mixed := by kernel_rfl
  f6 := ⟨Tryz.f127.name, by decide, Tryz.func127.trans (congrArg some (by kernel_rfl))⟩
  f8 := ⟨Tryz.f108.name, by decide, Tryz.func108.trans (congrArg some (by kernel_rfl))⟩
  t0 := Tryz.underlying0
  a0 := Tryz.isAgg0
  z0 := Tryz.sizeOf0
  v0 := Tryz.zeroValue0
  t3 := Tryz.underlying3
  a3 := Tryz.isAgg3
  z3 := Tryz.sizeOf3
  v3 := Tryz.zeroValue3
  t4 := Tryz.underlying4
  a4 := Tryz.isAgg4
  z4 := Tryz.sizeOf4
  v4 := Tryz.zeroValue4
  t22 := Tryz.underlying23
  a22 := Tryz.isAgg23
  z22 := Tryz.sizeOf23
  v22 := Tryz.zeroValue23
  a23 := Tryz.isAgg3
  z23 := Tryz.sizeOf3
  t25 := Tryz.underlying126
  a25 := Tryz.isAgg126
  z25 := Tryz.sizeOf126
  v25 := Tryz.zeroValue126 }
def Tryz.hasObjs_ren : Go.Shelf.Ren := ⟨fun | 8 => 69 | 6 => 107 | n => n, fun | 22 => 22 | 23 => 58 | 25 => 99 | 4 => 4 | 3 => 3 | 0 => 0 | n => n, fun | n => n⟩
theorem Tryz.hasObjs : Go.Proofs.SlLaysH0.n8 Tryz.prog Tryz.hasObjs_ren := {
  mixed := by kernel_rfl
  f6 := ⟨Tryz.f107.name, by decide, Tryz.func107.trans (congrArg some (by kernel_rfl))⟩
  f8 := ⟨Tryz.f69.name, by decide, Tryz.func69.trans (congrArg some (by kernel_rfl))⟩
  t0 := Tryz.underlying0
  a0 := Tryz.isAgg0
  z0 := Tryz.sizeOf0
  v0 := Tryz.zeroValue0
  t3 := Tryz.underlying3
  a3 := Tryz.isAgg3
  z3 := Tryz.sizeOf3
  v3 := Tryz.zeroValue3
  t4 := Tryz.underlying4
  a4 := Tryz.isAgg4
  z4 := Tryz.sizeOf4
  v4 := Tryz.zeroValue4
  t22 := Tryz.underlying22
  a22 := Tryz.isAgg22
  z22 := Tryz.sizeOf22
  v22 := Tryz.zeroValue22
  t25 := Tryz.underlying99
  a25 := Tryz.isAgg99
  z25 := Tryz.sizeOf99
  v25 := Tryz.zeroValue99 }
def Tryz.delInts_ren : Go.Shelf.Ren := ⟨fun | 45 => 171 | n => n, fun | 22 => 23 | 23 => 3 | 3 => 3 | 4 => 4 | 0 => 0 | n => n, fun | n => n⟩
theorem Tryz.delInts : Go.Proofs.SlLaysE.n45 Tryz.prog Tryz.delInts_ren := {
  mixed := by kernel_rfl
  f45 := ⟨Tryz.f171.name, by decide, Tryz.func171.trans (congrArg some (by kernel_rfl))⟩
  t0 := Tryz.underlying0
  a0 := Tryz.isAgg0
  z0 := Tryz.sizeOf0
  v0 := Tryz.zeroValue0
  t3 := Tryz.underlying3
  a3 := Tryz.isAgg3
  z3 := Tryz.sizeOf3
  v3 := Tryz.zeroValue3
  t4 := Tryz.underlying4
  a4 := Tryz.isAgg4
  z4 := Tryz.sizeOf4
  v4 := Tryz.zeroValue4
  t22 := Tryz.underlying23
  a22 := Tryz.isAgg23
  z22 := Tryz.sizeOf23
  v22 := Tryz.zeroValue23
  a23 := Tryz.isAgg3
  z23 := Tryz.sizeOf3 }
def Tryz.idxInts_ren : Go.Shelf.Ren := ⟨fun | 29 => 97 | n => n, fun | 22 => 23 | 23 => 3 | 3 => 3 | 0 => 0 | 4 => 4 | n => n, fun | n => n⟩
theorem Tryz.idxInts : Go.Proofs.SlLaysN.n29 Tryz.prog Tryz.idxInts_ren := {
  mixed := by kernel_rfl
  f29 := ⟨Tryz.f97.name, by decide, Tryz.func97.trans (congrArg some (by kernel_rfl))⟩
  t0 := Tryz.underlying0
  a0 := Tryz.isAgg0
  z0 := Tryz.sizeOf0
  v0 := Tryz.zeroValue0
  t3 := Tryz.underlying3
  a3 := Tryz.isAgg3
  z3 := Tryz.sizeOf3
  v3 := Tryz.zeroValue3
  t4 := Tryz.underlying4
  a4 := Tryz.isAgg4
  z4 := Tryz.sizeOf4
  v4 := Tryz.zeroValue4
  t22 := Tryz.underlying23
  a22 := Tryz.isAgg23
  z22 := Tryz.sizeOf23
  v22 := Tryz.zeroValue23
  t23 := Tryz.underlying3
  a23 := Tryz.isAgg3
  z23 := Tryz.sizeOf3
  v23 := Tryz.zeroValue3 }
def Tryz.insInts_ren : Go.Shelf.Ren := ⟨fun | 21 => 172 | 27 => 177 | 28 => 178 | 35 => 179 | 39 => 180 | n => n, fun | 22 => 23 | 3 => 3 | 4 => 4 | 0 => 0 | n => n, fun | n => n⟩
theorem Tryz.insInts : Go.Proofs.Lays2.n21 Tryz.prog Tryz.insInts_ren := {
  mixed := by kernel_rfl
  f21 := Tryz.func172.trans (congrArg some (by kernel_rfl))
  f27 := Tryz.func177.trans (congrArg some (by kernel_rfl))
  f28 := Tryz.func178.trans (congrArg some (by kernel_rfl))
  f35 := Tryz.func179.trans (congrArg some (by kernel_rfl))
  f39 := Tryz.func180.trans (congrArg some (by kernel_rfl))
  t0 := Tryz.underlying0
  a0 := Tryz.isAgg0
  z0 := Tryz.sizeOf0
  v0 := Tryz.zeroValue0
  t3 := Tryz.underlying3
  a3 := Tryz.isAgg3
  z3 := Tryz.sizeOf3
  v3 := Tryz.zeroValue3
  t4 := Tryz.underlying4
  a4 := Tryz.isAgg4
  z4 := Tryz.sizeOf4
  v4 := Tryz.zeroValue4
  t22 := Tryz.underlying23
  a22 := Tryz.isAgg23
  z22 := Tryz.sizeOf23
  v22 := Tryz.zeroValue23
  i3 := by kernel_rfl }
end Go.Proofs
