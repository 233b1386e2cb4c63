/-
  DERIVED: THE SHELF's CONTRACTS AT THIS DUMP, IN PLAIN WORDS (tools/lay-plain.mjs out of 'YtgobdndjemicjaaGreatDoorLayTry.lean', which tools/lay-shelf.mjs wrote): THE SAME DECLARATIONS UNDER THE SAME NAMES: 'import', 'namespace', 'open', 'def', 'theorem' AND NOTHING ELSE: no command of the shelf's: FOR A HAND-IN. Each laying: the table of numbers ('.._ren') and one theorem, a field a fact of the dump's own or the kernel's comparison; each contract: ONE APPLICATION.
-/
import Derived.Shelf.SlicesE.Clone
import Derived.Shelf.SlGeneric
import Derived.Ground.SlgnProg
import Derived.Shelf.SlicesE.IndexFunc
import Derived.Shelf.SlicesQ.IndexFunc
import Derived.Ground.SlgfProg
import Derived.Ground.Names2Prog
import Derived.Shelf.SlicesE.Delete
import Derived.Shelf.SlicesG.Turned
import Derived.Shelf.Spec.SlicesInsert
import Derived.Shelf.Spec.SlicesInsertGrow
import Derived.Test.YtgobdndjemicjaaGreatDoorProg
namespace Go.Proofs
open Go.Shelf
def Tryz.cloneInts_ren : Go.Shelf.Ren := ⟨fun | 41 => 46 | n => n, fun | 22 => 23 | 23 => 3 | 4 => 4 | n => n, fun | n => n⟩
theorem Tryz.cloneInts : Go.Proofs.SlLaysE0.n41 Tryz.prog Tryz.cloneInts_ren := {
  mixed := by kernel_rfl
  f41 := ⟨Tryz.f46.name, by decide, Tryz.func46.trans (congrArg some (by kernel_rfl))⟩
  t4 := Tryz.underlying4
  a4 := Tryz.isAgg4
  z4 := Tryz.sizeOf4
  v4 := Tryz.zeroValue4
  t22 := Tryz.underlying23
  a22 := Tryz.isAgg23
  z22 := Tryz.sizeOf23
  v22 := Tryz.zeroValue23 }
def Tryz.cloneObjs_ren : Go.Shelf.Ren := ⟨fun | 41 => 103 | n => n, fun | 22 => 22 | 23 => 77 | 4 => 4 | n => n, fun | n => n⟩
theorem Tryz.cloneObjs : Go.Proofs.SlLaysE0.n41 Tryz.prog Tryz.cloneObjs_ren := {
  mixed := by kernel_rfl
  f41 := ⟨Tryz.f103.name, by decide, Tryz.func103.trans (congrArg some (by kernel_rfl))⟩
  t4 := Tryz.underlying4
  a4 := Tryz.isAgg4
  z4 := Tryz.sizeOf4
  v4 := Tryz.zeroValue4
  t22 := Tryz.underlying22
  a22 := Tryz.isAgg22
  z22 := Tryz.sizeOf22
  v22 := Tryz.zeroValue22 }
def Tryz.cloneEvents_ren : Go.Shelf.Ren := ⟨fun | 41 => 125 | n => n, fun | 22 => 90 | 23 => 122 | 4 => 4 | n => n, fun | n => n⟩
theorem Tryz.cloneEvents : Go.Proofs.SlLaysE0.n41 Tryz.prog Tryz.cloneEvents_ren := {
  mixed := by kernel_rfl
  f41 := ⟨Tryz.f125.name, by decide, Tryz.func125.trans (congrArg some (by kernel_rfl))⟩
  t4 := Tryz.underlying4
  a4 := Tryz.isAgg4
  z4 := Tryz.sizeOf4
  v4 := Tryz.zeroValue4
  t22 := Tryz.underlying90
  a22 := Tryz.isAgg90
  z22 := Tryz.sizeOf90
  v22 := Tryz.zeroValue90 }
def Tryz.clonePends_ren : Go.Shelf.Ren := ⟨fun | 41 => 54 | n => n, fun | 22 => 55 | 23 => 99 | 4 => 4 | n => n, fun | n => n⟩
theorem Tryz.clonePends : Go.Proofs.SlLaysE0.n41 Tryz.prog Tryz.clonePends_ren := {
  mixed := by kernel_rfl
  f41 := ⟨Tryz.f54.name, by decide, Tryz.func54.trans (congrArg some (by kernel_rfl))⟩
  t4 := Tryz.underlying4
  a4 := Tryz.isAgg4
  z4 := Tryz.sizeOf4
  v4 := Tryz.zeroValue4
  t22 := Tryz.underlying55
  a22 := Tryz.isAgg55
  z22 := Tryz.sizeOf55
  v22 := Tryz.zeroValue55 }
def Tryz.hasInts_ren : Go.Shelf.Ren := ⟨fun | 8 => 163 | 6 => 213 | n => n, fun | 22 => 23 | 23 => 3 | 25 => 117 | 4 => 4 | 3 => 3 | 0 => 0 | n => n, fun | n => n⟩
theorem Tryz.hasInts : Go.Proofs.SlLaysH.n8 Tryz.prog Tryz.hasInts_ren := {
  mixed := by kernel_rfl
  f6 := ⟨Tryz.f213.name, by decide, Tryz.func213.trans (congrArg some (by kernel_rfl))⟩
  f8 := ⟨Tryz.f163.name, by decide, Tryz.func163.trans (congrArg some (by kernel_rfl))⟩
  t0 := Tryz.underlying0
  a0 := Tryz.isAgg0
  z0 := Tryz.sizeOf0
  v0 := Tryz.zeroValue0
  t3 := Tryz.underlying3
  a3 := Tryz.isAgg3
  z3 := Tryz.sizeOf3
  v3 := Tryz.zeroValue3
  t4 := Tryz.underlying4
  a4 := Tryz.isAgg4
  z4 := Tryz.sizeOf4
  v4 := Tryz.zeroValue4
  t22 := Tryz.underlying23
  a22 := Tryz.isAgg23
  z22 := Tryz.sizeOf23
  v22 := Tryz.zeroValue23
  a23 := Tryz.isAgg3
  z23 := Tryz.sizeOf3
  t25 := Tryz.underlying117
  a25 := Tryz.isAgg117
  z25 := Tryz.sizeOf117
  v25 := Tryz.zeroValue117 }
def Tryz.hasObjs_ren : Go.Shelf.Ren := ⟨fun | 8 => 106 | 6 => 162 | n => n, fun | 22 => 22 | 23 => 77 | 25 => 86 | 4 => 4 | 3 => 3 | 0 => 0 | n => n, fun | n => n⟩
theorem Tryz.hasObjs : Go.Proofs.SlLaysH0.n8 Tryz.prog Tryz.hasObjs_ren := {
  mixed := by kernel_rfl
  f6 := ⟨Tryz.f162.name, by decide, Tryz.func162.trans (congrArg some (by kernel_rfl))⟩
  f8 := ⟨Tryz.f106.name, by decide, Tryz.func106.trans (congrArg some (by kernel_rfl))⟩
  t0 := Tryz.underlying0
  a0 := Tryz.isAgg0
  z0 := Tryz.sizeOf0
  v0 := Tryz.zeroValue0
  t3 := Tryz.underlying3
  a3 := Tryz.isAgg3
  z3 := Tryz.sizeOf3
  v3 := Tryz.zeroValue3
  t4 := Tryz.underlying4
  a4 := Tryz.isAgg4
  z4 := Tryz.sizeOf4
  v4 := Tryz.zeroValue4
  t22 := Tryz.underlying22
  a22 := Tryz.isAgg22
  z22 := Tryz.sizeOf22
  v22 := Tryz.zeroValue22
  t25 := Tryz.underlying86
  a25 := Tryz.isAgg86
  z25 := Tryz.sizeOf86
  v25 := Tryz.zeroValue86 }
def Tryz.delInts_ren : Go.Shelf.Ren := ⟨fun | 45 => 262 | n => n, fun | 22 => 23 | 23 => 3 | 3 => 3 | 4 => 4 | 0 => 0 | n => n, fun | n => n⟩
theorem Tryz.delInts : Go.Proofs.SlLaysE.n45 Tryz.prog Tryz.delInts_ren := {
  mixed := by kernel_rfl
  f45 := ⟨Tryz.f262.name, by decide, Tryz.func262.trans (congrArg some (by kernel_rfl))⟩
  t0 := Tryz.underlying0
  a0 := Tryz.isAgg0
  z0 := Tryz.sizeOf0
  v0 := Tryz.zeroValue0
  t3 := Tryz.underlying3
  a3 := Tryz.isAgg3
  z3 := Tryz.sizeOf3
  v3 := Tryz.zeroValue3
  t4 := Tryz.underlying4
  a4 := Tryz.isAgg4
  z4 := Tryz.sizeOf4
  v4 := Tryz.zeroValue4
  t22 := Tryz.underlying23
  a22 := Tryz.isAgg23
  z22 := Tryz.sizeOf23
  v22 := Tryz.zeroValue23
  a23 := Tryz.isAgg3
  z23 := Tryz.sizeOf3 }
def Tryz.idxInts_ren : Go.Shelf.Ren := ⟨fun | 29 => 149 | n => n, fun | 22 => 23 | 23 => 3 | 3 => 3 | 0 => 0 | 4 => 4 | n => n, fun | n => n⟩
theorem Tryz.idxInts : Go.Proofs.SlLaysN.n29 Tryz.prog Tryz.idxInts_ren := {
  mixed := by kernel_rfl
  f29 := ⟨Tryz.f149.name, by decide, Tryz.func149.trans (congrArg some (by kernel_rfl))⟩
  t0 := Tryz.underlying0
  a0 := Tryz.isAgg0
  z0 := Tryz.sizeOf0
  v0 := Tryz.zeroValue0
  t3 := Tryz.underlying3
  a3 := Tryz.isAgg3
  z3 := Tryz.sizeOf3
  v3 := Tryz.zeroValue3
  t4 := Tryz.underlying4
  a4 := Tryz.isAgg4
  z4 := Tryz.sizeOf4
  v4 := Tryz.zeroValue4
  t22 := Tryz.underlying23
  a22 := Tryz.isAgg23
  z22 := Tryz.sizeOf23
  v22 := Tryz.zeroValue23
  t23 := Tryz.underlying3
  a23 := Tryz.isAgg3
  z23 := Tryz.sizeOf3
  v23 := Tryz.zeroValue3 }
def Tryz.insInts_ren : Go.Shelf.Ren := ⟨fun | 21 => 263 | 27 => 279 | 28 => 280 | 35 => 289 | 39 => 291 | n => n, fun | 22 => 23 | 3 => 3 | 4 => 4 | 0 => 0 | n => n, fun | n => n⟩
theorem Tryz.insInts : Go.Proofs.Lays2.n21 Tryz.prog Tryz.insInts_ren := {
  mixed := by kernel_rfl
  f21 := Tryz.func263.trans (congrArg some (by kernel_rfl))
  f27 := Tryz.func279.trans (congrArg some (by kernel_rfl))
  f28 := Tryz.func280.trans (congrArg some (by kernel_rfl))
  f35 := Tryz.func289.trans (congrArg some (by kernel_rfl))
  f39 := Tryz.func291.trans (congrArg some (by kernel_rfl))
  t0 := Tryz.underlying0
  a0 := Tryz.isAgg0
  z0 := Tryz.sizeOf0
  v0 := Tryz.zeroValue0
  t3 := Tryz.underlying3
  a3 := Tryz.isAgg3
  z3 := Tryz.sizeOf3
  v3 := Tryz.zeroValue3
  t4 := Tryz.underlying4
  a4 := Tryz.isAgg4
  z4 := Tryz.sizeOf4
  v4 := Tryz.zeroValue4
  t22 := Tryz.underlying23
  a22 := Tryz.isAgg23
  z22 := Tryz.sizeOf23
  v22 := Tryz.zeroValue23
  i3 := by kernel_rfl }
end Go.Proofs
