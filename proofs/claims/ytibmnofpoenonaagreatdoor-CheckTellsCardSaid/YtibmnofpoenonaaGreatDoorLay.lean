/-
  DERIVED: THE SHELF's CONTRACTS AT THIS DUMP, IN PLAIN WORDS (tools/lay-plain.mjs out of 'YtibmnofpoenonaaGreatDoorLayTry.lean', which tools/lay-shelf.mjs wrote): THE SAME DECLARATIONS UNDER THE SAME NAMES: 'import', 'namespace', 'open', 'def', 'theorem' AND NOTHING ELSE: no command of the shelf's: FOR A HAND-IN. Each laying: the table of numbers ('.._ren') and one theorem, a field a fact of the dump's own or the kernel's comparison; each contract: ONE APPLICATION.
-/
import Derived.Shelf.SlicesE.Clone
import Derived.Shelf.SlGeneric
import Derived.Ground.SlgnProg
import Derived.Shelf.SlicesE.IndexFunc
import Derived.Shelf.SlicesQ.IndexFunc
import Derived.Ground.SlgfProg
import Derived.Ground.Names2Prog
import Derived.Shelf.SlicesE.Delete
import Derived.Shelf.SlicesG.Turned
import Derived.Shelf.Spec.SlicesInsert
import Derived.Shelf.Spec.SlicesInsertGrow
import Derived.Test.YtibmnofpoenonaaGreatDoorProg
namespace Go.Proofs
open Go.Shelf
def Tryz.cloneInts_ren : Go.Shelf.Ren := ⟨fun | 41 => 29 | n => n, fun | 22 => 23 | 23 => 3 | 4 => 4 | n => n, fun | n => n⟩
theorem Tryz.cloneInts : Go.Proofs.SlLaysE0.n41 Tryz.prog Tryz.cloneInts_ren := {
  mixed := by kernel_rfl
  f41 := ⟨Tryz.f29.name, by decide, Tryz.func29.trans (congrArg some (by kernel_rfl))⟩
  t4 := Tryz.underlying4
  a4 := Tryz.isAgg4
  z4 := Tryz.sizeOf4
  v4 := Tryz.zeroValue4
  t22 := Tryz.underlying23
  a22 := Tryz.isAgg23
  z22 := Tryz.sizeOf23
  v22 := Tryz.zeroValue23 }
def Tryz.cloneObjs_ren : Go.Shelf.Ren := ⟨fun | 41 => 49 | n => n, fun | 22 => 22 | 23 => 49 | 4 => 4 | n => n, fun | n => n⟩
theorem Tryz.cloneObjs : Go.Proofs.SlLaysE0.n41 Tryz.prog Tryz.cloneObjs_ren := {
  mixed := by kernel_rfl
  f41 := ⟨Tryz.f49.name, by decide, Tryz.func49.trans (congrArg some (by kernel_rfl))⟩
  t4 := Tryz.underlying4
  a4 := Tryz.isAgg4
  z4 := Tryz.sizeOf4
  v4 := Tryz.zeroValue4
  t22 := Tryz.underlying22
  a22 := Tryz.isAgg22
  z22 := Tryz.sizeOf22
  v22 := Tryz.zeroValue22 }
def Tryz.cloneEvents_ren : Go.Shelf.Ren := ⟨fun | 41 => 68 | n => n, fun | 22 => 54 | 23 => 84 | 4 => 4 | n => n, fun | n => n⟩
theorem Tryz.cloneEvents : Go.Proofs.SlLaysE0.n41 Tryz.prog Tryz.cloneEvents_ren := {
  mixed := by kernel_rfl
  f41 := ⟨Tryz.f68.name, by decide, Tryz.func68.trans (congrArg some (by kernel_rfl))⟩
  t4 := Tryz.underlying4
  a4 := Tryz.isAgg4
  z4 := Tryz.sizeOf4
  v4 := Tryz.zeroValue4
  t22 := Tryz.underlying54
  a22 := Tryz.isAgg54
  z22 := Tryz.sizeOf54
  v22 := Tryz.zeroValue54 }
def Tryz.clonePends_ren : Go.Shelf.Ren := ⟨fun | 41 => 69 | n => n, fun | 22 => 55 | 23 => 77 | 4 => 4 | n => n, fun | n => n⟩
theorem Tryz.clonePends : Go.Proofs.SlLaysE0.n41 Tryz.prog Tryz.clonePends_ren := {
  mixed := by kernel_rfl
  f41 := ⟨Tryz.f69.name, by decide, Tryz.func69.trans (congrArg some (by kernel_rfl))⟩
  t4 := Tryz.underlying4
  a4 := Tryz.isAgg4
  z4 := Tryz.sizeOf4
  v4 := Tryz.zeroValue4
  t22 := Tryz.underlying55
  a22 := Tryz.isAgg55
  z22 := Tryz.sizeOf55
  v22 := Tryz.zeroValue55 }
def Tryz.hasInts_ren : Go.Shelf.Ren := ⟨fun | 8 => 76 | 6 => 103 | n => n, fun | 22 => 23 | 23 => 3 | 25 => 116 | 4 => 4 | 3 => 3 | 0 => 0 | n => n, fun | n => n⟩
theorem Tryz.hasInts : Go.Proofs.SlLaysH.n8 Tryz.prog Tryz.hasInts_ren := {
  mixed := by kernel_rfl
  f6 := ⟨Tryz.f103.name, by decide, Tryz.func103.trans (congrArg some (by kernel_rfl))⟩
  f8 := ⟨Tryz.f76.name, by decide, Tryz.func76.trans (congrArg some (by kernel_rfl))⟩
  t0 := Tryz.underlying0
  a0 := Tryz.isAgg0
  z0 := Tryz.sizeOf0
  v0 := Tryz.zeroValue0
  t3 := Tryz.underlying3
  a3 := Tryz.isAgg3
  z3 := Tryz.sizeOf3
  v3 := Tryz.zeroValue3
  t4 := Tryz.underlying4
  a4 := Tryz.isAgg4
  z4 := Tryz.sizeOf4
  v4 := Tryz.zeroValue4
  t22 := Tryz.underlying23
  a22 := Tryz.isAgg23
  z22 := Tryz.sizeOf23
  v22 := Tryz.zeroValue23
  a23 := Tryz.isAgg3
  z23 := Tryz.sizeOf3
  t25 := Tryz.underlying116
  a25 := Tryz.isAgg116
  z25 := Tryz.sizeOf116
  v25 := Tryz.zeroValue116 }
def Tryz.hasObjs_ren : Go.Shelf.Ren := ⟨fun | 8 => 52 | 6 => 75 | n => n, fun | 22 => 22 | 23 => 49 | 25 => 50 | 4 => 4 | 3 => 3 | 0 => 0 | n => n, fun | n => n⟩
theorem Tryz.hasObjs : Go.Proofs.SlLaysH0.n8 Tryz.prog Tryz.hasObjs_ren := {
  mixed := by kernel_rfl
  f6 := ⟨Tryz.f75.name, by decide, Tryz.func75.trans (congrArg some (by kernel_rfl))⟩
  f8 := ⟨Tryz.f52.name, by decide, Tryz.func52.trans (congrArg some (by kernel_rfl))⟩
  t0 := Tryz.underlying0
  a0 := Tryz.isAgg0
  z0 := Tryz.sizeOf0
  v0 := Tryz.zeroValue0
  t3 := Tryz.underlying3
  a3 := Tryz.isAgg3
  z3 := Tryz.sizeOf3
  v3 := Tryz.zeroValue3
  t4 := Tryz.underlying4
  a4 := Tryz.isAgg4
  z4 := Tryz.sizeOf4
  v4 := Tryz.zeroValue4
  t22 := Tryz.underlying22
  a22 := Tryz.isAgg22
  z22 := Tryz.sizeOf22
  v22 := Tryz.zeroValue22
  t25 := Tryz.underlying50
  a25 := Tryz.isAgg50
  z25 := Tryz.sizeOf50
  v25 := Tryz.zeroValue50 }
def Tryz.delInts_ren : Go.Shelf.Ren := ⟨fun | 45 => 142 | n => n, fun | 22 => 23 | 23 => 3 | 3 => 3 | 4 => 4 | 0 => 0 | n => n, fun | n => n⟩
theorem Tryz.delInts : Go.Proofs.SlLaysE.n45 Tryz.prog Tryz.delInts_ren := {
  mixed := by kernel_rfl
  f45 := ⟨Tryz.f142.name, by decide, Tryz.func142.trans (congrArg some (by kernel_rfl))⟩
  t0 := Tryz.underlying0
  a0 := Tryz.isAgg0
  z0 := Tryz.sizeOf0
  v0 := Tryz.zeroValue0
  t3 := Tryz.underlying3
  a3 := Tryz.isAgg3
  z3 := Tryz.sizeOf3
  v3 := Tryz.zeroValue3
  t4 := Tryz.underlying4
  a4 := Tryz.isAgg4
  z4 := Tryz.sizeOf4
  v4 := Tryz.zeroValue4
  t22 := Tryz.underlying23
  a22 := Tryz.isAgg23
  z22 := Tryz.sizeOf23
  v22 := Tryz.zeroValue23
  a23 := Tryz.isAgg3
  z23 := Tryz.sizeOf3 }
def Tryz.idxInts_ren : Go.Shelf.Ren := ⟨fun | 29 => 110 | n => n, fun | 22 => 23 | 23 => 3 | 3 => 3 | 0 => 0 | 4 => 4 | n => n, fun | n => n⟩
theorem Tryz.idxInts : Go.Proofs.SlLaysN.n29 Tryz.prog Tryz.idxInts_ren := {
  mixed := by kernel_rfl
  f29 := ⟨Tryz.f110.name, by decide, Tryz.func110.trans (congrArg some (by kernel_rfl))⟩
  t0 := Tryz.underlying0
  a0 := Tryz.isAgg0
  z0 := Tryz.sizeOf0
  v0 := Tryz.zeroValue0
  t3 := Tryz.underlying3
  a3 := Tryz.isAgg3
  z3 := Tryz.sizeOf3
  v3 := Tryz.zeroValue3
  t4 := Tryz.underlying4
  a4 := Tryz.isAgg4
  z4 := Tryz.sizeOf4
  v4 := Tryz.zeroValue4
  t22 := Tryz.underlying23
  a22 := Tryz.isAgg23
  z22 := Tryz.sizeOf23
  v22 := Tryz.zeroValue23
  t23 := Tryz.underlying3
  a23 := Tryz.isAgg3
  z23 := Tryz.sizeOf3
  v23 := Tryz.zeroValue3 }
def Tryz.insInts_ren : Go.Shelf.Ren := ⟨fun | 21 => 143 | 27 => 161 | 28 => 162 | 35 => 167 | 39 => 168 | n => n, fun | 22 => 23 | 3 => 3 | 4 => 4 | 0 => 0 | n => n, fun | n => n⟩
theorem Tryz.insInts : Go.Proofs.Lays2.n21 Tryz.prog Tryz.insInts_ren := {
  mixed := by kernel_rfl
  f21 := Tryz.func143.trans (congrArg some (by kernel_rfl))
  f27 := Tryz.func161.trans (congrArg some (by kernel_rfl))
  f28 := Tryz.func162.trans (congrArg some (by kernel_rfl))
  f35 := Tryz.func167.trans (congrArg some (by kernel_rfl))
  f39 := Tryz.func168.trans (congrArg some (by kernel_rfl))
  t0 := Tryz.underlying0
  a0 := Tryz.isAgg0
  z0 := Tryz.sizeOf0
  v0 := Tryz.zeroValue0
  t3 := Tryz.underlying3
  a3 := Tryz.isAgg3
  z3 := Tryz.sizeOf3
  v3 := Tryz.zeroValue3
  t4 := Tryz.underlying4
  a4 := Tryz.isAgg4
  z4 := Tryz.sizeOf4
  v4 := Tryz.zeroValue4
  t22 := Tryz.underlying23
  a22 := Tryz.isAgg23
  z22 := Tryz.sizeOf23
  v22 := Tryz.zeroValue23
  i3 := by kernel_rfl }
end Go.Proofs
