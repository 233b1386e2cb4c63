/-
  DERIVED: THE SHELF's CONTRACTS AT THIS DUMP, IN PLAIN WORDS (tools/lay-plain.mjs out of 'YtmmkmhpchoelkaaDoorLayTry.lean', which tools/lay-shelf.mjs wrote): THE SAME DECLARATIONS UNDER THE SAME NAMES: 'import', 'namespace', 'open', 'def', 'theorem' AND NOTHING ELSE: no command of the shelf's: FOR A HAND-IN. Each laying: the table of numbers ('.._ren') and one theorem, a field a fact of the dump's own or the kernel's comparison; each contract: ONE APPLICATION.
-/
import Derived.Shelf.SlicesE.Clone
import Derived.Shelf.SlGeneric
import Derived.Ground.SlgnProg
import Derived.Shelf.SlicesE.IndexFunc
import Derived.Shelf.SlicesQ.IndexFunc
import Derived.Ground.SlgfProg
import Derived.Ground.Names2Prog
import Derived.Shelf.SlicesE.Delete
import Derived.Shelf.SlicesG.Turned
import Derived.Shelf.Spec.SlicesInsert
import Derived.Shelf.Spec.SlicesInsertGrow
import Derived.Test.YtmmkmhpchoelkaaDoorProg
namespace Go.Proofs
open Go.Shelf
def Tryd.cloneInts_ren : Go.Shelf.Ren := ⟨fun | 41 => 24 | n => n, fun | 22 => 23 | 23 => 3 | 4 => 4 | n => n, fun | n => n⟩
theorem Tryd.cloneInts : Go.Proofs.SlLaysE0.n41 Tryd.prog Tryd.cloneInts_ren := {
  mixed := by kernel_rfl
  f41 := ⟨Tryd.f24.name, by decide, Tryd.func24.trans (congrArg some (by kernel_rfl))⟩
  t4 := Tryd.underlying4
  a4 := Tryd.isAgg4
  z4 := Tryd.sizeOf4
  v4 := Tryd.zeroValue4
  t22 := Tryd.underlying23
  a22 := Tryd.isAgg23
  z22 := Tryd.sizeOf23
  v22 := Tryd.zeroValue23 }
def Tryd.cloneObjs_ren : Go.Shelf.Ren := ⟨fun | 41 => 51 | n => n, fun | 22 => 22 | 23 => 48 | 4 => 4 | n => n, fun | n => n⟩
theorem Tryd.cloneObjs : Go.Proofs.SlLaysE0.n41 Tryd.prog Tryd.cloneObjs_ren := {
  mixed := by kernel_rfl
  f41 := ⟨Tryd.f51.name, by decide, Tryd.func51.trans (congrArg some (by kernel_rfl))⟩
  t4 := Tryd.underlying4
  a4 := Tryd.isAgg4
  z4 := Tryd.sizeOf4
  v4 := Tryd.zeroValue4
  t22 := Tryd.underlying22
  a22 := Tryd.isAgg22
  z22 := Tryd.sizeOf22
  v22 := Tryd.zeroValue22 }
def Tryd.cloneEvents_ren : Go.Shelf.Ren := ⟨fun | 41 => 91 | n => n, fun | 22 => 43 | 23 => 42 | 4 => 4 | n => n, fun | n => n⟩
theorem Tryd.cloneEvents : Go.Proofs.SlLaysE0.n41 Tryd.prog Tryd.cloneEvents_ren := {
  mixed := by kernel_rfl
  f41 := ⟨Tryd.f91.name, by decide, Tryd.func91.trans (congrArg some (by kernel_rfl))⟩
  t4 := Tryd.underlying4
  a4 := Tryd.isAgg4
  z4 := Tryd.sizeOf4
  v4 := Tryd.zeroValue4
  t22 := Tryd.underlying43
  a22 := Tryd.isAgg43
  z22 := Tryd.sizeOf43
  v22 := Tryd.zeroValue43 }
def Tryd.cloneMarks_ren : Go.Shelf.Ren := ⟨fun | 41 => 92 | n => n, fun | 22 => 94 | 23 => 100 | 4 => 4 | n => n, fun | n => n⟩
theorem Tryd.cloneMarks : Go.Proofs.SlLaysE0.n41 Tryd.prog Tryd.cloneMarks_ren := {
  mixed := by kernel_rfl
  f41 := ⟨Tryd.f92.name, by decide, Tryd.func92.trans (congrArg some (by kernel_rfl))⟩
  t4 := Tryd.underlying4
  a4 := Tryd.isAgg4
  z4 := Tryd.sizeOf4
  v4 := Tryd.zeroValue4
  t22 := Tryd.underlying94
  a22 := Tryd.isAgg94
  z22 := Tryd.sizeOf94
  v22 := Tryd.zeroValue94 }
def Tryd.hasInts_ren : Go.Shelf.Ren := ⟨fun | 8 => 81 | 6 => 99 | n => n, fun | 22 => 23 | 23 => 3 | 25 => 127 | 4 => 4 | 3 => 3 | 0 => 0 | n => n, fun | n => n⟩
theorem Tryd.hasInts : Go.Proofs.SlLaysH.n8 Tryd.prog Tryd.hasInts_ren := {
  mixed := by kernel_rfl
  f6 := ⟨Tryd.f99.name, by decide, Tryd.func99.trans (congrArg some (by kernel_rfl))⟩
  f8 := ⟨Tryd.f81.name, by decide, Tryd.func81.trans (congrArg some (by kernel_rfl))⟩
  t0 := Tryd.underlying0
  a0 := Tryd.isAgg0
  z0 := Tryd.sizeOf0
  v0 := Tryd.zeroValue0
  t3 := Tryd.underlying3
  a3 := Tryd.isAgg3
  z3 := Tryd.sizeOf3
  v3 := Tryd.zeroValue3
  t4 := Tryd.underlying4
  a4 := Tryd.isAgg4
  z4 := Tryd.sizeOf4
  v4 := Tryd.zeroValue4
  t22 := Tryd.underlying23
  a22 := Tryd.isAgg23
  z22 := Tryd.sizeOf23
  v22 := Tryd.zeroValue23
  a23 := Tryd.isAgg3
  z23 := Tryd.sizeOf3
  t25 := Tryd.underlying127
  a25 := Tryd.isAgg127
  z25 := Tryd.sizeOf127
  v25 := Tryd.zeroValue127 }
def Tryd.hasObjs_ren : Go.Shelf.Ren := ⟨fun | 8 => 48 | 6 => 80 | n => n, fun | 22 => 22 | 23 => 48 | 25 => 63 | 4 => 4 | 3 => 3 | 0 => 0 | n => n, fun | n => n⟩
theorem Tryd.hasObjs : Go.Proofs.SlLaysH0.n8 Tryd.prog Tryd.hasObjs_ren := {
  mixed := by kernel_rfl
  f6 := ⟨Tryd.f80.name, by decide, Tryd.func80.trans (congrArg some (by kernel_rfl))⟩
  f8 := ⟨Tryd.f48.name, by decide, Tryd.func48.trans (congrArg some (by kernel_rfl))⟩
  t0 := Tryd.underlying0
  a0 := Tryd.isAgg0
  z0 := Tryd.sizeOf0
  v0 := Tryd.zeroValue0
  t3 := Tryd.underlying3
  a3 := Tryd.isAgg3
  z3 := Tryd.sizeOf3
  v3 := Tryd.zeroValue3
  t4 := Tryd.underlying4
  a4 := Tryd.isAgg4
  z4 := Tryd.sizeOf4
  v4 := Tryd.zeroValue4
  t22 := Tryd.underlying22
  a22 := Tryd.isAgg22
  z22 := Tryd.sizeOf22
  v22 := Tryd.zeroValue22
  t25 := Tryd.underlying63
  a25 := Tryd.isAgg63
  z25 := Tryd.sizeOf63
  v25 := Tryd.zeroValue63 }
def Tryd.delInts_ren : Go.Shelf.Ren := ⟨fun | 45 => 117 | n => n, fun | 22 => 23 | 23 => 3 | 3 => 3 | 4 => 4 | 0 => 0 | n => n, fun | n => n⟩
theorem Tryd.delInts : Go.Proofs.SlLaysE.n45 Tryd.prog Tryd.delInts_ren := {
  mixed := by kernel_rfl
  f45 := ⟨Tryd.f117.name, by decide, Tryd.func117.trans (congrArg some (by kernel_rfl))⟩
  t0 := Tryd.underlying0
  a0 := Tryd.isAgg0
  z0 := Tryd.sizeOf0
  v0 := Tryd.zeroValue0
  t3 := Tryd.underlying3
  a3 := Tryd.isAgg3
  z3 := Tryd.sizeOf3
  v3 := Tryd.zeroValue3
  t4 := Tryd.underlying4
  a4 := Tryd.isAgg4
  z4 := Tryd.sizeOf4
  v4 := Tryd.zeroValue4
  t22 := Tryd.underlying23
  a22 := Tryd.isAgg23
  z22 := Tryd.sizeOf23
  v22 := Tryd.zeroValue23
  a23 := Tryd.isAgg3
  z23 := Tryd.sizeOf3 }
def Tryd.idxInts_ren : Go.Shelf.Ren := ⟨fun | 29 => 70 | n => n, fun | 22 => 23 | 23 => 3 | 3 => 3 | 0 => 0 | 4 => 4 | n => n, fun | n => n⟩
theorem Tryd.idxInts : Go.Proofs.SlLaysN.n29 Tryd.prog Tryd.idxInts_ren := {
  mixed := by kernel_rfl
  f29 := ⟨Tryd.f70.name, by decide, Tryd.func70.trans (congrArg some (by kernel_rfl))⟩
  t0 := Tryd.underlying0
  a0 := Tryd.isAgg0
  z0 := Tryd.sizeOf0
  v0 := Tryd.zeroValue0
  t3 := Tryd.underlying3
  a3 := Tryd.isAgg3
  z3 := Tryd.sizeOf3
  v3 := Tryd.zeroValue3
  t4 := Tryd.underlying4
  a4 := Tryd.isAgg4
  z4 := Tryd.sizeOf4
  v4 := Tryd.zeroValue4
  t22 := Tryd.underlying23
  a22 := Tryd.isAgg23
  z22 := Tryd.sizeOf23
  v22 := Tryd.zeroValue23
  t23 := Tryd.underlying3
  a23 := Tryd.isAgg3
  z23 := Tryd.sizeOf3
  v23 := Tryd.zeroValue3 }
def Tryd.insInts_ren : Go.Shelf.Ren := ⟨fun | 21 => 118 | 27 => 138 | 28 => 139 | 35 => 144 | 39 => 145 | n => n, fun | 22 => 23 | 3 => 3 | 4 => 4 | 0 => 0 | n => n, fun | n => n⟩
theorem Tryd.insInts : Go.Proofs.Lays2.n21 Tryd.prog Tryd.insInts_ren := {
  mixed := by kernel_rfl
  f21 := Tryd.func118.trans (congrArg some (by kernel_rfl))
  f27 := Tryd.func138.trans (congrArg some (by kernel_rfl))
  f28 := Tryd.func139.trans (congrArg some (by kernel_rfl))
  f35 := Tryd.func144.trans (congrArg some (by kernel_rfl))
  f39 := Tryd.func145.trans (congrArg some (by kernel_rfl))
  t0 := Tryd.underlying0
  a0 := Tryd.isAgg0
  z0 := Tryd.sizeOf0
  v0 := Tryd.zeroValue0
  t3 := Tryd.underlying3
  a3 := Tryd.isAgg3
  z3 := Tryd.sizeOf3
  v3 := Tryd.zeroValue3
  t4 := Tryd.underlying4
  a4 := Tryd.isAgg4
  z4 := Tryd.sizeOf4
  v4 := Tryd.zeroValue4
  t22 := Tryd.underlying23
  a22 := Tryd.isAgg23
  z22 := Tryd.sizeOf23
  v22 := Tryd.zeroValue23
  i3 := by kernel_rfl }
end Go.Proofs
