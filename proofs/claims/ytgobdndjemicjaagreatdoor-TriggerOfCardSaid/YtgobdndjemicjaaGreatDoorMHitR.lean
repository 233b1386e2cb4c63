/-
  Rows of hits in memory.
-/
import Derived.Test.YtgobdndjemicjaaGreatDoorMMade
import Derived.Test.YtgobdndjemicjaaGreatDoorMRanges
namespace Go.Proofs.YtgobdndjemicjaaGreatDoor
open Go Go.RowKit

@[go_sem ↓] theorem load_Hit (ρ : Operand → Value) (dst : Option Tmp) (x : Operand) (ty : TypeId) (pos : String) (after : Array Edge) (guard : Option (Nat × Bool)) :
    execOp ρ { dst, op := .load 185 x, type := ty, pos, after, guard } = ldRow 185 (ρ x) := rfl
@[go_sem ↓] theorem store_Hit (ρ : Operand → Value) (dst : Option Tmp) (x y : Operand) (ty : TypeId) (pos : String) (after : Array Edge) (guard : Option (Nat × Bool)) :
    execOp ρ { dst, op := .store 185 x y, type := ty, pos, after, guard } = stRow 185 (ρ x) (ρ y) := rfl
@[go_sem] theorem run_load_Hit (w : World) (b o : Nat) (h : o + 3 ≤ (w.blk b).size) : (ldRow 185 (.pointer (some ⟨b, o, none⟩))).run Tryz.prog w = .ok (.value (.agg (sub (w.blk b) o 3))) w :=
  run_ldSub w b o 185 3 (by kernel_rfl) (by kernel_rfl) h (by omega)
@[go_sem] theorem run_store_Hit (w : World) (b : Nat) (cs : Array Value) (h : (w.blk b).size = 3) (hc : cs.size = 3) (h1 : oneCells cs = true) (hf : w.free b = true) : (stRow 185 (.pointer (some ⟨b, 0, none⟩)) (.agg cs)).run Tryz.prog w = .ok .skip (w.setRow b cs) :=
  run_stRow w b 185 3 _ (by kernel_rfl) h hc (by omega) hf h1
@[go_sem ↓] theorem build_hit (ρ : Operand → Value) (dst : Option Tmp) (parts : Array (Nat × Operand)) (ty : TypeId) (pos : String) (after : Array Edge) (guard : Option (Nat × Bool)) :
    execOp ρ { dst, op := .build 185 parts, type := ty, pos, after, guard } = bdRow 185 (parts.map fun (i, x) => (i, ρ x)) := rfl
@[go_sem] theorem run_build_hit (w : World) (a b c : Int) : (bdRow 185 #[(0, .int .i64 a), (1, .int .i64 b), (2, .int .i64 c)]).run Tryz.prog w = .ok (.value (.agg (cellsOf [a, b, c]))) w := by kernel_rfl
@[go_sem ↓] theorem bslice_hits (ρ : Operand → Value) (dst : Option Tmp) (n : Nat) (parts : Array (Nat × Operand)) (ty : TypeId) (pos : String) (after : Array Edge) (guard : Option (Nat × Bool)) :
    execOp ρ { dst, op := .buildSlice 183 n parts, type := ty, pos, after, guard } = bsRow 183 n (parts.map fun (i, x) => (i, ρ x)) := rfl
@[go_sem] theorem run_bs_hit (w : World) (a b c : Int) : (bsRow 183 1 #[(0, .agg (cellsOf [a, b, c]))]).run Tryz.prog w = .ok (.value (.slice (some ⟨w.heap.size, 0, none⟩) 1 1)) (w.alloc (.cells (cellsOf [a, b, c]) 185)) := by kernel_rfl
@[go_sem] theorem indexAt_hits (w : World) (s : Sl) (q : IntKind) (i : Int) (h0 : 0 ≤ i) (h1 : i < s.n) : (Instr.indexAt 183 s.val (.int q i)).run Tryz.prog w = .ok (.pointer (some ⟨s.b, s.o + i.toNat * 3, none⟩)) w :=
  run_indexAt_sl w Tryz.underlying183 (fun w => (by kernel_rfl : (sizeOf 185).run Tryz.prog w = .ok 3 w)) s q i h0 h1
end Go.Proofs.YtgobdndjemicjaaGreatDoor
