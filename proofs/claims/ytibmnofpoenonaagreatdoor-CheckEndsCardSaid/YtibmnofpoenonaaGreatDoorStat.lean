/-
  The lasting effects of a right state.
-/
import Derived.Test.YtibmnofpoenonaaGreatDoorShape
namespace Go.Proofs.YtibmnofpoenonaaGreatDoor
open Go Go.RowKit

/-- A lasting effect's cells. -/
structure StV where
  src : Int
  ctl : Int
  grp : Int
  ef : EfV
def StV.arr (a : StV) : Array Value := #[I a.src, I a.ctl, I a.grp, I a.ef.op, I a.ef.n, I a.ef.m, I a.ef.who, a.ef.subs.val]
@[go_sem] theorem StV.size (a : StV) : a.arr.size = 8 := by simp [StV.arr]
@[go_sem] theorem StV.one (a : StV) : oneCells a.arr = true := by
  have h := val_oneCell a.ef.subs
  simp only [oneCells, StV.arr, List.all_toArray, List.all_cons, List.all_nil, h, Bool.and_true]
  rfl
@[go_sem] theorem StV.all (e : StV) : sub e.arr 0 8 = e.arr := by
  unfold sub; rw [Nat.zero_add, ← StV.size e, Array.extract_size]
@[go_sem] theorem StV.get0 (c : StV) : c.arr[0]? = some (I c.src) := rfl
@[go_sem] theorem StV.get0' (c : StV) (h : 0 < c.arr.size) : c.arr[0]'h = I c.src := rfl
@[go_sem] theorem StV.get1 (c : StV) : c.arr[1]? = some (I c.ctl) := rfl
@[go_sem] theorem StV.get1' (c : StV) (h : 1 < c.arr.size) : c.arr[1]'h = I c.ctl := rfl
@[go_sem] theorem StV.get2 (c : StV) : c.arr[2]? = some (I c.grp) := rfl
@[go_sem] theorem StV.get2' (c : StV) (h : 2 < c.arr.size) : c.arr[2]'h = I c.grp := rfl
@[go_sem] theorem StV.get3 (c : StV) : c.arr[3]? = some (I c.ef.op) := rfl
@[go_sem] theorem StV.get3' (c : StV) (h : 3 < c.arr.size) : c.arr[3]'h = I c.ef.op := rfl
@[go_sem] theorem StV.get4 (c : StV) : c.arr[4]? = some (I c.ef.n) := rfl
@[go_sem] theorem StV.get4' (c : StV) (h : 4 < c.arr.size) : c.arr[4]'h = I c.ef.n := rfl
@[go_sem] theorem StV.get5 (c : StV) : c.arr[5]? = some (I c.ef.m) := rfl
@[go_sem] theorem StV.get5' (c : StV) (h : 5 < c.arr.size) : c.arr[5]'h = I c.ef.m := rfl
@[go_sem ↓] theorem load_static (ρ : Operand → Value) (dst : Option Tmp) (x : Operand) (ty : TypeId) (pos : String) (after : Array Edge) (guard : Option (Nat × Bool)) :
    execOp ρ { dst, op := .load 162 x, type := ty, pos, after, guard } = ldRow 162 (ρ x) := rfl
@[go_sem ↓] theorem store_static (ρ : Operand → Value) (dst : Option Tmp) (x y : Operand) (ty : TypeId) (pos : String) (after : Array Edge) (guard : Option (Nat × Bool)) :
    execOp ρ { dst, op := .store 162 x y, type := ty, pos, after, guard } = stRow 162 (ρ x) (ρ y) := rfl
@[go_sem] theorem run_load_static (w : World) (b o : Nat) (h : o + 8 ≤ (w.blk b).size) : (ldRow 162 (.pointer (some ⟨b, o, none⟩))).run Tryz.prog w = .ok (.value (.agg (sub (w.blk b) o 8))) w :=
  run_ldSub w b o 162 8 (by kernel_rfl) (by kernel_rfl) h (by omega)
@[go_sem] theorem run_store_static (w : World) (b : Nat) (cs : Array Value) (h : (w.blk b).size = 8) (hc : cs.size = 8) (h1 : oneCells cs = true) (hf : w.free b = true) : (stRow 162 (.pointer (some ⟨b, 0, none⟩)) (.agg cs)).run Tryz.prog w = .ok .skip (w.setRow b cs) :=
  run_stRow w b 162 8 _ (by kernel_rfl) h hc (by omega) hf h1
@[go_sem ↓] theorem build_static (ρ : Operand → Value) (dst : Option Tmp) (parts : Array (Nat × Operand)) (ty : TypeId) (pos : String) (after : Array Edge) (guard : Option (Nat × Bool)) :
    execOp ρ { dst, op := .build 162 parts, type := ty, pos, after, guard } = bdRow 162 (parts.map fun (i, x) => (i, ρ x)) := rfl
@[go_sem] theorem cells_static (t : TypeId) (fr : Nat × Nat) : Obj.cells #[Value.int .i64 0, Value.int .i64 0, Value.int .i64 0, Value.int .i64 0, Value.int .i64 0, Value.int .i64 0, Value.int .i64 0, .slice none 0 0] t fr = .cells (StV.arr ⟨0, 0, 0, ⟨0, 0, 0, 0, .nil⟩⟩) t fr := rfl
@[go_sem] theorem run_build_static (w : World) (a b c : Int) (e : EfV) : (bdRow 162 #[(0, .int .i64 a), (1, .int .i64 b), (2, .int .i64 c), (3, .agg e.arr)]).run Tryz.prog w = .ok (.value (.agg (StV.arr ⟨a, b, c, e⟩))) w := by
  obtain ⟨op, n, m, who, s⟩ := e; cases s <;> kernel_rfl
@[go_sem ↓] theorem bslice_statics (ρ : Operand → Value) (dst : Option Tmp) (n : Nat) (parts : Array (Nat × Operand)) (ty : TypeId) (pos : String) (after : Array Edge) (guard : Option (Nat × Bool)) :
    execOp ρ { dst, op := .buildSlice 159 n parts, type := ty, pos, after, guard } = bsRow 159 n (parts.map fun (i, x) => (i, ρ x)) := rfl
@[go_sem] theorem run_bs_static (w : World) (a : StV) : (bsRow 159 1 #[(0, .agg a.arr)]).run Tryz.prog w = .ok (.value (.slice (some ⟨w.heap.size, 0, none⟩) 1 1)) (w.alloc (.cells a.arr 162)) := by
  obtain ⟨x, y, z, ⟨op, n, m, who, s⟩⟩ := a; cases s <;> kernel_rfl
@[go_sem] theorem indexAt_statics (w : World) (s : Sl) (q : IntKind) (i : Int) (h0 : 0 ≤ i) (h1 : i < s.n) : (Instr.indexAt 159 s.val (.int q i)).run Tryz.prog w = .ok (.pointer (some ⟨s.b, s.o + i.toNat * 8, none⟩)) w :=
  run_indexAt_sl w Tryz.underlying159 (fun w => (by kernel_rfl : (sizeOf 162).run Tryz.prog w = .ok 8 w)) s q i h0 h1
/-- A lasting effect, as far as shapes go. -/
structure StN where
  src : Int
  ctl : Int
  grp : Int
  op : Int
  n : Int
  m : Int
def StV.n (a : StV) : StN := ⟨a.src, a.ctl, a.grp, a.ef.op, a.ef.n, a.ef.m⟩
def statOf (S : St) (d : Nat) (i : Int) : StN := let a := (kindN S d).abs.getD i.toNat ⟨0, 0, 0, 0, 0⟩; ⟨d, gt (rowAt S.objs d) 2, a.grp, a.op, a.n, a.m⟩
def statsOf (S : St) (id : Int) : List StN := (usesN (kindN S id.toNat).abs 5).map (statOf S id.toNat)
def stTo (S : St) (k : Nat) : List StN := ((S.list 8).take k).flatMap (statsOf S)
def staticsN (S : St) : List StN := (S.list 8).flatMap (statsOf S)
theorem stTo_succ (S : St) (k : Nat) (h : k < (S.list 8).length) : stTo S (k + 1) = stTo S k ++ statsOf S (gt (S.list 8) k) := by
  unfold stTo
  rw [take_snoc _ _ h, List.flatMap_append]
  simp
theorem cardN_abs (n : Nat) : (cardN n).abs.length ≤ 2 := by
  unfold cardN
  split
  · unfold sourceN; split <;> simp
  split
  · unfold beastN; (repeat' split) <;> simp
  split
  · simp
  split
  · simp
  split
  · unfold specialN
    split
    · simp
    split
    · simp
    · have : ∀ d, d ∈ earlyN ++ lateN → d.abs.length ≤ 2 := by decide
      rw [List.getD]
      cases h : (earlyN ++ lateN)[n - 100]? with
      | none => simp
      | some d => exact this d (List.mem_of_getElem? h)
  · simp [tokenN]
theorem kind_abs (S : St) (d : Nat) : (kindN S d).abs.length ≤ 2 := cardN_abs _
theorem usesN_len (m : List AbN) (wh : Int) : (usesN m wh).length ≤ m.length := by
  unfold usesN usesTo
  rw [List.length_map]
  have h : ((List.range m.length).filter fun i => (m.getD i ⟨0, 0, 0, 0, 0⟩).wh == wh).length ≤ (List.range m.length).length := List.length_filter_le _ _
  simpa using h
end Go.Proofs.YtibmnofpoenonaaGreatDoor
