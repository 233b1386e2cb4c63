/-
  The document's shapes: cards of objects, creatures, statics.
-/
import Derived.Test.YtgobdndjemicjaaGreatDoorMRef08
namespace Go.Proofs.YtgobdndjemicjaaGreatDoor
open Go Go.RowKit

/-- The document's table, as it is walked elsewhere. -/
def Table08 : Prop := ∀ (w : World) (n : Nat), n < 120 → Calls Tryz.prog 39 #[.int .i64 (n : Int)] w fun r w' => Card08 w w' r (cardF n)
/-! ### Statics -/
/-- The document's static: its cells. -/
structure S6 where
  src : Int
  ef : EfV
def S6.arr (a : S6) : Array Value := #[I a.src, I a.ef.op, I a.ef.n, I a.ef.m, I a.ef.who, a.ef.subs.val]
@[go_sem] theorem S6.size (a : S6) : a.arr.size = 6 := rfl
@[go_sem] theorem S6.one (a : S6) : oneCells a.arr = true := by
  have h := val_oneCell a.ef.subs
  simp only [oneCells, S6.arr, List.all_toArray, List.all_cons, List.all_nil, h, Bool.and_true]
  rfl
@[go_sem] theorem S6.all (a : S6) : sub a.arr 0 6 = a.arr := rfl
@[go_sem] theorem S6.get0 (c : S6) : c.arr[0]? = some (I c.src) := rfl
@[go_sem] theorem S6.get0' (c : S6) (h : 0 < c.arr.size) : c.arr[0]'h = I c.src := rfl
@[go_sem] theorem S6.get2 (c : S6) : c.arr[2]? = some (I c.ef.n) := rfl
@[go_sem] theorem S6.get2' (c : S6) (h : 2 < c.arr.size) : c.arr[2]'h = I c.ef.n := rfl
@[go_sem] theorem S6.get5 (c : S6) : c.arr[5]? = some c.ef.subs.val := rfl
@[go_sem] theorem S6.get5' (c : S6) (h : 5 < c.arr.size) : c.arr[5]'h = c.ef.subs.val := rfl
@[go_sem ↓] theorem load_Static17 (ρ : Operand → Value) (dst : Option Tmp) (x : Operand) (ty : TypeId) (pos : String) (after : Array Edge) (guard : Option (Nat × Bool)) :
    execOp ρ { dst, op := .load 231 x, type := ty, pos, after, guard } = ldRow 231 (ρ x) := rfl
@[go_sem ↓] theorem store_Static17 (ρ : Operand → Value) (dst : Option Tmp) (x y : Operand) (ty : TypeId) (pos : String) (after : Array Edge) (guard : Option (Nat × Bool)) :
    execOp ρ { dst, op := .store 231 x y, type := ty, pos, after, guard } = stRow 231 (ρ x) (ρ y) := rfl
@[go_sem] theorem run_load_Static17 (w : World) (b o : Nat) (h : o + 6 ≤ (w.blk b).size) : (ldRow 231 (.pointer (some ⟨b, o, none⟩))).run Tryz.prog w = .ok (.value (.agg (sub (w.blk b) o 6))) w :=
  run_ldSub w b o 231 6 (by kernel_rfl) (by kernel_rfl) h (by omega)
@[go_sem] theorem run_store_Static17 (w : World) (b : Nat) (cs : Array Value) (h : (w.blk b).size = 6) (hc : cs.size = 6) (h1 : oneCells cs = true) (hf : w.free b = true) : (stRow 231 (.pointer (some ⟨b, 0, none⟩)) (.agg cs)).run Tryz.prog w = .ok .skip (w.setRow b cs) :=
  run_stRow w b 231 6 _ (by kernel_rfl) h hc (by omega) hf h1
@[go_sem ↓] theorem build_static17 (ρ : Operand → Value) (dst : Option Tmp) (parts : Array (Nat × Operand)) (ty : TypeId) (pos : String) (after : Array Edge) (guard : Option (Nat × Bool)) :
    execOp ρ { dst, op := .build 231 parts, type := ty, pos, after, guard } = bdRow 231 (parts.map fun (i, x) => (i, ρ x)) := rfl
@[go_sem] theorem cells_static17 (t : TypeId) (fr : Nat × Nat) : Obj.cells #[Value.int .i64 0, Value.int .i64 0, Value.int .i64 0, Value.int .i64 0, Value.int .i64 0, .slice none 0 0] t fr = .cells (S6.arr ⟨0, ⟨0, 0, 0, 0, .nil⟩⟩) t fr := rfl
@[go_sem] theorem run_build_static17 (w : World) (a : Int) (e : EfV) : (bdRow 231 #[(0, .int .i64 a), (1, .agg e.arr)]).run Tryz.prog w = .ok (.value (.agg (S6.arr ⟨a, e⟩))) w := by
  obtain ⟨op, n, m, who, s⟩ := e; cases s <;> kernel_rfl
/-- A static of the document's list stands so in memory. -/
def StIs (w : World) (n : Nat) (x : S6) (t : StN) : Prop := x.src = t.src ∧ x.ef.n = t.grp ∧ n ≤ x.ef.subs.b ∧ ∃ who s, RowsV w x.ef.subs 5 [EfV.arr ⟨t.op, t.n, t.m, who, s⟩]
theorem StIs.grow {w w' : World} {n : Nat} {x : S6} {t : StN} (h : StIs w n x t) (g : Grow w w') : StIs w' n x t := by
  obtain ⟨h1, h2, h3, who, s, h4⟩ := h
  exact ⟨h1, h2, h3, who, s, h4.grow g⟩
inductive StsIs (w : World) (n : Nat) : List S6 → List StN → Prop
  | nil : StsIs w n [] []
  | snoc {l : List S6} {m : List StN} {x : S6} {t : StN} : StsIs w n l m → StIs w n x t → StsIs w n (l ++ [x]) (m ++ [t])
theorem StsIs.grow {w w' : World} {n : Nat} {l : List S6} {m : List StN} (h : StsIs w n l m) (g : Grow w w') : StsIs w' n l m := by
  induction h with
  | nil => exact .nil
  | snoc _ h ih => exact .snoc ih (h.grow g)
theorem StIs.kept {own : Nat → Prop} {w w' : World} {n : Nat} {x : S6} {t : StN} (h : StIs w n x t) (g : Kept own w w') (ho : ∀ b, n ≤ b → b < w.heap.size → ¬ own b) : StIs w' n x t := by
  obtain ⟨h1, h2, h3, who, s, h4⟩ := h
  have hb := (h4.at (by decide) (i := 0) (x := _) rfl).1
  exact ⟨h1, h2, h3, who, s, h4.kept g (ho _ h3 hb)⟩
theorem AbOk.kept {own : Nat → Prop} {w w' : World} {n : Nat} {a : AbV} {d : AbN} (h : AbOk w n a d) (g : Kept own w w') (ho : ∀ b, n ≤ b → b < w.heap.size → ¬ own b) : AbOk w' n a d := by
  refine ⟨h.1, fun h5 => ?_⟩
  obtain ⟨h1, h2, who, s, R⟩ := h.2 h5
  have hb := (R.at (by decide) (i := 0) (x := _) rfl).1
  exact ⟨h1, h2, who, s, R.kept g (ho _ h2 hb)⟩
theorem AbsOk.kept {own : Nat → Prop} {w w' : World} {n : Nat} {l : List AbV} {m : List AbN} (h : AbsOk w n l m) (g : Kept own w w') (ho : ∀ b, n ≤ b → b < w.heap.size → ¬ own b) : AbsOk w' n l m := by
  induction h with
  | nil => exact .nil
  | cons h _ ih => exact .cons (h.kept g ho) ih
theorem CardOk.kept {own : Nat → Prop} {w w' : World} {n : Nat} {c : CdV} {d : CardN} (h : CardOk w n c d) (g : Kept own w w') (ho : ∀ b, n ≤ b → b < w.heap.size → ¬ own b) : CardOk w' n c d := by
  obtain ⟨l, h1, h2, h3⟩ := h.abs
  refine ⟨h.kind, h.pw, h.tf, h.says, l, ?_, h2, h3.kept g ho⟩
  cases l with
  | nil => exact ⟨h1.len, h1.cap, fun x hx => by simp at hx, fun i j x hx => by simp at hx⟩
  | cons a l =>
    have hb := (h1.at (by decide) (i := 0) (x := a.arr) rfl).1
    rcases h2 with h2 | h2
    · cases h2
    · exact h1.kept g (ho _ h2 hb)
theorem StsIs.kept {own : Nat → Prop} {w w' : World} {n : Nat} {l : List S6} {m : List StN} (h : StsIs w n l m) (g : Kept own w w') (ho : ∀ x ∈ l, ¬ own x.ef.subs.b) : StsIs w' n l m := by
  induction h with
  | nil => exact .nil
  | snoc _ h ih =>
    refine .snoc (ih (fun x hx => ho x (by simp [hx]))) ?_
    obtain ⟨h1, h2, h3, who, s, h4⟩ := h
    exact ⟨h1, h2, h3, who, s, h4.kept g (ho _ (by simp))⟩
/-- The statics' effects stand in memory. -/
theorem StsIs.lt {w : World} {n : Nat} {l : List S6} {m : List StN} (h : StsIs w n l m) : ∀ x ∈ l, x.ef.subs.b < w.heap.size := by
  induction h with
  | nil => intro x hx; cases hx
  | snoc _ h ih =>
    intro x hx
    rcases List.mem_append.1 hx with hx | hx
    · exact ih x hx
    · obtain ⟨_, _, _, who, s, h4⟩ := h
      obtain rfl : x = _ := by simpa using hx
      exact (h4.at (by decide) (i := 0) (x := _) rfl).1
@[go_sem] theorem AbV.sub9 (a : AbV) : sub a.arr 9 5 = a.ef.arr := rfl
@[go_sem ↓] theorem bslice_statics17 (ρ : Operand → Value) (dst : Option Tmp) (n : Nat) (parts : Array (Nat × Operand)) (ty : TypeId) (pos : String) (after : Array Edge) (guard : Option (Nat × Bool)) :
    execOp ρ { dst, op := .buildSlice 228 n parts, type := ty, pos, after, guard } = bsRow 228 n (parts.map fun (i, x) => (i, ρ x)) := rfl
@[go_sem] theorem run_bs_static17 (w : World) (a : S6) : (bsRow 228 1 #[(0, .agg a.arr)]).run Tryz.prog w = .ok (.value (.slice (some ⟨w.heap.size, 0, none⟩) 1 1)) (w.alloc (.cells a.arr 231)) := by
  obtain ⟨i, op, n, m, who, s⟩ := a; cases s <;> kernel_rfl
@[go_sem] theorem run_bs_static17_0 (w : World) : (bsRow 228 0 #[]).run Tryz.prog w = .ok (.value (.slice (some ⟨w.heap.size, 0, none⟩) 0 0)) (w.alloc (.cells #[] 231)) := by kernel_rfl
@[go_sem] theorem field_card7 (w : World) (c : CdV) : (Instr.field 44 (.agg c.arr) 7).run Tryz.prog w = .ok c.abs.val w := by
  obtain ⟨a, b, f, c0, c1, c2, c3, c4, c5, p, t, s, l⟩ := c; cases l <;> kernel_rfl
end Go.Proofs.YtgobdndjemicjaaGreatDoor
