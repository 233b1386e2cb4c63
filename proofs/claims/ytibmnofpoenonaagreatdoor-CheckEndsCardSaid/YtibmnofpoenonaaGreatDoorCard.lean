/-
  Cards, abilities and effects, as they stand in cells.
-/
import Derived.Test.YtibmnofpoenonaaGreatDoorTail
import Derived.Test.YtibmnofpoenonaaGreatDoorCopy
import Derived.Test.YtibmnofpoenonaaGreatDoorEv2
namespace Go.Proofs.YtibmnofpoenonaaGreatDoor
open Go Go.RowKit

/-- An effect's cells. -/
structure EfV where
  op : Int
  n : Int
  m : Int
  who : Int
  subs : Sl
def EfV.arr (e : EfV) : Array Value := #[I e.op, I e.n, I e.m, I e.who, e.subs.val]
/-- An ability's cells. -/
structure AbV where
  wh : Int
  c0 : Int
  c1 : Int
  c2 : Int
  c3 : Int
  c4 : Int
  c5 : Int
  tap : Bool
  tg : Int
  ef : EfV
def AbV.arr (a : AbV) : Array Value := #[I a.wh, I a.c0, I a.c1, I a.c2, I a.c3, I a.c4, I a.c5, .bool a.tap, I a.tg, I a.ef.op, I a.ef.n, I a.ef.m, I a.ef.who, a.ef.subs.val]
/-- A card's cells. -/
structure CdV where
  kind : Int
  col : Int
  fast : Bool
  c0 : Int
  c1 : Int
  c2 : Int
  c3 : Int
  c4 : Int
  c5 : Int
  pw : Int
  tf : Int
  says : Int
  abs : Sl
def CdV.arr (c : CdV) : Array Value := #[I c.kind, I c.col, .bool c.fast, I c.c0, I c.c1, I c.c2, I c.c3, I c.c4, I c.c5, I c.pw, I c.tf, I c.says, c.abs.val]
@[go_sem] theorem EfV.size (e : EfV) : e.arr.size = 5 := by simp [EfV.arr]
@[go_sem] theorem AbV.size (a : AbV) : a.arr.size = 14 := by simp [AbV.arr]
@[go_sem] theorem CdV.size (c : CdV) : c.arr.size = 13 := by simp [CdV.arr]
@[go_sem] theorem EfV.one (e : EfV) : oneCells e.arr = true := by
  have h := val_oneCell e.subs
  simp only [oneCells, EfV.arr, List.all_toArray, List.all_cons, List.all_nil, h, Bool.and_true]
  rfl
@[go_sem] theorem AbV.one (a : AbV) : oneCells a.arr = true := by
  have h := val_oneCell a.ef.subs
  simp only [oneCells, AbV.arr, List.all_toArray, List.all_cons, List.all_nil, h, Bool.and_true]
  rfl
@[go_sem] theorem CdV.one (c : CdV) : oneCells c.arr = true := by
  have h := val_oneCell c.abs
  simp only [oneCells, CdV.arr, List.all_toArray, List.all_cons, List.all_nil, h, Bool.and_true]
  rfl
@[go_sem] theorem EfV.all (e : EfV) : sub e.arr 0 5 = e.arr := by
  unfold sub; rw [Nat.zero_add, ← EfV.size e, Array.extract_size]
@[go_sem] theorem AbV.all (a : AbV) : sub a.arr 0 14 = a.arr := by
  unfold sub; rw [Nat.zero_add, ← AbV.size a, Array.extract_size]
@[go_sem] theorem CdV.all (c : CdV) : sub c.arr 0 13 = c.arr := by
  unfold sub; rw [Nat.zero_add, ← CdV.size c, Array.extract_size]

@[go_sem] theorem cells_effect (t : TypeId) (fr : Nat × Nat) : Obj.cells #[Value.int .i64 0, Value.int .i64 0, Value.int .i64 0, Value.int .i64 0, .slice none 0 0] t fr = .cells (EfV.arr ⟨0, 0, 0, 0, .nil⟩) t fr := rfl
@[go_sem] theorem cells_ability (t : TypeId) (fr : Nat × Nat) : Obj.cells #[Value.int .i64 0, Value.int .i64 0, Value.int .i64 0, Value.int .i64 0, Value.int .i64 0, Value.int .i64 0, Value.int .i64 0, .bool false, Value.int .i64 0, Value.int .i64 0, Value.int .i64 0, Value.int .i64 0, Value.int .i64 0, .slice none 0 0] t fr = .cells (AbV.arr ⟨0, 0, 0, 0, 0, 0, 0, false, 0, ⟨0, 0, 0, 0, .nil⟩⟩) t fr := rfl
@[go_sem] theorem cells_card (t : TypeId) (fr : Nat × Nat) : Obj.cells #[Value.int .i64 0, Value.int .i64 0, .bool false, Value.int .i64 0, Value.int .i64 0, Value.int .i64 0, Value.int .i64 0, Value.int .i64 0, Value.int .i64 0, Value.int .i64 0, Value.int .i64 0, Value.int .i64 0, .slice none 0 0] t fr = .cells (CdV.arr ⟨0, 0, false, 0, 0, 0, 0, 0, 0, 0, 0, 0, .nil⟩) t fr := rfl
@[go_sem ↓] theorem load_Effect (ρ : Operand → Value) (dst : Option Tmp) (x : Operand) (ty : TypeId) (pos : String) (after : Array Edge) (guard : Option (Nat × Bool)) :
    execOp ρ { dst, op := .load 99 x, type := ty, pos, after, guard } = ldRow 99 (ρ x) := rfl
@[go_sem ↓] theorem store_Effect (ρ : Operand → Value) (dst : Option Tmp) (x y : Operand) (ty : TypeId) (pos : String) (after : Array Edge) (guard : Option (Nat × Bool)) :
    execOp ρ { dst, op := .store 99 x y, type := ty, pos, after, guard } = stRow 99 (ρ x) (ρ y) := rfl
@[go_sem] theorem run_load_Effect (w : World) (b o : Nat) (h : o + 5 ≤ (w.blk b).size) : (ldRow 99 (.pointer (some ⟨b, o, none⟩))).run Tryz.prog w = .ok (.value (.agg (sub (w.blk b) o 5))) w :=
  run_ldSub w b o 99 5 (by kernel_rfl) (by kernel_rfl) h (by omega)
@[go_sem] theorem run_store_Effect (w : World) (b : Nat) (cs : Array Value) (h : (w.blk b).size = 5) (hc : cs.size = 5) (h1 : oneCells cs = true) (hf : w.free b = true) : (stRow 99 (.pointer (some ⟨b, 0, none⟩)) (.agg cs)).run Tryz.prog w = .ok .skip (w.setRow b cs) :=
  run_stRow w b 99 5 _ (by kernel_rfl) h hc (by omega) hf h1
@[go_sem ↓] theorem load_Ability (ρ : Operand → Value) (dst : Option Tmp) (x : Operand) (ty : TypeId) (pos : String) (after : Array Edge) (guard : Option (Nat × Bool)) :
    execOp ρ { dst, op := .load 136 x, type := ty, pos, after, guard } = ldRow 136 (ρ x) := rfl
@[go_sem ↓] theorem store_Ability (ρ : Operand → Value) (dst : Option Tmp) (x y : Operand) (ty : TypeId) (pos : String) (after : Array Edge) (guard : Option (Nat × Bool)) :
    execOp ρ { dst, op := .store 136 x y, type := ty, pos, after, guard } = stRow 136 (ρ x) (ρ y) := rfl
@[go_sem] theorem run_load_Ability (w : World) (b o : Nat) (h : o + 14 ≤ (w.blk b).size) : (ldRow 136 (.pointer (some ⟨b, o, none⟩))).run Tryz.prog w = .ok (.value (.agg (sub (w.blk b) o 14))) w :=
  run_ldSub w b o 136 14 (by kernel_rfl) (by kernel_rfl) h (by omega)
@[go_sem] theorem run_store_Ability (w : World) (b : Nat) (cs : Array Value) (h : (w.blk b).size = 14) (hc : cs.size = 14) (h1 : oneCells cs = true) (hf : w.free b = true) : (stRow 136 (.pointer (some ⟨b, 0, none⟩)) (.agg cs)).run Tryz.prog w = .ok .skip (w.setRow b cs) :=
  run_stRow w b 136 14 _ (by kernel_rfl) h hc (by omega) hf h1
@[go_sem ↓] theorem load_Card (ρ : Operand → Value) (dst : Option Tmp) (x : Operand) (ty : TypeId) (pos : String) (after : Array Edge) (guard : Option (Nat × Bool)) :
    execOp ρ { dst, op := .load 92 x, type := ty, pos, after, guard } = ldRow 92 (ρ x) := rfl
@[go_sem ↓] theorem store_Card (ρ : Operand → Value) (dst : Option Tmp) (x y : Operand) (ty : TypeId) (pos : String) (after : Array Edge) (guard : Option (Nat × Bool)) :
    execOp ρ { dst, op := .store 92 x y, type := ty, pos, after, guard } = stRow 92 (ρ x) (ρ y) := rfl
@[go_sem] theorem run_load_Card (w : World) (b o : Nat) (h : o + 13 ≤ (w.blk b).size) : (ldRow 92 (.pointer (some ⟨b, o, none⟩))).run Tryz.prog w = .ok (.value (.agg (sub (w.blk b) o 13))) w :=
  run_ldSub w b o 92 13 (by kernel_rfl) (by kernel_rfl) h (by omega)
@[go_sem] theorem run_store_Card (w : World) (b : Nat) (cs : Array Value) (h : (w.blk b).size = 13) (hc : cs.size = 13) (h1 : oneCells cs = true) (hf : w.free b = true) : (stRow 92 (.pointer (some ⟨b, 0, none⟩)) (.agg cs)).run Tryz.prog w = .ok .skip (w.setRow b cs) :=
  run_stRow w b 92 13 _ (by kernel_rfl) h hc (by omega) hf h1
@[go_sem ↓] theorem build_effect (ρ : Operand → Value) (dst : Option Tmp) (parts : Array (Nat × Operand)) (ty : TypeId) (pos : String) (after : Array Edge) (guard : Option (Nat × Bool)) :
    execOp ρ { dst, op := .build 99 parts, type := ty, pos, after, guard } = bdRow 99 (parts.map fun (i, x) => (i, ρ x)) := rfl
@[go_sem ↓] theorem build_ability (ρ : Operand → Value) (dst : Option Tmp) (parts : Array (Nat × Operand)) (ty : TypeId) (pos : String) (after : Array Edge) (guard : Option (Nat × Bool)) :
    execOp ρ { dst, op := .build 136 parts, type := ty, pos, after, guard } = bdRow 136 (parts.map fun (i, x) => (i, ρ x)) := rfl
@[go_sem ↓] theorem build_card (ρ : Operand → Value) (dst : Option Tmp) (parts : Array (Nat × Operand)) (ty : TypeId) (pos : String) (after : Array Edge) (guard : Option (Nat × Bool)) :
    execOp ρ { dst, op := .build 92 parts, type := ty, pos, after, guard } = bdRow 92 (parts.map fun (i, x) => (i, ρ x)) := rfl
@[go_sem] theorem run_build_effect4 (w : World) (a b c d : Int) : (bdRow 99 #[(0, .int .i64 a), (1, .int .i64 b), (2, .int .i64 c), (3, .int .i64 d)]).run Tryz.prog w = .ok (.value (.agg (EfV.arr ⟨a, b, c, d, .nil⟩))) w := by kernel_rfl
@[go_sem] theorem run_build_effectS (w : World) (a b : Int) (s : Sl) : (bdRow 99 #[(0, .int .i64 a), (1, .int .i64 b), (4, s.val)]).run Tryz.prog w = .ok (.value (.agg (EfV.arr ⟨a, b, 0, 0, s⟩))) w := by cases s <;> kernel_rfl
@[go_sem] theorem run_build_effectQ (w : World) (a : Int) (s : Sl) : (bdRow 99 #[(0, .int .i64 a), (4, s.val)]).run Tryz.prog w = .ok (.value (.agg (EfV.arr ⟨a, 0, 0, 0, s⟩))) w := by cases s <;> kernel_rfl
@[go_sem] theorem run_build_ability2 (w : World) (a : Int) (e : EfV) : (bdRow 136 #[(0, .int .i64 a), (4, .agg e.arr)]).run Tryz.prog w = .ok (.value (.agg (AbV.arr ⟨a, 0, 0, 0, 0, 0, 0, false, 0, e⟩))) w := by
  obtain ⟨op, n, m, who, s⟩ := e; cases s <;> kernel_rfl
@[go_sem] theorem run_build_abilityT (w : World) (a : Int) (e : EfV) : (bdRow 136 #[(3, .int .i64 a), (4, .agg e.arr)]).run Tryz.prog w = .ok (.value (.agg (AbV.arr ⟨0, 0, 0, 0, 0, 0, 0, false, a, e⟩))) w := by
  obtain ⟨op, n, m, who, s⟩ := e; cases s <;> kernel_rfl
@[go_sem] theorem run_build_mana (w : World) (e : EfV) : (bdRow 136 #[(0, .int .i64 6), (2, .bool true), (4, .agg e.arr)]).run Tryz.prog w = .ok (.value (.agg (AbV.arr ⟨6, 0, 0, 0, 0, 0, 0, true, 0, e⟩))) w := by
  obtain ⟨op, n, m, who, s⟩ := e; cases s <;> kernel_rfl
@[go_sem] theorem run_build_active (w : World) (c0 c1 c2 c3 c4 c5 tg : Int) (tap : Bool) (e : EfV) : (bdRow 136 #[(0, .int .i64 1), (1, .agg (cellsOf [c0, c1, c2, c3, c4, c5])), (2, .bool tap), (3, .int .i64 tg), (4, .agg e.arr)]).run Tryz.prog w = .ok (.value (.agg (AbV.arr ⟨1, c0, c1, c2, c3, c4, c5, tap, tg, e⟩))) w := by
  obtain ⟨op, n, m, who, s⟩ := e; cases s <;> kernel_rfl
@[go_sem ↓] theorem bslice_effects (ρ : Operand → Value) (dst : Option Tmp) (n : Nat) (parts : Array (Nat × Operand)) (ty : TypeId) (pos : String) (after : Array Edge) (guard : Option (Nat × Bool)) :
    execOp ρ { dst, op := .buildSlice 97 n parts, type := ty, pos, after, guard } = bsRow 97 n (parts.map fun (i, x) => (i, ρ x)) := rfl
@[go_sem ↓] theorem bslice_abilities (ρ : Operand → Value) (dst : Option Tmp) (n : Nat) (parts : Array (Nat × Operand)) (ty : TypeId) (pos : String) (after : Array Edge) (guard : Option (Nat × Bool)) :
    execOp ρ { dst, op := .buildSlice 90 n parts, type := ty, pos, after, guard } = bsRow 90 n (parts.map fun (i, x) => (i, ρ x)) := rfl
@[go_sem] theorem run_bs_effect (w : World) (e : EfV) : (bsRow 97 1 #[(0, .agg e.arr)]).run Tryz.prog w = .ok (.value (.slice (some ⟨w.heap.size, 0, none⟩) 1 1)) (w.alloc (.cells e.arr 99)) := by
  obtain ⟨op, n, m, who, s⟩ := e; cases s <;> kernel_rfl
@[go_sem] theorem run_bs_effect2 (w : World) (e f : EfV) : (bsRow 97 2 #[(0, .agg e.arr), (1, .agg f.arr)]).run Tryz.prog w = .ok (.value (.slice (some ⟨w.heap.size, 0, none⟩) 2 2)) (w.alloc (.cells (e.arr ++ f.arr) 99)) := by
  obtain ⟨op, n, m, who, s⟩ := e; obtain ⟨op', n', m', who', s'⟩ := f; cases s <;> cases s' <;> kernel_rfl
@[go_sem] theorem run_bs_ability (w : World) (a : AbV) : (bsRow 90 1 #[(0, .agg a.arr)]).run Tryz.prog w = .ok (.value (.slice (some ⟨w.heap.size, 0, none⟩) 1 1)) (w.alloc (.cells a.arr 136)) := by
  obtain ⟨wh, c0, c1, c2, c3, c4, c5, tap, tg, ⟨op, n, m, who, s⟩⟩ := a; cases s <;> kernel_rfl
@[go_sem] theorem run_bs_ability2 (w : World) (a b : AbV) : (bsRow 90 2 #[(0, .agg a.arr), (1, .agg b.arr)]).run Tryz.prog w = .ok (.value (.slice (some ⟨w.heap.size, 0, none⟩) 2 2)) (w.alloc (.cells (a.arr ++ b.arr) 136)) := by
  obtain ⟨wh, c0, c1, c2, c3, c4, c5, tap, tg, ⟨op, n, m, who, s⟩⟩ := a; obtain ⟨wh', c0', c1', c2', c3', c4', c5', tap', tg', ⟨op', n', m', who', s'⟩⟩ := b; cases s <;> cases s' <;> kernel_rfl
@[go_sem ↓] theorem load_Cost (ρ : Operand → Value) (dst : Option Tmp) (x : Operand) (ty : TypeId) (pos : String) (after : Array Edge) (guard : Option (Nat × Bool)) :
    execOp ρ { dst, op := .load 89 x, type := ty, pos, after, guard } = ldRow 89 (ρ x) := rfl
@[go_sem ↓] theorem store_Cost (ρ : Operand → Value) (dst : Option Tmp) (x y : Operand) (ty : TypeId) (pos : String) (after : Array Edge) (guard : Option (Nat × Bool)) :
    execOp ρ { dst, op := .store 89 x y, type := ty, pos, after, guard } = stRow 89 (ρ x) (ρ y) := rfl
@[go_sem] theorem run_load_Cost (w : World) (b o : Nat) (h : o + 6 ≤ (w.blk b).size) : (ldRow 89 (.pointer (some ⟨b, o, none⟩))).run Tryz.prog w = .ok (.value (.agg (sub (w.blk b) o 6))) w :=
  run_ldSub w b o 89 6 (by kernel_rfl) (by kernel_rfl) h (by omega)
@[go_sem] theorem run_store_Cost (w : World) (b : Nat) (cs : Array Value) (h : (w.blk b).size = 6) (hc : cs.size = 6) (h1 : oneCells cs = true) (hf : w.free b = true) : (stRow 89 (.pointer (some ⟨b, 0, none⟩)) (.agg cs)).run Tryz.prog w = .ok .skip (w.setRow b cs) :=
  run_stRow w b 89 6 _ (by kernel_rfl) h hc (by omega) hf h1
theorem loadVar_Cost (w : World) (b : Nat) (h : (w.blk b).size = 6) : (loadVar 89 ⟨b, 0, none⟩).run Tryz.prog w = .ok (.agg (sub (w.blk b) 0 6)) w := by
  have := run_load_Cost w b 0 (by omega)
  unfold ldRow at this
  rw [Sem.run_bind] at this
  simp only [Instr.loadAt, Instr.sureAddr, Sem.run_bind, Sem.run_pure, Result.andThen_ok] at this
  cases hr : (loadVar 89 ⟨b, 0, none⟩).run Tryz.prog w with
  | ok v w' => rw [hr] at this; simp at this; rw [this.1, this.2]
  | halt x w' => rw [hr] at this; simp [Result.andThen] at this
theorem results_Cost {fn : Func} {p : Tmp} (h : fn.results = #[.cell p 89]) (tmps : Array Value) (w : World) (b : Nat) (hp : tmps.getD p undef = .pointer (some ⟨b, 0, none⟩)) (h1 : (w.blk b).size = 6) :
    (results fn tmps).run Tryz.prog w = .ok (.agg (sub (w.blk b) 0 6)) w := by
  unfold results
  rw [h]
  have e1 := loadVar_Cost w b h1
  have hp' : tmps[p]?.getD undef = .pointer (some ⟨b, 0, none⟩) := by simpa using hp
  simp [asAddr, hp', e1]
@[go_sem] theorem run_build_effectM (w : World) (a b : Int) (k o n c : Nat) : (bdRow 99 #[(0, .int .i64 a), (1, .int .i64 b), (4, .slice (some ⟨k, o, none⟩) n c)]).run Tryz.prog w = .ok (.value (.agg (EfV.arr ⟨a, b, 0, 0, .mk k o n c⟩))) w := by kernel_rfl
/-- Rows of cells, as they stand in memory. -/
structure RowsV (w : World) (s : Sl) (k : Nat) (l : List (Array Value)) : Prop where
  len : s.n = l.length
  cap : s.n ≤ s.c
  wid : ∀ x, x ∈ l → x.size = k
  cell : ∀ i j x, l[i]? = some x → j < k → w.cell? ⟨s.b, s.o + i * k + j, none⟩ = x[j]?
theorem RowsV.grow {w w' : World} {s : Sl} {k : Nat} {l : List (Array Value)} (h : RowsV w s k l) (g : Grow w w') : RowsV w' s k l := by
  obtain ⟨x, rfl⟩ := g
  refine ⟨h.len, h.cap, h.wid, fun i j r hr hj => ?_⟩
  have hc := h.cell i j r hr hj
  have hs : r.size = k := h.wid r (List.mem_of_getElem? hr)
  rw [Array.getElem?_eq_getElem (by omega)] at hc
  rw [plus_cell_lt w x _ _ (cell_blk hc).1, hc, Array.getElem?_eq_getElem (by omega)]
theorem RowsV.off {b : Nat} {w w' : World} {s : Sl} {k : Nat} {l : List (Array Value)} (h : RowsV w s k l) (ho : Off b w w') (hb : s.b ≠ b) : RowsV w' s k l := by
  refine ⟨h.len, h.cap, h.wid, fun i j x hx hj => ?_⟩
  rw [← h.cell i j x hx hj]
  simp only [World.cell?, ho.block _ hb]
theorem RowsV.one {w : World} {b k : Nat} {x : Array Value} (hf : w.free b = true) (h : w.blk b = x) (hk : x.size = k) : RowsV w (.mk b 0 1 1) k [x] := by
  refine ⟨rfl, Nat.le_refl _, fun y hy => ?_, fun i j y hy hj => ?_⟩
  · rw [List.mem_singleton.1 hy, hk]
  · have hi : i = 0 := by
      have := (List.getElem?_eq_some_iff.1 hy).1
      simpa using this
    subst hi
    have : y = x := by simpa using hy.symm
    subst this
    rw [← cell_of_blk hf h j]
    simp [Sl.b, Sl.o]
theorem RowsV.two {w : World} {b k : Nat} {x y : Array Value} (hf : w.free b = true) (h : w.blk b = x ++ y) (hx : x.size = k) (hy : y.size = k) : RowsV w (.mk b 0 2 2) k [x, y] := by
  refine ⟨rfl, Nat.le_refl _, fun z hz => ?_, fun i j z hz hj => ?_⟩
  · simp at hz; rcases hz with rfl | rfl <;> assumption
  · have hi : i < 2 := by
      have := (List.getElem?_eq_some_iff.1 hz).1
      simpa using this
    have hc := cell_of_blk hf h (i * k + j)
    simp only [Sl.b, Sl.o, Nat.zero_add]
    rw [hc]
    have : i = 0 ∨ i = 1 := by omega
    rcases this with rfl | rfl
    · have : z = x := by simpa using hz.symm
      subst this
      rw [Array.getElem?_append_left (by omega)]
      simp
    · have : z = y := by simpa using hz.symm
      subst this
      rw [Array.getElem?_append_right (by omega)]
      congr 1
      omega
theorem loadVar_Effect (w : World) (b : Nat) (h : (w.blk b).size = 5) : (loadVar 99 ⟨b, 0, none⟩).run Tryz.prog w = .ok (.agg (sub (w.blk b) 0 5)) w := by
  have := run_load_Effect w b 0 (by omega)
  unfold ldRow at this
  rw [Sem.run_bind] at this
  simp only [Instr.loadAt, Instr.sureAddr, Sem.run_bind, Sem.run_pure, Result.andThen_ok] at this
  cases hr : (loadVar 99 ⟨b, 0, none⟩).run Tryz.prog w with
  | ok v w' => rw [hr] at this; simp at this; rw [this.1, this.2]
  | halt x w' => rw [hr] at this; simp [Result.andThen] at this
theorem results_Effect {fn : Func} {p : Tmp} (h : fn.results = #[.cell p 99]) (tmps : Array Value) (w : World) (b : Nat) (hp : tmps.getD p undef = .pointer (some ⟨b, 0, none⟩)) (h1 : (w.blk b).size = 5) :
    (results fn tmps).run Tryz.prog w = .ok (.agg (sub (w.blk b) 0 5)) w := by
  unfold results
  rw [h]
  have e1 := loadVar_Effect w b h1
  have hp' : tmps[p]?.getD undef = .pointer (some ⟨b, 0, none⟩) := by simpa using hp
  simp [asAddr, hp', e1]
theorem loadVar_Ability (w : World) (b : Nat) (h : (w.blk b).size = 14) : (loadVar 136 ⟨b, 0, none⟩).run Tryz.prog w = .ok (.agg (sub (w.blk b) 0 14)) w := by
  have := run_load_Ability w b 0 (by omega)
  unfold ldRow at this
  rw [Sem.run_bind] at this
  simp only [Instr.loadAt, Instr.sureAddr, Sem.run_bind, Sem.run_pure, Result.andThen_ok] at this
  cases hr : (loadVar 136 ⟨b, 0, none⟩).run Tryz.prog w with
  | ok v w' => rw [hr] at this; simp at this; rw [this.1, this.2]
  | halt x w' => rw [hr] at this; simp [Result.andThen] at this
theorem results_Ability {fn : Func} {p : Tmp} (h : fn.results = #[.cell p 136]) (tmps : Array Value) (w : World) (b : Nat) (hp : tmps.getD p undef = .pointer (some ⟨b, 0, none⟩)) (h1 : (w.blk b).size = 14) :
    (results fn tmps).run Tryz.prog w = .ok (.agg (sub (w.blk b) 0 14)) w := by
  unfold results
  rw [h]
  have e1 := loadVar_Ability w b h1
  have hp' : tmps[p]?.getD undef = .pointer (some ⟨b, 0, none⟩) := by simpa using hp
  simp [asAddr, hp', e1]
theorem loadVar_Card (w : World) (b : Nat) (h : (w.blk b).size = 13) : (loadVar 92 ⟨b, 0, none⟩).run Tryz.prog w = .ok (.agg (sub (w.blk b) 0 13)) w := by
  have := run_load_Card w b 0 (by omega)
  unfold ldRow at this
  rw [Sem.run_bind] at this
  simp only [Instr.loadAt, Instr.sureAddr, Sem.run_bind, Sem.run_pure, Result.andThen_ok] at this
  cases hr : (loadVar 92 ⟨b, 0, none⟩).run Tryz.prog w with
  | ok v w' => rw [hr] at this; simp at this; rw [this.1, this.2]
  | halt x w' => rw [hr] at this; simp [Result.andThen] at this
theorem results_Card {fn : Func} {p : Tmp} (h : fn.results = #[.cell p 92]) (tmps : Array Value) (w : World) (b : Nat) (hp : tmps.getD p undef = .pointer (some ⟨b, 0, none⟩)) (h1 : (w.blk b).size = 13) :
    (results fn tmps).run Tryz.prog w = .ok (.agg (sub (w.blk b) 0 13)) w := by
  unfold results
  rw [h]
  have e1 := loadVar_Card w b h1
  have hp' : tmps[p]?.getD undef = .pointer (some ⟨b, 0, none⟩) := by simpa using hp
  simp [asAddr, hp', e1]

set_option maxRecDepth 100000 in
theorem tdo_any (w : World) (op n m who : Int) : Calls Tryz.prog 146 #[.int .i64 op, .int .i64 n, .int .i64 m, .int .i64 who] w fun e w' => e = .returned (.agg (EfV.arr ⟨op, n, m, who, .nil⟩)) ∧ Grow w w' := by
  go_enter Tryz.func146, Tryz.ntmps146
  go_wp2_with fail
  refine bodyPost_ret (results_Effect rfl _ _ _ rfl ?_) rfl ?_
  · go_simp
  · exact ⟨by go_simp, (by repeat (first | exact Grow.refl _ | refine Grow.andr ?_ | refine Grow.plus ?_ _ | refine Grow.alloc ?_ _ | refine Grow.drew ?_ | refine Grow.drewN ?_ _))⟩
set_option maxRecDepth 100000 in
theorem when_any (w : World) (a : Int) (e : EfV) : Calls Tryz.prog 145 #[.int .i64 a, .agg e.arr] w fun r w' => r = .returned (.agg (AbV.arr ⟨a, 0, 0, 0, 0, 0, 0, false, 0, e⟩)) ∧ Grow w w' := by
  go_enter Tryz.func145, Tryz.ntmps145
  go_wp2_with fail
  refine bodyPost_ret (results_Ability rfl _ _ _ rfl ?_) rfl ?_
  · go_simp
  · exact ⟨by go_simp, (by repeat (first | exact Grow.refl _ | refine Grow.andr ?_ | refine Grow.plus ?_ _ | refine Grow.alloc ?_ _ | refine Grow.drew ?_ | refine Grow.drewN ?_ _))⟩
set_option maxRecDepth 100000 in
theorem aim_any (w : World) (a : Int) (e : EfV) : Calls Tryz.prog 163 #[.int .i64 a, .agg e.arr] w fun r w' => r = .returned (.agg (AbV.arr ⟨0, 0, 0, 0, 0, 0, 0, false, a, e⟩)) ∧ Grow w w' := by
  go_enter Tryz.func163, Tryz.ntmps163
  go_wp2_with fail
  refine bodyPost_ret (results_Ability rfl _ _ _ rfl ?_) rfl ?_
  · go_simp
  · exact ⟨by go_simp, (by repeat (first | exact Grow.refl _ | refine Grow.andr ?_ | refine Grow.plus ?_ _ | refine Grow.alloc ?_ _ | refine Grow.drew ?_ | refine Grow.drewN ?_ _))⟩
set_option maxRecDepth 100000 in
theorem mana_any (w : World) (a b : Int) : Calls Tryz.prog 144 #[.int .i64 a, .int .i64 b] w fun r w' => r = .returned (.agg (AbV.arr ⟨6, 0, 0, 0, 0, 0, 0, true, 0, ⟨15, a, b, 0, .nil⟩⟩)) ∧ Grow w w' := by
  go_enter Tryz.func144, Tryz.ntmps144
  go_wp2_with (go_at_call 146; refine (tdo_any _ _ _ _ _).mono ?_; rintro e' w' ⟨rfl, nx, rfl⟩)
  refine bodyPost_ret (results_Ability rfl _ _ _ rfl ?_) rfl ?_
  · go_simp
  · exact ⟨by go_simp, (by repeat (first | exact Grow.refl _ | refine Grow.andr ?_ | refine Grow.plus ?_ _ | refine Grow.alloc ?_ _ | refine Grow.drew ?_ | refine Grow.drewN ?_ _))⟩
set_option maxRecDepth 100000 in
theorem active_any (w : World) (c0 c1 c2 c3 c4 c5 tg : Int) (tap : Bool) (e : EfV) : Calls Tryz.prog 147 #[.agg (cellsOf [c0, c1, c2, c3, c4, c5]), .bool tap, .int .i64 tg, .agg e.arr] w fun r w' => r = .returned (.agg (AbV.arr ⟨1, c0, c1, c2, c3, c4, c5, tap, tg, e⟩)) ∧ Grow w w' := by
  go_enter Tryz.func147, Tryz.ntmps147
  go_wp2_with fail
  refine bodyPost_ret (results_Ability rfl _ _ _ rfl ?_) rfl ?_
  · go_simp
  · exact ⟨by go_simp, (by repeat (first | exact Grow.refl _ | refine Grow.andr ?_ | refine Grow.plus ?_ _ | refine Grow.alloc ?_ _ | refine Grow.drew ?_ | refine Grow.drewN ?_ _))⟩
set_option maxRecDepth 100000 in
theorem seq_any (w : World) (s : Sl) : Calls Tryz.prog 165 #[s.val] w fun r w' => r = .returned (.agg (EfV.arr ⟨21, 0, 0, 0, s⟩)) ∧ Grow w w' := by
  go_enter Tryz.func165, Tryz.ntmps165
  go_wp2_with fail
  refine bodyPost_ret (results_Effect rfl _ _ _ rfl ?_) rfl ?_
  · go_simp
  · exact ⟨by go_simp, (by repeat (first | exact Grow.refl _ | refine Grow.andr ?_ | refine Grow.plus ?_ _ | refine Grow.alloc ?_ _ | refine Grow.drew ?_ | refine Grow.drewN ?_ _))⟩
set_option maxRecDepth 100000 in
theorem every_any (w : World) (g op n m : Int) : Calls Tryz.prog 164 #[.int .i64 g, .int .i64 op, .int .i64 n, .int .i64 m] w fun r w' => ∃ s, r = .returned (.agg (EfV.arr ⟨20, g, 0, 0, s⟩)) ∧ (RowsV w' s 5 [EfV.arr ⟨op, n, m, 2, .nil⟩] ∧ w.heap.size ≤ s.b) ∧ Grow w w' := by
  go_enter Tryz.func164, Tryz.ntmps164
  go_wp2_with (go_at_call 146; refine (tdo_any _ _ _ _ _).mono ?_; rintro e' w' ⟨rfl, nx, rfl⟩)
  refine bodyPost_ret (results_Effect rfl _ _ _ rfl ?_) rfl ?_
  · go_simp
  · refine ⟨.mk (w.heap.size + 1 + nx.objs.size) 0 1 1, by go_simp, ⟨RowsV.one (by go_simp) (by go_simp) (by go_simp), by simp only [Sl.b]; omega⟩, (by repeat (first | exact Grow.refl _ | refine Grow.andr ?_ | refine Grow.plus ?_ _ | refine Grow.alloc ?_ _ | refine Grow.drew ?_ | refine Grow.drewN ?_ _))⟩
set_option maxRecDepth 100000 in
theorem cost_any (w : World) (col n free : Int) (h0 : 0 ≤ col) (h1 : col < 6) : Calls Tryz.prog 136 #[.int .i64 col, .int .i64 n, .int .i64 free] w fun r w' => ∃ c0 c1 c2 c3 c4 c5, r = .returned (.agg (cellsOf [c0, c1, c2, c3, c4, c5])) ∧ Grow w w' := by
  have : col = 0 ∨ col = 1 ∨ col = 2 ∨ col = 3 ∨ col = 4 ∨ col = 5 := by omega
  rcases this with rfl | rfl | rfl | rfl | rfl | rfl
  · go_enter Tryz.func136, Tryz.ntmps136
    go_wp2_with fail
    refine bodyPost_ret (results_Cost rfl _ _ _ rfl ?_) rfl ?_
    · go_simp
    · exact ⟨n, 0, 0, 0, 0, wrap64 (gt [n, 0, 0, 0, 0, 0] 5 + free), by go_simp, (by repeat (first | exact Grow.refl _ | refine Grow.andr ?_ | refine Grow.plus ?_ _ | refine Grow.alloc ?_ _ | refine Grow.drew ?_ | refine Grow.drewN ?_ _))⟩
  · go_enter Tryz.func136, Tryz.ntmps136
    go_wp2_with fail
    refine bodyPost_ret (results_Cost rfl _ _ _ rfl ?_) rfl ?_
    · go_simp
    · exact ⟨0, n, 0, 0, 0, wrap64 (gt [0, n, 0, 0, 0, 0] 5 + free), by go_simp, (by repeat (first | exact Grow.refl _ | refine Grow.andr ?_ | refine Grow.plus ?_ _ | refine Grow.alloc ?_ _ | refine Grow.drew ?_ | refine Grow.drewN ?_ _))⟩
  · go_enter Tryz.func136, Tryz.ntmps136
    go_wp2_with fail
    refine bodyPost_ret (results_Cost rfl _ _ _ rfl ?_) rfl ?_
    · go_simp
    · exact ⟨0, 0, n, 0, 0, wrap64 (gt [0, 0, n, 0, 0, 0] 5 + free), by go_simp, (by repeat (first | exact Grow.refl _ | refine Grow.andr ?_ | refine Grow.plus ?_ _ | refine Grow.alloc ?_ _ | refine Grow.drew ?_ | refine Grow.drewN ?_ _))⟩
  · go_enter Tryz.func136, Tryz.ntmps136
    go_wp2_with fail
    refine bodyPost_ret (results_Cost rfl _ _ _ rfl ?_) rfl ?_
    · go_simp
    · exact ⟨0, 0, 0, n, 0, wrap64 (gt [0, 0, 0, n, 0, 0] 5 + free), by go_simp, (by repeat (first | exact Grow.refl _ | refine Grow.andr ?_ | refine Grow.plus ?_ _ | refine Grow.alloc ?_ _ | refine Grow.drew ?_ | refine Grow.drewN ?_ _))⟩
  · go_enter Tryz.func136, Tryz.ntmps136
    go_wp2_with fail
    refine bodyPost_ret (results_Cost rfl _ _ _ rfl ?_) rfl ?_
    · go_simp
    · exact ⟨0, 0, 0, 0, n, wrap64 (gt [0, 0, 0, 0, n, 0] 5 + free), by go_simp, (by repeat (first | exact Grow.refl _ | refine Grow.andr ?_ | refine Grow.plus ?_ _ | refine Grow.alloc ?_ _ | refine Grow.drew ?_ | refine Grow.drewN ?_ _))⟩
  · go_enter Tryz.func136, Tryz.ntmps136
    go_wp2_with fail
    refine bodyPost_ret (results_Cost rfl _ _ _ rfl ?_) rfl ?_
    · go_simp
    · exact ⟨0, 0, 0, 0, 0, wrap64 (gt [0, 0, 0, 0, 0, n] 5 + free), by go_simp, (by repeat (first | exact Grow.refl _ | refine Grow.andr ?_ | refine Grow.plus ?_ _ | refine Grow.alloc ?_ _ | refine Grow.drew ?_ | refine Grow.drewN ?_ _))⟩
end Go.Proofs.YtibmnofpoenonaaGreatDoor
