/- Cards, abilities and effects, as they stand in cells. -/
import Derived.Test.YthfalocligkamaaGreatDoorMEq
import Derived.Test.YthfalocligkamaaGreatDoorMSt
import Derived.Test.YthfalocligkamaaGreatDoorMEv2
namespace Go.Proofs.YthfalocligkamaaGreatDoor
open Go Go.RowKit
structure EfV where
 op : Int
 n : Int
 m : Int
 who : Int
 subs : Sl
def EfV.arr (e : EfV) : Array Value := #[I e.op, I e.n, I e.m, I e.who, e.subs.val]
structure AbV where
 wh : Int
 c0 : Int
 c1 : Int
 c2 : Int
 c3 : Int
 c4 : Int
 c5 : Int
 tap : Bool
 tg : Int
 ef : EfV
def AbV.arr (a : AbV) : Array Value := #[I a.wh, I a.c0, I a.c1, I a.c2, I a.c3, I a.c4, I a.c5, .bool a.tap, I a.tg, I a.ef.op, I a.ef.n, I a.ef.m, I a.ef.who, a.ef.subs.val]
structure CdV where
 kind : Int
 col : Int
 fast : Bool
 c0 : Int
 c1 : Int
 c2 : Int
 c3 : Int
 c4 : Int
 c5 : Int
 pw : Int
 tf : Int
 says : Int
 abs : Sl
def CdV.arr (c : CdV) : Array Value := #[I c.kind, I c.col, .bool c.fast, I c.c0, I c.c1, I c.c2, I c.c3, I c.c4, I c.c5, I c.pw, I c.tf, I c.says, c.abs.val]
@[go_sem] theorem EfV.size (e : EfV) : e.arr.size = 5 := by simp [EfV.arr]
@[go_sem] theorem AbV.size (a : AbV) : a.arr.size = 14 := by simp [AbV.arr]
@[go_sem] theorem CdV.size (c : CdV) : c.arr.size = 13 := by simp [CdV.arr]
@[go_sem] theorem EfV.one (e : EfV) : zai e.arr = true := by
 have h := val_oneCell e.subs
 simp only [zai, EfV.arr, List.all_toArray, List.all_cons, List.all_nil, h, Bool.and_true]
 rfl
@[go_sem] theorem AbV.one (a : AbV) : zai a.arr = true := by
 have h := val_oneCell a.ef.subs
 simp only [zai, AbV.arr, List.all_toArray, List.all_cons, List.all_nil, h, Bool.and_true]
 rfl
@[go_sem] theorem CdV.one (c : CdV) : zai c.arr = true := by
 have h := val_oneCell c.abs
 simp only [zai, CdV.arr, List.all_toArray, List.all_cons, List.all_nil, h, Bool.and_true]
 rfl
@[go_sem] theorem EfV.all (e : EfV) : sub e.arr 0 5 = e.arr := by
 unfold sub; rw [Nat.zero_add, ← EfV.size e, Array.extract_size]
@[go_sem] theorem AbV.all (a : AbV) : sub a.arr 0 14 = a.arr := by
 unfold sub; rw [Nat.zero_add, ← AbV.size a, Array.extract_size]
@[go_sem] theorem CdV.all (c : CdV) : sub c.arr 0 13 = c.arr := by
 unfold sub; rw [Nat.zero_add, ← CdV.size c, Array.extract_size]
@[go_sem] theorem z48 (t : TypeId) (fr : Nat × Nat) : Obj.cells #[Value.int .i64 0, Value.int .i64 0, Value.int .i64 0, Value.int .i64 0, .slice none 0 0] t fr = .cells (EfV.arr ⟨0, 0, 0, 0, .nil⟩) t fr := rfl
@[go_sem] theorem z0l (t : TypeId) (fr : Nat × Nat) : Obj.cells #[Value.int .i64 0, Value.int .i64 0, Value.int .i64 0, Value.int .i64 0, Value.int .i64 0, Value.int .i64 0, Value.int .i64 0, .bool false, Value.int .i64 0, Value.int .i64 0, Value.int .i64 0, Value.int .i64 0, Value.int .i64 0, .slice none 0 0] t fr = .cells (AbV.arr ⟨0, 0, 0, 0, 0, 0, 0, false, 0, ⟨0, 0, 0, 0, .nil⟩⟩) t fr := rfl
@[go_sem] theorem z9t (t : TypeId) (fr : Nat × Nat) : Obj.cells #[Value.int .i64 0, Value.int .i64 0, .bool false, Value.int .i64 0, Value.int .i64 0, Value.int .i64 0, Value.int .i64 0, Value.int .i64 0, Value.int .i64 0, Value.int .i64 0, Value.int .i64 0, Value.int .i64 0, .slice none 0 0] t fr = .cells (CdV.arr ⟨0, 0, false, 0, 0, 0, 0, 0, 0, 0, 0, 0, .nil⟩) t fr := rfl
@[go_sem ↓] theorem z7q (ρ : Operand → Value) (dst : Option Tmp) (x : Operand) (ty : TypeId) (pos : String) (after : Array Edge) (guard : Option (Nat × Bool)) :
 execOp ρ { dst, op := .load 32 x, type := ty, pos, after, guard } = za3 32 (ρ x) := rfl
@[go_sem ↓] theorem z54 (ρ : Operand → Value) (dst : Option Tmp) (x y : Operand) (ty : TypeId) (pos : String) (after : Array Edge) (guard : Option (Nat × Bool)) :
 execOp ρ { dst, op := .store 32 x y, type := ty, pos, after, guard } = zaz 32 (ρ x) (ρ y) := rfl
@[go_sem] theorem zjw (w : World) (b o : Nat) (h : o + 5 ≤ (w.blk b).size) : (za3 32 (.pointer (some ⟨b, o, none⟩))).run Tryz.prog w = .ok (.value (.agg (sub (w.blk b) o 5))) w :=
 zaw w b o 32 5 (by kernel_rfl) (by kernel_rfl) h (by omega)
@[go_sem] theorem zu5 (w : World) (b : Nat) (cs : Array Value) (h : (w.blk b).size = 5) (hc : cs.size = 5) (h1 : zai cs = true) (hf : w.free b = true) : (zaz 32 (.pointer (some ⟨b, 0, none⟩)) (.agg cs)).run Tryz.prog w = .ok .skip (w.setRow b cs) :=
 zax w b 32 5 _ (by kernel_rfl) h hc (by omega) hf h1
@[go_sem ↓] theorem z5n (ρ : Operand → Value) (dst : Option Tmp) (x : Operand) (ty : TypeId) (pos : String) (after : Array Edge) (guard : Option (Nat × Bool)) :
 execOp ρ { dst, op := .load 152 x, type := ty, pos, after, guard } = za3 152 (ρ x) := rfl
@[go_sem ↓] theorem z4c (ρ : Operand → Value) (dst : Option Tmp) (x y : Operand) (ty : TypeId) (pos : String) (after : Array Edge) (guard : Option (Nat × Bool)) :
 execOp ρ { dst, op := .store 152 x y, type := ty, pos, after, guard } = zaz 152 (ρ x) (ρ y) := rfl
@[go_sem] theorem zim (w : World) (b o : Nat) (h : o + 14 ≤ (w.blk b).size) : (za3 152 (.pointer (some ⟨b, o, none⟩))).run Tryz.prog w = .ok (.value (.agg (sub (w.blk b) o 14))) w :=
 zaw w b o 152 14 (by kernel_rfl) (by kernel_rfl) h (by omega)
@[go_sem] theorem ztr (w : World) (b : Nat) (cs : Array Value) (h : (w.blk b).size = 14) (hc : cs.size = 14) (h1 : zai cs = true) (hf : w.free b = true) : (zaz 152 (.pointer (some ⟨b, 0, none⟩)) (.agg cs)).run Tryz.prog w = .ok .skip (w.setRow b cs) :=
 zax w b 152 14 _ (by kernel_rfl) h hc (by omega) hf h1
@[go_sem ↓] theorem ycc (ρ : Operand → Value) (dst : Option Tmp) (x : Operand) (ty : TypeId) (pos : String) (after : Array Edge) (guard : Option (Nat × Bool)) :
 execOp ρ { dst, op := .load 99 x, type := ty, pos, after, guard } = za3 99 (ρ x) := rfl
@[go_sem ↓] theorem z98 (ρ : Operand → Value) (dst : Option Tmp) (x y : Operand) (ty : TypeId) (pos : String) (after : Array Edge) (guard : Option (Nat × Bool)) :
 execOp ρ { dst, op := .store 99 x y, type := ty, pos, after, guard } = zaz 99 (ρ x) (ρ y) := rfl
@[go_sem] theorem zme (w : World) (b o : Nat) (h : o + 13 ≤ (w.blk b).size) : (za3 99 (.pointer (some ⟨b, o, none⟩))).run Tryz.prog w = .ok (.value (.agg (sub (w.blk b) o 13))) w :=
 zaw w b o 99 13 (by kernel_rfl) (by kernel_rfl) h (by omega)
@[go_sem] theorem zz3 (w : World) (b : Nat) (cs : Array Value) (h : (w.blk b).size = 13) (hc : cs.size = 13) (h1 : zai cs = true) (hf : w.free b = true) : (zaz 99 (.pointer (some ⟨b, 0, none⟩)) (.agg cs)).run Tryz.prog w = .ok .skip (w.setRow b cs) :=
 zax w b 99 13 _ (by kernel_rfl) h hc (by omega) hf h1
@[go_sem ↓] theorem z44 (ρ : Operand → Value) (dst : Option Tmp) (parts : Array (Nat × Operand)) (ty : TypeId) (pos : String) (after : Array Edge) (guard : Option (Nat × Bool)) :
 execOp ρ { dst, op := .build 32 parts, type := ty, pos, after, guard } = za0 32 (parts.map fun (i, x) => (i, ρ x)) := rfl
@[go_sem ↓] theorem z0j (ρ : Operand → Value) (dst : Option Tmp) (parts : Array (Nat × Operand)) (ty : TypeId) (pos : String) (after : Array Edge) (guard : Option (Nat × Bool)) :
 execOp ρ { dst, op := .build 152 parts, type := ty, pos, after, guard } = za0 152 (parts.map fun (i, x) => (i, ρ x)) := rfl
@[go_sem ↓] theorem z9n (ρ : Operand → Value) (dst : Option Tmp) (parts : Array (Nat × Operand)) (ty : TypeId) (pos : String) (after : Array Edge) (guard : Option (Nat × Bool)) :
 execOp ρ { dst, op := .build 99 parts, type := ty, pos, after, guard } = za0 99 (parts.map fun (i, x) => (i, ρ x)) := rfl
@[go_sem] theorem zti (w : World) (a b c d : Int) : (za0 32 #[(0, .int .i64 a), (1, .int .i64 b), (2, .int .i64 c), (3, .int .i64 d)]).run Tryz.prog w = .ok (.value (.agg (EfV.arr ⟨a, b, c, d, .nil⟩))) w := by kernel_rfl
@[go_sem] theorem ztl (w : World) (a b : Int) (s : Sl) : (za0 32 #[(0, .int .i64 a), (1, .int .i64 b), (4, s.val)]).run Tryz.prog w = .ok (.value (.agg (EfV.arr ⟨a, b, 0, 0, s⟩))) w := by cases s <;> kernel_rfl
@[go_sem] theorem ztk (w : World) (a : Int) (s : Sl) : (za0 32 #[(0, .int .i64 a), (4, s.val)]).run Tryz.prog w = .ok (.value (.agg (EfV.arr ⟨a, 0, 0, 0, s⟩))) w := by cases s <;> kernel_rfl
@[go_sem] theorem zq4 (w : World) (a : Int) (e : EfV) : (za0 152 #[(0, .int .i64 a), (4, .agg e.arr)]).run Tryz.prog w = .ok (.value (.agg (AbV.arr ⟨a, 0, 0, 0, 0, 0, 0, false, 0, e⟩))) w := by
 obtain ⟨op, n, m, who, s⟩ := e; cases s <;> kernel_rfl
@[go_sem] theorem zq5 (w : World) (a : Int) (e : EfV) : (za0 152 #[(3, .int .i64 a), (4, .agg e.arr)]).run Tryz.prog w = .ok (.value (.agg (AbV.arr ⟨0, 0, 0, 0, 0, 0, 0, false, a, e⟩))) w := by
 obtain ⟨op, n, m, who, s⟩ := e; cases s <;> kernel_rfl
@[go_sem] theorem zzv (w : World) (e : EfV) : (za0 152 #[(0, .int .i64 6), (2, .bool true), (4, .agg e.arr)]).run Tryz.prog w = .ok (.value (.agg (AbV.arr ⟨6, 0, 0, 0, 0, 0, 0, true, 0, e⟩))) w := by
 obtain ⟨op, n, m, who, s⟩ := e; cases s <;> kernel_rfl
@[go_sem] theorem zup (w : World) (c0 c1 c2 c3 c4 c5 tg : Int) (tap : Bool) (e : EfV) : (za0 152 #[(0, .int .i64 1), (1, .agg (cellsOf [c0, c1, c2, c3, c4, c5])), (2, .bool tap), (3, .int .i64 tg), (4, .agg e.arr)]).run Tryz.prog w = .ok (.value (.agg (AbV.arr ⟨1, c0, c1, c2, c3, c4, c5, tap, tg, e⟩))) w := by
 obtain ⟨op, n, m, who, s⟩ := e; cases s <;> kernel_rfl
@[go_sem ↓] theorem zzj (ρ : Operand → Value) (dst : Option Tmp) (n : Nat) (parts : Array (Nat × Operand)) (ty : TypeId) (pos : String) (after : Array Edge) (guard : Option (Nat × Bool)) :
 execOp ρ { dst, op := .buildSlice 30 n parts, type := ty, pos, after, guard } = zdh 30 n (parts.map fun (i, x) => (i, ρ x)) := rfl
@[go_sem ↓] theorem zul (ρ : Operand → Value) (dst : Option Tmp) (n : Nat) (parts : Array (Nat × Operand)) (ty : TypeId) (pos : String) (after : Array Edge) (guard : Option (Nat × Bool)) :
 execOp ρ { dst, op := .buildSlice 97 n parts, type := ty, pos, after, guard } = zdh 97 n (parts.map fun (i, x) => (i, ρ x)) := rfl
@[go_sem] theorem z2z (w : World) (e : EfV) : (zdh 30 1 #[(0, .agg e.arr)]).run Tryz.prog w = .ok (.value (.slice (some ⟨w.heap.size, 0, none⟩) 1 1)) (w.alloc (.cells e.arr 32)) := by
 obtain ⟨op, n, m, who, s⟩ := e; cases s <;> kernel_rfl
@[go_sem] theorem zzq (w : World) (e f : EfV) : (zdh 30 2 #[(0, .agg e.arr), (1, .agg f.arr)]).run Tryz.prog w = .ok (.value (.slice (some ⟨w.heap.size, 0, none⟩) 2 2)) (w.alloc (.cells (e.arr ++ f.arr) 32)) := by
 obtain ⟨op, n, m, who, s⟩ := e; obtain ⟨op', n', m', who', s'⟩ := f; cases s <;> cases s' <;> kernel_rfl
@[go_sem] theorem zzp (w : World) (a : AbV) : (zdh 97 1 #[(0, .agg a.arr)]).run Tryz.prog w = .ok (.value (.slice (some ⟨w.heap.size, 0, none⟩) 1 1)) (w.alloc (.cells a.arr 152)) := by
 obtain ⟨wh, c0, c1, c2, c3, c4, c5, tap, tg, ⟨op, n, m, who, s⟩⟩ := a; cases s <;> kernel_rfl
@[go_sem] theorem zxo (w : World) (a b : AbV) : (zdh 97 2 #[(0, .agg a.arr), (1, .agg b.arr)]).run Tryz.prog w = .ok (.value (.slice (some ⟨w.heap.size, 0, none⟩) 2 2)) (w.alloc (.cells (a.arr ++ b.arr) 152)) := by
 obtain ⟨wh, c0, c1, c2, c3, c4, c5, tap, tg, ⟨op, n, m, who, s⟩⟩ := a; obtain ⟨wh', c0', c1', c2', c3', c4', c5', tap', tg', ⟨op', n', m', who', s'⟩⟩ := b; cases s <;> cases s' <;> kernel_rfl
@[go_sem ↓] theorem ycd (ρ : Operand → Value) (dst : Option Tmp) (x : Operand) (ty : TypeId) (pos : String) (after : Array Edge) (guard : Option (Nat × Bool)) :
 execOp ρ { dst, op := .load 96 x, type := ty, pos, after, guard } = za3 96 (ρ x) := rfl
@[go_sem ↓] theorem z99 (ρ : Operand → Value) (dst : Option Tmp) (x y : Operand) (ty : TypeId) (pos : String) (after : Array Edge) (guard : Option (Nat × Bool)) :
 execOp ρ { dst, op := .store 96 x y, type := ty, pos, after, guard } = zaz 96 (ρ x) (ρ y) := rfl
@[go_sem] theorem zmf (w : World) (b o : Nat) (h : o + 6 ≤ (w.blk b).size) : (za3 96 (.pointer (some ⟨b, o, none⟩))).run Tryz.prog w = .ok (.value (.agg (sub (w.blk b) o 6))) w :=
 zaw w b o 96 6 (by kernel_rfl) (by kernel_rfl) h (by omega)
@[go_sem] theorem zz4 (w : World) (b : Nat) (cs : Array Value) (h : (w.blk b).size = 6) (hc : cs.size = 6) (h1 : zai cs = true) (hf : w.free b = true) : (zaz 96 (.pointer (some ⟨b, 0, none⟩)) (.agg cs)).run Tryz.prog w = .ok .skip (w.setRow b cs) :=
 zax w b 96 6 _ (by kernel_rfl) h hc (by omega) hf h1
theorem znc (w : World) (b : Nat) (h : (w.blk b).size = 6) : (loadVar 96 ⟨b, 0, none⟩).run Tryz.prog w = .ok (.agg (sub (w.blk b) 0 6)) w := by
 have := zmf w b 0 (by omega)
 unfold za3 at this
 rw [Sem.run_bind] at this
 simp only [Instr.loadAt, Instr.sureAddr, Sem.run_bind, Sem.run_pure, Result.andThen_ok] at this
 cases hr : (loadVar 96 ⟨b, 0, none⟩).run Tryz.prog w with
 | ok v w' => rw [hr] at this; simp at this; rw [this.1, this.2]
 | halt x w' => rw [hr] at this; simp [Result.andThen] at this
theorem zc5 {fn : Func} {p : Tmp} (h : fn.results = #[.cell p 96]) (tmps : Array Value) (w : World) (b : Nat) (hp : tmps.getD p undef = .pointer (some ⟨b, 0, none⟩)) (h1 : (w.blk b).size = 6) :
 (results fn tmps).run Tryz.prog w = .ok (.agg (sub (w.blk b) 0 6)) w := by
 unfold results
 rw [h]
 have e1 := znc w b h1
 have hp' : tmps[p]?.getD undef = .pointer (some ⟨b, 0, none⟩) := by simpa using hp
 simp [asAddr, hp', e1]
@[go_sem] theorem ztj (w : World) (a b : Int) (k o n c : Nat) : (za0 32 #[(0, .int .i64 a), (1, .int .i64 b), (4, .slice (some ⟨k, o, none⟩) n c)]).run Tryz.prog w = .ok (.value (.agg (EfV.arr ⟨a, b, 0, 0, .mk k o n c⟩))) w := by kernel_rfl
structure RowsV (w : World) (s : Sl) (k : Nat) (l : List (Array Value)) : Prop where
 len : s.n = l.length
 cap : s.n ≤ s.c
 wid : ∀ x, x ∈ l → x.size = k
 cell : ∀ i j x, l[i]? = some x → j < k → w.cell? ⟨s.b, s.o + i * k + j, none⟩ = x[j]?
theorem RowsV.grow {w w' : World} {s : Sl} {k : Nat} {l : List (Array Value)} (h : RowsV w s k l) (g : Grow w w') : RowsV w' s k l := by
 obtain ⟨x, rfl⟩ := g
 refine ⟨h.len, h.cap, h.wid, fun i j r hr hj => ?_⟩
 have hc := h.cell i j r hr hj
 have hs : r.size = k := h.wid r (List.mem_of_getElem? hr)
 rw [Array.getElem?_eq_getElem (by omega)] at hc
 rw [zc4 w x _ _ (zbd hc).1, hc, Array.getElem?_eq_getElem (by omega)]
theorem RowsV.off {b : Nat} {w w' : World} {s : Sl} {k : Nat} {l : List (Array Value)} (h : RowsV w s k l) (ho : Off b w w') (hb : s.b ≠ b) : RowsV w' s k l := by
 refine ⟨h.len, h.cap, h.wid, fun i j x hx hj => ?_⟩
 rw [← h.cell i j x hx hj]
 simp only [World.cell?, ho.block _ hb]
theorem RowsV.one {w : World} {b k : Nat} {x : Array Value} (hf : w.free b = true) (h : w.blk b = x) (hk : x.size = k) : RowsV w (.mk b 0 1 1) k [x] := by
 refine ⟨rfl, Nat.le_refl _, fun y hy => ?_, fun i j y hy hj => ?_⟩
 · rw [List.mem_singleton.1 hy, hk]
 · have hi : i = 0 := by
    have := (List.getElem?_eq_some_iff.1 hy).1
    simpa using this
   subst hi
   have : y = x := by simpa using hy.symm
   subst this
   rw [← zaf hf h j]
   simp [Sl.b, Sl.o]
theorem RowsV.two {w : World} {b k : Nat} {x y : Array Value} (hf : w.free b = true) (h : w.blk b = x ++ y) (hx : x.size = k) (hy : y.size = k) : RowsV w (.mk b 0 2 2) k [x, y] := by
 refine ⟨rfl, Nat.le_refl _, fun z hz => ?_, fun i j z hz hj => ?_⟩
 · simp at hz; rcases hz with rfl | rfl <;> assumption
 · have hi : i < 2 := by
    have := (List.getElem?_eq_some_iff.1 hz).1
    simpa using this
   have hc := zaf hf h (i * k + j)
   simp only [Sl.b, Sl.o, Nat.zero_add]
   rw [hc]
   have : i = 0 ∨ i = 1 := by omega
   rcases this with rfl | rfl
   · have : z = x := by simpa using hz.symm
     subst this
     rw [Array.getElem?_append_left (by omega)]
     simp
   · have : z = y := by simpa using hz.symm
     subst this
     rw [Array.getElem?_append_right (by omega)]
     congr 1
     omega
theorem zkb (w : World) (b : Nat) (h : (w.blk b).size = 5) : (loadVar 32 ⟨b, 0, none⟩).run Tryz.prog w = .ok (.agg (sub (w.blk b) 0 5)) w := by
 have := zjw w b 0 (by omega)
 unfold za3 at this
 rw [Sem.run_bind] at this
 simp only [Instr.loadAt, Instr.sureAddr, Sem.run_bind, Sem.run_pure, Result.andThen_ok] at this
 cases hr : (loadVar 32 ⟨b, 0, none⟩).run Tryz.prog w with
 | ok v w' => rw [hr] at this; simp at this; rw [this.1, this.2]
 | halt x w' => rw [hr] at this; simp [Result.andThen] at this
theorem zdn {fn : Func} {p : Tmp} (h : fn.results = #[.cell p 32]) (tmps : Array Value) (w : World) (b : Nat) (hp : tmps.getD p undef = .pointer (some ⟨b, 0, none⟩)) (h1 : (w.blk b).size = 5) :
 (results fn tmps).run Tryz.prog w = .ok (.agg (sub (w.blk b) 0 5)) w := by
 unfold results
 rw [h]
 have e1 := zkb w b h1
 have hp' : tmps[p]?.getD undef = .pointer (some ⟨b, 0, none⟩) := by simpa using hp
 simp [asAddr, hp', e1]
theorem zjm (w : World) (b : Nat) (h : (w.blk b).size = 14) : (loadVar 152 ⟨b, 0, none⟩).run Tryz.prog w = .ok (.agg (sub (w.blk b) 0 14)) w := by
 have := zim w b 0 (by omega)
 unfold za3 at this
 rw [Sem.run_bind] at this
 simp only [Instr.loadAt, Instr.sureAddr, Sem.run_bind, Sem.run_pure, Result.andThen_ok] at this
 cases hr : (loadVar 152 ⟨b, 0, none⟩).run Tryz.prog w with
 | ok v w' => rw [hr] at this; simp at this; rw [this.1, this.2]
 | halt x w' => rw [hr] at this; simp [Result.andThen] at this
theorem za6 {fn : Func} {p : Tmp} (h : fn.results = #[.cell p 152]) (tmps : Array Value) (w : World) (b : Nat) (hp : tmps.getD p undef = .pointer (some ⟨b, 0, none⟩)) (h1 : (w.blk b).size = 14) :
 (results fn tmps).run Tryz.prog w = .ok (.agg (sub (w.blk b) 0 14)) w := by
 unfold results
 rw [h]
 have e1 := zjm w b h1
 have hp' : tmps[p]?.getD undef = .pointer (some ⟨b, 0, none⟩) := by simpa using hp
 simp [asAddr, hp', e1]
theorem zie (w : World) (b : Nat) (h : (w.blk b).size = 13) : (loadVar 99 ⟨b, 0, none⟩).run Tryz.prog w = .ok (.agg (sub (w.blk b) 0 13)) w := by
 have := zme w b 0 (by omega)
 unfold za3 at this
 rw [Sem.run_bind] at this
 simp only [Instr.loadAt, Instr.sureAddr, Sem.run_bind, Sem.run_pure, Result.andThen_ok] at this
 cases hr : (loadVar 99 ⟨b, 0, none⟩).run Tryz.prog w with
 | ok v w' => rw [hr] at this; simp at this; rw [this.1, this.2]
 | halt x w' => rw [hr] at this; simp [Result.andThen] at this
theorem zba {fn : Func} {p : Tmp} (h : fn.results = #[.cell p 99]) (tmps : Array Value) (w : World) (b : Nat) (hp : tmps.getD p undef = .pointer (some ⟨b, 0, none⟩)) (h1 : (w.blk b).size = 13) :
 (results fn tmps).run Tryz.prog w = .ok (.agg (sub (w.blk b) 0 13)) w := by
 unfold results
 rw [h]
 have e1 := zie w b h1
 have hp' : tmps[p]?.getD undef = .pointer (some ⟨b, 0, none⟩) := by simpa using hp
 simp [asAddr, hp', e1]
set_option maxRecDepth 100000 in
theorem zbb (w : World) (op n m who : Int) : Calls Tryz.prog 167 #[.int .i64 op, .int .i64 n, .int .i64 m, .int .i64 who] w fun e w' => e = .returned (.agg (EfV.arr ⟨op, n, m, who, .nil⟩)) ∧ Grow w w' := by
 go_enter Tryz.func167, Tryz.ntmps167
 go_wp2_with fail
 refine bodyPost_ret (zdn rfl _ _ _ rfl ?_) rfl ?_
 · go_simp
 · exact ⟨by go_simp, grI⟩
set_option maxRecDepth 100000 in
theorem zbe (w : World) (a : Int) (e : EfV) : Calls Tryz.prog 166 #[.int .i64 a, .agg e.arr] w fun r w' => r = .returned (.agg (AbV.arr ⟨a, 0, 0, 0, 0, 0, 0, false, 0, e⟩)) ∧ Grow w w' := by
 go_enter Tryz.func166, Tryz.ntmps166
 go_wp2_with fail
 refine bodyPost_ret (za6 rfl _ _ _ rfl ?_) rfl ?_
 · go_simp
 · exact ⟨by go_simp, grI⟩
set_option maxRecDepth 100000 in
theorem zci (w : World) (a : Int) (e : EfV) : Calls Tryz.prog 187 #[.int .i64 a, .agg e.arr] w fun r w' => r = .returned (.agg (AbV.arr ⟨0, 0, 0, 0, 0, 0, 0, false, a, e⟩)) ∧ Grow w w' := by
 go_enter Tryz.func187, Tryz.ntmps187
 go_wp2_with fail
 refine bodyPost_ret (za6 rfl _ _ _ rfl ?_) rfl ?_
 · go_simp
 · exact ⟨by go_simp, grI⟩
set_option maxRecDepth 100000 in
theorem zl1 (w : World) (a b : Int) : Calls Tryz.prog 165 #[.int .i64 a, .int .i64 b] w fun r w' => r = .returned (.agg (AbV.arr ⟨6, 0, 0, 0, 0, 0, 0, true, 0, ⟨15, a, b, 0, .nil⟩⟩)) ∧ Grow w w' := by
 go_enter Tryz.func165, Tryz.ntmps165
 go_wp2_with (go_at_call 167; refine (zbb _ _ _ _ _).mono ?_; rintro e' w' ⟨rfl, nx, rfl⟩)
 refine bodyPost_ret (za6 rfl _ _ _ rfl ?_) rfl ?_
 · go_simp
 · exact ⟨by go_simp, grI⟩
set_option maxRecDepth 100000 in
theorem zay (w : World) (c0 c1 c2 c3 c4 c5 tg : Int) (tap : Bool) (e : EfV) : Calls Tryz.prog 168 #[.agg (cellsOf [c0, c1, c2, c3, c4, c5]), .bool tap, .int .i64 tg, .agg e.arr] w fun r w' => r = .returned (.agg (AbV.arr ⟨1, c0, c1, c2, c3, c4, c5, tap, tg, e⟩)) ∧ Grow w w' := by
 go_enter Tryz.func168, Tryz.ntmps168
 go_wp2_with fail
 refine bodyPost_ret (za6 rfl _ _ _ rfl ?_) rfl ?_
 · go_simp
 · exact ⟨by go_simp, grI⟩
set_option maxRecDepth 100000 in
theorem z8g (w : World) (s : Sl) : Calls Tryz.prog 189 #[s.val] w fun r w' => r = .returned (.agg (EfV.arr ⟨21, 0, 0, 0, s⟩)) ∧ Grow w w' := by
 go_enter Tryz.func189, Tryz.ntmps189
 go_wp2_with fail
 refine bodyPost_ret (zdn rfl _ _ _ rfl ?_) rfl ?_
 · go_simp
 · exact ⟨by go_simp, grI⟩
set_option maxRecDepth 100000 in
theorem za9 (w : World) (g op n m : Int) : Calls Tryz.prog 188 #[.int .i64 g, .int .i64 op, .int .i64 n, .int .i64 m] w fun r w' => ∃ s, r = .returned (.agg (EfV.arr ⟨20, g, 0, 0, s⟩)) ∧ (RowsV w' s 5 [EfV.arr ⟨op, n, m, 2, .nil⟩] ∧ w.heap.size ≤ s.b) ∧ Grow w w' := by
 go_enter Tryz.func188, Tryz.ntmps188
 go_wp2_with (go_at_call 167; refine (zbb _ _ _ _ _).mono ?_; rintro e' w' ⟨rfl, nx, rfl⟩)
 refine bodyPost_ret (zdn rfl _ _ _ rfl ?_) rfl ?_
 · go_simp
 · refine ⟨.mk (w.heap.size + 1 + nx.objs.size) 0 1 1, by go_simp, ⟨RowsV.one (by go_simp) (by go_simp) (by go_simp), by simp only [Sl.b]; omega⟩, grI⟩
def zi3 (c : Nat) (n free : Int) : List Int := ([0, 0, 0, 0, 0, 0].set c n).set 5 (wrap64 (gt ([0, 0, 0, 0, 0, 0].set c n) 5 + free))
set_option maxRecDepth 100000 in
theorem za1 (w : World) (col n free : Int) (h0 : 0 ≤ col) (h1 : col < 6) : Calls Tryz.prog 152 #[.int .i64 col, .int .i64 n, .int .i64 free] w fun r w' => ∃ c0 c1 c2 c3 c4 c5, r = .returned (.agg (cellsOf [c0, c1, c2, c3, c4, c5])) ∧ [c0, c1, c2, c3, c4, c5] = zi3 col.toNat n free ∧ Grow w w' := by
 have : col = 0 ∨ col = 1 ∨ col = 2 ∨ col = 3 ∨ col = 4 ∨ col = 5 := by omega
 rcases this with rfl | rfl | rfl | rfl | rfl | rfl
 · go_enter Tryz.func152, Tryz.ntmps152
   go_wp2_with fail
   refine bodyPost_ret (zc5 rfl _ _ _ rfl ?_) rfl ?_
   · go_simp
   · exact ⟨n, 0, 0, 0, 0, wrap64 (gt [n, 0, 0, 0, 0, 0] 5 + free), by go_simp, rfl, grI⟩
 · go_enter Tryz.func152, Tryz.ntmps152
   go_wp2_with fail
   refine bodyPost_ret (zc5 rfl _ _ _ rfl ?_) rfl ?_
   · go_simp
   · exact ⟨0, n, 0, 0, 0, wrap64 (gt [0, n, 0, 0, 0, 0] 5 + free), by go_simp, rfl, grI⟩
 · go_enter Tryz.func152, Tryz.ntmps152
   go_wp2_with fail
   refine bodyPost_ret (zc5 rfl _ _ _ rfl ?_) rfl ?_
   · go_simp
   · exact ⟨0, 0, n, 0, 0, wrap64 (gt [0, 0, n, 0, 0, 0] 5 + free), by go_simp, rfl, grI⟩
 · go_enter Tryz.func152, Tryz.ntmps152
   go_wp2_with fail
   refine bodyPost_ret (zc5 rfl _ _ _ rfl ?_) rfl ?_
   · go_simp
   · exact ⟨0, 0, 0, n, 0, wrap64 (gt [0, 0, 0, n, 0, 0] 5 + free), by go_simp, rfl, grI⟩
 · go_enter Tryz.func152, Tryz.ntmps152
   go_wp2_with fail
   refine bodyPost_ret (zc5 rfl _ _ _ rfl ?_) rfl ?_
   · go_simp
   · exact ⟨0, 0, 0, 0, n, wrap64 (gt [0, 0, 0, 0, n, 0] 5 + free), by go_simp, rfl, grI⟩
 · go_enter Tryz.func152, Tryz.ntmps152
   go_wp2_with fail
   refine bodyPost_ret (zc5 rfl _ _ _ rfl ?_) rfl ?_
   · go_simp
   · exact ⟨0, 0, 0, 0, 0, wrap64 (gt [0, 0, 0, 0, 0, n] 5 + free), by go_simp, rfl, grI⟩
end Go.Proofs.YthfalocligkamaaGreatDoor
namespace Go.Proofs.YthfalocligkamaaGreatDoor
open Go Go.RowKit
structure AbN where
 wh : Int
 grp : Int := 0
 op : Int := 0
 n : Int := 0
 m : Int := 0
structure CardN where
 kind : Int
 pw : Int := 0
 tf : Int := 0
 says : Int := 0
 abs : List AbN := []
def AbOk (w : World) (n : Nat) (a : AbV) (d : AbN) : Prop :=
 a.wh = d.wh ∧ (d.wh = 5 → a.ef.n = d.grp ∧ n ≤ a.ef.subs.b ∧ ∃ who s, RowsV w a.ef.subs 5 [EfV.arr ⟨d.op, d.n, d.m, who, s⟩])
theorem AbOk.grow {w w' : World} {n : Nat} {a : AbV} {d : AbN} (h : AbOk w n a d) (g : Grow w w') : AbOk w' n a d :=
 ⟨h.1, fun h5 => by obtain ⟨h1, h0, who, s, h2⟩ := h.2 h5; exact ⟨h1, h0, who, s, h2.grow g⟩⟩
theorem AbOk.off {b : Nat} {w w' : World} {n : Nat} {a : AbV} {d : AbN} (h : AbOk w n a d) (ho : Off b w w') (hb : b < n) : AbOk w' n a d :=
 ⟨h.1, fun h5 => by obtain ⟨h1, h0, who, s, h2⟩ := h.2 h5; exact ⟨h1, h0, who, s, h2.off ho (by omega)⟩⟩
theorem AbOk.low {w : World} {m n : Nat} {a : AbV} {d : AbN} (h : AbOk w n a d) (hm : m ≤ n) : AbOk w m a d :=
 ⟨h.1, fun h5 => by obtain ⟨h1, h0, h2⟩ := h.2 h5; exact ⟨h1, by omega, h2⟩⟩
theorem AbOk.of {w : World} {n : Nat} {a : AbV} {d : AbN} (h : a.wh = d.wh) (h5 : d.wh ≠ 5) : AbOk w n a d := ⟨h, fun h' => absurd h' h5⟩
theorem AbOk.stat {w : World} {n : Nat} {a : AbV} {d : AbN} {who : Int} {s : Sl} (h : a.wh = d.wh) (hg : a.ef.n = d.grp) (hn : n ≤ a.ef.subs.b) (R : RowsV w a.ef.subs 5 [EfV.arr ⟨d.op, d.n, d.m, who, s⟩]) : AbOk w n a d := ⟨h, fun _ => ⟨hg, hn, who, s, R⟩⟩
inductive AbsOk (w : World) (n : Nat) : List AbV → List AbN → Prop
 | nil : AbsOk w n [] []
 | cons {a : AbV} {d : AbN} {l : List AbV} {m : List AbN} : AbOk w n a d → AbsOk w n l m → AbsOk w n (a :: l) (d :: m)
theorem AbsOk.grow {w w' : World} {n : Nat} {l : List AbV} {m : List AbN} (h : AbsOk w n l m) (g : Grow w w') : AbsOk w' n l m := by
 induction h with
 | nil => exact .nil
 | cons h _ ih => exact .cons (h.grow g) ih
theorem AbsOk.off {b : Nat} {w w' : World} {n : Nat} {l : List AbV} {m : List AbN} (h : AbsOk w n l m) (ho : Off b w w') (hb : b < n) : AbsOk w' n l m := by
 induction h with
 | nil => exact .nil
 | cons h _ ih => exact .cons (h.off ho hb) ih
theorem AbsOk.low {w : World} {k n : Nat} {l : List AbV} {m : List AbN} (h : AbsOk w n l m) (hm : k ≤ n) : AbsOk w k l m := by
 induction h with
 | nil => exact .nil
 | cons h _ ih => exact .cons (h.low hm) ih
structure CardOk (w : World) (n : Nat) (c : CdV) (d : CardN) : Prop where
 kind : c.kind = d.kind
 pw : c.pw = d.pw
 tf : c.tf = d.tf
 says : c.says = d.says
 abs : ∃ l : List AbV, RowsV w c.abs 14 (l.map AbV.arr) ∧ (l = [] ∨ n ≤ c.abs.b) ∧ AbsOk w n l d.abs
theorem CardOk.grow {w w' : World} {n : Nat} {c : CdV} {d : CardN} (h : CardOk w n c d) (g : Grow w w') : CardOk w' n c d :=
 ⟨h.kind, h.pw, h.tf, h.says, by obtain ⟨l, h1, h0, h2⟩ := h.abs; exact ⟨l, h1.grow g, h0, h2.grow g⟩⟩
theorem CardOk.off {b : Nat} {w w' : World} {n : Nat} {c : CdV} {d : CardN} (h : CardOk w n c d) (ho : Off b w w') (hb : b < n) : CardOk w' n c d :=
 ⟨h.kind, h.pw, h.tf, h.says, by
  obtain ⟨l, h1, h0, h2⟩ := h.abs
  refine ⟨l, ?_, h0, h2.off ho hb⟩
  rcases h0 with rfl | h0
  · exact ⟨h1.len, h1.cap, h1.wid, fun i j x hx => by simp at hx⟩
  · exact h1.off ho (by omega)⟩
theorem CardOk.low {w : World} {m n : Nat} {c : CdV} {d : CardN} (h : CardOk w n c d) (hm : m ≤ n) : CardOk w m c d :=
 ⟨h.kind, h.pw, h.tf, h.says, by
  obtain ⟨l, h1, h0, h2⟩ := h.abs
  exact ⟨l, h1, h0.imp id (Nat.le_trans hm), h2.low hm⟩⟩
theorem RowsV.nil (w : World) (k : Nat) : RowsV w .nil k [] := ⟨rfl, Nat.le_refl _, fun x hx => by simp at hx, fun i j x hx => by simp at hx⟩
def ycv (c k : Nat) : AbN :=
 if k = 0 then
  if c = 0 then ⟨5, 1, 10, 0, 2⟩ else if c = 1 then ⟨5, 1, 23, 1, 0⟩ else if c = 2 then ⟨5, 2, 10, -1, 0⟩ else if c = 3 then ⟨5, 1, 10, 1, 0⟩ else ⟨5, 1, 10, 1, 1⟩
 else if k = 1 then ⟨4, 0, 0, 0, 0⟩
 else if k = 2 then ⟨1, 0, 0, 0, 0⟩
 else if c = 0 then ⟨5, 0, 25, 1, 0⟩ else if c = 1 then ⟨1, 0, 0, 0, 0⟩ else if c = 2 then ⟨5, 2, 24, 1, 1⟩ else if c = 3 then ⟨3, 0, 0, 0, 0⟩ else ⟨2, 0, 0, 0, 0⟩
def zyp (n : Nat) : CardN := if n < 5 then ⟨0, 0, 0, 0, [⟨6, 0, 0, 0, 0⟩]⟩ else ⟨0, 0, 0, 0, [⟨2, 0, 0, 0, 0⟩, ⟨6, 0, 0, 0, 0⟩]⟩
def zv1 : List CardN := List.replicate 6 ⟨2, 0, 0, 0, [⟨0, 0, 0, 0, 0⟩]⟩
def z7o : List CardN := [⟨2, 0, 0, 0, [⟨0, 0, 0, 0, 0⟩]⟩, ⟨3, 0, 0, 0, [⟨1, 0, 0, 0, 0⟩]⟩, ⟨1, 0, 0, 0, [⟨1, 0, 0, 0, 0⟩]⟩, ⟨2, 0, 0, 0, [⟨0, 0, 0, 0, 0⟩]⟩, ⟨2, 0, 0, 0, [⟨0, 0, 0, 0, 0⟩]⟩, ⟨1, 0, 0, 0, [⟨3, 0, 0, 0, 0⟩]⟩]
def zq9 (i : Nat) : CardN := if i = 8 then ⟨1, 1, 1, 0, [⟨1, 0, 0, 0, 0⟩, ⟨6, 0, 0, 0, 0⟩]⟩ else if i = 11 then ⟨1, 2, 3, 5, [⟨3, 0, 0, 0, 0⟩]⟩ else (zv1 ++ z7o).getD i ⟨0, 0, 0, 0, []⟩
def z4w (i : Nat) : CardN :=
 if ((i : Int) % 5 == 0) = true then ⟨1, (i : Int) / 5 / 2 + 1, ((i : Int) / 5 + 1) / 2 + 1, wrap64 (2 ^ (i / 5)), [⟨2, 0, 0, 0, 0⟩]⟩
 else if ((i : Int) % 5 == 1) = true then ⟨1, (i : Int) / 5 / 2 + 1, ((i : Int) / 5 + 1) / 2 + 1, wrap64 (2 ^ (i / 5)), if ((i : Int) / 5 % 2 == 1) = true then [⟨2, 0, 0, 0, 0⟩] else []⟩
 else if ((i : Int) % 5 == 2) = true then ⟨1, (i : Int) / 5 / 2 + 1, ((i : Int) / 5 + 1) / 2 + 1, wrap64 (2 ^ (i / 5)), [⟨3, 0, 0, 0, 0⟩]⟩
 else if ((i : Int) % 5 == 3) = true then ⟨1, (i : Int) / 5 / 2 + 1 + 1, ((i : Int) / 5 + 1) / 2 + 1, wrap64 (2 ^ (i / 5)), [⟨1, 0, 0, 0, 0⟩]⟩
 else ⟨1, (i : Int) / 5 / 2 + 1, ((i : Int) / 5 + 1) / 2 + 1 + 1, wrap64 (2 ^ (i / 5)), [⟨1, 0, 0, 0, 0⟩]⟩
def z58 (k : Nat) : CardN := ⟨1, (k : Int) / 2 + 1, (k : Int) / 2 + 1, (k : Int) % 2, []⟩
def zcs (n : Nat) : CardN :=
 if n < 10 then zyp n else if n < 50 then z4w (n - 10) else if n < 80 then ⟨2, 0, 0, 0, [⟨0, 0, 0, 0, 0⟩]⟩
 else if n < 100 then ⟨3, 0, 0, 0, [ycv ((n - 80) % 5) ((n - 80) / 5)]⟩ else if n < 112 then zq9 (n - 100) else z58 (n - 112)
def magicL : List (List Int) :=
 [[0, 2, 4, 0, 0], [4, 9, 0, 0, 2], [1, 10, -2, -2, 2], [3, 1, 2, 0, 2], [1, 10, 3, 3, 2],
 [1, 6, 0, 0, 2], [0, 4, 2, 0, 0], [2, 19, 1, 0, 2], [1, 1, 4, 0, 2], [1, 11, 2, 0, 2],
 [0, 20, 1, 0, 0, 10, 1, 1, 2], [5, 7, 0, 0, 2], [2, 3, 3, 0, 2], [1, 10, 3, 0, 2], [1, 23, 64, 0, 2],
 [5, 8, 0, 0, 2], [0, 17, 3, 0, 0], [0, 21, 0, 0, 0, 3, 2, 0, 1, 2, 2, 0, 0], [0, 20, 0, 0, 0, 1, 2, 0, 2], [0, 14, 2, 116, 0],
 [0, 21, 0, 0, 0, 2, 2, 0, 0, 4, 1, 0, 0], [1, 12, 0, 0, 2], [1, 6, 0, 0, 2], [0, 1, 3, 0, 4], [0, 15, 3, 4, 0],
 [0, 22, 0, 10, 0, 2, 8, 0, 0, 4, 1, 0, 0], [0, 21, 0, 0, 0, 4, 3, 0, 0, 19, 1, 0, 0], [0, 5, 4, 0, 4], [3, 21, 0, 0, 0, 1, 2, 0, 2, 4, 1, 0, 0], [0, 20, 1, 0, 0, 11, 1, 0, 2]]
def relicL : List (List Int) :=
 [[5, -1, 0, 0, 20, 1, 0, 0, 10, 0, 2, 2], [5, -1, 0, 0, 20, 1, 0, 0, 23, 1, 0, 2], [5, -1, 0, 0, 20, 2, 0, 0, 10, -1, 0, 2], [5, -1, 0, 0, 20, 1, 0, 0, 10, 1, 0, 2], [5, -1, 0, 0, 20, 1, 0, 0, 10, 1, 1, 2],
 [4, -1, 0, 0, 2, 1, 0, 0], [4, -1, 0, 0, 17, 1, 0, 0], [4, -1, 0, 0, 3, 1, 0, 4], [4, -1, 0, 0, 1, 1, 0, 1], [4, -1, 0, 0, 15, 1, 4, 0],
 [1, 5, 1, 1, 10, 0, 1, 2], [1, 5, 1, 1, 12, 0, 0, 2], [1, 5, 1, 0, 3, 1, 0, 1], [1, 5, 1, 3, 1, 1, 0, 2], [1, 5, 1, 1, 13, 0, 0, 2],
 [5, -1, 0, 0, 20, 0, 0, 0, 25, 1, 0, 2], [1, 1, 0, 0, 13, 0, 0, 3], [5, -1, 0, 0, 20, 2, 0, 0, 24, 1, 1, 2], [3, -1, 0, 0, 1, 3, 0, 4], [2, -1, 0, 0, 14, 1, 119, 0]]
def specialL : List (List Int) :=
 [[2, 1, 0, 0, 0, 0, 0, -1, 0, 0, 18, 0, 0, 0], [2, 2, 0, 0, 0, 0, 0, -1, 0, 0, 19, 2, 0, 1], [2, 1, 0, 0, 0, 0, 0, -1, 0, 0, 16, 3, 0, 1], [2, 1, 1, 0, 0, 0, 0, -1, 0, 0, 17, 2, 0, 1],
 [2, 2, 0, 0, 0, 0, 0, -1, 0, 0, 5, 3, 0, 4], [2, 3, 1, 0, 0, 0, 0, -1, 0, 4, 9, 0, 0, 2], [2, 2, 0, 0, 0, 0, 0, -1, 0, 0, 20, 0, 0, 0, 7, 0, 0, 2], [3, 2, 0, 0, 0, 0, 1, -1, 0, 0, 15, 1, 5, 0],
 [1, 2, 0, 1, 1, 0, 1, 5, 0, 0, 13, 0, 0, 3], [2, 3, 0, 0, 0, 0, 0, -1, 0, 0, 14, 2, 112, 0], [2, 4, 0, 0, 0, 0, 0, -1, 0, 0, 20, 0, 0, 0, 6, 0, 0, 2], [1, 3, 1, 2, 3, 5, 3, -1, 0, 0, 4, 1, 0, 0]]
structure EfF where
 op : Int
 n : Int
 m : Int
 who : Int
 subs : List (List Int)
structure AbF where
 wh : Int
 cost : List Int
 tap : Bool
 tg : Int
 ef : EfF
structure CardF where
 kind : Int
 col : Int
 fast : Bool
 cost : List Int
 pw : Int
 tf : Int
 says : Int
 abs : List AbF
def z88 (r : List Int) : Array Value := EfV.arr ⟨gt r 0, gt r 1, gt r 2, gt r 3, .nil⟩
structure EfIs (w : World) (n : Nat) (e : EfV) (f : EfF) : Prop where
 op : e.op = f.op
 amt : e.n = f.n
 mor : e.m = f.m
 who : e.who = f.who
 subs : RowsV w e.subs 5 (f.subs.map z88)
 low : ∀ b, e.subs.owns b → n ≤ b
theorem EfIs.grow {w w' : World} {n : Nat} {e : EfV} {f : EfF} (h : EfIs w n e f) (g : Grow w w') : EfIs w' n e f := ⟨h.op, h.amt, h.mor, h.who, h.subs.grow g, h.low⟩
theorem EfIs.less {w : World} {m n : Nat} {e : EfV} {f : EfF} (h : EfIs w n e f) (hm : m ≤ n) : EfIs w m e f := ⟨h.op, h.amt, h.mor, h.who, h.subs, fun b hb => Nat.le_trans hm (h.low b hb)⟩
def zhn (l : List Int) (k : Nat) : List (List Int) := (List.range k).map fun j => [gt l (4 + 4 * j), gt l (5 + 4 * j), gt l (6 + 4 * j), gt l (7 + 4 * j)]
def effL (l : List Int) : EfF := ⟨gt l 0, gt l 1, gt l 2, gt l 3, zhn l (l.length / 4 - 1)⟩
theorem zp6 (l : List Int) (k : Nat) : zhn l (k + 1) = zhn l k ++ [[gt l (4 + 4 * k), gt l (5 + 4 * k), gt l (6 + 4 * k), gt l (7 + 4 * k)]] := by
 unfold zhn
 rw [List.range_succ, List.map_append]; rfl
structure AbIs (w : World) (n : Nat) (a : AbV) (f : AbF) : Prop where
 wh : a.wh = f.wh
 cost : [a.c0, a.c1, a.c2, a.c3, a.c4, a.c5] = f.cost
 tap : a.tap = f.tap
 tg : a.tg = f.tg
 ef : EfIs w n a.ef f.ef
theorem AbIs.grow {w w' : World} {n : Nat} {a : AbV} {f : AbF} (h : AbIs w n a f) (g : Grow w w') : AbIs w' n a f := ⟨h.wh, h.cost, h.tap, h.tg, h.ef.grow g⟩
theorem AbIs.less {w : World} {m n : Nat} {a : AbV} {f : AbF} (h : AbIs w n a f) (hm : m ≤ n) : AbIs w m a f := ⟨h.wh, h.cost, h.tap, h.tg, h.ef.less hm⟩
def noCost : List Int := [0, 0, 0, 0, 0, 0]
def abL (l : List Int) : AbF := ⟨gt l 0, if 0 ≤ gt l 1 then noCost.set (gt l 1).toNat 1 else noCost, gt l 2 == 1, gt l 3, effL (l.drop 4)⟩
theorem Sl.owns_b {s : Sl} (h : 0 < s.n) : s.owns s.b := by cases s with
 | nil => simp [Sl.n] at h
 | mk => rfl
theorem EfIs.off {b n : Nat} {w w' : World} {e : EfV} {f : EfF} (h : EfIs w n e f) (ho : Off b w w') (hb : b < n) : EfIs w' n e f := by
 refine ⟨h.op, h.amt, h.mor, h.who, ?_, h.low⟩
 by_cases hs : 0 < e.subs.n
 · exact h.subs.off ho (fun e2 => by have := h.low _ (Sl.owns_b hs); omega)
 · have hl := h.subs.len
   have h0 : f.subs.map z88 = [] := List.eq_nil_of_length_eq_zero (by omega)
   rw [h0]
   exact ⟨by rw [hl, h0], h.subs.cap, fun x hx => by simp at hx, fun i j x hx => by simp at hx⟩
inductive AbsIs (w : World) (n : Nat) : List AbV → List AbF → Prop
 | nil : AbsIs w n [] []
 | cons {a : AbV} {d : AbF} {l : List AbV} {m : List AbF} : AbIs w n a d → AbsIs w n l m → AbsIs w n (a :: l) (d :: m)
structure CardIs (w : World) (n : Nat) (c : CdV) (d : CardF) : Prop where
 kind : c.kind = d.kind
 col : c.col = d.col
 fast : c.fast = d.fast
 cost : [c.c0, c.c1, c.c2, c.c3, c.c4, c.c5] = d.cost
 pw : c.pw = d.pw
 tf : c.tf = d.tf
 says : c.says = d.says
 abs : ∃ l : List AbV, RowsV w c.abs 14 (l.map AbV.arr) ∧ (l = [] ∨ n ≤ c.abs.b) ∧ AbsIs w n l d.abs
def zlp (n c : Int) : AbF := ⟨6, noCost, true, 0, ⟨15, n, c, 0, []⟩⟩
def za8 (c : Nat) (p : Int) (k : Int) : List Int := (noCost.set c p).set 5 k
def zfi (e : EfF) : AbF := ⟨2, noCost, false, 0, e⟩
def zch : List Int := [1, 1, 2, 2, 3, 3, 4, 4]
def zb9 : List Int := [1, 2, 2, 3, 3, 4, 4, 5]
def zc2 : List Int := [1, 2, 4, 8, 16, 32, 64, 128]
def zbk (c k : Nat) : CardF :=
 ⟨1, c, false, za8 c (if 3 < k then 2 else 1) k, gt zch k + (if c = 3 then 1 else 0), gt zb9 k + (if c = 4 then 1 else 0), gt zc2 k,
  match c with
  | 0 => [zfi ⟨2, (k : Int) + 1, 0, 0, []⟩]
  | 1 => if k % 2 = 0 then [] else [zfi ⟨4, 1, 0, 0, []⟩]
  | 2 => [⟨3, noCost, false, 0, ⟨3, gt zch k, 0, 1, []⟩⟩]
  | 3 => [⟨1, noCost.set 3 1, true, 3, ⟨1, 1, 0, 2, []⟩⟩]
  | _ => [⟨1, noCost.set 4 1, false, 0, ⟨10, 1, 1, 3, []⟩⟩]⟩
def zfb (c k : Nat) : CardF := let r := magicL.getD (5 * k + c) []; ⟨2, c, k % 2 == 0, za8 c 1 k, 0, 0, 0, [⟨0, noCost, false, gt r 0, effL (r.drop 1)⟩]⟩
def zfa (c k : Nat) : CardF := ⟨3, c, false, za8 c 1 ((k : Int) + 1), 0, 0, 0, [abL (relicL.getD (5 * k + c) [])]⟩
def zdw (i : Nat) : CardF := let r := specialL.getD i []; ⟨gt r 0, 5, gt r 2 == 1, noCost.set 5 (gt r 1), gt r 3, gt r 4, gt r 5, abL (r.drop 6) :: (if i = 8 then [zlp 2 5] else [])⟩
def zaq (n : Nat) : CardF :=
 if n < 5 then ⟨0, n, false, noCost, 0, 0, 0, [zlp 1 n]⟩
 else if n < 10 then ⟨0, 5, false, noCost, 0, 0, 0, [zfi ⟨3, (n : Int) - 4, 0, 0, []⟩, zlp (gt [1, 1, 2, 2, 3] (n - 5)) 5]⟩
 else if n < 50 then zbk ((n - 10) % 5) ((n - 10) / 5)
 else if n < 80 then zfb ((n - 50) % 5) ((n - 50) / 5)
 else if n < 100 then zfa ((n - 80) % 5) ((n - 80) / 5)
 else if n < 112 then zdw (n - 100)
 else ⟨1, 5, false, noCost, gt zch (n - 112), gt zch (n - 112), (n : Int) % 2, []⟩
def AbF.n (a : AbF) : AbN := if a.wh = 5 then ⟨5, a.ef.n, gt (a.ef.subs.getD 0 []) 0, gt (a.ef.subs.getD 0 []) 1, gt (a.ef.subs.getD 0 []) 2⟩ else ⟨a.wh, 0, 0, 0, 0⟩
def z4u (d : CardF) (e : CardN) : Bool :=
 d.kind == e.kind && d.pw == e.pw && d.tf == e.tf && d.says == e.says && decide (d.abs.length = e.abs.length) &&
  (List.range d.abs.length).all fun i => let a := d.abs.getD i ⟨0, [], false, 0, ⟨0, 0, 0, 0, []⟩⟩; let b := e.abs.getD i ⟨0, 0, 0, 0, 0⟩
    a.wh == b.wh && (a.wh != 5 || (decide (a.ef.subs.length = 1) && a.ef.n == b.grp && gt (a.ef.subs.getD 0 []) 0 == b.op && gt (a.ef.subs.getD 0 []) 1 == b.n && gt (a.ef.subs.getD 0 []) 2 == b.m))
theorem zvd : ∀ n, n < 120 → z4u (zaq n) (zcs n) = true := by decide +kernel
def zvc (a : AbF) (b : AbN) : Bool := a.wh == b.wh && (a.wh != 5 || (decide (a.ef.subs.length = 1) && a.ef.n == b.grp && gt (a.ef.subs.getD 0 []) 0 == b.op && gt (a.ef.subs.getD 0 []) 1 == b.n && gt (a.ef.subs.getD 0 []) 2 == b.m))
theorem AbIs.ok {w : World} {n : Nat} {a : AbV} {d : AbF} {e : AbN} (h : AbIs w n a d) (ha : zvc d e = true) : AbOk w n a e := by
 unfold zvc at ha
 simp only [Bool.and_eq_true, beq_iff_eq, Bool.or_eq_true, bne_iff_ne, ne_eq, decide_eq_true_eq] at ha
 obtain ⟨h1, h2⟩ := ha
 by_cases h5 : d.wh = 5
 · rcases h2 with h2 | ⟨⟨⟨⟨g1, g2⟩, g3⟩, g4⟩, g5⟩
   · exact absurd h5 h2
   · obtain ⟨r, hr⟩ := List.length_eq_one_iff.1 g1
     rw [hr] at g3 g4 g5
     have hs := h.ef.subs
     rw [hr] at hs
     have hb : 0 < a.ef.subs.n := by rw [hs.len]; simp
     refine AbOk.stat (who := gt r 3) (s := .nil) (h.wh.trans h1) (h.ef.amt.trans g2) (h.ef.low _ (Sl.owns_b hb)) ?_
     rw [← g3, ← g4, ← g5]
     exact hs
 · exact AbOk.of (h.wh.trans h1) (by rw [← h1]; exact h5)
theorem AbsIs.len {w : World} {n : Nat} {l : List AbV} {m : List AbF} (h : AbsIs w n l m) : l.length = m.length := by
 induction h with
 | nil => rfl
 | cons _ _ ih => simp [ih]
theorem AbsIs.ok {w : World} {n : Nat} {l : List AbV} {m : List AbF} (h : AbsIs w n l m) : ∀ e : List AbN, m.length = e.length → (∀ i, i < m.length → zvc (m.getD i ⟨0, [], false, 0, ⟨0, 0, 0, 0, []⟩⟩) (e.getD i ⟨0, 0, 0, 0, 0⟩) = true) → AbsOk w n l e := by
 induction h with
 | nil => intro e he _; cases e with | nil => exact .nil | cons => simp at he
 | cons ha _ ih =>
   intro e he hag
   cases e with
   | nil => simp at he
   | cons b e =>
     refine .cons (ha.ok (hag 0 (by simp))) (ih e (by simpa using he) (fun i hi => ?_))
     exact hag (i + 1) (by simpa using hi)
theorem CardIs.ok {w : World} {n : Nat} {c : CdV} {k : Nat} (hk : k < 120) (h : CardIs w n c (zaq k)) : CardOk w n c (zcs k) := by
 have ha := zvd k hk
 unfold z4u at ha
 simp only [Bool.and_eq_true, beq_iff_eq, decide_eq_true_eq] at ha
 obtain ⟨⟨⟨⟨⟨h1, h2⟩, h3⟩, h4⟩, h5⟩, h6⟩ := ha
 obtain ⟨l, l1, l2, l3⟩ := h.abs
 refine ⟨h.kind.trans h1, h.pw.trans h2, h.tf.trans h3, h.says.trans h4, l, l1, l2, l3.ok _ h5 (fun i hi => ?_)⟩
 exact List.all_eq_true.1 h6 i (List.mem_range.2 hi)
def zca (c k : Nat) : AbF := abL (relicL.getD (5 * k + c) [])
def zbl (c k : Nat) : AbF := ⟨0, noCost, false, gt (magicL.getD (5 * k + c) []) 0, effL ((magicL.getD (5 * k + c) []).drop 1)⟩
def zdr (i : Nat) : CardF := let r := specialL.getD i []; ⟨gt r 0, 5, gt r 2 == 1, noCost.set 5 (gt r 1), 0, 0, 0, [abL (r.drop 6)]⟩
def zf9 : List CardF := [zdr 0, zdr 1, zdr 2, zdr 3, zdr 4, zdr 5]
def zka : List CardF := [zdr 6, zdr 7, zdr 8, zdr 9, zdr 10, zdr 11]
theorem EfIs.plain (w : World) (n : Nat) (o a b c : Int) : EfIs w n ⟨o, a, b, c, .nil⟩ ⟨o, a, b, c, []⟩ := ⟨rfl, rfl, rfl, rfl, RowsV.nil _ _, fun _ h => h.elim⟩
theorem AbIs.off {b n : Nat} {w w' : World} {a : AbV} {f : AbF} (h : AbIs w n a f) (ho : Off b w w') (hb : b < n) : AbIs w' n a f := ⟨h.wh, h.cost, h.tap, h.tg, h.ef.off ho hb⟩
theorem AbsIs.grow {w w' : World} {n : Nat} {l : List AbV} {m : List AbF} (h : AbsIs w n l m) (g : Grow w w') : AbsIs w' n l m := by
 induction h with
 | nil => exact .nil
 | cons h _ ih => exact .cons (h.grow g) ih
theorem AbsIs.off {b : Nat} {w w' : World} {n : Nat} {l : List AbV} {m : List AbF} (h : AbsIs w n l m) (ho : Off b w w') (hb : b < n) : AbsIs w' n l m := by
 induction h with
 | nil => exact .nil
 | cons h _ ih => exact .cons (h.off ho hb) ih
theorem AbsIs.less {w : World} {k n : Nat} {l : List AbV} {m : List AbF} (h : AbsIs w n l m) (hm : k ≤ n) : AbsIs w k l m := by
 induction h with
 | nil => exact .nil
 | cons h _ ih => exact .cons (h.less hm) ih
theorem AbsIs.append {w : World} {n : Nat} {l l' : List AbV} {m m' : List AbF} (h : AbsIs w n l m) (h' : AbsIs w n l' m') : AbsIs w n (l ++ l') (m ++ m') := by
 induction h with
 | nil => exact h'
 | cons h _ ih => exact .cons h ih
theorem CardIs.grow {w w' : World} {n : Nat} {c : CdV} {d : CardF} (h : CardIs w n c d) (g : Grow w w') : CardIs w' n c d :=
 ⟨h.kind, h.col, h.fast, h.cost, h.pw, h.tf, h.says, by obtain ⟨l, h1, h0, h2⟩ := h.abs; exact ⟨l, h1.grow g, h0, h2.grow g⟩⟩
theorem CardIs.off {b : Nat} {w w' : World} {n : Nat} {c : CdV} {d : CardF} (h : CardIs w n c d) (ho : Off b w w') (hb : b < n) : CardIs w' n c d :=
 ⟨h.kind, h.col, h.fast, h.cost, h.pw, h.tf, h.says, by
  obtain ⟨l, h1, h0, h2⟩ := h.abs
  refine ⟨l, ?_, h0, h2.off ho hb⟩
  rcases h0 with rfl | h0
  · exact ⟨h1.len, h1.cap, h1.wid, fun i j x hx => by simp at hx⟩
  · exact h1.off ho (by omega)⟩
theorem CardIs.low {w : World} {m n : Nat} {c : CdV} {d : CardF} (h : CardIs w n c d) (hm : m ≤ n) : CardIs w m c d :=
 ⟨h.kind, h.col, h.fast, h.cost, h.pw, h.tf, h.says, by
  obtain ⟨l, h1, h0, h2⟩ := h.abs
  exact ⟨l, h1, h0.imp id (Nat.le_trans hm), h2.less hm⟩⟩
theorem CardIs.to {b : Nat} {w w1 w2 w3 : World} {m n : Nat} {c : CdV} {d : CardF} (h : CardIs w n c d) (g : Grow w w1) (ho : Off b w1 w2) (hb : b < n) (hm : m ≤ n) (g3 : Grow w2 w3) : CardIs w3 m c d :=
 (((h.grow g).off ho hb).low hm).grow g3
theorem CardIs.tune {w : World} {n : Nat} {c : CdV} {d : CardF} (h : CardIs w n c d) (p t s : Int) : CardIs w n { c with pw := p, tf := t, says := s } { d with pw := p, tf := t, says := s } := ⟨h.kind, h.col, h.fast, h.cost, rfl, rfl, rfl, h.abs⟩
end Go.Proofs.YthfalocligkamaaGreatDoor
namespace Go.Proofs.YthfalocligkamaaGreatDoor
open Go Go.RowKit
@[go_sem] theorem zux (w : World) (a : Int) (k o n c : Nat) : (za0 99 #[(1, .int .i64 a), (7, .slice (some ⟨k, o, none⟩) n c)]).run Tryz.prog w = .ok (.value (.agg (CdV.arr ⟨0, a, false, 0, 0, 0, 0, 0, 0, 0, 0, 0, .mk k o n c⟩))) w := by kernel_rfl
set_option maxRecDepth 100000 in
theorem zyr (w : World) (n : Nat) (h : n < 5) : Calls Tryz.prog 150 #[.int .i64 (n : Int)] w fun r w' => ∃ c : CdV, r = .returned (.agg c.arr) ∧ CardIs w' w.heap.size c (zaq n) ∧ Grow w w' := by
 have h' : (n : Int) < 5 := by omega
 have HC : Hid (zaq n = ⟨0, n, false, noCost, 0, 0, 0, [zlp 1 n]⟩) := by rw [Hid, zaq, if_pos h]
 go_enter Tryz.func150, Tryz.ntmps150
 go_wp2_with (go_at_call 165; refine (zl1 _ _ _).mono ?_; rintro e' w' ⟨rfl, nx, rfl⟩)
 refine bodyPost_ret (zba rfl _ _ _ rfl ?_) rfl ?_
 · go_simp
 · refine ⟨⟨0, n, false, 0, 0, 0, 0, 0, 0, 0, 0, 0, .mk (w.heap.size + 1 + nx.objs.size) 0 1 1⟩, by go_simp, ?_, grI⟩
   rw [HC.out]
   exact ⟨rfl, rfl, rfl, rfl, rfl, rfl, rfl, [_], RowsV.one (x := AbV.arr _) (by go_simp) (by go_simp; rfl) (by go_simp), .inr (by simp only [Sl.b]; omega), .cons ⟨rfl, rfl, rfl, rfl, EfIs.plain _ _ _ _ _ _⟩ .nil⟩
theorem yho : ∀ m : Nat, m < 5 → (1 : Int) + (m : Int) / 2 = gt [1, 1, 2, 2, 3] m := by decide
set_option maxRecDepth 100000 in
theorem zyq (w : World) (m : Nat) (h : m < 5) : Calls Tryz.prog 150 #[.int .i64 ((m : Int) + 5)] w fun r w' => ∃ c : CdV, r = .returned (.agg c.arr) ∧ CardIs w' w.heap.size c (zaq (m + 5)) ∧ Grow w w' := by
 have HC : Hid (zaq (m + 5) = ⟨0, 5, false, noCost, 0, 0, 0, [zfi ⟨3, 1 + (m : Int), 0, 0, []⟩, zlp (1 + (m : Int) / 2) 5]⟩) := by
  rw [Hid, zaq, if_neg (by omega), if_pos (by omega), show m + 5 - 5 = m by omega, show ((m + 5 : Nat) : Int) - 4 = 1 + m by omega, yho m h]
 go_enter Tryz.func150, Tryz.ntmps150
 go_wp2_with (first | (go_at_call 165; refine (zl1 _ _ _).mono ?_; rintro e' w' ⟨rfl, nx, rfl⟩) | (go_at_call 167; refine (zbb _ _ _ _ _).mono ?_; rintro e' w' ⟨rfl, nx, rfl⟩) | (go_at_call 166; refine (zbe _ _ _).mono ?_; rintro e' w' ⟨rfl, nx, rfl⟩))
 rename_i n1 n2
 refine bodyPost_ret (zba rfl _ _ _ rfl ?_) rfl ?_
 · go_simp
 · refine ⟨⟨0, 5, false, 0, 0, 0, 0, 0, 0, 0, 0, 0, .mk (w.heap.size + 1 + ((n1.and n2).and nx).objs.size) 0 2 2⟩, by go_simp, ?_, grI⟩
   rw [HC.out]
   exact ⟨rfl, rfl, rfl, rfl, rfl, rfl, rfl, [_, _], RowsV.two (x := AbV.arr _) (y := AbV.arr _) (by go_simp) (by go_simp; rfl) (by go_simp) (by go_simp), .inr (by simp only [Sl.b]; omega), .cons ⟨rfl, rfl, rfl, rfl, EfIs.plain _ _ _ _ _ _⟩ (.cons ⟨rfl, rfl, rfl, rfl, EfIs.plain _ _ _ _ _ _⟩ .nil)⟩
theorem zt3 (w : World) (n : Nat) (hn : n < 10) : Calls Tryz.prog 150 #[.int .i64 (n : Int)] w fun r w' => ∃ c : CdV, r = .returned (.agg c.arr) ∧ CardIs w' w.heap.size c (zaq n) ∧ Grow w w' := by
 by_cases h : n < 5
 · exact zyr w n h
 · obtain ⟨m, rfl⟩ : ∃ m, n = m + 5 := ⟨n - 5, by omega⟩
   have := zyq w m (by omega)
   rw [show ((m + 5 : Nat) : Int) = (m : Int) + 5 by omega]
   exact this
def zd0 (l : List (Array Value)) : Array Value := l.foldr (· ++ ·) #[]
@[go_sem ↓] theorem yaj (ρ : Operand → Value) (dst : Option Tmp) (parts : Array (Nat × Operand)) (ty : TypeId) (pos : String) (after : Array Edge) (guard : Option (Nat × Bool)) :
 execOp ρ { dst, op := .build 188 parts, type := ty, pos, after, guard } = za0 188 (parts.map fun (i, x) => (i, ρ x)) := rfl
@[go_sem ↓] theorem ye1 (ρ : Operand → Value) (dst : Option Tmp) (x : Operand) (ty : TypeId) (pos : String) (after : Array Edge) (guard : Option (Nat × Bool)) :
 execOp ρ { dst, op := .load 188 x, type := ty, pos, after, guard } = za3 188 (ρ x) := rfl
@[go_sem ↓] theorem ydt (ρ : Operand → Value) (dst : Option Tmp) (x y : Operand) (ty : TypeId) (pos : String) (after : Array Edge) (guard : Option (Nat × Bool)) :
 execOp ρ { dst, op := .store 188 x y, type := ty, pos, after, guard } = zaz 188 (ρ x) (ρ y) := rfl
@[go_sem] theorem znw (w : World) (b o : Nat) (h : o + 56 ≤ (w.blk b).size) : (za3 188 (.pointer (some ⟨b, o, none⟩))).run Tryz.prog w = .ok (.value (.agg (sub (w.blk b) o 56))) w :=
 zaw w b o 188 56 (by kernel_rfl) (by kernel_rfl) h (by omega)
@[go_sem] theorem z29 (w : World) (b : Nat) (cs : Array Value) (h : (w.blk b).size = 56) (hc : cs.size = 56) (h1 : zai cs = true) (hf : w.free b = true) : (zaz 188 (.pointer (some ⟨b, 0, none⟩)) (.agg cs)).run Tryz.prog w = .ok .skip (w.setRow b cs) :=
 zax w b 188 56 _ (by kernel_rfl) h hc (by omega) hf h1
theorem zpc (w : World) (b : Nat) (h : (w.blk b).size = 56) : (loadVar 188 ⟨b, 0, none⟩).run Tryz.prog w = .ok (.agg (sub (w.blk b) 0 56)) w := by
 have := znw w b 0 (by omega)
 unfold za3 at this
 rw [Sem.run_bind] at this
 simp only [Instr.loadAt, Instr.sureAddr, Sem.run_bind, Sem.run_pure, Result.andThen_ok] at this
 cases hr : (loadVar 188 ⟨b, 0, none⟩).run Tryz.prog w with
 | ok v w' => rw [hr] at this; simp at this; rw [this.1, this.2]
 | halt x w' => rw [hr] at this; simp [Result.andThen] at this
theorem zd8 {fn : Func} {p : Tmp} (h : fn.results = #[.cell p 188]) (tmps : Array Value) (w : World) (b : Nat) (hp : tmps.getD p undef = .pointer (some ⟨b, 0, none⟩)) (h1 : (w.blk b).size = 56) :
 (results fn tmps).run Tryz.prog w = .ok (.agg (sub (w.blk b) 0 56)) w := by
 unfold results
 rw [h]
 have e1 := zpc w b h1
 have hp' : tmps[p]?.getD undef = .pointer (some ⟨b, 0, none⟩) := by simpa using hp
 simp [asAddr, hp', e1]
@[go_sem] theorem zqc (a b c d : AbV) : (zd0 [a.arr, b.arr, c.arr, d.arr]).size = 56 := by simp [zd0, AbV.arr]
@[go_sem] theorem z6a (a b c d : AbV) : zai (zd0 [a.arr, b.arr, c.arr, d.arr]) = true := by
 have h1 := AbV.one a; have h2 := AbV.one b; have h3 := AbV.one c; have h4 := AbV.one d
 unfold zai at *
 simp [zd0, h1, h2, h3, h4]
@[go_sem] theorem yf7 (a b c d : AbV) : sub (zd0 [a.arr, b.arr, c.arr, d.arr]) 0 56 = zd0 [a.arr, b.arr, c.arr, d.arr] := by
 unfold sub; rw [Nat.zero_add, ← zqc a b c d, Array.extract_size]
theorem zmc (w : World) (a b c d : AbV) : (za0 188 #[(0, .agg a.arr), (1, .agg b.arr), (2, .agg c.arr), (3, .agg d.arr)]).run Tryz.prog w = .ok (.value (.agg (zd0 [a.arr, b.arr, c.arr, d.arr]))) w := by
 obtain ⟨a0, a1, a2, a3, a4, a5, a6, a7, a8, ⟨a9, a10, a11, a12, s1⟩⟩ := a
 obtain ⟨b0, b1, b2, b3, b4, b5, b6, b7, b8, ⟨b9, b10, b11, b12, s2⟩⟩ := b
 obtain ⟨c0, c1, c2, c3, c4, c5, c6, c7, c8, ⟨c9, c10, c11, c12, s3⟩⟩ := c
 obtain ⟨d0, d1, d2, d3, d4, d5, d6, d7, d8, ⟨d9, d10, d11, d12, s4⟩⟩ := d
 cases s1 <;> cases s2 <;> cases s3 <;> cases s4 <;> kernel_rfl
attribute [go_sem] zmc
theorem zar (w : World) : w.drew.heap.size = w.heap.size := rfl
theorem zfw : zi3 (Int.toNat 5) 0 1 = [0, 0, 0, 0, 0, 1] := by decide +kernel
theorem z0r : zi3 (Int.toNat 1) 1 0 = [0, 1, 0, 0, 0, 0] := by decide +kernel
def Rel4 (w : World) (n : Nat) (r : Ending) (c : Nat) : Prop :=
 ∃ a0 a1 a2 a3 : AbV, r = .returned (.agg (zd0 [a0.arr, a1.arr, a2.arr, a3.arr])) ∧ AbIs w n a0 (zca c 0) ∧ AbIs w n a1 (zca c 1) ∧ AbIs w n a2 (zca c 2) ∧ AbIs w n a3 (zca c 3)
theorem AbIs.plain (w : World) (n : Nat) (wh c0 c1 c2 c3 c4 c5 : Int) (tap : Bool) (tg o x y z : Int) (f : AbF) (h1 : wh = f.wh) (h2 : [c0, c1, c2, c3, c4, c5] = f.cost) (h3 : tap = f.tap) (h4 : tg = f.tg) (h5 : f.ef = ⟨o, x, y, z, []⟩) : AbIs w n ⟨wh, c0, c1, c2, c3, c4, c5, tap, tg, ⟨o, x, y, z, .nil⟩⟩ f :=
 ⟨h1, h2, h3, h4, by rw [h5]; exact EfIs.plain _ _ _ _ _ _⟩
theorem AbIs.deep (w : World) (n : Nat) (wh c0 c1 c2 c3 c4 c5 : Int) (tap : Bool) (tg o x y z : Int) (s : Sl) (f : AbF) (rows : List (List Int)) (h1 : wh = f.wh) (h2 : [c0, c1, c2, c3, c4, c5] = f.cost) (h3 : tap = f.tap) (h4 : tg = f.tg) (h5 : f.ef = ⟨o, x, y, z, rows⟩) (hR : RowsV w s 5 (rows.map z88)) (hs : n ≤ s.b) : AbIs w n ⟨wh, c0, c1, c2, c3, c4, c5, tap, tg, ⟨o, x, y, z, s⟩⟩ f :=
 ⟨h1, h2, h3, h4, by rw [h5]; exact ⟨rfl, rfl, rfl, rfl, hR, fun b hb => by rw [owns_b hb]; exact hs⟩⟩
set_option maxRecDepth 100000 in
set_option maxHeartbeats 2000000 in
theorem zj3 (w : World) : Calls Tryz.prog 174 #[] w fun r w' => Rel4 w' w.heap.size r 0 ∧ Grow w w' := by
 go_enter Tryz.func174, Tryz.ntmps174
 go_wp2_with (go_at_call 152; refine (za1 _ _ _ _ (by decide) (by decide)).mono ?_; rintro e' w' ⟨c0, c1, c2, c3, c4, c5, rfl, hc, nx, rfl⟩; have HC := Lib.hid hc; clear hc)
 go_region_law (first | (refine zak (by rfl) ?_; go_simp; go_at_call 188; refine (za9 _ _ _ _ _).mono ?_; rintro e' w' ⟨s1, rfl, ⟨hR, hb⟩, nx, rfl⟩; (try simp only [zae] at hR); (try simp only [zad] at hR); (try simp only [zae, zad] at hb); (try simp only [zar, zac, zaa] at hb); have HR := Lib.hid (And.intro hR hb); clear hR hb) | (refine zak (by rfl) ?_; go_simp; go_at_call 167; refine (zbb _ _ _ _ _).mono ?_; rintro e' w' ⟨rfl, nx, rfl⟩) | (refine zak (by rfl) ?_; go_simp; go_at_call 166; refine (zbe _ _ _).mono ?_; rintro e' w' ⟨rfl, nx, rfl⟩) | (refine zak (by rfl) ?_; go_simp; go_at_call 168; refine (zay _ _ _ _ _ _ _ _ _ _).mono ?_; rintro e' w' ⟨rfl, nx, rfl⟩) | (refine zak (by rfl) ?_; go_simp; go_at_call 152; refine (za1 _ _ _ _ (by decide) (by decide)).mono ?_; rintro e' w' ⟨e0, e1, e2, e3, e4, e5, rfl, hc, nx, rfl⟩; have HC2 := Lib.hid hc; clear hc))
 all_goals go_wp2_with fail
 all_goals refine bodyPost_ret (zd8 rfl _ _ _ rfl ?_) rfl ?_
 all_goals first | (go_simp; done) | skip
 all_goals
  rename Hid (RowsV _ _ _ [EfV.arr ⟨10, 0, 2, 2, Sl.nil⟩] ∧ _) => hA
  obtain ⟨hA1, hA2⟩ := hA.out
  have hA3 := (Nat.lt_of_lt_of_le (show w.heap.size < _ by simp only [Nat.add_assoc]; exact Nat.lt_add_of_pos_right (by omega)) hA2)
  rename Hid (RowsV _ _ _ [EfV.arr ⟨25, 1, 0, 2, Sl.nil⟩] ∧ _) => hB
  obtain ⟨hB1, hB2⟩ := hB.out
  have hB3 := (Nat.lt_of_lt_of_le (show w.heap.size < _ by simp only [Nat.add_assoc]; exact Nat.lt_add_of_pos_right (by omega)) hB2)
  exact ⟨⟨_, _, _, _, by (go_simp; first | rfl | exact ⟨rfl, rfl, rfl, rfl⟩), AbIs.deep _ _ _ _ _ _ _ _ _ _ _ _ _ _ _ _ (zca 0 0) [[10, 0, 2, 2]] (by rfl) (by rfl) (by rfl) (by rfl) (by rfl) (RowsV.grow (RowsV.off (b := w.heap.size) hA1 (Off.plus (Off.alloc (Off.plus (Off.base w _ _ _ rfl) _) _) _) (Nat.ne_of_gt hA3)) grI) (Nat.le_of_lt hA3), AbIs.plain _ _ _ _ _ _ _ _ _ _ _ _ _ _ _ (zca 0 1) (by rfl) (by rfl) (by rfl) (by rfl) (by rfl), AbIs.plain _ _ _ _ _ _ _ _ _ _ _ _ _ _ _ (zca 0 2) (by rfl) (HC.out.trans zfw) (by rfl) (by rfl) (by rfl), AbIs.deep _ _ _ _ _ _ _ _ _ _ _ _ _ _ _ _ (zca 0 3) [[25, 1, 0, 2]] (by rfl) (by rfl) (by rfl) (by rfl) (by rfl) (RowsV.grow (RowsV.off (b := w.heap.size) hB1 (Off.plus (Off.alloc (Off.plus (Off.base w _ _ _ rfl) _) _) _) (Nat.ne_of_gt hB3)) grI) (Nat.le_of_lt hB3)⟩, grI⟩
end Go.Proofs.YthfalocligkamaaGreatDoor
namespace Go.Proofs.YthfalocligkamaaGreatDoor
open Go Go.RowKit
theorem zgx (k : Nat) : ∀ (l : List (Array Value)), (∀ x, x ∈ l → x.size = k) → (zd0 l).size = l.length * k
 | [], _ => by simp [zd0]
 | x :: l, h => by
   have h1 := zgx k l (fun y hy => h y (by simp [hy]))
   have h2 := h x (by simp)
   show (x ++ zd0 l).size = _
   rw [Array.size_append, h1, h2, List.length_cons, Nat.succ_mul, Nat.add_comm]
theorem zfv (k : Nat) : ∀ (l : List (Array Value)), (∀ x, x ∈ l → x.size = k) → ∀ (i : Nat) (hi : i < l.length), sub (zd0 l) (i * k) k = l[i]'hi
 | [], _, i, hi => by cases hi
 | x :: l, h, 0, _ => by
   have h2 := h x (by simp)
   show (x ++ zd0 l).extract (0 * k) (0 * k + k) = x
   rw [Nat.zero_mul, Nat.zero_add, Array.extract_append, ← h2, Array.extract_size]
   simp
 | x :: l, h, i + 1, hi => by
   have h2 := h x (by simp)
   have hi' : i < l.length := by simpa using hi
   have ih := zfv k l (fun y hy => h y (by simp [hy])) i hi'
   show (x ++ zd0 l).extract ((i + 1) * k) ((i + 1) * k + k) = l[i]
   rw [Array.extract_append, ← ih, h2, sub, Nat.succ_mul]
   rw [show i * k + k - k = i * k by omega, show i * k + k + k - k = i * k + k by omega]
   have : x.extract (i * k + k) (i * k + k + k) = #[] := by
    apply Array.eq_empty_of_size_eq_zero
    rw [Array.size_extract]; omega
   rw [this, Array.empty_append]
theorem zqh (l : List (Array Value)) (h : ∀ x, x ∈ l → zai x = true) : zai (zd0 l) = true := by
 induction l with
 | nil => simp [zai, zd0]
 | cons x l ih =>
   show zai (x ++ zd0 l) = true
   have h1 := h x (by simp)
   have h2 := ih (fun y hy => h y (by simp [hy]))
   unfold zai at *
   rw [Array.all_append, h1, h2]; rfl
theorem ztx (v : List Value) : ∀ (s off : Nat) (cs : Array Value), off + s + v.length ≤ cs.size → ∀ i,
 ((v.zipIdx s).foldl (fun cs p => cs.setIfInBounds (off + p.2) p.1) cs)[i]? = if off + s ≤ i ∧ i < off + s + v.length then v[i - (off + s)]? else cs[i]? := by
 induction v with
 | nil => intro s off cs h i; rw [if_neg (by simp)]; rfl
 | cons x v ih =>
   intro s off cs h i
   simp only [List.length_cons] at h
   rw [List.zipIdx_cons, List.foldl_cons, ih (s + 1) off _ (by simp; omega), Array.getElem?_setIfInBounds, List.length_cons]
   by_cases h1 : i < off + s
   · rw [if_neg (by omega), if_neg (by omega), if_neg (by omega)]
   · by_cases h2 : i = off + s
     · subst h2
       rw [if_neg (by omega), if_pos rfl, if_pos (by omega), if_pos (by omega)]; simp
     · by_cases h3 : i < off + s + (v.length + 1)
       · rw [if_pos (by omega), if_pos (by omega), show i - (off + s) = (i - (off + (s + 1))) + 1 by omega, List.getElem?_cons_succ]
       · rw [if_neg (by omega), if_neg (by omega), if_neg (by omega)]
theorem z8h (v : List Value) (s off : Nat) (cs : Array Value) (h : off + s + v.length ≤ cs.size) :
 (v.zipIdx s).foldl (fun cs p => cs.setIfInBounds (off + p.2) p.1) cs = cs.extract 0 (off + s) ++ v.toArray ++ cs.extract (off + s + v.length) cs.size := by
 apply Array.ext_getElem?
 intro i
 rw [ztx v s off cs h i]
 have e1 : min (off + s) cs.size = off + s := by omega
 simp only [Array.getElem?_append, Array.getElem?_extract, Array.size_extract, Array.size_append, List.size_toArray, List.getElem?_toArray, Nat.sub_zero, Nat.zero_add, e1, Nat.min_self]
 by_cases h1 : i < off + s
 · rw [if_neg (by omega), if_pos (by omega), if_pos (by omega), if_pos (by omega)]
 · by_cases h2 : i < off + s + v.length
   · rw [if_pos (by omega), if_pos (by omega), if_neg (by omega)]
   · rw [if_neg (by omega), if_neg (by omega)]
     by_cases h3 : i < cs.size
     · rw [if_pos (by omega)]; congr 1; omega
     · rw [if_neg (by omega), Array.getElem?_eq_none (by omega)]
def ziu (l : List (Array Value)) : Array (Nat × Value) := (l.zipIdx.map fun p => (p.2, Value.agg p.1)).toArray
theorem zjc (k : Nat) : ∀ (l : List (Array Value)) (m : Nat) (pre post : Array Value), pre.size = m * k → post.size = l.length * k → (∀ x, x ∈ l → x.size = k) →
 Instr.fill (fun i => some (i * k, k)) (pre ++ post) ((l.zipIdx m).map fun p => (p.2, Value.agg p.1)) = some (pre ++ zd0 l)
 | [], m, pre, post, _, h2, _ => by
   have : post = #[] := Array.eq_empty_of_size_eq_zero (by simpa using h2)
   subst this
   simp [Instr.fill, zd0]
 | x :: l, m, pre, post, h1, h2, h3 => by
   have hx := h3 x (by simp)
   have hl : post.size = l.length * k + k := by rw [h2, List.length_cons, Nat.succ_mul]
   rw [List.zipIdx_cons, List.map_cons]
   unfold Instr.fill
   simp only [Value.cells, hx, ne_eq, not_true_eq_false, decide_false, Bool.false_or, Array.size_append, h1, decide_eq_true_eq]
   rw [if_neg (by omega)]
   have hf := z8h x.toList 0 (m * k) (pre ++ post) (by simp [h1, hx]; omega)
   rw [Array.length_toList, hx, Nat.add_zero] at hf
   rw [← Array.foldl_toList, Array.toList_zipIdx]
   rw [hf]
   have e1 : (pre ++ post).extract 0 (m * k) = pre := by rw [Array.extract_append, h1]; simp [← h1]
   have e2 : (pre ++ post).extract (m * k + k) (pre ++ post).size = post.extract k post.size := by
    rw [Array.extract_append, Array.size_append, h1]
    have : pre.extract (m * k + k) (m * k + post.size) = #[] := by
     apply Array.eq_empty_of_size_eq_zero
     rw [Array.size_extract]; omega
    rw [this, Array.empty_append]
    congr 1 <;> omega
   rw [e1, e2, Array.toArray_toList]
   rw [zjc k l (m + 1) (pre ++ x) _ (by rw [Array.size_append, h1, hx, Nat.succ_mul]) (by rw [Array.size_extract]; omega) (fun y hy => h3 y (by simp [hy]))]
   show some (pre ++ x ++ zd0 l) = some (pre ++ (x ++ zd0 l))
   rw [Array.append_assoc]
theorem znz {P : Program} (w : World) {T : TypeId} {ti : TypeInfo} {z : Value} (hi : P.info? T = some ti) (hz : ti.zero = some z) : (zeroValue T).run P w = .ok z w := by
 simp [zeroValue, typeInfo, hi, hz]
theorem zge {P : Program} (w : World) (T e n k : Nat) (ti : TypeInfo) (hT : P.underlying T = some (.array n e)) (hs : (sizeOf e).run P w = .ok k w) (hi : P.info? T = some ti) (hz : ti.zero.map (·.cells.size) = some (n * k)) (l : List (Array Value)) (hl : l.length = n) (hk : ∀ x, x ∈ l → x.size = k) :
 (za0 T (ziu l)).run P w = .ok (.value (.agg (zd0 l))) w := by
 obtain ⟨z, hz1, hz2⟩ := Option.map_eq_some_iff.1 hz
 have hf := zjc k l 0 #[] z.cells (by simp) (by rw [hz2, hl]) hk
 rw [Array.empty_append, Array.empty_append] at hf
 unfold za0 Instr.build ziu
 simp only [Sem.run_bind, znz w hi hz1, Result.andThen_ok, run_underlying hT, hs, hf, Sem.run_pure]
theorem zpu {P : Program} (w : World) (T e n k : Nat) (ti : TypeInfo) (hT : P.underlying T = some (.slice e)) (hs : ∀ w, (sizeOf e).run P w = .ok k w) (hi : P.info? e = some ti) (hz : ti.zero.map (·.cells.size) = some k) (hk0 : k ≠ 0) (hn0 : n ≠ 0) (hb : n * k ≤ 2 ^ 24) (l : List (Array Value)) (hl : l.length = n) (hk : ∀ x, x ∈ l → x.size = k) :
 (zdh T n (ziu l)).run P w = .ok (.value (.slice (some ⟨w.heap.size, 0, none⟩) n n)) (w.alloc (.cells (zd0 l) e)) := by
 obtain ⟨z, hz1, hz2⟩ := Option.map_eq_some_iff.1 hz
 have hf := zjc k l 0 #[] ((Array.range (n * k)).map (z.cells[· % z.cells.size]!)) (by simp) (by simp [hl]) hk
 rw [Array.empty_append, Array.empty_append] at hf
 have hnk : n * k ≠ 0 := Nat.mul_ne_zero hn0 hk0
 unfold zdh Instr.buildSlice ziu
 simp only [Sem.run_bind, Result.andThen_ok, run_underlying hT, hs, if_neg hnk, znz w hi hz1, hf, Sem.run_pure, if_neg (show ¬ n * k > 2 ^ 24 by omega)]
 rfl
end Go.Proofs.YthfalocligkamaaGreatDoor
