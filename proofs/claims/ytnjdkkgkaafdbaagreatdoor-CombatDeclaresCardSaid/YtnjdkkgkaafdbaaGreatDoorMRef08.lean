/-
  The document's cards: rows of numbers, effects, abilities.
  The document's effects and abilities.
-/
import Derived.Test.YtnjdkkgkaafdbaaGreatDoorMEval
import Derived.Deep.RegionHeld3
import Derived.Test.YtnjdkkgkaafdbaaGreatDoorMMix
namespace Go.Proofs.YtnjdkkgkaafdbaaGreatDoor
open Go Go.RowKit

/-! ### Objects made one behind the other -/
def allocs (w : World) (l : List Obj) : World := l.foldl World.alloc w
theorem allocs_size (l : List Obj) : ∀ w : World, (allocs w l).heap.size = w.heap.size + l.length := by
  induction l with
  | nil => intro w; rfl
  | cons o l ih => intro w; show (allocs (w.alloc o) l).heap.size = _; rw [ih, alloc_size', List.length_cons]; omega
theorem allocs_grow (l : List Obj) : ∀ w : World, Grow w (allocs w l) := by
  induction l with
  | nil => intro w; exact Grow.refl _
  | cons o l ih => intro w; exact Grow.trans ((Grow.refl w).alloc o) (ih (w.alloc o))
theorem allocs_low {l : List Obj} {w : World} {k : Nat} (h : k < w.heap.size) : (allocs w l).blk k = w.blk k ∧ (allocs w l).free k = w.free k := by
  have g := (allocs_grow l w).kept (fun _ => False)
  exact ⟨g.blk k h (fun h => h), g.free k h (fun h => h)⟩
theorem allocs_at : ∀ (l : List Obj) (w : World) (i : Nat) (c : Array Value) (t : TypeId), l[i]? = some (.cells c t (0, 0)) → (allocs w l).blk (w.heap.size + i) = c ∧ (allocs w l).free (w.heap.size + i) = true := by
  intro l
  induction l with
  | nil => intro w i c t h; cases h
  | cons o l ih =>
    intro w i c t h
    cases i with
    | zero =>
      obtain rfl : o = .cells c t (0, 0) := by simpa using h
      show (allocs (w.alloc _) l).blk _ = _ ∧ _
      have := allocs_low (l := l) (w := w.alloc (.cells c t (0, 0))) (k := w.heap.size) (by rw [alloc_size']; omega)
      show (allocs (w.alloc (.cells c t (0, 0))) l).blk (w.heap.size + 0) = c ∧ (allocs (w.alloc (.cells c t (0, 0))) l).free (w.heap.size + 0) = true
      rw [Nat.add_zero, this.1, this.2, blk_alloc, free_alloc]; simp
    | succ i =>
      have := ih (w.alloc o) i c t (by simpa using h)
      rw [alloc_size', Nat.add_assoc, Nat.add_comm 1 i] at this
      exact this
theorem allocs_cell {l : List Obj} {w : World} {i : Nat} {c : Array Value} {t : TypeId} (h : l[i]? = some (.cells c t (0, 0))) (o : Nat) : (allocs w l).cell? ⟨w.heap.size + i, o, none⟩ = c[o]? := by
  have := allocs_at l w i c t h
  exact cell_of_blk this.2 this.1 o
/-! ### Rows of rows of numbers -/
/-- The slices of rows that stand in blocks from b on. -/
def rowSls (b : Nat) : List (List Int) → List Value
  | [] => []
  | l :: ll => .slice (some ⟨b, 0, none⟩) l.length l.length :: rowSls (b + 1) ll
theorem rowSls_at : ∀ (ll : List (List Int)) (b i : Nat) (l : List Int), ll[i]? = some l → (rowSls b ll)[i]? = some (Sl.mk (b + i) 0 l.length l.length).val := by
  intro ll
  induction ll with
  | nil => intro b i l h; cases h
  | cons x ll ih =>
    intro b i l h
    cases i with
    | zero => obtain rfl : x = l := by simpa using h
              rfl
    | succ i =>
      have := ih (b + 1) i l (by simpa using h)
      rw [Nat.add_assoc, Nat.add_comm 1 i] at this
      exact this
/-- A slice of rows of numbers. -/
structure LL (w : World) (m : Nat) (s : Sl) (ll : List (List Int)) : Prop where
  len : s.n = ll.length
  at' : ∀ i l, ll[i]? = some l → ∃ b : Nat, m ≤ b ∧ w.cell? ⟨s.b, s.o + i, none⟩ = some (Sl.mk b 0 l.length l.length).val ∧ Ints w (.mk b 0 l.length l.length) l
theorem LL.grow {w w' : World} {m : Nat} {s : Sl} {ll : List (List Int)} (h : LL w m s ll) (g : Grow w w') : LL w' m s ll := by
  refine ⟨h.len, fun i l hl => ?_⟩
  obtain ⟨x, h0, h1, h2⟩ := h.at' i l hl
  refine ⟨x, h0, ?_, h2.grow g⟩
  obtain ⟨y, rfl⟩ := g
  have hb : s.b < w.heap.size := by
    rcases Nat.lt_or_ge s.b w.heap.size with h | h
    · exact h
    · rw [World.cell?, show w.heap[s.b]? = none from Array.getElem?_eq_none (by omega)] at h1; simp at h1
  rw [plus_cell, if_pos hb, h1]
def rowObjs (t1 t2 : TypeId) (b : Nat) (ll : List (List Int)) : List Obj := ll.map (fun l => Obj.cells (cellsOf l) t1 (0, 0)) ++ [Obj.cells (rowSls b ll).toArray t2 (0, 0)]
theorem LL.made (w : World) (t1 t2 : TypeId) (ll : List (List Int)) : LL (allocs w (rowObjs t1 t2 w.heap.size ll)) w.heap.size (.mk (w.heap.size + ll.length) 0 ll.length ll.length) ll := by
  refine ⟨rfl, fun i l hl => ?_⟩
  have hi : i < ll.length := (List.getElem?_eq_some_iff.1 hl).1
  refine ⟨w.heap.size + i, by omega, ?_, rfl, Nat.le_refl _, fun j hj => ?_⟩
  · show World.cell? _ ⟨w.heap.size + ll.length, 0 + i, none⟩ = _
    rw [allocs_cell (c := (rowSls w.heap.size ll).toArray) (t := t2) (by unfold rowObjs; simp), Nat.zero_add]
    simpa using rowSls_at ll w.heap.size i l hl
  · show World.cell? _ ⟨w.heap.size + i, 0 + j, none⟩ = _
    rw [allocs_cell (c := cellsOf l) (t := t1) (by unfold rowObjs; rw [List.getElem?_append_left (by simpa using hi)]; simp [hl]), Nat.zero_add]
    exact cellsOf_get _ _ hj
def magicL : List (List Int) :=
  [[0, 2, 4, 0, 0], [4, 9, 0, 0, 2], [1, 10, -2, -2, 2], [3, 1, 2, 0, 2], [1, 10, 3, 3, 2],
  [1, 6, 0, 0, 2], [0, 4, 2, 0, 0], [2, 19, 1, 0, 2], [1, 1, 4, 0, 2], [1, 11, 2, 0, 2],
  [0, 20, 1, 0, 0, 10, 1, 1, 2], [5, 7, 0, 0, 2], [2, 3, 3, 0, 2], [1, 10, 3, 0, 2], [1, 23, 64, 0, 2],
  [5, 8, 0, 0, 2], [0, 17, 3, 0, 0], [0, 21, 0, 0, 0, 3, 2, 0, 1, 2, 2, 0, 0], [0, 20, 0, 0, 0, 1, 2, 0, 2], [0, 14, 2, 116, 0],
  [0, 21, 0, 0, 0, 2, 2, 0, 0, 4, 1, 0, 0], [1, 12, 0, 0, 2], [1, 6, 0, 0, 2], [0, 1, 3, 0, 4], [0, 15, 3, 4, 0],
  [0, 22, 0, 10, 0, 2, 8, 0, 0, 4, 1, 0, 0], [0, 21, 0, 0, 0, 4, 3, 0, 0, 19, 1, 0, 0], [0, 5, 4, 0, 4], [3, 21, 0, 0, 0, 1, 2, 0, 2, 4, 1, 0, 0], [0, 20, 1, 0, 0, 11, 1, 0, 2]]
def relicL : List (List Int) :=
  [[5, -1, 0, 0, 20, 1, 0, 0, 10, 0, 2, 2], [5, -1, 0, 0, 20, 1, 0, 0, 23, 1, 0, 2], [5, -1, 0, 0, 20, 2, 0, 0, 10, -1, 0, 2], [5, -1, 0, 0, 20, 1, 0, 0, 10, 1, 0, 2], [5, -1, 0, 0, 20, 1, 0, 0, 10, 1, 1, 2],
  [4, -1, 0, 0, 2, 1, 0, 0], [4, -1, 0, 0, 17, 1, 0, 0], [4, -1, 0, 0, 3, 1, 0, 4], [4, -1, 0, 0, 1, 1, 0, 1], [4, -1, 0, 0, 15, 1, 4, 0],
  [1, 5, 1, 1, 10, 0, 1, 2], [1, 5, 1, 1, 12, 0, 0, 2], [1, 5, 1, 0, 3, 1, 0, 1], [1, 5, 1, 3, 1, 1, 0, 2], [1, 5, 1, 1, 13, 0, 0, 2],
  [5, -1, 0, 0, 20, 0, 0, 0, 25, 1, 0, 2], [1, 1, 0, 0, 13, 0, 0, 3], [5, -1, 0, 0, 20, 2, 0, 0, 24, 1, 1, 2], [3, -1, 0, 0, 1, 3, 0, 4], [2, -1, 0, 0, 14, 1, 119, 0]]
def specialL : List (List Int) :=
  [[2, 1, 0, 0, 0, 0, 0, -1, 0, 0, 18, 0, 0, 0], [2, 2, 0, 0, 0, 0, 0, -1, 0, 0, 19, 2, 0, 1], [2, 1, 0, 0, 0, 0, 0, -1, 0, 0, 16, 3, 0, 1], [2, 1, 1, 0, 0, 0, 0, -1, 0, 0, 17, 2, 0, 1],
  [2, 2, 0, 0, 0, 0, 0, -1, 0, 0, 5, 3, 0, 4], [2, 3, 1, 0, 0, 0, 0, -1, 0, 4, 9, 0, 0, 2], [2, 2, 0, 0, 0, 0, 0, -1, 0, 0, 20, 0, 0, 0, 7, 0, 0, 2], [3, 2, 0, 0, 0, 0, 1, -1, 0, 0, 15, 1, 5, 0],
  [1, 2, 0, 1, 1, 0, 1, 5, 0, 0, 13, 0, 0, 3], [2, 3, 0, 0, 0, 0, 0, -1, 0, 0, 14, 2, 112, 0], [2, 4, 0, 0, 0, 0, 0, -1, 0, 0, 20, 0, 0, 0, 6, 0, 0, 2], [1, 3, 1, 2, 3, 5, 3, -1, 0, 0, 4, 1, 0, 0]]
set_option maxRecDepth 100000 in
set_option maxHeartbeats 2000000 in
theorem special08_any (w : World) :
    Calls Tryz.prog 133 #[] w fun e w' => ∃ s : Sl, e = .returned s.val ∧ LL w' w.heap.size s specialL ∧ Grow w w' := by
  go_enter Tryz.func133, Tryz.ntmps133
  go_wp2_with fail
  go_ret
  exact ⟨.mk (w.heap.size + 12) 0 12 12, rfl, LL.made w 3 23 specialL, allocs_grow (rowObjs 3 23 w.heap.size specialL) w⟩
set_option maxRecDepth 100000 in
set_option maxHeartbeats 4000000 in
theorem magic08_any (w : World) :
    Calls Tryz.prog 129 #[] w fun e w' => ∃ s : Sl, e = .returned s.val ∧ LL w' w.heap.size s magicL ∧ Grow w w' := by
  go_enter Tryz.func129, Tryz.ntmps129
  go_wp2_with fail
  go_ret
  exact ⟨.mk (w.heap.size + 30) 0 30 30, rfl, LL.made w 3 23 magicL, allocs_grow (rowObjs 3 23 w.heap.size magicL) w⟩
set_option maxRecDepth 100000 in
set_option maxHeartbeats 4000000 in
theorem relic08_any (w : World) :
    Calls Tryz.prog 132 #[] w fun e w' => ∃ s : Sl, e = .returned s.val ∧ LL w' w.heap.size s relicL ∧ Grow w w' := by
  go_enter Tryz.func132, Tryz.ntmps132
  go_wp2_with fail
  go_ret
  exact ⟨.mk (w.heap.size + 20) 0 20 20, rfl, LL.made w 3 23 relicL, allocs_grow (rowObjs 3 23 w.heap.size relicL) w⟩
end Go.Proofs.YtnjdkkgkaafdbaaGreatDoor
namespace Go.Proofs.YtnjdkkgkaafdbaaGreatDoor
open Go Go.RowKit

theorem wrap_in (x : Int) (h0 : -9223372036854775808 ≤ x) (h1 : x ≤ 9223372036854775807) : IntKind.i64.wrap x = x := by
  unfold IntKind.wrap
  simp [IntKind.signed, IntKind.bits]
  omega
/-! ### Effects, abilities and cards in full -/
structure EfF where
  op : Int
  n : Int
  m : Int
  who : Int
  subs : List (List Int)
structure AbF where
  wh : Int
  cost : List Int
  tap : Bool
  tg : Int
  ef : EfF
structure CardF where
  kind : Int
  col : Int
  fast : Bool
  cost : List Int
  pw : Int
  tf : Int
  says : Int
  abs : List AbF
def subV (r : List Int) : Array Value := EfV.arr ⟨gt r 0, gt r 1, gt r 2, gt r 3, .nil⟩
theorem subV_size (r : List Int) : (subV r).size = 5 := rfl
/-- An effect stands so in memory, what is within in blocks from n on. -/
structure EfIs (w : World) (n : Nat) (e : EfV) (f : EfF) : Prop where
  op : e.op = f.op
  amt : e.n = f.n
  mor : e.m = f.m
  who : e.who = f.who
  subs : RowsV w e.subs 5 (f.subs.map subV)
  low : ∀ b, e.subs.owns b → n ≤ b
theorem EfIs.grow {w w' : World} {n : Nat} {e : EfV} {f : EfF} (h : EfIs w n e f) (g : Grow w w') : EfIs w' n e f := ⟨h.op, h.amt, h.mor, h.who, h.subs.grow g, h.low⟩
theorem EfIs.less {w : World} {m n : Nat} {e : EfV} {f : EfF} (h : EfIs w n e f) (hm : m ≤ n) : EfIs w m e f := ⟨h.op, h.amt, h.mor, h.who, h.subs, fun b hb => Nat.le_trans hm (h.low b hb)⟩
theorem Made.kept {own : Nat → Prop} {base : Nat} {w w' : World} {s : Sl} {k : Nat} {xs : List Value} (h : Made base w s k xs) (g : Kept own w w') (hn : ∀ b, s.owns b → ¬ own b) : Made base w' s k xs :=
  ⟨h.cells.kept g hn, Room.kept h.room g hn, fun b hb => ⟨(h.own b hb).1, Nat.lt_of_lt_of_le (h.own b hb).2 g.size⟩⟩
theorem Made.off {b base : Nat} {w w' : World} {s : Sl} {k : Nat} {xs : List Value} (h : Made base w s k xs) (g : Off b w w') (e1 : w'.os = w.os) (e2 : w'.tape = w.tape) (e3 : w'.output = w.output) (hb : b < base) : Made base w' s k xs :=
  h.kept (Off.kept g e1 e2 e3) (fun b' hb' e => by have := (h.own b' hb').1; omega)
/-- The effects within, out of a row: the first k of them. -/
def subsTo (l : List Int) (k : Nat) : List (List Int) := (List.range k).map fun j => [gt l (4 + 4 * j), gt l (5 + 4 * j), gt l (6 + 4 * j), gt l (7 + 4 * j)]
def effL (l : List Int) : EfF := ⟨gt l 0, gt l 1, gt l 2, gt l 3, subsTo l (l.length / 4 - 1)⟩
theorem subsTo_succ (l : List Int) (k : Nat) : subsTo l (k + 1) = subsTo l k ++ [[gt l (4 + 4 * k), gt l (5 + 4 * k), gt l (6 + 4 * k), gt l (7 + 4 * k)]] := by
  unfold subsTo
  rw [List.range_succ, List.map_append]; rfl
@[go_sem ↓] theorem storeS_Effs (ρ : Operand → Value) (dst : Option Tmp) (x y : Operand) (ty : TypeId) (pos : String) (after : Array Edge) (guard : Option (Nat × Bool)) :
    execOp ρ { dst, op := .store 116 x y, type := ty, pos, after, guard } = stRow 116 (ρ x) (ρ y) := rfl
@[go_sem] theorem run_storeS_Effs (w : World) (b o : Nat) (s : Sl) (h : (w.cell? ⟨b, o, none⟩).isSome = true) (hf : w.frozen? ⟨b, o, none⟩ = false) : (stRow 116 (.pointer (some ⟨b, o, none⟩)) s.val).run Tryz.prog w = .ok .skip (w.setCell ⟨b, o, none⟩ s.val) :=
  run_stSl w b o 116 s (by kernel_rfl) h hf
@[go_sem] theorem run_storeX_Effs (w : World) (b o sb so n c : Nat) (h : (w.cell? ⟨b, o, none⟩).isSome = true) (hf : w.frozen? ⟨b, o, none⟩ = false) : (stRow 116 (.pointer (some ⟨b, o, none⟩)) (.slice (some ⟨sb, so, none⟩) n c)).run Tryz.prog w = .ok .skip (w.setCell ⟨b, o, none⟩ (.slice (some ⟨sb, so, none⟩) n c)) :=
  run_stSl w b o 116 (.mk sb so n c) (by kernel_rfl) h hf
@[go_sem] theorem EfV.set4 (c : EfV) (s : Sl) : c.arr.setIfInBounds 4 s.val = EfV.arr { c with subs := s } := rfl
@[go_sem] theorem EfV.set4' (c : EfV) (b o n k : Nat) : c.arr.setIfInBounds 4 (.slice (some ⟨b, o, none⟩) n k) = EfV.arr { c with subs := .mk b o n k } := rfl
theorem subV_one (r : List Int) : oneCells (subV r) = true := EfV.one _
@[go_sem] theorem agg_effect (a b c d : Int) : Value.agg #[.int .i64 a, .int .i64 b, .int .i64 c, .int .i64 d, .slice none 0 0] = .agg (EfV.arr ⟨a, b, c, d, .nil⟩) := rfl
set_option maxRecDepth 100000 in
set_option maxHeartbeats 4000000 in
theorem effect08_any (w : World) (s : Sl) (l : List Int) (R : Ints w s l) (q : Nat) (hq : l.length = 4 * (q + 1)) (hq2 : q ≤ 100) :
    Calls Tryz.prog 130 #[s.val] w fun e w' => ∃ x : EfV, e = .returned (.agg x.arr) ∧ EfIs w' w.heap.size x (effL l) ∧ Grow w w' := by
  have hsn := R.len
  obtain ⟨b0, c0⟩ := R.at 0 (by omega)
  obtain ⟨_, c1⟩ := R.at 1 (by omega)
  obtain ⟨_, c2⟩ := R.at 2 (by omega)
  obtain ⟨_, c3⟩ := R.at 3 (by omega)
  have ne : ¬ s.b = w.heap.size := by omega
  rw [Nat.add_zero] at c0
  change _ = some (Value.int .i64 (gt l 0)) at c0
  change _ = some (Value.int .i64 (gt l 1)) at c1
  change _ = some (Value.int .i64 (gt l 2)) at c2
  change _ = some (Value.int .i64 (gt l 3)) at c3
  have n0 : 0 < s.n := by omega
  have n1 : (1 : Int) < s.n := by omega
  have n2 : (2 : Int) < s.n := by omega
  have n3 : (3 : Int) < s.n := by omega
  have HR := Lib.hid R
  have HN := Lib.hid hsn
  clear R hsn
  go_enter Tryz.func130, Tryz.ntmps130
  go_wp2_with fail
  go_region_held3 (fun W => W.cell? ⟨s.b, s.o, none⟩ = some (.int .i64 (gt l 0)) ∧ W.cell? ⟨s.b, s.o + 1, none⟩ = some (.int .i64 (gt l 1)) ∧ W.cell? ⟨s.b, s.o + 2, none⟩ = some (.int .i64 (gt l 2)) ∧ W.cell? ⟨s.b, s.o + 3, none⟩ = some (.int .i64 (gt l 3))) (simp [go_sem, *]) (fail)
  generalize ha0 : gt l 0 = a0 at *
  generalize ha1 : gt l 1 = a1 at *
  generalize ha2 : gt l 2 = a2 at *
  generalize ha3 : gt l 3 = a3 at *
  clear c0 c1 c2 c3
  have HL : Hid (effL l = ⟨a0, a1, a2, a3, subsTo l (l.length / 4 - 1)⟩) := by rw [Hid, effL, ha0, ha1, ha2, ha3]
  clear ha0 ha1 ha2 ha3
  go_wp2_with fail
  go_loopw [4] (fun i wr => ∃ (c k : Nat) (sub : Sl), k ≤ q ∧ Hid (c = 4 + 4 * k) ∧ i = .int .i64 c ∧ Made (w.heap.size + 2) wr sub 5 (flatV ((subsTo l k).map subV)) ∧ sub.n = k ∧ Grow ((w.alloc (.cells (EfV.arr ⟨0, 0, 0, 0, .nil⟩) 118)).alloc (.cells (EfV.arr ⟨a0, a1, a2, a3, sub⟩) 118)) wr) (fun i _ => 4 * q + 4 - (intOf i).toNat)
  case atStart => exact ⟨4, 0, .nil, by omega, rfl, rfl, Made.nil _ _ _, rfl, grI⟩
  case round =>
    obtain ⟨c, k, sub, hk, hc, rfl, hM, hsn, hG⟩ := hrel
    obtain ⟨x, rfl⟩ := hG
    have HM := Lib.hid hM
    clear hM
    by_cases hlt : k < q
    · have hcb : c ≤ 404 := by have := hc.out; omega
      have hcl : c + 3 < s.n := by have := HN.out; have := hc.out; omega
      obtain ⟨_, d0⟩ := HR.out.at c (by have := HN.out; omega)
      obtain ⟨_, d1⟩ := HR.out.at (c + 1) (by have := HN.out; omega)
      obtain ⟨_, d2⟩ := HR.out.at (c + 2) (by have := HN.out; omega)
      obtain ⟨_, d3⟩ := HR.out.at (c + 3) (by have := HN.out; omega)
      change _ = some (Value.int .i64 (gt l c)) at d0
      change _ = some (Value.int .i64 (gt l (c + 1))) at d1
      change _ = some (Value.int .i64 (gt l (c + 2))) at d2
      change _ = some (Value.int .i64 (gt l (c + 3))) at d3
      have HS : Hid (subsTo l (k + 1) = subsTo l k ++ [[gt l c, gt l (c + 1), gt l (c + 2), gt l (c + 3)]]) := by rw [Hid, subsTo_succ, hc.out, show 4 + 4 * k + 1 = 5 + 4 * k by omega, show 4 + 4 * k + 2 = 6 + 4 * k by omega, show 4 + 4 * k + 3 = 7 + 4 * k by omega]
      generalize gt l c = b0 at *
      generalize gt l (c + 1) = b1 at *
      generalize gt l (c + 2) = b2 at *
      generalize gt l (c + 3) = b3 at *
      have j0 : (c : Int) < s.n := by omega
      have j1 : (c : Int) + 1 < s.n := by omega
      have j2 : (c : Int) + 2 < s.n := by omega
      have j3 : (c : Int) + 3 < s.n := by omega
      have p1 : (0 : Int) ≤ (c : Int) + 1 := by omega
      have p2 : (0 : Int) ≤ (c : Int) + 2 := by omega
      have p3 : (0 : Int) ≤ (c : Int) + 3 := by omega
      have r1 : IntKind.i64.wrap ((c : Int) + 1) = (c : Int) + 1 := wrap_in _ (by omega) (by have := hc.out; omega)
      have r2 : IntKind.i64.wrap ((c : Int) + 2) = (c : Int) + 2 := wrap_in _ (by omega) (by have := hc.out; omega)
      have r3 : IntKind.i64.wrap ((c : Int) + 3) = (c : Int) + 3 := wrap_in _ (by omega) (by have := hc.out; omega)
      have m1 : ((c : Int) + 1).toNat = c + 1 := by omega
      have m2 : ((c : Int) + 2).toNat = c + 2 := by omega
      have m3 : ((c : Int) + 3).toNat = c + 3 := by omega
      have hW0 : ((w.alloc (.cells (EfV.arr ⟨0, 0, 0, 0, .nil⟩) 118)).alloc (.cells (EfV.arr ⟨a0, a1, a2, a3, sub⟩) 118)).heap.size = w.heap.size + 2 := by simp only [alloc_size']
      have HW0 := Lib.hid hW0
      clear hW0
      go_wp2_with fail
      refine wp_region_noPanic ?_; refine wp_region_mid [0, 1, 2, 3, 4, 5, 6, 7, 8, 9, 10, 11, 12, 13, 14, 15, 16, 17, 18, 19, 20, 21] 22 23 [24, 25] _ (by kernel_rfl) (fun _ _ _ _ h => h) rfl (by kernel_rfl) ?_; simp only [pickO, List.getElem?_cons_zero, List.getElem?_cons_succ]; (repeat (go_big_quiet_step (fail))); refine wpQuiet_nil ?_; rintro _ ⟨nx, rfl⟩; intro K hK
      go_simp
      refine hK _ _ (show Grow _ _ from grI) ?_
      clear hK K
      go_wp2_with ((at_builtin; refine wpList_made rfl _ _ 116 rfl 118 Tryz.t118 (.agg (EfV.arr ⟨0, 0, 0, 0, .nil⟩)) 5 56 Tryz.underlying116 (by kernel_rfl) (by kernel_rfl) (by kernel_rfl) (by kernel_rfl) (by omega) rfl ((w.alloc (.cells (EfV.arr ⟨0, 0, 0, 0, .nil⟩) 118)).alloc (.cells (EfV.arr ⟨a0, a1, a2, a3, sub⟩) 118)) sub (.mk _ 0 1 1) (flatV ((subsTo l k).map subV)) (flatV [subV [b0, b1, b2, b3]]) rfl rfl (by rw [HW0.out]; exact HM.out.grow grI) grI (RowsV.one (x := EfV.arr _) (by go_simp) (by go_simp; rfl) (by go_simp)).cells (flatV_one (fun x hx => by obtain ⟨a, _, rfl⟩ := List.mem_map.1 hx; exact subV_one a)) (flatV_one (by simp [subV_one])) (by show sub.n + 1 ≤ 4194304; omega) ?_; intro s3 y3 c1 _ c3 _; have C := Lib.hid (And.intro c1 c3); clear c1 c3))
      refine NoPanic.normal ?_
      all_goals
        go_wp2_with fail
        go_roundw
        case rel =>
          have h2 := C.out.1.off (b := w.heap.size + 1) (w' := ((w.alloc (.cells (EfV.arr ⟨0, 0, 0, 0, .nil⟩) 118)).alloc (.cells (EfV.arr ⟨a0, a1, a2, a3, s3⟩) 118)).plus y3) (by repeat (first | exact Off.base _ _ _ _ (alloc_size' _ _).symm | refine Off.plus ?_ _ | refine Off.alloc ?_ _)) rfl rfl rfl (by rw [HW0.out]; omega)
          rw [HW0.out] at h2
          exact ⟨c + 4, k + 1, s3, by omega, by have := hc.out; show c + 4 = 4 + 4 * (k + 1); omega, by go_num, by rw [HS.out, List.map_append, flatV_append]; exact h2, by rw [C.out.2]; show sub.n + 1 = k + 1; omega, grI⟩
        case measure => simp [intOf]; have := hc.out; omega
    · have hcl : ¬ c < s.n := by have := HN.out; have := hc.out; omega
      go_wp2_with fail
      have hkq : k = q := by omega
      subst hkq
      refine bodyPost_ret (results_Effect rfl _ _ _ rfl ?_) rfl ?_
      · go_simp
      refine ⟨⟨a0, a1, a2, a3, sub⟩, by go_simp, ⟨by rw [HL.out], by rw [HL.out], by rw [HL.out], by rw [HL.out], ?_, fun b hb => by have := (HM.out.own b hb).1; omega⟩, grI⟩
      have h2 := HM.out.off (b := w.heap.size) (w' := ((w.alloc (.cells (EfV.arr ⟨a0, a1, a2, a3, sub⟩) 118)).alloc (.cells (EfV.arr ⟨a0, a1, a2, a3, sub⟩) 118)).plus x) (by repeat (first | exact Off.base _ _ _ _ rfl | refine Off.plus ?_ _ | refine Off.alloc ?_ _)) rfl rfl rfl (by omega)
      rw [HL.out]
      have hk2 : l.length / 4 - 1 = k := by omega
      rw [hk2]
      exact h2.cells.rowsV (by omega) (fun x hx => by obtain ⟨r, _, rfl⟩ := List.mem_map.1 hx; rfl)
end Go.Proofs.YtnjdkkgkaafdbaaGreatDoor
