/-
  Slices of whole numbers, and of rows of them, as they stand in memory.
  Rows of numbers that are written out.
-/
import Derived.Test.YtnjclibennadcaaGreatDoorMPlus
namespace Go.Proofs.YtnjclibennadcaaGreatDoor
open Go Go.RowKit

theorem ret_bool {a b : Bool} (h : a = b) : Ending.returned (.bool a) = .returned (.bool b) := by rw [h]
theorem ret_int {k : IntKind} {a b : Int} (h : a = b) : Ending.returned (.int k a) = .returned (.int k b) := by rw [h]
def bdRow (t : TypeId) (parts : Array (Nat × Value)) : Sem Next := do pure (.value (← Instr.build t parts))
/-- A slice, as it stands in a cell. -/
inductive Sl where
  | nil
  | mk (b o n c : Nat)
instance : Inhabited Sl := ⟨.nil⟩
def Sl.val : Sl → Value
  | .nil => .slice none 0 0
  | .mk b o n c => .slice (some ⟨b, o, none⟩) n c
def Sl.n : Sl → Nat
  | .nil => 0
  | .mk _ _ n _ => n
def Sl.c : Sl → Nat
  | .nil => 0
  | .mk _ _ _ c => c
def Sl.b : Sl → Nat
  | .nil => 0
  | .mk b _ _ _ => b
def Sl.o : Sl → Nat
  | .nil => 0
  | .mk _ o _ _ => o
def Sl.isNil : Sl → Bool
  | .nil => true
  | .mk .. => false

@[go_sem ↓] theorem Sl.val_cells (s : Sl) : s.val.cells = #[s.val] := by cases s <;> rfl
theorem Sl.mk_of (s : Sl) (h : 0 < s.n) : s = .mk s.b s.o s.n s.c := by cases s with
  | nil => simp [Sl.n] at h
  | mk => rfl

theorem cell_blk {w : World} {b i : Nat} {v : Value} (h : w.cell? ⟨b, i, none⟩ = some v) : b < w.heap.size ∧ (w.blk b)[i]? = some v := by
  unfold World.cell? at h
  cases ho : w.heap[b]? with
  | none => rw [ho] at h; cases h
  | some o =>
    refine ⟨(Array.getElem?_eq_some_iff.1 ho).1, ?_⟩
    rw [ho] at h
    cases o <;> try (cases h; done)
    simp only [World.blk, ho]
    simpa using h

/-- A slice that holds whole numbers. -/
structure Ints (w : World) (s : Sl) (l : List Int) : Prop where
  len : s.n = l.length
  cap : s.n ≤ s.c
  cell : ∀ i, i < l.length → w.cell? ⟨s.b, s.o + i, none⟩ = some (I (gt l i))
theorem Ints.grow {w w' : World} {s : Sl} {l : List Int} (h : Ints w s l) (g : Grow w w') : Ints w' s l := by
  obtain ⟨x, rfl⟩ := g
  refine ⟨h.len, h.cap, fun i hi => ?_⟩
  rw [plus_cell_lt w x _ _ (cell_blk (h.cell i hi)).1]
  exact h.cell i hi
theorem Ints.at {w : World} {s : Sl} {l : List Int} (h : Ints w s l) (i : Nat) (hi : i < l.length) : s.b < w.heap.size ∧ w.cell? ⟨s.b, s.o + i, none⟩ = some (I (gt l i)) := ⟨(cell_blk (h.cell i hi)).1, h.cell i hi⟩
theorem Ints.nil (w : World) : Ints w .nil [] := ⟨rfl, Nat.le_refl _, fun i hi => by cases hi⟩

/-- A part of a row. -/
def sub (cs : Array Value) (o n : Nat) : Array Value := cs.extract o (o + n)
/-- The i-th row; none where there is none. -/
def rowAt (l : List (List Int)) (i : Nat) : List Int := l.getD i []
/-- A slice that holds rows of k numbers. -/
structure Rows' (w : World) (s : Sl) (k : Nat) (l : List (List Int)) : Prop where
  len : s.n = l.length
  cap : s.n ≤ s.c
  wid : ∀ i, i < l.length → (rowAt l i).length = k
  cell : ∀ i j, i < l.length → j < k → w.cell? ⟨s.b, s.o + i * k + j, none⟩ = some (I (gt (rowAt l i) j))
theorem Rows'.grow {w w' : World} {s : Sl} {k : Nat} {l : List (List Int)} (h : Rows' w s k l) (g : Grow w w') : Rows' w' s k l := by
  obtain ⟨x, rfl⟩ := g
  refine ⟨h.len, h.cap, h.wid, fun i j hi hj => ?_⟩
  rw [plus_cell_lt w x _ _ (cell_blk (h.cell i j hi hj)).1]
  exact h.cell i j hi hj
theorem Rows'.nil (w : World) (k : Nat) : Rows' w .nil k [] := ⟨rfl, Nat.le_refl _, fun i hi => (by cases hi), fun i j hi => by cases hi⟩
/-- What a walk needs of one row. -/
theorem Rows'.at {w : World} {s : Sl} {k : Nat} {l : List (List Int)} (h : Rows' w s k l) (hk : 0 < k) (i : Nat) (hi : i < l.length) :
    s.b < w.heap.size ∧ (rowAt l i).length = k ∧ s.o + i * k + k ≤ (w.blk s.b).size ∧ sub (w.blk s.b) (s.o + i * k) k = cellsOf (rowAt l i) ∧
      ∀ j, j < k → w.cell? ⟨s.b, s.o + i * k + j, none⟩ = some (I (gt (rowAt l i) j)) := by
  have hc := fun j hj => cell_blk (h.cell i j hi hj)
  have hw := h.wid i hi
  have hl := (Array.getElem?_eq_some_iff.1 (hc (k - 1) (by omega)).2).1
  refine ⟨(hc 0 hk).1, hw, by omega, ?_, fun j hj => h.cell i j hi hj⟩
  unfold sub
  apply Array.ext_getElem?
  intro j
  rw [Array.getElem?_extract]
  by_cases hj : j < k
  · rw [if_pos (by omega), (hc j hj).2, cellsOf_get _ _ (by omega)]
  · rw [if_neg (by omega), Array.getElem?_eq_none (by rw [cellsOf_size]; omega)]

@[go_sem] theorem sub_all (c : List Int) (n : Nat) (h : c.length = n) : sub (cellsOf c) 0 n = cellsOf c := by
  unfold sub
  rw [← h, Nat.zero_add, ← cellsOf_size, Array.extract_size]
def oneCells (cs : Array Value) : Bool := cs.all (·.oneCell')
@[go_sem] theorem oneCell_cells (c : List Int) : oneCells (cellsOf c) = true := cellsOf_oneCell c
theorem run_ldSub {P : Program} (w : World) (b o : Nat) (ty n : Nat) (hu : ((P.underlying ty).map TypeDesc.isRow).getD false = true) (hi : (P.info? ty).map (·.size) = some n) (h : o + n ≤ (w.blk b).size) (hn : n ≠ 0) :
    (ldRow ty (.pointer (some ⟨b, o, Option.none⟩))).run P w = .ok (.value (.agg (sub (w.blk b) o n))) w := by
  unfold sub
  cases hd : P.underlying ty with
  | none => simp [hd] at hu
  | some d =>
    simp [hd] at hu
    unfold ldRow
    cases ho : w.heap[b]? with
    | none => simp [World.blk, ho] at h; omega
    | some q =>
      cases q <;> try (simp [World.blk, ho] at h; omega)
      rename_i c t f
      simp [World.blk, ho] at h
      rw [Sem.run_bind]
      have := run_loadAt_mid (P := P) w b o ty (c.extract o (o + n)).toList d (fun j v hv => by
        simp [World.cell?, ho]
        have h2 : (c.extract o (o + n))[j]? = some v := by rw [← Array.getElem?_toList]; exact hv
        rw [Array.getElem?_extract] at h2
        split at h2
        · exact h2
        · cases h2) hd hu (by simp [hi]; omega)
      rw [this, Array.toArray_toList]
      have e : w.blk b = c := by simp [World.blk, ho]
      rw [e]
      rfl

theorem Sl.val_oneCell (s : Sl) : s.val.oneCell' = true := by cases s <;> rfl
theorem run_stSl {P : Program} (w : World) (b o : Nat) (ty : TypeId) (s : Sl) (hi : (P.info? ty).map (·.size) = some 1) (h : (w.cell? ⟨b, o, none⟩).isSome = true) (hf : w.frozen? ⟨b, o, none⟩ = false) :
    (stRow ty (.pointer (some ⟨b, o, none⟩)) s.val).run P w = .ok .skip (w.setCell ⟨b, o, none⟩ s.val) := by
  obtain ⟨v, hv⟩ := Option.isSome_iff_exists.1 h
  cases hq : P.info? ty with
  | none => simp [hq] at hi
  | some i =>
    have hs : i.size = 1 := by simpa [hq] using hi
    unfold stRow
    rw [Sem.run_bind]
    simp only [Instr.storeAt, Instr.sureAddr, Sem.run_bind, Sem.run_pure, Result.andThen_ok]
    have h2 : (storeVar ty ⟨b, o, none⟩ s.val).run P w = .ok () (w.setCell ⟨b, o, none⟩ s.val) := by
      unfold storeVar
      rw [Sl.val_cells]
      simp [sizeOf, typeInfo, hq, hs, storeCells, Addr.add, run_store P w _ _ _ s.val_oneCell, hv, hf]
    rw [h2]
    rfl

section
variable {P : Program} (w : World)
@[go_sem ↓] theorem run_len_sl {t e ty : TypeId} (ht : P.underlying t = some (.slice e)) (s : Sl) : (Builtin.len_ #[t] ty #[s.val]).run P w = .ok (.int .i64 s.n) w := by
  cases s <;> simp [Builtin.len_, Sl.val, Sl.n, run_underlying ht, goInt]
theorem run_indexAt_sl {t e : TypeId} {k : Nat} (ht : P.underlying t = some (.slice e)) (hk : ∀ w, (sizeOf e).run P w = .ok k w) (s : Sl) (q : IntKind) (i : Int) (h0 : 0 ≤ i) (h1 : i < s.n) :
    (Instr.indexAt t s.val (.int q i)).run P w = .ok (.pointer (some ⟨s.b, s.o + i.toNat * k, none⟩)) w := by
  cases s with
  | nil => simp [Sl.n] at h1; omega
  | mk b o n c =>
    simp only [Sl.n] at h1
    simp [Instr.indexAt, Sl.val, Sl.b, Sl.o, asIntOf, run_underlying ht, hk, h0, h1, Addr.add]
end
end Go.Proofs.YtnjclibennadcaaGreatDoor
namespace Go.Proofs.YtnjclibennadcaaGreatDoor
open Go Go.RowKit
@[go_sem] theorem agg2 (a0 a1 : Int) : Value.agg #[.int .i64 a0, .int .i64 a1] = .agg (cellsOf [a0, a1]) := rfl
@[go_sem] theorem cells2 (a0 a1 : Int) (t : TypeId) (fr : Nat × Nat) : Obj.cells #[.int .i64 a0, .int .i64 a1] t fr = .cells (cellsOf [a0, a1]) t fr := rfl
@[go_sem] theorem agg3 (a0 a1 a2 : Int) : Value.agg #[.int .i64 a0, .int .i64 a1, .int .i64 a2] = .agg (cellsOf [a0, a1, a2]) := rfl
@[go_sem] theorem cells3 (a0 a1 a2 : Int) (t : TypeId) (fr : Nat × Nat) : Obj.cells #[.int .i64 a0, .int .i64 a1, .int .i64 a2] t fr = .cells (cellsOf [a0, a1, a2]) t fr := rfl
@[go_sem] theorem agg7 (a0 a1 a2 a3 a4 a5 a6 : Int) : Value.agg #[.int .i64 a0, .int .i64 a1, .int .i64 a2, .int .i64 a3, .int .i64 a4, .int .i64 a5, .int .i64 a6] = .agg (cellsOf [a0, a1, a2, a3, a4, a5, a6]) := rfl
@[go_sem] theorem cells7 (a0 a1 a2 a3 a4 a5 a6 : Int) (t : TypeId) (fr : Nat × Nat) : Obj.cells #[.int .i64 a0, .int .i64 a1, .int .i64 a2, .int .i64 a3, .int .i64 a4, .int .i64 a5, .int .i64 a6] t fr = .cells (cellsOf [a0, a1, a2, a3, a4, a5, a6]) t fr := rfl
@[go_sem] theorem agg9 (a0 a1 a2 a3 a4 a5 a6 a7 a8 : Int) : Value.agg #[.int .i64 a0, .int .i64 a1, .int .i64 a2, .int .i64 a3, .int .i64 a4, .int .i64 a5, .int .i64 a6, .int .i64 a7, .int .i64 a8] = .agg (cellsOf [a0, a1, a2, a3, a4, a5, a6, a7, a8]) := rfl
@[go_sem] theorem cells9 (a0 a1 a2 a3 a4 a5 a6 a7 a8 : Int) (t : TypeId) (fr : Nat × Nat) : Obj.cells #[.int .i64 a0, .int .i64 a1, .int .i64 a2, .int .i64 a3, .int .i64 a4, .int .i64 a5, .int .i64 a6, .int .i64 a7, .int .i64 a8] t fr = .cells (cellsOf [a0, a1, a2, a3, a4, a5, a6, a7, a8]) t fr := rfl
@[go_sem] theorem agg14 (a0 a1 a2 a3 a4 a5 a6 a7 a8 a9 a10 a11 a12 a13 : Int) : Value.agg #[.int .i64 a0, .int .i64 a1, .int .i64 a2, .int .i64 a3, .int .i64 a4, .int .i64 a5, .int .i64 a6, .int .i64 a7, .int .i64 a8, .int .i64 a9, .int .i64 a10, .int .i64 a11, .int .i64 a12, .int .i64 a13] = .agg (cellsOf [a0, a1, a2, a3, a4, a5, a6, a7, a8, a9, a10, a11, a12, a13]) := rfl
@[go_sem] theorem cells14 (a0 a1 a2 a3 a4 a5 a6 a7 a8 a9 a10 a11 a12 a13 : Int) (t : TypeId) (fr : Nat × Nat) : Obj.cells #[.int .i64 a0, .int .i64 a1, .int .i64 a2, .int .i64 a3, .int .i64 a4, .int .i64 a5, .int .i64 a6, .int .i64 a7, .int .i64 a8, .int .i64 a9, .int .i64 a10, .int .i64 a11, .int .i64 a12, .int .i64 a13] t fr = .cells (cellsOf [a0, a1, a2, a3, a4, a5, a6, a7, a8, a9, a10, a11, a12, a13]) t fr := rfl
@[go_sem] theorem agg18 (a0 a1 a2 a3 a4 a5 a6 a7 a8 a9 a10 a11 a12 a13 a14 a15 a16 a17 : Int) : Value.agg #[.int .i64 a0, .int .i64 a1, .int .i64 a2, .int .i64 a3, .int .i64 a4, .int .i64 a5, .int .i64 a6, .int .i64 a7, .int .i64 a8, .int .i64 a9, .int .i64 a10, .int .i64 a11, .int .i64 a12, .int .i64 a13, .int .i64 a14, .int .i64 a15, .int .i64 a16, .int .i64 a17] = .agg (cellsOf [a0, a1, a2, a3, a4, a5, a6, a7, a8, a9, a10, a11, a12, a13, a14, a15, a16, a17]) := rfl
@[go_sem] theorem cells18 (a0 a1 a2 a3 a4 a5 a6 a7 a8 a9 a10 a11 a12 a13 a14 a15 a16 a17 : Int) (t : TypeId) (fr : Nat × Nat) : Obj.cells #[.int .i64 a0, .int .i64 a1, .int .i64 a2, .int .i64 a3, .int .i64 a4, .int .i64 a5, .int .i64 a6, .int .i64 a7, .int .i64 a8, .int .i64 a9, .int .i64 a10, .int .i64 a11, .int .i64 a12, .int .i64 a13, .int .i64 a14, .int .i64 a15, .int .i64 a16, .int .i64 a17] t fr = .cells (cellsOf [a0, a1, a2, a3, a4, a5, a6, a7, a8, a9, a10, a11, a12, a13, a14, a15, a16, a17]) t fr := rfl
@[go_sem] theorem agg36 (a0 a1 a2 a3 a4 a5 a6 a7 a8 a9 a10 a11 a12 a13 a14 a15 a16 a17 a18 a19 a20 a21 a22 a23 a24 a25 a26 a27 a28 a29 a30 a31 a32 a33 a34 a35 : Int) : Value.agg #[.int .i64 a0, .int .i64 a1, .int .i64 a2, .int .i64 a3, .int .i64 a4, .int .i64 a5, .int .i64 a6, .int .i64 a7, .int .i64 a8, .int .i64 a9, .int .i64 a10, .int .i64 a11, .int .i64 a12, .int .i64 a13, .int .i64 a14, .int .i64 a15, .int .i64 a16, .int .i64 a17, .int .i64 a18, .int .i64 a19, .int .i64 a20, .int .i64 a21, .int .i64 a22, .int .i64 a23, .int .i64 a24, .int .i64 a25, .int .i64 a26, .int .i64 a27, .int .i64 a28, .int .i64 a29, .int .i64 a30, .int .i64 a31, .int .i64 a32, .int .i64 a33, .int .i64 a34, .int .i64 a35] = .agg (cellsOf [a0, a1, a2, a3, a4, a5, a6, a7, a8, a9, a10, a11, a12, a13, a14, a15, a16, a17, a18, a19, a20, a21, a22, a23, a24, a25, a26, a27, a28, a29, a30, a31, a32, a33, a34, a35]) := rfl
@[go_sem] theorem cells36 (a0 a1 a2 a3 a4 a5 a6 a7 a8 a9 a10 a11 a12 a13 a14 a15 a16 a17 a18 a19 a20 a21 a22 a23 a24 a25 a26 a27 a28 a29 a30 a31 a32 a33 a34 a35 : Int) (t : TypeId) (fr : Nat × Nat) : Obj.cells #[.int .i64 a0, .int .i64 a1, .int .i64 a2, .int .i64 a3, .int .i64 a4, .int .i64 a5, .int .i64 a6, .int .i64 a7, .int .i64 a8, .int .i64 a9, .int .i64 a10, .int .i64 a11, .int .i64 a12, .int .i64 a13, .int .i64 a14, .int .i64 a15, .int .i64 a16, .int .i64 a17, .int .i64 a18, .int .i64 a19, .int .i64 a20, .int .i64 a21, .int .i64 a22, .int .i64 a23, .int .i64 a24, .int .i64 a25, .int .i64 a26, .int .i64 a27, .int .i64 a28, .int .i64 a29, .int .i64 a30, .int .i64 a31, .int .i64 a32, .int .i64 a33, .int .i64 a34, .int .i64 a35] t fr = .cells (cellsOf [a0, a1, a2, a3, a4, a5, a6, a7, a8, a9, a10, a11, a12, a13, a14, a15, a16, a17, a18, a19, a20, a21, a22, a23, a24, a25, a26, a27, a28, a29, a30, a31, a32, a33, a34, a35]) t fr := rfl
end Go.Proofs.YtnjclibennadcaaGreatDoor
