/-
  The document's cards: rows of numbers, effects, abilities.
-/
import Derived.Test.YtnjclibennadcaaGreatDoorMEval
namespace Go.Proofs.YtnjclibennadcaaGreatDoor
open Go Go.RowKit

/-! ### Objects made one behind the other -/
def allocs (w : World) (l : List Obj) : World := l.foldl World.alloc w
theorem allocs_size (l : List Obj) : ∀ w : World, (allocs w l).heap.size = w.heap.size + l.length := by
  induction l with
  | nil => intro w; rfl
  | cons o l ih => intro w; show (allocs (w.alloc o) l).heap.size = _; rw [ih, alloc_size', List.length_cons]; omega
theorem allocs_grow (l : List Obj) : ∀ w : World, Grow w (allocs w l) := by
  induction l with
  | nil => intro w; exact Grow.refl _
  | cons o l ih => intro w; exact Grow.trans ((Grow.refl w).alloc o) (ih (w.alloc o))
theorem allocs_low {l : List Obj} {w : World} {k : Nat} (h : k < w.heap.size) : (allocs w l).blk k = w.blk k ∧ (allocs w l).free k = w.free k := by
  have g := (allocs_grow l w).kept (fun _ => False)
  exact ⟨g.blk k h (fun h => h), g.free k h (fun h => h)⟩
theorem allocs_at : ∀ (l : List Obj) (w : World) (i : Nat) (c : Array Value) (t : TypeId), l[i]? = some (.cells c t (0, 0)) → (allocs w l).blk (w.heap.size + i) = c ∧ (allocs w l).free (w.heap.size + i) = true := by
  intro l
  induction l with
  | nil => intro w i c t h; cases h
  | cons o l ih =>
    intro w i c t h
    cases i with
    | zero =>
      obtain rfl : o = .cells c t (0, 0) := by simpa using h
      show (allocs (w.alloc _) l).blk _ = _ ∧ _
      have := allocs_low (l := l) (w := w.alloc (.cells c t (0, 0))) (k := w.heap.size) (by rw [alloc_size']; omega)
      show (allocs (w.alloc (.cells c t (0, 0))) l).blk (w.heap.size + 0) = c ∧ (allocs (w.alloc (.cells c t (0, 0))) l).free (w.heap.size + 0) = true
      rw [Nat.add_zero, this.1, this.2, blk_alloc, free_alloc]; simp
    | succ i =>
      have := ih (w.alloc o) i c t (by simpa using h)
      rw [alloc_size', Nat.add_assoc, Nat.add_comm 1 i] at this
      exact this
theorem allocs_cell {l : List Obj} {w : World} {i : Nat} {c : Array Value} {t : TypeId} (h : l[i]? = some (.cells c t (0, 0))) (o : Nat) : (allocs w l).cell? ⟨w.heap.size + i, o, none⟩ = c[o]? := by
  have := allocs_at l w i c t h
  exact cell_of_blk this.2 this.1 o
/-! ### Rows of rows of numbers -/
/-- The slices of rows that stand in blocks from b on. -/
def rowSls (b : Nat) : List (List Int) → List Value
  | [] => []
  | l :: ll => .slice (some ⟨b, 0, none⟩) l.length l.length :: rowSls (b + 1) ll
theorem rowSls_at : ∀ (ll : List (List Int)) (b i : Nat) (l : List Int), ll[i]? = some l → (rowSls b ll)[i]? = some (Sl.mk (b + i) 0 l.length l.length).val := by
  intro ll
  induction ll with
  | nil => intro b i l h; cases h
  | cons x ll ih =>
    intro b i l h
    cases i with
    | zero => obtain rfl : x = l := by simpa using h
              rfl
    | succ i =>
      have := ih (b + 1) i l (by simpa using h)
      rw [Nat.add_assoc, Nat.add_comm 1 i] at this
      exact this
/-- A slice of rows of numbers. -/
structure LL (w : World) (m : Nat) (s : Sl) (ll : List (List Int)) : Prop where
  len : s.n = ll.length
  at' : ∀ i l, ll[i]? = some l → ∃ b : Nat, m ≤ b ∧ w.cell? ⟨s.b, s.o + i, none⟩ = some (Sl.mk b 0 l.length l.length).val ∧ Ints w (.mk b 0 l.length l.length) l
theorem LL.grow {w w' : World} {m : Nat} {s : Sl} {ll : List (List Int)} (h : LL w m s ll) (g : Grow w w') : LL w' m s ll := by
  refine ⟨h.len, fun i l hl => ?_⟩
  obtain ⟨x, h0, h1, h2⟩ := h.at' i l hl
  refine ⟨x, h0, ?_, h2.grow g⟩
  obtain ⟨y, rfl⟩ := g
  have hb : s.b < w.heap.size := by
    rcases Nat.lt_or_ge s.b w.heap.size with h | h
    · exact h
    · rw [World.cell?, show w.heap[s.b]? = none from Array.getElem?_eq_none (by omega)] at h1; simp at h1
  rw [plus_cell, if_pos hb, h1]
def rowObjs (t1 t2 : TypeId) (b : Nat) (ll : List (List Int)) : List Obj := ll.map (fun l => Obj.cells (cellsOf l) t1 (0, 0)) ++ [Obj.cells (rowSls b ll).toArray t2 (0, 0)]
theorem LL.made (w : World) (t1 t2 : TypeId) (ll : List (List Int)) : LL (allocs w (rowObjs t1 t2 w.heap.size ll)) w.heap.size (.mk (w.heap.size + ll.length) 0 ll.length ll.length) ll := by
  refine ⟨rfl, fun i l hl => ?_⟩
  have hi : i < ll.length := (List.getElem?_eq_some_iff.1 hl).1
  refine ⟨w.heap.size + i, by omega, ?_, rfl, Nat.le_refl _, fun j hj => ?_⟩
  · show World.cell? _ ⟨w.heap.size + ll.length, 0 + i, none⟩ = _
    rw [allocs_cell (c := (rowSls w.heap.size ll).toArray) (t := t2) (by unfold rowObjs; simp), Nat.zero_add]
    simpa using rowSls_at ll w.heap.size i l hl
  · show World.cell? _ ⟨w.heap.size + i, 0 + j, none⟩ = _
    rw [allocs_cell (c := cellsOf l) (t := t1) (by unfold rowObjs; rw [List.getElem?_append_left (by simpa using hi)]; simp [hl]), Nat.zero_add]
    exact cellsOf_get _ _ hj
def magicL : List (List Int) :=
  [[0, 2, 4, 0, 0], [4, 9, 0, 0, 2], [1, 10, -2, -2, 2], [3, 1, 2, 0, 2], [1, 10, 3, 3, 2],
  [1, 6, 0, 0, 2], [0, 4, 2, 0, 0], [2, 19, 1, 0, 2], [1, 1, 4, 0, 2], [1, 11, 2, 0, 2],
  [0, 20, 1, 0, 0, 10, 1, 1, 2], [5, 7, 0, 0, 2], [2, 3, 3, 0, 2], [1, 10, 3, 0, 2], [1, 23, 64, 0, 2],
  [5, 8, 0, 0, 2], [0, 17, 3, 0, 0], [0, 21, 0, 0, 0, 3, 2, 0, 1, 2, 2, 0, 0], [0, 20, 0, 0, 0, 1, 2, 0, 2], [0, 14, 2, 116, 0],
  [0, 21, 0, 0, 0, 2, 2, 0, 0, 4, 1, 0, 0], [1, 12, 0, 0, 2], [1, 6, 0, 0, 2], [0, 1, 3, 0, 4], [0, 15, 3, 4, 0],
  [0, 22, 0, 10, 0, 2, 8, 0, 0, 4, 1, 0, 0], [0, 21, 0, 0, 0, 4, 3, 0, 0, 19, 1, 0, 0], [0, 5, 4, 0, 4], [3, 21, 0, 0, 0, 1, 2, 0, 2, 4, 1, 0, 0], [0, 20, 1, 0, 0, 11, 1, 0, 2]]
def relicL : List (List Int) :=
  [[5, -1, 0, 0, 20, 1, 0, 0, 10, 0, 2, 2], [5, -1, 0, 0, 20, 1, 0, 0, 23, 1, 0, 2], [5, -1, 0, 0, 20, 2, 0, 0, 10, -1, 0, 2], [5, -1, 0, 0, 20, 1, 0, 0, 10, 1, 0, 2], [5, -1, 0, 0, 20, 1, 0, 0, 10, 1, 1, 2],
  [4, -1, 0, 0, 2, 1, 0, 0], [4, -1, 0, 0, 17, 1, 0, 0], [4, -1, 0, 0, 3, 1, 0, 4], [4, -1, 0, 0, 1, 1, 0, 1], [4, -1, 0, 0, 15, 1, 4, 0],
  [1, 5, 1, 1, 10, 0, 1, 2], [1, 5, 1, 1, 12, 0, 0, 2], [1, 5, 1, 0, 3, 1, 0, 1], [1, 5, 1, 3, 1, 1, 0, 2], [1, 5, 1, 1, 13, 0, 0, 2],
  [5, -1, 0, 0, 20, 0, 0, 0, 25, 1, 0, 2], [1, 1, 0, 0, 13, 0, 0, 3], [5, -1, 0, 0, 20, 2, 0, 0, 24, 1, 1, 2], [3, -1, 0, 0, 1, 3, 0, 4], [2, -1, 0, 0, 14, 1, 119, 0]]
def specialL : List (List Int) :=
  [[2, 1, 0, 0, 0, 0, 0, -1, 0, 0, 18, 0, 0, 0], [2, 2, 0, 0, 0, 0, 0, -1, 0, 0, 19, 2, 0, 1], [2, 1, 0, 0, 0, 0, 0, -1, 0, 0, 16, 3, 0, 1], [2, 1, 1, 0, 0, 0, 0, -1, 0, 0, 17, 2, 0, 1],
  [2, 2, 0, 0, 0, 0, 0, -1, 0, 0, 5, 3, 0, 4], [2, 3, 1, 0, 0, 0, 0, -1, 0, 4, 9, 0, 0, 2], [2, 2, 0, 0, 0, 0, 0, -1, 0, 0, 20, 0, 0, 0, 7, 0, 0, 2], [3, 2, 0, 0, 0, 0, 1, -1, 0, 0, 15, 1, 5, 0],
  [1, 2, 0, 1, 1, 0, 1, 5, 0, 0, 13, 0, 0, 3], [2, 3, 0, 0, 0, 0, 0, -1, 0, 0, 14, 2, 112, 0], [2, 4, 0, 0, 0, 0, 0, -1, 0, 0, 20, 0, 0, 0, 6, 0, 0, 2], [1, 3, 1, 2, 3, 5, 3, -1, 0, 0, 4, 1, 0, 0]]
set_option maxRecDepth 100000 in
set_option maxHeartbeats 2000000 in
theorem special08_any (w : World) :
    Calls Tryz.prog 162 #[] w fun e w' => ∃ s : Sl, e = .returned s.val ∧ LL w' w.heap.size s specialL ∧ Grow w w' := by
  go_enter Tryz.func162, Tryz.ntmps162
  go_wp2_with fail
  go_ret
  exact ⟨.mk (w.heap.size + 12) 0 12 12, rfl, LL.made w 3 23 specialL, allocs_grow (rowObjs 3 23 w.heap.size specialL) w⟩
set_option maxRecDepth 100000 in
set_option maxHeartbeats 4000000 in
theorem magic08_any (w : World) :
    Calls Tryz.prog 158 #[] w fun e w' => ∃ s : Sl, e = .returned s.val ∧ LL w' w.heap.size s magicL ∧ Grow w w' := by
  go_enter Tryz.func158, Tryz.ntmps158
  go_wp2_with fail
  go_ret
  exact ⟨.mk (w.heap.size + 30) 0 30 30, rfl, LL.made w 3 23 magicL, allocs_grow (rowObjs 3 23 w.heap.size magicL) w⟩
set_option maxRecDepth 100000 in
set_option maxHeartbeats 4000000 in
theorem relic08_any (w : World) :
    Calls Tryz.prog 161 #[] w fun e w' => ∃ s : Sl, e = .returned s.val ∧ LL w' w.heap.size s relicL ∧ Grow w w' := by
  go_enter Tryz.func161, Tryz.ntmps161
  go_wp2_with fail
  go_ret
  exact ⟨.mk (w.heap.size + 20) 0 20 20, rfl, LL.made w 3 23 relicL, allocs_grow (rowObjs 3 23 w.heap.size relicL) w⟩
end Go.Proofs.YtnjclibennadcaaGreatDoor
