/-
  The document's spells, relics, and its other cards.
-/
import Derived.Test.YtnjclibennadcaaGreatDoorMRef08e
namespace Go.Proofs.YtnjclibennadcaaGreatDoor
open Go Go.RowKit

@[go_sem] theorem indexAt_rows2 (w : World) (s : Sl) (q : IntKind) (i : Int) (h0 : 0 ≤ i) (h1 : i < s.n) : (Instr.indexAt 175 s.val (.int q i)).run Tryz.prog w = .ok (.pointer (some ⟨s.b, s.o + i.toNat, none⟩)) w := by
  rw [run_indexAt_sl w Tryz.underlying175 (fun w => (by kernel_rfl : (sizeOf 23).run Tryz.prog w = .ok 1 w)) s q i h0 h1, Nat.mul_one]
theorem LL.row {w : World} {m : Nat} {s : Sl} {ll : List (List Int)} (h : LL w m s ll) (i : Nat) (l : List Int) (hl : ll[i]? = some l) : ∃ x : Sl, m ≤ x.b ∧ w.cell? ⟨s.b, s.o + i, none⟩ = some x.val ∧ Ints w x l := by
  obtain ⟨b, h0, h1, h2⟩ := h.at' i l hl
  exact ⟨.mk b 0 l.length l.length, h0, h1, h2⟩
theorem cell_grow {w w' : World} {b o : Nat} {v : Value} (g : Grow w w') (h : w.cell? ⟨b, o, none⟩ = some v) : w'.cell? ⟨b, o, none⟩ = some v := by
  have hb : b < w.heap.size := by
    rcases Nat.lt_or_ge b w.heap.size with h' | h'
    · exact h'
    · rw [World.cell?, show w.heap[b]? = none from Array.getElem?_eq_none (by omega)] at h; simp at h
  obtain ⟨y, rfl⟩ := g
  rw [plus_cell, if_pos hb, h]
theorem cell_turn {w : World} {A B B' o2 : Obj} {x : Ext} {b o : Nat} {v : Value} (h : (((w.alloc A).alloc B).plus x).cell? ⟨b, o, none⟩ = some v) (hb : ¬ b = w.heap.size + 1) : ((((w.alloc A).alloc B').plus x).alloc o2).cell? ⟨b, o, none⟩ = some v := by
  have ho : Off (w.heap.size + 1) (((w.alloc A).alloc B).plus x) (((w.alloc A).alloc B').plus x) := (by repeat (first | exact Off.base _ _ _ _ (alloc_size' _ _).symm | refine Off.plus ?_ _ | refine Off.alloc ?_ _))
  refine cell_grow ((Grow.refl _).alloc _) ?_
  rw [World.cell?_of_block (ho.block b hb), h]
theorem magic_rows : ∀ i, i < 30 → ∃ q, q ≤ 3 ∧ (magicL.getD i []).length = 4 * (q + 1) + 1 := by
  intro i hi
  have : ∀ i, i < 30 → (magicL.getD i []).length = 5 ∨ (magicL.getD i []).length = 9 ∨ (magicL.getD i []).length = 13 := by decide
  rcases this i hi with h | h | h
  · exact ⟨0, by omega, h⟩
  · exact ⟨1, by omega, h⟩
  · exact ⟨2, by omega, h⟩
theorem relic_rows : ∀ i, i < 20 → ∃ q, q ≤ 3 ∧ (relicL.getD i []).length = 4 * (q + 2) ∧ (gt (relicL.getD i []) 1 = -1 ∨ gt (relicL.getD i []) 1 = 1 ∨ gt (relicL.getD i []) 1 = 5) := by
  intro i hi
  have h1 : ∀ i, i < 20 → (relicL.getD i []).length = 8 ∨ (relicL.getD i []).length = 12 := by decide
  have h2 : ∀ i, i < 20 → (gt (relicL.getD i []) 1 = -1 ∨ gt (relicL.getD i []) 1 = 1 ∨ gt (relicL.getD i []) 1 = 5) := by decide
  rcases h1 i hi with h | h
  · exact ⟨0, by omega, h, h2 i hi⟩
  · exact ⟨1, by omega, h, h2 i hi⟩
theorem relic_at (i : Nat) (hi : i < 20) : relicL[i]? = some (relicL.getD i []) := by
  rw [List.getD_eq_getElem?_getD]
  have : i < relicL.length := hi
  rw [List.getElem?_eq_getElem this]; rfl
theorem EfIs.turn {w : World} {A A' B B' : Obj} {x : Ext} {n : Nat} {a : EfV} {f : EfF} (h : EfIs (((w.alloc A).alloc B).plus x) n a f) (hn : w.heap.size + 2 ≤ n) : EfIs (((w.alloc A').alloc B').plus x) n a f :=
  (h.off (b := w.heap.size + 1) (w' := ((w.alloc A).alloc B').plus x) (by repeat (first | exact Off.base _ _ _ _ (alloc_size' _ _).symm | refine Off.plus ?_ _ | refine Off.alloc ?_ _)) (by omega)).off (b := w.heap.size) (by repeat (first | exact Off.base _ _ _ _ rfl | refine Off.plus ?_ _ | refine Off.alloc ?_ _)) (by omega)
theorem magic_at (i : Nat) (hi : i < 30) : magicL[i]? = some (magicL.getD i []) := by
  rw [List.getD_eq_getElem?_getD]
  have : i < magicL.length := hi
  rw [List.getElem?_eq_getElem this]; rfl
end Go.Proofs.YtnjclibennadcaaGreatDoor
