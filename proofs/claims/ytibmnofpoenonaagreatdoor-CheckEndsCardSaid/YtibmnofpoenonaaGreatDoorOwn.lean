/-
  Slices of the call's own: clones, deleting, inserting.
-/
import Derived.Test.YtibmnofpoenonaaGreatDoorLay
import Derived.Test.YtibmnofpoenonaaGreatDoorKept
import Derived.Ground.Names2Prog
import Derived.Shelf.SlicesE.Delete
import Derived.Shelf.SlicesG.Turned
import Derived.Shelf.Spec.SlicesInsert
import Derived.Shelf.Spec.SlicesInsertGrow
namespace Go.Proofs.YtibmnofpoenonaaGreatDoor
open Go Go.RowKit Go.Shelf Go.Lib

/-- A slice that lies in a block of its own. -/
structure Own (w : World) (s : Sl) (e : TypeId) (k base : Nat) (xs : List Value) : Prop where
  cells : Cells w s k xs
  max : s.c ≤ maxLen
  off : s.o = 0
  blk : ∀ b, s.owns b → base ≤ b ∧ ∃ cur : Array Value, w.heap[b]? = some (.cells cur e (0, 0)) ∧ cur.size = s.c * k
theorem Own.room {w : World} {s : Sl} {e : TypeId} {k base : Nat} {xs : List Value} (h : Own w s e k base xs) : Room w s k := by
  refine ⟨h.max, fun j hj => ?_⟩
  cases s with
  | nil => simp [Sl.c] at hj
  | mk b o n c =>
    obtain ⟨_, cur, e1, e2⟩ := h.blk b rfl
    have ho : o = 0 := h.off
    subst ho
    have hj : j < c * k := hj
    show (w.cell? ⟨b, 0 + j, none⟩).isSome = true ∧ w.frozen? ⟨b, 0 + j, none⟩ = false
    rw [Nat.zero_add]
    refine ⟨?_, ?_⟩
    · simp only [World.cell?, e1]
      rw [Array.getElem?_eq_getElem (by rw [e2]; exact hj)]; rfl
    · simp [World.frozen?, e1]
theorem Own.lt {w : World} {s : Sl} {e : TypeId} {k base : Nat} {xs : List Value} (h : Own w s e k base xs) : ∀ b, s.owns b → base ≤ b ∧ b < w.heap.size := fun b hb => by
  obtain ⟨h1, cur, e1, _⟩ := h.blk b hb
  exact ⟨h1, (Array.getElem?_eq_some_iff.1 e1).1⟩
theorem Own.kept {own : Nat → Prop} {w w' : World} {s : Sl} {e : TypeId} {k base : Nat} {xs : List Value} (h : Own w s e k base xs) (g : Kept own w w') (hn : ∀ b, s.owns b → ¬ own b) : Own w' s e k base xs := by
  refine ⟨⟨h.cells.len, h.cells.cap, fun j u hu => ?_⟩, h.max, h.off, fun b hb => ?_⟩
  · have h1 := h.cells.cell j u hu
    cases s with
    | nil =>
      have := h.cells.len
      simp [Sl.n] at this
      subst this
      simp at hu
    | mk b o n c =>
      rw [g.cell _ _ (cell_blk h1).1 (hn b rfl)]; exact h1
  · obtain ⟨h1, cur, e1, e2⟩ := h.blk b hb
    exact ⟨h1, cur, by rw [g.block b (Array.getElem?_eq_some_iff.1 e1).1 (hn b hb)]; exact e1, e2⟩
theorem Own.grow {w w' : World} {s : Sl} {e : TypeId} {k base : Nat} {xs : List Value} (h : Own w s e k base xs) (g : Grow w w') : Own w' s e k base xs := h.kept (g.kept (fun _ => False)) (fun _ _ h => h)
theorem Own.mono {w : World} {s : Sl} {e : TypeId} {k base base' : Nat} {xs : List Value} (h : Own w s e k base xs) (g : base' ≤ base) : Own w s e k base' xs :=
  ⟨h.cells, h.max, h.off, fun b hb => ⟨Nat.le_trans g (h.blk b hb).1, (h.blk b hb).2⟩⟩
theorem own_of_row {w : World} {base k : Nat} {e : TypeId} {v : Value} {n : Nat} {xs : List Value} (h : w.ownsRow base e k v n xs) : ∃ s : Sl, v = s.val ∧ Own w s e k base xs ∧ s.n = n := by
  obtain ⟨hl, ⟨rfl, rfl⟩ | ⟨g, cap, cur, rfl, hb, hg, hn, hm, hs, ht⟩⟩ := h
  · have hx : xs = [] := List.eq_nil_of_length_eq_zero (by simpa using hl)
    subst hx
    exact ⟨.nil, rfl, ⟨⟨by simp [Sl.n], Nat.le_refl _, fun j u hu => by simp at hu⟩, Nat.zero_le _, rfl, fun b h => h.elim⟩, rfl⟩
  · refine ⟨.mk g 0 n cap, rfl, ⟨⟨hl, hn, fun j u hu => ?_⟩, hm, rfl, fun b h => ?_⟩, rfl⟩
    · have hj := (List.getElem?_eq_some_iff.1 hu).1
      have h1 : xs[j]? = cur[j]? := by
        rw [← ht, List.getElem?_take_of_lt (by omega), Array.getElem?_toList]
      simp only [Sl.b, Sl.o, Nat.zero_add]
      simp only [World.cell?, hg]
      rw [← h1]; exact hu
    · have h : b = g := h
      subst h
      exact ⟨hb, cur, hg, hs⟩

/-- A clone. -/
theorem cloned_ints (w : World) (s : Sl) (l : List Int) (R : Ints w s l) (hb : l.length ≤ 1048576) :
    Calls Tryz.prog 29 #[s.val] w fun e w' => ∃ s' : Sl, e = .returned s'.val ∧ Own w' s' 3 1 w.heap.size (l.map I) ∧ s'.isNil = s.isNil ∧ Grow w w' := by
  cases s with
  | nil =>
    have hl : l = [] := List.eq_nil_of_length_eq_zero R.len.symm
    subst hl
    refine (AnyE.slices_Clone_nil Tryz.cloneInts 0 0 w).mono ?_
    rintro e w' ⟨rfl, rfl⟩
    exact ⟨.nil, rfl, ⟨⟨by simp [Sl.n], Nat.le_refl _, fun j u hu => by simp at hu⟩, Nat.zero_le _, rfl, fun b h => h.elim⟩, rfl, Grow.refl _⟩
  | mk b o n c =>
    have hn : n = l.length := R.len
    subst hn
    refine (AnyE.slices_Clone Tryz.cloneInts Tryz.t3 (.int .i64 0) 1 8 (by kernel_rfl) (by kernel_rfl) (by kernel_rfl) (by kernel_rfl) rfl (by omega) (fun w => by kernel_rfl) b o l.length c (l.map I) w (by rw [List.length_map, Nat.mul_one]) (by unfold maxLen; omega) (by omega) (fun j u hu => ?_) (flat_one l)).mono ?_
    · have := R.cells.cell j u hu
      simpa [Sl.b, Sl.o] using this
    · rintro e w' ⟨v', rfl, hown, hne, hb⟩
      obtain ⟨s', rfl, hI, _⟩ := own_of_row hown
      refine ⟨s', rfl, hI, ?_, Grow.of_below hb⟩
      cases s' with
      | nil => exact absurd rfl hne
      | mk => rfl
end Go.Proofs.YtibmnofpoenonaaGreatDoor
