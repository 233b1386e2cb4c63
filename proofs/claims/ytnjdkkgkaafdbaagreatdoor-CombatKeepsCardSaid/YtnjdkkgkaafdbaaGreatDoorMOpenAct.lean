/-
  Arguments that are slices: of ints, of acts.
-/
import Derived.Test.YtnjdkkgkaafdbaaGreatDoorMLawS
namespace Go.Proofs.YtnjdkkgkaafdbaaGreatDoor
open Go Go.RowKit Go.ChangeShapes Go.WideShapes Go.ChangeAt

theorem slice_val {P : Program} {W : World} {r : Reach} {b0 : Nat} {t e : TypeId} {v : Value} (hu : P.underlying t = some (.slice e)) (h : Value.okWide P W r b0 t v) : v = (slOf v).val ∧ (slOf v).n ≤ (slOf v).c := by
  unfold Value.okWide at h
  rw [hu] at h
  exact cell_slice hu h
theorem cells_sl (s : Sl) : s.val.cells.toList = [s.val] := by cases s <;> rfl
theorem trod_cells {H : Type} {enc : TypeId × Value → H} {P : Program} {W : World} {sp : Nat → Bool} {held : Bool} {fuel : Nat} {t e : TypeId} {s : Sl} {x : DataW H × List MemPlace} (hu : P.underlying t = some (.slice e)) (h : DataW.trod enc P W 0 sp held fuel t [s.val] = some x) : s.n ≤ 9223372036854775807 := by
  rcases DataW.trod_slice hu h with ⟨h1, _⟩ | ⟨a, n, c, el, _, m, _, h1, _, _, hnc, hm, _⟩
  · rw [val_nil (List.cons.inj h1).1]; exact Nat.zero_le _
  · obtain ⟨rfl, ha⟩ := val_slice (List.cons.inj h1).1
    unfold maxLen at hm
    show n ≤ _
    omega
/-- A slice that came in. -/
theorem open_sl {H : Type} {enc : TypeId × Value → H} {P : Program} {W : World} {r : Reach} {b0 : Nat} {sp : Nat → Bool} {t e : TypeId} {v : Value} {d : DataW H} {p : List MemPlace} (hu : P.underlying t = some (.slice e)) (hv : Value.okWide P W r b0 t v)
    (h : DataW.Trod enc P W 0 sp true t v d p) : ∃ (s : Sl) (fuel : Nat), v = s.val ∧ s.n ≤ s.c ∧ DataW.trod enc P W 0 sp true fuel t [s.val] = some (d, p) ∧ s.n ≤ 9223372036854775807 := by
  obtain ⟨h1, h2⟩ := slice_val hu hv
  obtain ⟨fuel, h⟩ := h
  rw [h1, cells_sl] at h
  exact ⟨slOf v, fuel, h1, h2, h, trod_cells hu h⟩
set_option maxRecDepth 100000 in
theorem open_Ints {H : Type} {enc : TypeId × Value → H} {W : World} {r : Reach} {b0 : Nat} {sp : Nat → Bool} {v : Value} {d : DataW H} {p : List MemPlace} (hv : Value.okWide Tryz.prog W r b0 23 v)
    (h : DataW.Trod enc Tryz.prog W 0 sp true 23 v d p) : ∃ (s : Sl) (l : List Int), v = s.val ∧ Ints W s l ∧ s.n ≤ 9223372036854775807 := by
  obtain ⟨s, fuel, h1, h2, h3, h4⟩ := open_sl Tryz.underlying23 hv h
  exact ⟨s, _, h1, trod_ints h2 h3, h4⟩
end Go.Proofs.YtnjdkkgkaafdbaaGreatDoor
