/-
  What the package's variables hold, out of a row that lists three of them.
-/
import Derived.Test.YtnjdkkgkaafdbaaGreatDoorMLawS
namespace Go.Proofs.YtnjdkkgkaafdbaaGreatDoor
open Go Go.RowKit Go.ChangeShapes Go.WideShapes Go.ChangeAt

/-- The variables that the row lists. -/
def laid3 : List (String × DataW Unit) := Rows.combatStrikesRow.laid
set_option maxRecDepth 100000 in
theorem glob_of_laid {W : World} (h : laidMetH Tryz.prog laid3 W) : Glob W := by
  rw [MakeChecks.laidMetH_plain _ _ _ (by kernel_rfl)] at h
  obtain ⟨ps, ⟨g0, t0, cs0, f0, p0, q0, hg0, ht0, hv0, hd0, ⟨g1, t1, cs1, f1, p1, q1, hg1, ht1, hv1, hd1, ⟨g2, t2, cs2, f2, p2, q2, hg2, ht2, hv2, hd2, _, _⟩, _⟩, _⟩, _, _⟩ := h
  obtain rfl : g0 = 2 := Option.some.inj (hg0.symm.trans (by kernel_rfl))
  obtain rfl : g1 = 1 := Option.some.inj (hg1.symm.trans (by kernel_rfl))
  obtain rfl : g2 = 0 := Option.some.inj (hg2.symm.trans (by kernel_rfl))
  obtain rfl : t0 = 144 := Option.some.inj (ht0.symm.trans (by kernel_rfl))
  obtain rfl : t1 = 144 := Option.some.inj (ht1.symm.trans (by kernel_rfl))
  obtain rfl : t2 = 25 := Option.some.inj (ht2.symm.trans (by kernel_rfl))
  have z0 := laid_two Tryz.underlying144 rfl rfl rfl rfl Tryz.underlying3 (by kernel_rfl) (by kernel_rfl) hd0
  have z1 := laid_two Tryz.underlying144 rfl rfl rfl rfl Tryz.underlying3 (by kernel_rfl) (by kernel_rfl) hd1
  have z2 := laid_array (l := [4, 5, 6, 7, 8, 9, 10, 11, 12]) Tryz.underlying25 Tryz.underlying3 (by kernel_rfl) (by kernel_rfl) rfl hd2
  have b0 := var_blk hg0 hv0
  have b1 := var_blk hg1 hv1
  have b2 := var_blk hg2 hv2
  exact ⟨by omega, by rw [b2.1, z2], by rw [b1.1, z1], by rw [b0.1, z0]⟩
end Go.Proofs.YtnjdkkgkaafdbaaGreatDoor
