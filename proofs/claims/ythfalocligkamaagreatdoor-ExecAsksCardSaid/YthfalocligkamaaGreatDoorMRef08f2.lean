/- The document's creatures of colour 2. -/
import Derived.Test.YthfalocligkamaaGreatDoorMRef08
namespace Go.Proofs.YthfalocligkamaaGreatDoor
open Go Go.RowKit
set_option maxRecDepth 100000 in
set_option maxHeartbeats 8000000 in
theorem zrl (w : World) (k : Nat) (hk : k < 8) : Calls Tryz.prog 88 #[.int .i64 (5 * (k : Int) + 12)] w fun r w' => zcz w w' r (zaq (5 * k + 12)) := by
 have HC0 : Hid (zaq (5 * k + 12) = zbk 2 k) := by
  rw [Hid, zaq, if_neg (by omega), if_neg (by omega), if_pos (by omega), show (5 * k + 12 - 10) % 5 = 2 by omega, show (5 * k + 12 - 10) / 5 = k by omega]
 have q1 : (5 * (k : Int) + 12 - 10) / 5 = k := by omega
 have q2 : (5 * (k : Int) + 12) % 5 = 2 := by omega
 have hk8 : (k : Int) < 8 := by omega
 obtain ⟨g1, g2, g3, g4⟩ := zg1 k hk
 by_cases h3 : 3 < k
 · have h3' : (3 : Int) < k := by omega
   have HC : Hid (zaq (5 * k + 12) = ⟨1, 2, false, [0, 0, 2, 0, 0, (k : Int)], gt zch k, gt zb9 k, gt zc2 k, [⟨3, noCost, false, 0, ⟨3, gt zch k, 0, 1, []⟩⟩]⟩) := by rw [Hid, HC0.out]; simp [zbk, za8, noCost, h3]
   go_enter Tryz.func88, Tryz.ntmps88
   go_wp2_with fail
   go_region_law fail
   all_goals
    go_wp2_with fail
    refine bodyPost_ret (zaj rfl _ _ _ rfl ?_) rfl ?_
    · go_simp
    rw [HC.out]
    refine ⟨_, (by go_simp; rfl), ⟨rfl, rfl, rfl, rfl, rfl, rfl, rfl, ?_⟩, grI⟩
    exact ⟨[⟨3, 0, 0, 0, 0, 0, 0, false, 0, ⟨3, gt zch k, 0, 1, .nil⟩⟩], RowsV.one (x := AbV.arr _) (by go_simp) (by go_simp; rfl) (by go_simp), .inr (by first | (go_simp; done) | (go_simp; omega) | (simp only [Sl.b]; go_simp; omega)), .cons ⟨rfl, rfl, rfl, rfl, EfIs.plain _ _ _ _ _ _⟩ .nil⟩
 · have h3' : ¬ (3 : Int) < k := by omega
   have HC : Hid (zaq (5 * k + 12) = ⟨1, 2, false, [0, 0, 1, 0, 0, (k : Int)], gt zch k, gt zb9 k, gt zc2 k, [⟨3, noCost, false, 0, ⟨3, gt zch k, 0, 1, []⟩⟩]⟩) := by rw [Hid, HC0.out]; simp [zbk, za8, noCost, h3]
   go_enter Tryz.func88, Tryz.ntmps88
   go_wp2_with fail
   go_region_law fail
   all_goals
    go_wp2_with fail
    refine bodyPost_ret (zaj rfl _ _ _ rfl ?_) rfl ?_
    · go_simp
    rw [HC.out]
    refine ⟨_, (by go_simp; rfl), ⟨rfl, rfl, rfl, rfl, rfl, rfl, rfl, ?_⟩, grI⟩
    exact ⟨[⟨3, 0, 0, 0, 0, 0, 0, false, 0, ⟨3, gt zch k, 0, 1, .nil⟩⟩], RowsV.one (x := AbV.arr _) (by go_simp) (by go_simp; rfl) (by go_simp), .inr (by first | (go_simp; done) | (go_simp; omega) | (simp only [Sl.b]; go_simp; omega)), .cons ⟨rfl, rfl, rfl, rfl, EfIs.plain _ _ _ _ _ _⟩ .nil⟩
end Go.Proofs.YthfalocligkamaaGreatDoor
