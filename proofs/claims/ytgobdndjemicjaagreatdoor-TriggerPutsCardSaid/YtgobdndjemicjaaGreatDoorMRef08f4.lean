/- The document's creatures of colour 4. -/
import Derived.Test.YtgobdndjemicjaaGreatDoorMRef08
namespace Go.Proofs.YtgobdndjemicjaaGreatDoor
open Go Go.RowKit
set_option maxRecDepth 100000 in
set_option maxHeartbeats 8000000 in
theorem zsy (w : World) (k : Nat) (hk : k < 8) : Calls Tryz.prog 39 #[.int .i64 (5 * (k : Int) + 14)] w fun r w' => zdg w w' r (cardF (5 * k + 14)) := by
 have HC0 : Hid (cardF (5 * k + 14) = zbq 4 k) := by
  rw [Hid, cardF, if_neg (by omega), if_neg (by omega), if_pos (by omega), show (5 * k + 14 - 10) % 5 = 4 by omega, show (5 * k + 14 - 10) / 5 = k by omega]
 have q1 : (5 * (k : Int) + 14 - 10) / 5 = k := by omega
 have q2 : (5 * (k : Int) + 14) % 5 = 4 := by omega
 have hk8 : (k : Int) < 8 := by omega
 obtain ⟨g1, g2, g3, g4⟩ := zhq k hk
 by_cases h3 : 3 < k
 · have h3' : (3 : Int) < k := by omega
   have HC : Hid (cardF (5 * k + 14) = ⟨1, 4, false, [0, 0, 0, 0, 2, (k : Int)], gt zc1 k, gt zcm k + 1, gt zdk k, [⟨1, noCost.set 4 1, false, 0, ⟨10, 1, 1, 3, []⟩⟩]⟩) := by rw [Hid, HC0.out]; simp [zbq, zbe, noCost, h3]
   go_enter Tryz.func39, Tryz.ntmps39
   go_wp2_with fail
   go_region_law fail
   all_goals
    go_wp2_with fail
    refine bodyPost_ret (zai rfl _ _ _ rfl ?_) rfl ?_
    · go_simp
    rw [HC.out]
    refine ⟨_, (by go_simp; rfl), ⟨rfl, rfl, rfl, rfl, rfl, rfl, rfl, ?_⟩, grI⟩
    exact ⟨[⟨1, 0, 0, 0, 0, 1, 0, false, 0, ⟨10, 1, 1, 3, .nil⟩⟩], RowsV.one (x := AbV.arr _) (by go_simp) (by go_simp) (by go_simp), .inr (by first | (go_simp; done) | (go_simp; omega) | (simp only [Sl.b]; go_simp; omega)), .cons ⟨rfl, rfl, rfl, rfl, EfIs.plain _ _ _ _ _ _⟩ .nil⟩
 · have h3' : ¬ (3 : Int) < k := by omega
   have HC : Hid (cardF (5 * k + 14) = ⟨1, 4, false, [0, 0, 0, 0, 1, (k : Int)], gt zc1 k, gt zcm k + 1, gt zdk k, [⟨1, noCost.set 4 1, false, 0, ⟨10, 1, 1, 3, []⟩⟩]⟩) := by rw [Hid, HC0.out]; simp [zbq, zbe, noCost, h3]
   go_enter Tryz.func39, Tryz.ntmps39
   go_wp2_with fail
   go_region_law fail
   all_goals
    go_wp2_with fail
    refine bodyPost_ret (zai rfl _ _ _ rfl ?_) rfl ?_
    · go_simp
    rw [HC.out]
    refine ⟨_, (by go_simp; rfl), ⟨rfl, rfl, rfl, rfl, rfl, rfl, rfl, ?_⟩, grI⟩
    exact ⟨[⟨1, 0, 0, 0, 0, 1, 0, false, 0, ⟨10, 1, 1, 3, .nil⟩⟩], RowsV.one (x := AbV.arr _) (by go_simp) (by go_simp) (by go_simp), .inr (by first | (go_simp; done) | (go_simp; omega) | (simp only [Sl.b]; go_simp; omega)), .cons ⟨rfl, rfl, rfl, rfl, EfIs.plain _ _ _ _ _ _⟩ .nil⟩
end Go.Proofs.YtgobdndjemicjaaGreatDoor
