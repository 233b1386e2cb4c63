/-
  The relics of the other colours.
-/
import Derived.Test.YtkbghjfagnjpoaaGreatDoorMCard
namespace Go.Proofs.YtkbghjfagnjpoaaGreatDoor
open Go Go.RowKit
set_option maxRecDepth 100000 in
set_option maxHeartbeats 2000000 in
theorem blueRelics_any (w : World) : Calls Tryz.prog 146 #[] w fun r w' => Rel4 w' w.heap.size r 1 ∧ Grow w w' := by
  go_enter Tryz.func146, Tryz.ntmps146
  go_wp2_with (go_at_call 105; refine (cost_any _ _ _ _ (by decide) (by decide)).mono ?_; rintro e' w' ⟨c0, c1, c2, c3, c4, c5, rfl, nx, rfl⟩)
  go_region_law (first | (refine step_wanted (by rfl) ?_; go_simp; go_at_call 165; refine (every_any _ _ _ _ _).mono ?_; rintro e' w' ⟨s1, rfl, ⟨hR, hb⟩, nx, rfl⟩; (try simp only [drew_plus] at hR); (try simp only [plus_plus] at hR); (try simp only [drew_plus, plus_plus] at hb); (try simp only [drew_size', plus_size, alloc_size'] at hb); have HR := Lib.hid (And.intro hR hb); clear hR hb) | (refine step_wanted (by rfl) ?_; go_simp; go_at_call 138; refine (tdo_any _ _ _ _ _).mono ?_; rintro e' w' ⟨rfl, nx, rfl⟩) | (refine step_wanted (by rfl) ?_; go_simp; go_at_call 137; refine (when_any _ _ _).mono ?_; rintro e' w' ⟨rfl, nx, rfl⟩) | (refine step_wanted (by rfl) ?_; go_simp; go_at_call 139; refine (active_any _ _ _ _ _ _ _ _ _ _).mono ?_; rintro e' w' ⟨rfl, nx, rfl⟩) | (refine step_wanted (by rfl) ?_; go_simp; go_at_call 105; refine (cost_any _ _ _ _ (by decide) (by decide)).mono ?_; rintro e' w' ⟨d0, d1, d2, d3, d4, d5, rfl, nx, rfl⟩))
  all_goals go_wp2_with fail
  all_goals refine bodyPost_ret (results_ab4 rfl _ _ _ rfl ?_) rfl ?_
  all_goals first | (go_simp; done) | skip
  all_goals
    rename Hid (RowsV _ _ _ [EfV.arr ⟨23, 1, 0, 2, Sl.nil⟩] ∧ _) => hA
    obtain ⟨hA1, hA2⟩ := hA.out
    have hA3 := (Nat.lt_of_lt_of_le (show w.heap.size < _ by simp only [Nat.add_assoc]; exact Nat.lt_add_of_pos_right (by omega)) hA2)
    exact ⟨⟨_, _, _, _, by (go_simp; first | rfl | exact ⟨rfl, rfl, rfl, rfl⟩), AbOk.stat rfl rfl (Nat.le_of_lt hA3) (RowsV.grow (RowsV.off (b := w.heap.size) hA1 (Off.plus (Off.alloc (Off.plus (Off.base w _ _ _ rfl) _) _) _) (Nat.ne_of_gt hA3)) grI), .of rfl (by decide), .of rfl (by decide), .of rfl (by decide)⟩, grI⟩
set_option maxRecDepth 100000 in
set_option maxHeartbeats 2000000 in
theorem blackRelics_any (w : World) : Calls Tryz.prog 147 #[] w fun r w' => Rel4 w' w.heap.size r 2 ∧ Grow w w' := by
  go_enter Tryz.func147, Tryz.ntmps147
  go_wp2_with (go_at_call 105; refine (cost_any _ _ _ _ (by decide) (by decide)).mono ?_; rintro e' w' ⟨c0, c1, c2, c3, c4, c5, rfl, nx, rfl⟩)
  go_region_law (first | (refine step_wanted (by rfl) ?_; go_simp; go_at_call 165; refine (every_any _ _ _ _ _).mono ?_; rintro e' w' ⟨s1, rfl, ⟨hR, hb⟩, nx, rfl⟩; (try simp only [drew_plus] at hR); (try simp only [plus_plus] at hR); (try simp only [drew_plus, plus_plus] at hb); (try simp only [drew_size', plus_size, alloc_size'] at hb); have HR := Lib.hid (And.intro hR hb); clear hR hb) | (refine step_wanted (by rfl) ?_; go_simp; go_at_call 138; refine (tdo_any _ _ _ _ _).mono ?_; rintro e' w' ⟨rfl, nx, rfl⟩) | (refine step_wanted (by rfl) ?_; go_simp; go_at_call 137; refine (when_any _ _ _).mono ?_; rintro e' w' ⟨rfl, nx, rfl⟩) | (refine step_wanted (by rfl) ?_; go_simp; go_at_call 139; refine (active_any _ _ _ _ _ _ _ _ _ _).mono ?_; rintro e' w' ⟨rfl, nx, rfl⟩) | (refine step_wanted (by rfl) ?_; go_simp; go_at_call 105; refine (cost_any _ _ _ _ (by decide) (by decide)).mono ?_; rintro e' w' ⟨d0, d1, d2, d3, d4, d5, rfl, nx, rfl⟩))
  all_goals go_wp2_with fail
  all_goals refine bodyPost_ret (results_ab4 rfl _ _ _ rfl ?_) rfl ?_
  all_goals first | (go_simp; done) | skip
  all_goals
    rename Hid (RowsV _ _ _ [EfV.arr ⟨10, -1, 0, 2, Sl.nil⟩] ∧ _) => hA
    rename Hid (RowsV _ _ _ [EfV.arr ⟨24, 1, 1, 2, Sl.nil⟩] ∧ _) => hB
    obtain ⟨hA1, hA2⟩ := hA.out
    obtain ⟨hB1, hB2⟩ := hB.out
    have hA3 := (Nat.lt_of_lt_of_le (show w.heap.size < _ by simp only [Nat.add_assoc]; exact Nat.lt_add_of_pos_right (by omega)) hA2)
    have hB3 := (Nat.lt_of_lt_of_le (show w.heap.size < _ by simp only [Nat.add_assoc]; exact Nat.lt_add_of_pos_right (by omega)) hB2)
    exact ⟨⟨_, _, _, _, by (go_simp; first | rfl | exact ⟨rfl, rfl, rfl, rfl⟩), AbOk.stat rfl rfl (Nat.le_of_lt hA3) (RowsV.grow (RowsV.off (b := w.heap.size) hA1 (Off.plus (Off.alloc (Off.plus (Off.base w _ _ _ rfl) _) _) _) (Nat.ne_of_gt hA3)) grI), .of rfl (by decide), .of rfl (by decide), AbOk.stat rfl rfl (Nat.le_of_lt hB3) (RowsV.grow (RowsV.off (b := w.heap.size) hB1 (Off.plus (Off.alloc (Off.plus (Off.base w _ _ _ rfl) _) _) _) (Nat.ne_of_gt hB3)) grI)⟩, grI⟩
set_option maxRecDepth 100000 in
set_option maxHeartbeats 2000000 in
theorem redRelics_any (w : World) : Calls Tryz.prog 148 #[] w fun r w' => Rel4 w' w.heap.size r 3 ∧ Grow w w' := by
  go_enter Tryz.func148, Tryz.ntmps148
  go_wp2_with (go_at_call 105; refine (cost_any _ _ _ _ (by decide) (by decide)).mono ?_; rintro e' w' ⟨c0, c1, c2, c3, c4, c5, rfl, nx, rfl⟩)
  go_region_law (first | (refine step_wanted (by rfl) ?_; go_simp; go_at_call 165; refine (every_any _ _ _ _ _).mono ?_; rintro e' w' ⟨s1, rfl, ⟨hR, hb⟩, nx, rfl⟩; (try simp only [drew_plus] at hR); (try simp only [plus_plus] at hR); (try simp only [drew_plus, plus_plus] at hb); (try simp only [drew_size', plus_size, alloc_size'] at hb); have HR := Lib.hid (And.intro hR hb); clear hR hb) | (refine step_wanted (by rfl) ?_; go_simp; go_at_call 138; refine (tdo_any _ _ _ _ _).mono ?_; rintro e' w' ⟨rfl, nx, rfl⟩) | (refine step_wanted (by rfl) ?_; go_simp; go_at_call 137; refine (when_any _ _ _).mono ?_; rintro e' w' ⟨rfl, nx, rfl⟩) | (refine step_wanted (by rfl) ?_; go_simp; go_at_call 139; refine (active_any _ _ _ _ _ _ _ _ _ _).mono ?_; rintro e' w' ⟨rfl, nx, rfl⟩) | (refine step_wanted (by rfl) ?_; go_simp; go_at_call 105; refine (cost_any _ _ _ _ (by decide) (by decide)).mono ?_; rintro e' w' ⟨d0, d1, d2, d3, d4, d5, rfl, nx, rfl⟩))
  all_goals go_wp2_with fail
  all_goals refine bodyPost_ret (results_ab4 rfl _ _ _ rfl ?_) rfl ?_
  all_goals first | (go_simp; done) | skip
  all_goals
    rename Hid (RowsV _ _ _ [EfV.arr ⟨10, 1, 0, 2, Sl.nil⟩] ∧ _) => hA
    obtain ⟨hA1, hA2⟩ := hA.out
    have hA3 := (Nat.lt_of_lt_of_le (show w.heap.size < _ by simp only [Nat.add_assoc]; exact Nat.lt_add_of_pos_right (by omega)) hA2)
    exact ⟨⟨_, _, _, _, by (go_simp; first | rfl | exact ⟨rfl, rfl, rfl, rfl⟩), AbOk.stat rfl rfl (Nat.le_of_lt hA3) (RowsV.grow (RowsV.off (b := w.heap.size) hA1 (Off.plus (Off.alloc (Off.plus (Off.base w _ _ _ rfl) _) _) _) (Nat.ne_of_gt hA3)) grI), .of rfl (by decide), .of rfl (by decide), .of rfl (by decide)⟩, grI⟩
set_option maxRecDepth 100000 in
set_option maxHeartbeats 2000000 in
theorem greenRelics_any (w : World) : Calls Tryz.prog 149 #[] w fun r w' => Rel4 w' w.heap.size r 4 ∧ Grow w w' := by
  go_enter Tryz.func149, Tryz.ntmps149
  go_wp2_with (go_at_call 105; refine (cost_any _ _ _ _ (by decide) (by decide)).mono ?_; rintro e' w' ⟨c0, c1, c2, c3, c4, c5, rfl, nx, rfl⟩)
  go_region_law (first | (refine step_wanted (by rfl) ?_; go_simp; go_at_call 165; refine (every_any _ _ _ _ _).mono ?_; rintro e' w' ⟨s1, rfl, ⟨hR, hb⟩, nx, rfl⟩; (try simp only [drew_plus] at hR); (try simp only [plus_plus] at hR); (try simp only [drew_plus, plus_plus] at hb); (try simp only [drew_size', plus_size, alloc_size'] at hb); have HR := Lib.hid (And.intro hR hb); clear hR hb) | (refine step_wanted (by rfl) ?_; go_simp; go_at_call 138; refine (tdo_any _ _ _ _ _).mono ?_; rintro e' w' ⟨rfl, nx, rfl⟩) | (refine step_wanted (by rfl) ?_; go_simp; go_at_call 137; refine (when_any _ _ _).mono ?_; rintro e' w' ⟨rfl, nx, rfl⟩) | (refine step_wanted (by rfl) ?_; go_simp; go_at_call 139; refine (active_any _ _ _ _ _ _ _ _ _ _).mono ?_; rintro e' w' ⟨rfl, nx, rfl⟩) | (refine step_wanted (by rfl) ?_; go_simp; go_at_call 105; refine (cost_any _ _ _ _ (by decide) (by decide)).mono ?_; rintro e' w' ⟨d0, d1, d2, d3, d4, d5, rfl, nx, rfl⟩))
  all_goals go_wp2_with fail
  all_goals refine bodyPost_ret (results_ab4 rfl _ _ _ rfl ?_) rfl ?_
  all_goals first | (go_simp; done) | skip
  all_goals
    rename Hid (RowsV _ _ _ [EfV.arr ⟨10, 1, 1, 2, Sl.nil⟩] ∧ _) => hA
    obtain ⟨hA1, hA2⟩ := hA.out
    have hA3 := (Nat.lt_of_lt_of_le (show w.heap.size < _ by simp only [Nat.add_assoc]; exact Nat.lt_add_of_pos_right (by omega)) hA2)
    exact ⟨⟨_, _, _, _, by (go_simp; first | rfl | exact ⟨rfl, rfl, rfl, rfl⟩), AbOk.stat rfl rfl (Nat.le_of_lt hA3) (RowsV.grow (RowsV.off (b := w.heap.size) hA1 (Off.plus (Off.alloc (Off.plus (Off.base w _ _ _ rfl) _) _) _) (Nat.ne_of_gt hA3)) grI), .of rfl (by decide), .of rfl (by decide), .of rfl (by decide)⟩, grI⟩
end Go.Proofs.YtkbghjfagnjpoaaGreatDoor
