/- The relics of the other colours. -/
import Derived.Test.YtgobdndjemicjaaGreatDoorMCard
namespace Go.Proofs.YtgobdndjemicjaaGreatDoor
open Go Go.RowKit
set_option maxRecDepth 100000 in
set_option maxHeartbeats 2000000 in
theorem zk4 (w : World) : Calls Tryz.prog 207 #[] w fun r w' => Rel4 w' w.heap.size r 1 ∧ Grow w w' := by
 go_enter Tryz.func207, Tryz.ntmps207
 go_wp2_with (go_at_call 153; refine (za4 _ _ _ _ (by decide) (by decide)).mono ?_; rintro e' w' ⟨c0, c1, c2, c3, c4, c5, rfl, hc, nx, rfl⟩; have HC := Lib.hid hc; clear hc)
 go_region_law (first | (refine zak (by rfl) ?_; go_simp; go_at_call 244; refine (zbg _ _ _ _ _).mono ?_; rintro e' w' ⟨s1, rfl, ⟨hR, hb⟩, nx, rfl⟩; (try simp only [zad] at hR); (try simp only [zac] at hR); (try simp only [zad, zac] at hb); (try simp only [zao, zab, zaa] at hb); have HR := Lib.hid (And.intro hR hb); clear hR hb) | (refine zak (by rfl) ?_; go_simp; go_at_call 199; refine (zbl _ _ _ _ _).mono ?_; rintro e' w' ⟨rfl, nx, rfl⟩) | (refine zak (by rfl) ?_; go_simp; go_at_call 198; refine (zbo _ _ _).mono ?_; rintro e' w' ⟨rfl, nx, rfl⟩) | (refine zak (by rfl) ?_; go_simp; go_at_call 200; refine (za0 _ _ _ _ _ _ _ _ _ _).mono ?_; rintro e' w' ⟨rfl, nx, rfl⟩) | (refine zak (by rfl) ?_; go_simp; go_at_call 153; refine (za4 _ _ _ _ (by decide) (by decide)).mono ?_; rintro e' w' ⟨e0, e1, e2, e3, e4, e5, rfl, hc, nx, rfl⟩; have HC2 := Lib.hid hc; clear hc))
 all_goals go_wp2_with fail
 all_goals refine bodyPost_ret (zes rfl _ _ _ rfl ?_) rfl ?_
 all_goals first | (go_simp; done) | skip
 all_goals
  rename Hid (RowsV _ _ _ [EfV.arr ⟨23, 1, 0, 2, Sl.nil⟩] ∧ _) => hA
  obtain ⟨hA1, hA2⟩ := hA.out
  have hA3 := (Nat.lt_of_lt_of_le (show w.heap.size < _ by simp only [Nat.add_assoc]; exact Nat.lt_add_of_pos_right (by omega)) hA2)
  exact ⟨⟨_, _, _, _, by (go_simp; first | rfl | exact ⟨rfl, rfl, rfl, rfl⟩), AbIs.deep _ _ _ _ _ _ _ _ _ _ _ _ _ _ _ _ (zcn 1 0) [[23, 1, 0, 2]] (by rfl) (by rfl) (by rfl) (by rfl) (by rfl) (RowsV.grow (RowsV.off (b := w.heap.size) hA1 (Off.plus (Off.alloc (Off.plus (Off.base w _ _ _ rfl) _) _) _) (Nat.ne_of_gt hA3)) grI) (Nat.le_of_lt hA3), AbIs.plain _ _ _ _ _ _ _ _ _ _ _ _ _ _ _ (zcn 1 1) (by rfl) (by rfl) (by rfl) (by rfl) (by rfl), AbIs.plain _ _ _ _ _ _ _ _ _ _ _ _ _ _ _ (zcn 1 2) (by rfl) (HC.out.trans zgp) (by rfl) (by rfl) (by rfl), AbIs.plain _ _ _ _ _ _ _ _ _ _ _ _ _ _ _ (zcn 1 3) (by rfl) (HC2.out.trans z1p) (by rfl) (by rfl) (by rfl)⟩, grI⟩
set_option maxRecDepth 100000 in
set_option maxHeartbeats 2000000 in
theorem zj5 (w : World) : Calls Tryz.prog 208 #[] w fun r w' => Rel4 w' w.heap.size r 2 ∧ Grow w w' := by
 go_enter Tryz.func208, Tryz.ntmps208
 go_wp2_with (go_at_call 153; refine (za4 _ _ _ _ (by decide) (by decide)).mono ?_; rintro e' w' ⟨c0, c1, c2, c3, c4, c5, rfl, hc, nx, rfl⟩; have HC := Lib.hid hc; clear hc)
 go_region_law (first | (refine zak (by rfl) ?_; go_simp; go_at_call 244; refine (zbg _ _ _ _ _).mono ?_; rintro e' w' ⟨s1, rfl, ⟨hR, hb⟩, nx, rfl⟩; (try simp only [zad] at hR); (try simp only [zac] at hR); (try simp only [zad, zac] at hb); (try simp only [zao, zab, zaa] at hb); have HR := Lib.hid (And.intro hR hb); clear hR hb) | (refine zak (by rfl) ?_; go_simp; go_at_call 199; refine (zbl _ _ _ _ _).mono ?_; rintro e' w' ⟨rfl, nx, rfl⟩) | (refine zak (by rfl) ?_; go_simp; go_at_call 198; refine (zbo _ _ _).mono ?_; rintro e' w' ⟨rfl, nx, rfl⟩) | (refine zak (by rfl) ?_; go_simp; go_at_call 200; refine (za0 _ _ _ _ _ _ _ _ _ _).mono ?_; rintro e' w' ⟨rfl, nx, rfl⟩) | (refine zak (by rfl) ?_; go_simp; go_at_call 153; refine (za4 _ _ _ _ (by decide) (by decide)).mono ?_; rintro e' w' ⟨e0, e1, e2, e3, e4, e5, rfl, hc, nx, rfl⟩; have HC2 := Lib.hid hc; clear hc))
 all_goals go_wp2_with fail
 all_goals refine bodyPost_ret (zes rfl _ _ _ rfl ?_) rfl ?_
 all_goals first | (go_simp; done) | skip
 all_goals
  rename Hid (RowsV _ _ _ [EfV.arr ⟨10, -1, 0, 2, Sl.nil⟩] ∧ _) => hA
  obtain ⟨hA1, hA2⟩ := hA.out
  have hA3 := (Nat.lt_of_lt_of_le (show w.heap.size < _ by simp only [Nat.add_assoc]; exact Nat.lt_add_of_pos_right (by omega)) hA2)
  rename Hid (RowsV _ _ _ [EfV.arr ⟨24, 1, 1, 2, Sl.nil⟩] ∧ _) => hB
  obtain ⟨hB1, hB2⟩ := hB.out
  have hB3 := (Nat.lt_of_lt_of_le (show w.heap.size < _ by simp only [Nat.add_assoc]; exact Nat.lt_add_of_pos_right (by omega)) hB2)
  exact ⟨⟨_, _, _, _, by (go_simp; first | rfl | exact ⟨rfl, rfl, rfl, rfl⟩), AbIs.deep _ _ _ _ _ _ _ _ _ _ _ _ _ _ _ _ (zcn 2 0) [[10, -1, 0, 2]] (by rfl) (by rfl) (by rfl) (by rfl) (by rfl) (RowsV.grow (RowsV.off (b := w.heap.size) hA1 (Off.plus (Off.alloc (Off.plus (Off.base w _ _ _ rfl) _) _) _) (Nat.ne_of_gt hA3)) grI) (Nat.le_of_lt hA3), AbIs.plain _ _ _ _ _ _ _ _ _ _ _ _ _ _ _ (zcn 2 1) (by rfl) (by rfl) (by rfl) (by rfl) (by rfl), AbIs.plain _ _ _ _ _ _ _ _ _ _ _ _ _ _ _ (zcn 2 2) (by rfl) (HC.out.trans zgp) (by rfl) (by rfl) (by rfl), AbIs.deep _ _ _ _ _ _ _ _ _ _ _ _ _ _ _ _ (zcn 2 3) [[24, 1, 1, 2]] (by rfl) (by rfl) (by rfl) (by rfl) (by rfl) (RowsV.grow (RowsV.off (b := w.heap.size) hB1 (Off.plus (Off.alloc (Off.plus (Off.base w _ _ _ rfl) _) _) _) (Nat.ne_of_gt hB3)) grI) (Nat.le_of_lt hB3)⟩, grI⟩
set_option maxRecDepth 100000 in
set_option maxHeartbeats 2000000 in
theorem zmu (w : World) : Calls Tryz.prog 209 #[] w fun r w' => Rel4 w' w.heap.size r 3 ∧ Grow w w' := by
 go_enter Tryz.func209, Tryz.ntmps209
 go_wp2_with (go_at_call 153; refine (za4 _ _ _ _ (by decide) (by decide)).mono ?_; rintro e' w' ⟨c0, c1, c2, c3, c4, c5, rfl, hc, nx, rfl⟩; have HC := Lib.hid hc; clear hc)
 go_region_law (first | (refine zak (by rfl) ?_; go_simp; go_at_call 244; refine (zbg _ _ _ _ _).mono ?_; rintro e' w' ⟨s1, rfl, ⟨hR, hb⟩, nx, rfl⟩; (try simp only [zad] at hR); (try simp only [zac] at hR); (try simp only [zad, zac] at hb); (try simp only [zao, zab, zaa] at hb); have HR := Lib.hid (And.intro hR hb); clear hR hb) | (refine zak (by rfl) ?_; go_simp; go_at_call 199; refine (zbl _ _ _ _ _).mono ?_; rintro e' w' ⟨rfl, nx, rfl⟩) | (refine zak (by rfl) ?_; go_simp; go_at_call 198; refine (zbo _ _ _).mono ?_; rintro e' w' ⟨rfl, nx, rfl⟩) | (refine zak (by rfl) ?_; go_simp; go_at_call 200; refine (za0 _ _ _ _ _ _ _ _ _ _).mono ?_; rintro e' w' ⟨rfl, nx, rfl⟩) | (refine zak (by rfl) ?_; go_simp; go_at_call 153; refine (za4 _ _ _ _ (by decide) (by decide)).mono ?_; rintro e' w' ⟨e0, e1, e2, e3, e4, e5, rfl, hc, nx, rfl⟩; have HC2 := Lib.hid hc; clear hc))
 all_goals go_wp2_with fail
 all_goals refine bodyPost_ret (zes rfl _ _ _ rfl ?_) rfl ?_
 all_goals first | (go_simp; done) | skip
 all_goals
  rename Hid (RowsV _ _ _ [EfV.arr ⟨10, 1, 0, 2, Sl.nil⟩] ∧ _) => hA
  obtain ⟨hA1, hA2⟩ := hA.out
  have hA3 := (Nat.lt_of_lt_of_le (show w.heap.size < _ by simp only [Nat.add_assoc]; exact Nat.lt_add_of_pos_right (by omega)) hA2)
  exact ⟨⟨_, _, _, _, by (go_simp; first | rfl | exact ⟨rfl, rfl, rfl, rfl⟩), AbIs.deep _ _ _ _ _ _ _ _ _ _ _ _ _ _ _ _ (zcn 3 0) [[10, 1, 0, 2]] (by rfl) (by rfl) (by rfl) (by rfl) (by rfl) (RowsV.grow (RowsV.off (b := w.heap.size) hA1 (Off.plus (Off.alloc (Off.plus (Off.base w _ _ _ rfl) _) _) _) (Nat.ne_of_gt hA3)) grI) (Nat.le_of_lt hA3), AbIs.plain _ _ _ _ _ _ _ _ _ _ _ _ _ _ _ (zcn 3 1) (by rfl) (by rfl) (by rfl) (by rfl) (by rfl), AbIs.plain _ _ _ _ _ _ _ _ _ _ _ _ _ _ _ (zcn 3 2) (by rfl) (HC.out.trans zgp) (by rfl) (by rfl) (by rfl), AbIs.plain _ _ _ _ _ _ _ _ _ _ _ _ _ _ _ (zcn 3 3) (by rfl) (by rfl) (by rfl) (by rfl) (by rfl)⟩, grI⟩
set_option maxRecDepth 100000 in
set_option maxHeartbeats 2000000 in
theorem zkj (w : World) : Calls Tryz.prog 210 #[] w fun r w' => Rel4 w' w.heap.size r 4 ∧ Grow w w' := by
 go_enter Tryz.func210, Tryz.ntmps210
 go_wp2_with (go_at_call 153; refine (za4 _ _ _ _ (by decide) (by decide)).mono ?_; rintro e' w' ⟨c0, c1, c2, c3, c4, c5, rfl, hc, nx, rfl⟩; have HC := Lib.hid hc; clear hc)
 go_region_law (first | (refine zak (by rfl) ?_; go_simp; go_at_call 244; refine (zbg _ _ _ _ _).mono ?_; rintro e' w' ⟨s1, rfl, ⟨hR, hb⟩, nx, rfl⟩; (try simp only [zad] at hR); (try simp only [zac] at hR); (try simp only [zad, zac] at hb); (try simp only [zao, zab, zaa] at hb); have HR := Lib.hid (And.intro hR hb); clear hR hb) | (refine zak (by rfl) ?_; go_simp; go_at_call 199; refine (zbl _ _ _ _ _).mono ?_; rintro e' w' ⟨rfl, nx, rfl⟩) | (refine zak (by rfl) ?_; go_simp; go_at_call 198; refine (zbo _ _ _).mono ?_; rintro e' w' ⟨rfl, nx, rfl⟩) | (refine zak (by rfl) ?_; go_simp; go_at_call 200; refine (za0 _ _ _ _ _ _ _ _ _ _).mono ?_; rintro e' w' ⟨rfl, nx, rfl⟩) | (refine zak (by rfl) ?_; go_simp; go_at_call 153; refine (za4 _ _ _ _ (by decide) (by decide)).mono ?_; rintro e' w' ⟨e0, e1, e2, e3, e4, e5, rfl, hc, nx, rfl⟩; have HC2 := Lib.hid hc; clear hc))
 all_goals go_wp2_with fail
 all_goals refine bodyPost_ret (zes rfl _ _ _ rfl ?_) rfl ?_
 all_goals first | (go_simp; done) | skip
 all_goals
  rename Hid (RowsV _ _ _ [EfV.arr ⟨10, 1, 1, 2, Sl.nil⟩] ∧ _) => hA
  obtain ⟨hA1, hA2⟩ := hA.out
  have hA3 := (Nat.lt_of_lt_of_le (show w.heap.size < _ by simp only [Nat.add_assoc]; exact Nat.lt_add_of_pos_right (by omega)) hA2)
  exact ⟨⟨_, _, _, _, by (go_simp; first | rfl | exact ⟨rfl, rfl, rfl, rfl⟩), AbIs.deep _ _ _ _ _ _ _ _ _ _ _ _ _ _ _ _ (zcn 4 0) [[10, 1, 1, 2]] (by rfl) (by rfl) (by rfl) (by rfl) (by rfl) (RowsV.grow (RowsV.off (b := w.heap.size) hA1 (Off.plus (Off.alloc (Off.plus (Off.base w _ _ _ rfl) _) _) _) (Nat.ne_of_gt hA3)) grI) (Nat.le_of_lt hA3), AbIs.plain _ _ _ _ _ _ _ _ _ _ _ _ _ _ _ (zcn 4 1) (by rfl) (by rfl) (by rfl) (by rfl) (by rfl), AbIs.plain _ _ _ _ _ _ _ _ _ _ _ _ _ _ _ (zcn 4 2) (by rfl) (HC.out.trans zgp) (by rfl) (by rfl) (by rfl), AbIs.plain _ _ _ _ _ _ _ _ _ _ _ _ _ _ _ (zcn 4 3) (by rfl) (by rfl) (by rfl) (by rfl) (by rfl)⟩, grI⟩
end Go.Proofs.YtgobdndjemicjaaGreatDoor
