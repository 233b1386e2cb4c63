/-
  The document's spells and relics.
-/
import Derived.Test.YtnjclibennadcaaGreatDoorMRef08g
namespace Go.Proofs.YtnjclibennadcaaGreatDoor
open Go Go.RowKit

set_option maxRecDepth 100000 in
set_option maxHeartbeats 8000000 in
theorem c08_spell0 (w : World) (k : Nat) (hk : k < 6) : Calls Tryz.prog 96 #[.int .i64 (5 * (k : Int) + 50)] w fun r w' => Card08 w w' r (cardF (5 * k + 50)) := by
  have HC0 : Hid (cardF (5 * k + 50) = spellF 0 k) := by
    rw [Hid, cardF, if_neg (by omega), if_neg (by omega), if_neg (by omega), if_pos (by omega), show (5 * k + 50 - 50) % 5 = 0 by omega, show (5 * k + 50 - 50) / 5 = k by omega]
  have q1 : (5 * (k : Int) + 50 - 50) / 5 = k := by omega
  have q1' : (5 * (k : Int)) / 5 = k := by omega
  have e9 : 5 * (k : Int) + 50 - 50 = 5 * (k : Int) := by omega
  have q2 : (5 * (k : Int) + 50) % 5 = 0 := by omega
  have hk6 : (k : Int) < 6 := by omega
  obtain ⟨q, hq, hrow⟩ := magic_rows (5 * k) (by omega)
  have hat := magic_at (5 * k) (by omega)
  have HC : Hid (cardF (5 * k + 50) = ⟨2, 0, k % 2 == 0, [1, 0, 0, 0, 0, (k : Int)], 0, 0, 0, [⟨0, noCost, false, gt (magicL.getD (5 * k) []) 0, effL ((magicL.getD (5 * k) []).drop 1)⟩]⟩) := by rw [Hid, HC0.out]; simp [spellF, oneCost, noCost]
  generalize magicL.getD (5 * k) [] = row at *
  have HAT := Lib.hid hat
  have e0 : (0 : Int) ≤ 5 * (k : Int) := by omega
  have e1 : 5 * (k : Int) < 30 := by omega
  have e2 : (5 * (k : Int)).toNat = 5 * k := by omega
  have e3 : ((k : Int) % 2 == 0) = (k % 2 == 0) := by rcases Nat.mod_two_eq_zero_or_one k with h | h <;> simp [h] <;> omega
  clear hat
  go_enter Tryz.func96, Tryz.ntmps96
  go_wp2_with (go_at_call 158; refine (magic08_any _).mono ?_; rintro e' w' ⟨s, rfl, hs, nx, rfl⟩; obtain ⟨sl, hb0, hb1, hb2⟩ := hs.row _ _ HAT.out; have hsn : s.n = 30 := hs.len; have HB := Lib.hid (And.intro hb0 hb2); clear hb0 hb2 hs)
  have hnl := HB.out.2.len
  have hb := HB.out.1
  simp only [alloc_size'] at hb
  have n0 : 0 < sl.n := by omega
  have n1 : (1 : Int) ≤ sl.n := by omega
  have hI : Ints (((w.alloc (.cells (CdV.arr ⟨0, 0, false, 0, 0, 0, 0, 0, 0, 0, 0, 0, .nil⟩) 73)).alloc (.cells (CdV.arr ⟨2, 0, k % 2 == 0, 1, 0, 0, 0, 0, (k : Int), 0, 0, 0, .nil⟩) 73)).plus nx) sl row := HB.out.2.off (b := w.heap.size + 1) (by repeat (first | exact Off.base _ _ _ _ (alloc_size' _ _).symm | refine Off.plus ?_ _ | refine Off.alloc ?_ _)) (fun _ => by omega)
  have hc0 : (((w.alloc (.cells (CdV.arr ⟨0, 0, false, 0, 0, 0, 0, 0, 0, 0, 0, 0, .nil⟩) 73)).alloc (.cells (CdV.arr ⟨2, 0, k % 2 == 0, 1, 0, 0, 0, 0, (k : Int), 0, 0, 0, .nil⟩) 73)).plus nx).cell? ⟨sl.b, sl.o, none⟩ = some (.int .i64 (gt row 0)) := (hI.at 0 (by omega)).2
  have hbs : sl.b < w.heap.size + 1 + 1 + nx.objs.size := by have := (hI.at 0 (by omega)).1; simp only [plus_size, alloc_size'] at this; exact this
  have HI := Lib.hid hI
  have HE := Lib.hid (fun W (g : Grow (((w.alloc (.cells (CdV.arr ⟨0, 0, false, 0, 0, 0, 0, 0, 0, 0, 0, 0, .nil⟩) 73)).alloc (.cells (CdV.arr ⟨2, 0, k % 2 == 0, 1, 0, 0, 0, 0, (k : Int), 0, 0, 0, .nil⟩) 73)).plus nx) W) => effect08_any W (sl.aft 1) (row.drop 1) ((HI.out.grow g).aft 1 (by omega)) q (by simp; omega) (by omega))
  clear hI HB hnl hrow hb1 e0 e1 e2 q1 q1' q2 e9
  have hn1 : ¬ sl.b = w.heap.size := by omega
  have hn2 : ¬ sl.b = w.heap.size + 1 := by omega
  go_region_held3 (fun W => W.cell? ⟨sl.b, sl.o, none⟩ = some (.int .i64 (gt row 0))) (first | exact cell_turn (B := (.cells (CdV.arr ⟨2, 0, k % 2 == 0, 1, 0, 0, 0, 0, (k : Int), 0, 0, 0, .nil⟩) 73)) (cell_grow grI hc0) hn2 | exact cell_grow grI hc0) (first | (go_at_call 159; refine (HE.out _ grI).mono ?_; rintro e' w' ⟨x, rfl, hx, nx2, rfl⟩; (try simp only [drew_plus] at hx); (try simp only [plus_plus] at hx); have HX := Lib.hid hx; clear hx))
  all_goals
    go_wp2_with fail
    refine bodyPost_ret (results2_Card rfl _ _ _ rfl ?_) rfl ?_
    · go_simp
    rw [HC.out]
    refine ⟨_, (by go_simp; rfl), ⟨rfl, rfl, rfl, rfl, rfl, rfl, rfl, ?_⟩, grI⟩
    refine ⟨[_], RowsV.one (x := AbV.arr _) (by go_simp) (by go_simp; rfl) (by go_simp), .inr (by first | (go_simp; done) | (go_simp; omega) | (simp only [Sl.b]; go_simp; omega)), .cons ⟨rfl, rfl, rfl, rfl, ?_⟩ .nil⟩
    exact ((HX.out.turn (by simp only [drew_size', plus_size, alloc_size']; omega)).less (by simp only [drew_size', plus_size, alloc_size']; omega)).grow grI
set_option maxRecDepth 100000 in
set_option maxHeartbeats 8000000 in
theorem c08_spell1 (w : World) (k : Nat) (hk : k < 6) : Calls Tryz.prog 96 #[.int .i64 (5 * (k : Int) + 51)] w fun r w' => Card08 w w' r (cardF (5 * k + 51)) := by
  have HC0 : Hid (cardF (5 * k + 51) = spellF 1 k) := by
    rw [Hid, cardF, if_neg (by omega), if_neg (by omega), if_neg (by omega), if_pos (by omega), show (5 * k + 51 - 50) % 5 = 1 by omega, show (5 * k + 51 - 50) / 5 = k by omega]
  have q1 : (5 * (k : Int) + 51 - 50) / 5 = k := by omega
  have q1' : (5 * (k : Int) + 1) / 5 = k := by omega
  have e9 : 5 * (k : Int) + 51 - 50 = 5 * (k : Int) + 1 := by omega
  have q2 : (5 * (k : Int) + 51) % 5 = 1 := by omega
  have hk6 : (k : Int) < 6 := by omega
  obtain ⟨q, hq, hrow⟩ := magic_rows (5 * k + 1) (by omega)
  have hat := magic_at (5 * k + 1) (by omega)
  have HC : Hid (cardF (5 * k + 51) = ⟨2, 1, k % 2 == 0, [0, 1, 0, 0, 0, (k : Int)], 0, 0, 0, [⟨0, noCost, false, gt (magicL.getD (5 * k + 1) []) 0, effL ((magicL.getD (5 * k + 1) []).drop 1)⟩]⟩) := by rw [Hid, HC0.out]; simp [spellF, oneCost, noCost]
  generalize magicL.getD (5 * k + 1) [] = row at *
  have HAT := Lib.hid hat
  have e0 : (0 : Int) ≤ 5 * (k : Int) + 1 := by omega
  have e1 : 5 * (k : Int) + 1 < 30 := by omega
  have e2 : (5 * (k : Int) + 1).toNat = 5 * k + 1 := by omega
  have e3 : ((k : Int) % 2 == 0) = (k % 2 == 0) := by rcases Nat.mod_two_eq_zero_or_one k with h | h <;> simp [h] <;> omega
  clear hat
  go_enter Tryz.func96, Tryz.ntmps96
  go_wp2_with (go_at_call 158; refine (magic08_any _).mono ?_; rintro e' w' ⟨s, rfl, hs, nx, rfl⟩; obtain ⟨sl, hb0, hb1, hb2⟩ := hs.row _ _ HAT.out; have hsn : s.n = 30 := hs.len; have HB := Lib.hid (And.intro hb0 hb2); clear hb0 hb2 hs)
  have hnl := HB.out.2.len
  have hb := HB.out.1
  simp only [alloc_size'] at hb
  have n0 : 0 < sl.n := by omega
  have n1 : (1 : Int) ≤ sl.n := by omega
  have hI : Ints (((w.alloc (.cells (CdV.arr ⟨0, 0, false, 0, 0, 0, 0, 0, 0, 0, 0, 0, .nil⟩) 73)).alloc (.cells (CdV.arr ⟨2, 1, k % 2 == 0, 0, 1, 0, 0, 0, (k : Int), 0, 0, 0, .nil⟩) 73)).plus nx) sl row := HB.out.2.off (b := w.heap.size + 1) (by repeat (first | exact Off.base _ _ _ _ (alloc_size' _ _).symm | refine Off.plus ?_ _ | refine Off.alloc ?_ _)) (fun _ => by omega)
  have hc0 : (((w.alloc (.cells (CdV.arr ⟨0, 0, false, 0, 0, 0, 0, 0, 0, 0, 0, 0, .nil⟩) 73)).alloc (.cells (CdV.arr ⟨2, 1, k % 2 == 0, 0, 1, 0, 0, 0, (k : Int), 0, 0, 0, .nil⟩) 73)).plus nx).cell? ⟨sl.b, sl.o, none⟩ = some (.int .i64 (gt row 0)) := (hI.at 0 (by omega)).2
  have hbs : sl.b < w.heap.size + 1 + 1 + nx.objs.size := by have := (hI.at 0 (by omega)).1; simp only [plus_size, alloc_size'] at this; exact this
  have HI := Lib.hid hI
  have HE := Lib.hid (fun W (g : Grow (((w.alloc (.cells (CdV.arr ⟨0, 0, false, 0, 0, 0, 0, 0, 0, 0, 0, 0, .nil⟩) 73)).alloc (.cells (CdV.arr ⟨2, 1, k % 2 == 0, 0, 1, 0, 0, 0, (k : Int), 0, 0, 0, .nil⟩) 73)).plus nx) W) => effect08_any W (sl.aft 1) (row.drop 1) ((HI.out.grow g).aft 1 (by omega)) q (by simp; omega) (by omega))
  clear hI HB hnl hrow hb1 e0 e1 e2 q1 q1' q2 e9
  have hn1 : ¬ sl.b = w.heap.size := by omega
  have hn2 : ¬ sl.b = w.heap.size + 1 := by omega
  go_region_held3 (fun W => W.cell? ⟨sl.b, sl.o, none⟩ = some (.int .i64 (gt row 0))) (first | exact cell_turn (B := (.cells (CdV.arr ⟨2, 1, k % 2 == 0, 0, 1, 0, 0, 0, (k : Int), 0, 0, 0, .nil⟩) 73)) (cell_grow grI hc0) hn2 | exact cell_grow grI hc0) (first | (go_at_call 159; refine (HE.out _ grI).mono ?_; rintro e' w' ⟨x, rfl, hx, nx2, rfl⟩; (try simp only [drew_plus] at hx); (try simp only [plus_plus] at hx); have HX := Lib.hid hx; clear hx))
  all_goals
    go_wp2_with fail
    refine bodyPost_ret (results2_Card rfl _ _ _ rfl ?_) rfl ?_
    · go_simp
    rw [HC.out]
    refine ⟨_, (by go_simp; rfl), ⟨rfl, rfl, rfl, rfl, rfl, rfl, rfl, ?_⟩, grI⟩
    refine ⟨[_], RowsV.one (x := AbV.arr _) (by go_simp) (by go_simp; rfl) (by go_simp), .inr (by first | (go_simp; done) | (go_simp; omega) | (simp only [Sl.b]; go_simp; omega)), .cons ⟨rfl, rfl, rfl, rfl, ?_⟩ .nil⟩
    exact ((HX.out.turn (by simp only [drew_size', plus_size, alloc_size']; omega)).less (by simp only [drew_size', plus_size, alloc_size']; omega)).grow grI
set_option maxRecDepth 100000 in
set_option maxHeartbeats 8000000 in
theorem c08_spell2 (w : World) (k : Nat) (hk : k < 6) : Calls Tryz.prog 96 #[.int .i64 (5 * (k : Int) + 52)] w fun r w' => Card08 w w' r (cardF (5 * k + 52)) := by
  have HC0 : Hid (cardF (5 * k + 52) = spellF 2 k) := by
    rw [Hid, cardF, if_neg (by omega), if_neg (by omega), if_neg (by omega), if_pos (by omega), show (5 * k + 52 - 50) % 5 = 2 by omega, show (5 * k + 52 - 50) / 5 = k by omega]
  have q1 : (5 * (k : Int) + 52 - 50) / 5 = k := by omega
  have q1' : (5 * (k : Int) + 2) / 5 = k := by omega
  have e9 : 5 * (k : Int) + 52 - 50 = 5 * (k : Int) + 2 := by omega
  have q2 : (5 * (k : Int) + 52) % 5 = 2 := by omega
  have hk6 : (k : Int) < 6 := by omega
  obtain ⟨q, hq, hrow⟩ := magic_rows (5 * k + 2) (by omega)
  have hat := magic_at (5 * k + 2) (by omega)
  have HC : Hid (cardF (5 * k + 52) = ⟨2, 2, k % 2 == 0, [0, 0, 1, 0, 0, (k : Int)], 0, 0, 0, [⟨0, noCost, false, gt (magicL.getD (5 * k + 2) []) 0, effL ((magicL.getD (5 * k + 2) []).drop 1)⟩]⟩) := by rw [Hid, HC0.out]; simp [spellF, oneCost, noCost]
  generalize magicL.getD (5 * k + 2) [] = row at *
  have HAT := Lib.hid hat
  have e0 : (0 : Int) ≤ 5 * (k : Int) + 2 := by omega
  have e1 : 5 * (k : Int) + 2 < 30 := by omega
  have e2 : (5 * (k : Int) + 2).toNat = 5 * k + 2 := by omega
  have e3 : ((k : Int) % 2 == 0) = (k % 2 == 0) := by rcases Nat.mod_two_eq_zero_or_one k with h | h <;> simp [h] <;> omega
  clear hat
  go_enter Tryz.func96, Tryz.ntmps96
  go_wp2_with (go_at_call 158; refine (magic08_any _).mono ?_; rintro e' w' ⟨s, rfl, hs, nx, rfl⟩; obtain ⟨sl, hb0, hb1, hb2⟩ := hs.row _ _ HAT.out; have hsn : s.n = 30 := hs.len; have HB := Lib.hid (And.intro hb0 hb2); clear hb0 hb2 hs)
  have hnl := HB.out.2.len
  have hb := HB.out.1
  simp only [alloc_size'] at hb
  have n0 : 0 < sl.n := by omega
  have n1 : (1 : Int) ≤ sl.n := by omega
  have hI : Ints (((w.alloc (.cells (CdV.arr ⟨0, 0, false, 0, 0, 0, 0, 0, 0, 0, 0, 0, .nil⟩) 73)).alloc (.cells (CdV.arr ⟨2, 2, k % 2 == 0, 0, 0, 1, 0, 0, (k : Int), 0, 0, 0, .nil⟩) 73)).plus nx) sl row := HB.out.2.off (b := w.heap.size + 1) (by repeat (first | exact Off.base _ _ _ _ (alloc_size' _ _).symm | refine Off.plus ?_ _ | refine Off.alloc ?_ _)) (fun _ => by omega)
  have hc0 : (((w.alloc (.cells (CdV.arr ⟨0, 0, false, 0, 0, 0, 0, 0, 0, 0, 0, 0, .nil⟩) 73)).alloc (.cells (CdV.arr ⟨2, 2, k % 2 == 0, 0, 0, 1, 0, 0, (k : Int), 0, 0, 0, .nil⟩) 73)).plus nx).cell? ⟨sl.b, sl.o, none⟩ = some (.int .i64 (gt row 0)) := (hI.at 0 (by omega)).2
  have hbs : sl.b < w.heap.size + 1 + 1 + nx.objs.size := by have := (hI.at 0 (by omega)).1; simp only [plus_size, alloc_size'] at this; exact this
  have HI := Lib.hid hI
  have HE := Lib.hid (fun W (g : Grow (((w.alloc (.cells (CdV.arr ⟨0, 0, false, 0, 0, 0, 0, 0, 0, 0, 0, 0, .nil⟩) 73)).alloc (.cells (CdV.arr ⟨2, 2, k % 2 == 0, 0, 0, 1, 0, 0, (k : Int), 0, 0, 0, .nil⟩) 73)).plus nx) W) => effect08_any W (sl.aft 1) (row.drop 1) ((HI.out.grow g).aft 1 (by omega)) q (by simp; omega) (by omega))
  clear hI HB hnl hrow hb1 e0 e1 e2 q1 q1' q2 e9
  have hn1 : ¬ sl.b = w.heap.size := by omega
  have hn2 : ¬ sl.b = w.heap.size + 1 := by omega
  go_region_held3 (fun W => W.cell? ⟨sl.b, sl.o, none⟩ = some (.int .i64 (gt row 0))) (first | exact cell_turn (B := (.cells (CdV.arr ⟨2, 2, k % 2 == 0, 0, 0, 1, 0, 0, (k : Int), 0, 0, 0, .nil⟩) 73)) (cell_grow grI hc0) hn2 | exact cell_grow grI hc0) (first | (go_at_call 159; refine (HE.out _ grI).mono ?_; rintro e' w' ⟨x, rfl, hx, nx2, rfl⟩; (try simp only [drew_plus] at hx); (try simp only [plus_plus] at hx); have HX := Lib.hid hx; clear hx))
  all_goals
    go_wp2_with fail
    refine bodyPost_ret (results2_Card rfl _ _ _ rfl ?_) rfl ?_
    · go_simp
    rw [HC.out]
    refine ⟨_, (by go_simp; rfl), ⟨rfl, rfl, rfl, rfl, rfl, rfl, rfl, ?_⟩, grI⟩
    refine ⟨[_], RowsV.one (x := AbV.arr _) (by go_simp) (by go_simp; rfl) (by go_simp), .inr (by first | (go_simp; done) | (go_simp; omega) | (simp only [Sl.b]; go_simp; omega)), .cons ⟨rfl, rfl, rfl, rfl, ?_⟩ .nil⟩
    exact ((HX.out.turn (by simp only [drew_size', plus_size, alloc_size']; omega)).less (by simp only [drew_size', plus_size, alloc_size']; omega)).grow grI
set_option maxRecDepth 100000 in
set_option maxHeartbeats 8000000 in
theorem c08_spell3 (w : World) (k : Nat) (hk : k < 6) : Calls Tryz.prog 96 #[.int .i64 (5 * (k : Int) + 53)] w fun r w' => Card08 w w' r (cardF (5 * k + 53)) := by
  have HC0 : Hid (cardF (5 * k + 53) = spellF 3 k) := by
    rw [Hid, cardF, if_neg (by omega), if_neg (by omega), if_neg (by omega), if_pos (by omega), show (5 * k + 53 - 50) % 5 = 3 by omega, show (5 * k + 53 - 50) / 5 = k by omega]
  have q1 : (5 * (k : Int) + 53 - 50) / 5 = k := by omega
  have q1' : (5 * (k : Int) + 3) / 5 = k := by omega
  have e9 : 5 * (k : Int) + 53 - 50 = 5 * (k : Int) + 3 := by omega
  have q2 : (5 * (k : Int) + 53) % 5 = 3 := by omega
  have hk6 : (k : Int) < 6 := by omega
  obtain ⟨q, hq, hrow⟩ := magic_rows (5 * k + 3) (by omega)
  have hat := magic_at (5 * k + 3) (by omega)
  have HC : Hid (cardF (5 * k + 53) = ⟨2, 3, k % 2 == 0, [0, 0, 0, 1, 0, (k : Int)], 0, 0, 0, [⟨0, noCost, false, gt (magicL.getD (5 * k + 3) []) 0, effL ((magicL.getD (5 * k + 3) []).drop 1)⟩]⟩) := by rw [Hid, HC0.out]; simp [spellF, oneCost, noCost]
  generalize magicL.getD (5 * k + 3) [] = row at *
  have HAT := Lib.hid hat
  have e0 : (0 : Int) ≤ 5 * (k : Int) + 3 := by omega
  have e1 : 5 * (k : Int) + 3 < 30 := by omega
  have e2 : (5 * (k : Int) + 3).toNat = 5 * k + 3 := by omega
  have e3 : ((k : Int) % 2 == 0) = (k % 2 == 0) := by rcases Nat.mod_two_eq_zero_or_one k with h | h <;> simp [h] <;> omega
  clear hat
  go_enter Tryz.func96, Tryz.ntmps96
  go_wp2_with (go_at_call 158; refine (magic08_any _).mono ?_; rintro e' w' ⟨s, rfl, hs, nx, rfl⟩; obtain ⟨sl, hb0, hb1, hb2⟩ := hs.row _ _ HAT.out; have hsn : s.n = 30 := hs.len; have HB := Lib.hid (And.intro hb0 hb2); clear hb0 hb2 hs)
  have hnl := HB.out.2.len
  have hb := HB.out.1
  simp only [alloc_size'] at hb
  have n0 : 0 < sl.n := by omega
  have n1 : (1 : Int) ≤ sl.n := by omega
  have hI : Ints (((w.alloc (.cells (CdV.arr ⟨0, 0, false, 0, 0, 0, 0, 0, 0, 0, 0, 0, .nil⟩) 73)).alloc (.cells (CdV.arr ⟨2, 3, k % 2 == 0, 0, 0, 0, 1, 0, (k : Int), 0, 0, 0, .nil⟩) 73)).plus nx) sl row := HB.out.2.off (b := w.heap.size + 1) (by repeat (first | exact Off.base _ _ _ _ (alloc_size' _ _).symm | refine Off.plus ?_ _ | refine Off.alloc ?_ _)) (fun _ => by omega)
  have hc0 : (((w.alloc (.cells (CdV.arr ⟨0, 0, false, 0, 0, 0, 0, 0, 0, 0, 0, 0, .nil⟩) 73)).alloc (.cells (CdV.arr ⟨2, 3, k % 2 == 0, 0, 0, 0, 1, 0, (k : Int), 0, 0, 0, .nil⟩) 73)).plus nx).cell? ⟨sl.b, sl.o, none⟩ = some (.int .i64 (gt row 0)) := (hI.at 0 (by omega)).2
  have hbs : sl.b < w.heap.size + 1 + 1 + nx.objs.size := by have := (hI.at 0 (by omega)).1; simp only [plus_size, alloc_size'] at this; exact this
  have HI := Lib.hid hI
  have HE := Lib.hid (fun W (g : Grow (((w.alloc (.cells (CdV.arr ⟨0, 0, false, 0, 0, 0, 0, 0, 0, 0, 0, 0, .nil⟩) 73)).alloc (.cells (CdV.arr ⟨2, 3, k % 2 == 0, 0, 0, 0, 1, 0, (k : Int), 0, 0, 0, .nil⟩) 73)).plus nx) W) => effect08_any W (sl.aft 1) (row.drop 1) ((HI.out.grow g).aft 1 (by omega)) q (by simp; omega) (by omega))
  clear hI HB hnl hrow hb1 e0 e1 e2 q1 q1' q2 e9
  have hn1 : ¬ sl.b = w.heap.size := by omega
  have hn2 : ¬ sl.b = w.heap.size + 1 := by omega
  go_region_held3 (fun W => W.cell? ⟨sl.b, sl.o, none⟩ = some (.int .i64 (gt row 0))) (first | exact cell_turn (B := (.cells (CdV.arr ⟨2, 3, k % 2 == 0, 0, 0, 0, 1, 0, (k : Int), 0, 0, 0, .nil⟩) 73)) (cell_grow grI hc0) hn2 | exact cell_grow grI hc0) (first | (go_at_call 159; refine (HE.out _ grI).mono ?_; rintro e' w' ⟨x, rfl, hx, nx2, rfl⟩; (try simp only [drew_plus] at hx); (try simp only [plus_plus] at hx); have HX := Lib.hid hx; clear hx))
  all_goals
    go_wp2_with fail
    refine bodyPost_ret (results2_Card rfl _ _ _ rfl ?_) rfl ?_
    · go_simp
    rw [HC.out]
    refine ⟨_, (by go_simp; rfl), ⟨rfl, rfl, rfl, rfl, rfl, rfl, rfl, ?_⟩, grI⟩
    refine ⟨[_], RowsV.one (x := AbV.arr _) (by go_simp) (by go_simp; rfl) (by go_simp), .inr (by first | (go_simp; done) | (go_simp; omega) | (simp only [Sl.b]; go_simp; omega)), .cons ⟨rfl, rfl, rfl, rfl, ?_⟩ .nil⟩
    exact ((HX.out.turn (by simp only [drew_size', plus_size, alloc_size']; omega)).less (by simp only [drew_size', plus_size, alloc_size']; omega)).grow grI
set_option maxRecDepth 100000 in
set_option maxHeartbeats 8000000 in
theorem c08_spell4 (w : World) (k : Nat) (hk : k < 6) : Calls Tryz.prog 96 #[.int .i64 (5 * (k : Int) + 54)] w fun r w' => Card08 w w' r (cardF (5 * k + 54)) := by
  have HC0 : Hid (cardF (5 * k + 54) = spellF 4 k) := by
    rw [Hid, cardF, if_neg (by omega), if_neg (by omega), if_neg (by omega), if_pos (by omega), show (5 * k + 54 - 50) % 5 = 4 by omega, show (5 * k + 54 - 50) / 5 = k by omega]
  have q1 : (5 * (k : Int) + 54 - 50) / 5 = k := by omega
  have q1' : (5 * (k : Int) + 4) / 5 = k := by omega
  have e9 : 5 * (k : Int) + 54 - 50 = 5 * (k : Int) + 4 := by omega
  have q2 : (5 * (k : Int) + 54) % 5 = 4 := by omega
  have hk6 : (k : Int) < 6 := by omega
  obtain ⟨q, hq, hrow⟩ := magic_rows (5 * k + 4) (by omega)
  have hat := magic_at (5 * k + 4) (by omega)
  have HC : Hid (cardF (5 * k + 54) = ⟨2, 4, k % 2 == 0, [0, 0, 0, 0, 1, (k : Int)], 0, 0, 0, [⟨0, noCost, false, gt (magicL.getD (5 * k + 4) []) 0, effL ((magicL.getD (5 * k + 4) []).drop 1)⟩]⟩) := by rw [Hid, HC0.out]; simp [spellF, oneCost, noCost]
  generalize magicL.getD (5 * k + 4) [] = row at *
  have HAT := Lib.hid hat
  have e0 : (0 : Int) ≤ 5 * (k : Int) + 4 := by omega
  have e1 : 5 * (k : Int) + 4 < 30 := by omega
  have e2 : (5 * (k : Int) + 4).toNat = 5 * k + 4 := by omega
  have e3 : ((k : Int) % 2 == 0) = (k % 2 == 0) := by rcases Nat.mod_two_eq_zero_or_one k with h | h <;> simp [h] <;> omega
  clear hat
  go_enter Tryz.func96, Tryz.ntmps96
  go_wp2_with (go_at_call 158; refine (magic08_any _).mono ?_; rintro e' w' ⟨s, rfl, hs, nx, rfl⟩; obtain ⟨sl, hb0, hb1, hb2⟩ := hs.row _ _ HAT.out; have hsn : s.n = 30 := hs.len; have HB := Lib.hid (And.intro hb0 hb2); clear hb0 hb2 hs)
  have hnl := HB.out.2.len
  have hb := HB.out.1
  simp only [alloc_size'] at hb
  have n0 : 0 < sl.n := by omega
  have n1 : (1 : Int) ≤ sl.n := by omega
  have hI : Ints (((w.alloc (.cells (CdV.arr ⟨0, 0, false, 0, 0, 0, 0, 0, 0, 0, 0, 0, .nil⟩) 73)).alloc (.cells (CdV.arr ⟨2, 4, k % 2 == 0, 0, 0, 0, 0, 1, (k : Int), 0, 0, 0, .nil⟩) 73)).plus nx) sl row := HB.out.2.off (b := w.heap.size + 1) (by repeat (first | exact Off.base _ _ _ _ (alloc_size' _ _).symm | refine Off.plus ?_ _ | refine Off.alloc ?_ _)) (fun _ => by omega)
  have hc0 : (((w.alloc (.cells (CdV.arr ⟨0, 0, false, 0, 0, 0, 0, 0, 0, 0, 0, 0, .nil⟩) 73)).alloc (.cells (CdV.arr ⟨2, 4, k % 2 == 0, 0, 0, 0, 0, 1, (k : Int), 0, 0, 0, .nil⟩) 73)).plus nx).cell? ⟨sl.b, sl.o, none⟩ = some (.int .i64 (gt row 0)) := (hI.at 0 (by omega)).2
  have hbs : sl.b < w.heap.size + 1 + 1 + nx.objs.size := by have := (hI.at 0 (by omega)).1; simp only [plus_size, alloc_size'] at this; exact this
  have HI := Lib.hid hI
  have HE := Lib.hid (fun W (g : Grow (((w.alloc (.cells (CdV.arr ⟨0, 0, false, 0, 0, 0, 0, 0, 0, 0, 0, 0, .nil⟩) 73)).alloc (.cells (CdV.arr ⟨2, 4, k % 2 == 0, 0, 0, 0, 0, 1, (k : Int), 0, 0, 0, .nil⟩) 73)).plus nx) W) => effect08_any W (sl.aft 1) (row.drop 1) ((HI.out.grow g).aft 1 (by omega)) q (by simp; omega) (by omega))
  clear hI HB hnl hrow hb1 e0 e1 e2 q1 q1' q2 e9
  have hn1 : ¬ sl.b = w.heap.size := by omega
  have hn2 : ¬ sl.b = w.heap.size + 1 := by omega
  go_region_held3 (fun W => W.cell? ⟨sl.b, sl.o, none⟩ = some (.int .i64 (gt row 0))) (first | exact cell_turn (B := (.cells (CdV.arr ⟨2, 4, k % 2 == 0, 0, 0, 0, 0, 1, (k : Int), 0, 0, 0, .nil⟩) 73)) (cell_grow grI hc0) hn2 | exact cell_grow grI hc0) (first | (go_at_call 159; refine (HE.out _ grI).mono ?_; rintro e' w' ⟨x, rfl, hx, nx2, rfl⟩; (try simp only [drew_plus] at hx); (try simp only [plus_plus] at hx); have HX := Lib.hid hx; clear hx))
  all_goals
    go_wp2_with fail
    refine bodyPost_ret (results2_Card rfl _ _ _ rfl ?_) rfl ?_
    · go_simp
    rw [HC.out]
    refine ⟨_, (by go_simp; rfl), ⟨rfl, rfl, rfl, rfl, rfl, rfl, rfl, ?_⟩, grI⟩
    refine ⟨[_], RowsV.one (x := AbV.arr _) (by go_simp) (by go_simp; rfl) (by go_simp), .inr (by first | (go_simp; done) | (go_simp; omega) | (simp only [Sl.b]; go_simp; omega)), .cons ⟨rfl, rfl, rfl, rfl, ?_⟩ .nil⟩
    exact ((HX.out.turn (by simp only [drew_size', plus_size, alloc_size']; omega)).less (by simp only [drew_size', plus_size, alloc_size']; omega)).grow grI
set_option maxRecDepth 100000 in
set_option maxHeartbeats 8000000 in
theorem c08_relic0 (w : World) (k : Nat) (hk : k < 4) : Calls Tryz.prog 96 #[.int .i64 (5 * (k : Int) + 80)] w fun r w' => Card08 w w' r (cardF (5 * k + 80)) := by
  have HC0 : Hid (cardF (5 * k + 80) = relicF 0 k) := by
    rw [Hid, cardF, if_neg (by omega), if_neg (by omega), if_neg (by omega), if_neg (by omega), if_pos (by omega), show (5 * k + 80 - 80) % 5 = 0 by omega, show (5 * k + 80 - 80) / 5 = k by omega]
  have q1 : (5 * (k : Int) + 80 - 80) / 5 = k := by omega
  have q1' : (5 * (k : Int)) / 5 = k := by omega
  have e9 : 5 * (k : Int) + 80 - 80 = 5 * (k : Int) := by omega
  have q2 : (5 * (k : Int) + 80) % 5 = 0 := by omega
  have hk6 : (k : Int) < 4 := by omega
  obtain ⟨q, hq, hrow, hab⟩ := relic_rows (5 * k) (by omega)
  have hat := relic_at (5 * k) (by omega)
  have HC : Hid (cardF (5 * k + 80) = ⟨3, 0, false, [1, 0, 0, 0, 0, (k : Int) + 1], 0, 0, 0, [abL (relicL.getD (5 * k) [])]⟩) := by rw [Hid, HC0.out]; simp [relicF, oneCost, noCost]
  generalize relicL.getD (5 * k) [] = row at *
  have HAT := Lib.hid hat
  have HRow := Lib.hid (And.intro hq (And.intro hrow hab))
  have e0 : (0 : Int) ≤ 5 * (k : Int) := by omega
  have e1 : 5 * (k : Int) < 20 := by omega
  have e2 : (5 * (k : Int)).toNat = 5 * k := by omega
  clear hat hrow hab hq
  go_enter Tryz.func96, Tryz.ntmps96
  go_wp2_with (first | (go_at_call 161; refine (relic08_any _).mono ?_; rintro e' w' ⟨s, rfl, hs, nx, rfl⟩; obtain ⟨sl, hb0, hb1, hb2⟩ := hs.row _ _ HAT.out; have hsn : s.n = 20 := hs.len; have HB := Lib.hid (And.intro hb0 hb2); clear hb0 hb2 hs) | (go_at_call 160; refine (ability08_any _ sl row (HB.out.2.grow grI) q HRow.out.2.1 (by have := HRow.out.1; omega) HRow.out.2.2).mono ?_; rintro e' w' ⟨a, rfl, ha, nx2, rfl⟩; (try simp only [drew_plus] at ha); (try simp only [plus_plus] at ha); have HA := Lib.hid ha; clear ha))
  refine bodyPost_ret (results2_Card rfl _ _ _ rfl ?_) rfl ?_
  · go_simp
  rw [HC.out]
  refine ⟨_, (by go_simp; rfl), ⟨rfl, rfl, rfl, rfl, rfl, rfl, rfl, ?_⟩, grI⟩
  refine ⟨[_], RowsV.one (x := AbV.arr _) (by go_simp) (by go_simp; rfl) (by go_simp), .inr (by first | (go_simp; done) | (go_simp; omega) | (simp only [Sl.b]; go_simp; omega)), .cons ?_ .nil⟩
  exact ((HA.out.turn (by simp only [plus_size, alloc_size']; omega)).less (by simp only [plus_size, alloc_size']; omega)).grow grI
set_option maxRecDepth 100000 in
set_option maxHeartbeats 8000000 in
theorem c08_relic1 (w : World) (k : Nat) (hk : k < 4) : Calls Tryz.prog 96 #[.int .i64 (5 * (k : Int) + 81)] w fun r w' => Card08 w w' r (cardF (5 * k + 81)) := by
  have HC0 : Hid (cardF (5 * k + 81) = relicF 1 k) := by
    rw [Hid, cardF, if_neg (by omega), if_neg (by omega), if_neg (by omega), if_neg (by omega), if_pos (by omega), show (5 * k + 81 - 80) % 5 = 1 by omega, show (5 * k + 81 - 80) / 5 = k by omega]
  have q1 : (5 * (k : Int) + 81 - 80) / 5 = k := by omega
  have q1' : (5 * (k : Int) + 1) / 5 = k := by omega
  have e9 : 5 * (k : Int) + 81 - 80 = 5 * (k : Int) + 1 := by omega
  have q2 : (5 * (k : Int) + 81) % 5 = 1 := by omega
  have hk6 : (k : Int) < 4 := by omega
  obtain ⟨q, hq, hrow, hab⟩ := relic_rows (5 * k + 1) (by omega)
  have hat := relic_at (5 * k + 1) (by omega)
  have HC : Hid (cardF (5 * k + 81) = ⟨3, 1, false, [0, 1, 0, 0, 0, (k : Int) + 1], 0, 0, 0, [abL (relicL.getD (5 * k + 1) [])]⟩) := by rw [Hid, HC0.out]; simp [relicF, oneCost, noCost]
  generalize relicL.getD (5 * k + 1) [] = row at *
  have HAT := Lib.hid hat
  have HRow := Lib.hid (And.intro hq (And.intro hrow hab))
  have e0 : (0 : Int) ≤ 5 * (k : Int) + 1 := by omega
  have e1 : 5 * (k : Int) + 1 < 20 := by omega
  have e2 : (5 * (k : Int) + 1).toNat = 5 * k + 1 := by omega
  clear hat hrow hab hq
  go_enter Tryz.func96, Tryz.ntmps96
  go_wp2_with (first | (go_at_call 161; refine (relic08_any _).mono ?_; rintro e' w' ⟨s, rfl, hs, nx, rfl⟩; obtain ⟨sl, hb0, hb1, hb2⟩ := hs.row _ _ HAT.out; have hsn : s.n = 20 := hs.len; have HB := Lib.hid (And.intro hb0 hb2); clear hb0 hb2 hs) | (go_at_call 160; refine (ability08_any _ sl row (HB.out.2.grow grI) q HRow.out.2.1 (by have := HRow.out.1; omega) HRow.out.2.2).mono ?_; rintro e' w' ⟨a, rfl, ha, nx2, rfl⟩; (try simp only [drew_plus] at ha); (try simp only [plus_plus] at ha); have HA := Lib.hid ha; clear ha))
  refine bodyPost_ret (results2_Card rfl _ _ _ rfl ?_) rfl ?_
  · go_simp
  rw [HC.out]
  refine ⟨_, (by go_simp; rfl), ⟨rfl, rfl, rfl, rfl, rfl, rfl, rfl, ?_⟩, grI⟩
  refine ⟨[_], RowsV.one (x := AbV.arr _) (by go_simp) (by go_simp; rfl) (by go_simp), .inr (by first | (go_simp; done) | (go_simp; omega) | (simp only [Sl.b]; go_simp; omega)), .cons ?_ .nil⟩
  exact ((HA.out.turn (by simp only [plus_size, alloc_size']; omega)).less (by simp only [plus_size, alloc_size']; omega)).grow grI
set_option maxRecDepth 100000 in
set_option maxHeartbeats 8000000 in
theorem c08_relic2 (w : World) (k : Nat) (hk : k < 4) : Calls Tryz.prog 96 #[.int .i64 (5 * (k : Int) + 82)] w fun r w' => Card08 w w' r (cardF (5 * k + 82)) := by
  have HC0 : Hid (cardF (5 * k + 82) = relicF 2 k) := by
    rw [Hid, cardF, if_neg (by omega), if_neg (by omega), if_neg (by omega), if_neg (by omega), if_pos (by omega), show (5 * k + 82 - 80) % 5 = 2 by omega, show (5 * k + 82 - 80) / 5 = k by omega]
  have q1 : (5 * (k : Int) + 82 - 80) / 5 = k := by omega
  have q1' : (5 * (k : Int) + 2) / 5 = k := by omega
  have e9 : 5 * (k : Int) + 82 - 80 = 5 * (k : Int) + 2 := by omega
  have q2 : (5 * (k : Int) + 82) % 5 = 2 := by omega
  have hk6 : (k : Int) < 4 := by omega
  obtain ⟨q, hq, hrow, hab⟩ := relic_rows (5 * k + 2) (by omega)
  have hat := relic_at (5 * k + 2) (by omega)
  have HC : Hid (cardF (5 * k + 82) = ⟨3, 2, false, [0, 0, 1, 0, 0, (k : Int) + 1], 0, 0, 0, [abL (relicL.getD (5 * k + 2) [])]⟩) := by rw [Hid, HC0.out]; simp [relicF, oneCost, noCost]
  generalize relicL.getD (5 * k + 2) [] = row at *
  have HAT := Lib.hid hat
  have HRow := Lib.hid (And.intro hq (And.intro hrow hab))
  have e0 : (0 : Int) ≤ 5 * (k : Int) + 2 := by omega
  have e1 : 5 * (k : Int) + 2 < 20 := by omega
  have e2 : (5 * (k : Int) + 2).toNat = 5 * k + 2 := by omega
  clear hat hrow hab hq
  go_enter Tryz.func96, Tryz.ntmps96
  go_wp2_with (first | (go_at_call 161; refine (relic08_any _).mono ?_; rintro e' w' ⟨s, rfl, hs, nx, rfl⟩; obtain ⟨sl, hb0, hb1, hb2⟩ := hs.row _ _ HAT.out; have hsn : s.n = 20 := hs.len; have HB := Lib.hid (And.intro hb0 hb2); clear hb0 hb2 hs) | (go_at_call 160; refine (ability08_any _ sl row (HB.out.2.grow grI) q HRow.out.2.1 (by have := HRow.out.1; omega) HRow.out.2.2).mono ?_; rintro e' w' ⟨a, rfl, ha, nx2, rfl⟩; (try simp only [drew_plus] at ha); (try simp only [plus_plus] at ha); have HA := Lib.hid ha; clear ha))
  refine bodyPost_ret (results2_Card rfl _ _ _ rfl ?_) rfl ?_
  · go_simp
  rw [HC.out]
  refine ⟨_, (by go_simp; rfl), ⟨rfl, rfl, rfl, rfl, rfl, rfl, rfl, ?_⟩, grI⟩
  refine ⟨[_], RowsV.one (x := AbV.arr _) (by go_simp) (by go_simp; rfl) (by go_simp), .inr (by first | (go_simp; done) | (go_simp; omega) | (simp only [Sl.b]; go_simp; omega)), .cons ?_ .nil⟩
  exact ((HA.out.turn (by simp only [plus_size, alloc_size']; omega)).less (by simp only [plus_size, alloc_size']; omega)).grow grI
set_option maxRecDepth 100000 in
set_option maxHeartbeats 8000000 in
theorem c08_relic3 (w : World) (k : Nat) (hk : k < 4) : Calls Tryz.prog 96 #[.int .i64 (5 * (k : Int) + 83)] w fun r w' => Card08 w w' r (cardF (5 * k + 83)) := by
  have HC0 : Hid (cardF (5 * k + 83) = relicF 3 k) := by
    rw [Hid, cardF, if_neg (by omega), if_neg (by omega), if_neg (by omega), if_neg (by omega), if_pos (by omega), show (5 * k + 83 - 80) % 5 = 3 by omega, show (5 * k + 83 - 80) / 5 = k by omega]
  have q1 : (5 * (k : Int) + 83 - 80) / 5 = k := by omega
  have q1' : (5 * (k : Int) + 3) / 5 = k := by omega
  have e9 : 5 * (k : Int) + 83 - 80 = 5 * (k : Int) + 3 := by omega
  have q2 : (5 * (k : Int) + 83) % 5 = 3 := by omega
  have hk6 : (k : Int) < 4 := by omega
  obtain ⟨q, hq, hrow, hab⟩ := relic_rows (5 * k + 3) (by omega)
  have hat := relic_at (5 * k + 3) (by omega)
  have HC : Hid (cardF (5 * k + 83) = ⟨3, 3, false, [0, 0, 0, 1, 0, (k : Int) + 1], 0, 0, 0, [abL (relicL.getD (5 * k + 3) [])]⟩) := by rw [Hid, HC0.out]; simp [relicF, oneCost, noCost]
  generalize relicL.getD (5 * k + 3) [] = row at *
  have HAT := Lib.hid hat
  have HRow := Lib.hid (And.intro hq (And.intro hrow hab))
  have e0 : (0 : Int) ≤ 5 * (k : Int) + 3 := by omega
  have e1 : 5 * (k : Int) + 3 < 20 := by omega
  have e2 : (5 * (k : Int) + 3).toNat = 5 * k + 3 := by omega
  clear hat hrow hab hq
  go_enter Tryz.func96, Tryz.ntmps96
  go_wp2_with (first | (go_at_call 161; refine (relic08_any _).mono ?_; rintro e' w' ⟨s, rfl, hs, nx, rfl⟩; obtain ⟨sl, hb0, hb1, hb2⟩ := hs.row _ _ HAT.out; have hsn : s.n = 20 := hs.len; have HB := Lib.hid (And.intro hb0 hb2); clear hb0 hb2 hs) | (go_at_call 160; refine (ability08_any _ sl row (HB.out.2.grow grI) q HRow.out.2.1 (by have := HRow.out.1; omega) HRow.out.2.2).mono ?_; rintro e' w' ⟨a, rfl, ha, nx2, rfl⟩; (try simp only [drew_plus] at ha); (try simp only [plus_plus] at ha); have HA := Lib.hid ha; clear ha))
  refine bodyPost_ret (results2_Card rfl _ _ _ rfl ?_) rfl ?_
  · go_simp
  rw [HC.out]
  refine ⟨_, (by go_simp; rfl), ⟨rfl, rfl, rfl, rfl, rfl, rfl, rfl, ?_⟩, grI⟩
  refine ⟨[_], RowsV.one (x := AbV.arr _) (by go_simp) (by go_simp; rfl) (by go_simp), .inr (by first | (go_simp; done) | (go_simp; omega) | (simp only [Sl.b]; go_simp; omega)), .cons ?_ .nil⟩
  exact ((HA.out.turn (by simp only [plus_size, alloc_size']; omega)).less (by simp only [plus_size, alloc_size']; omega)).grow grI
set_option maxRecDepth 100000 in
set_option maxHeartbeats 8000000 in
theorem c08_relic4 (w : World) (k : Nat) (hk : k < 4) : Calls Tryz.prog 96 #[.int .i64 (5 * (k : Int) + 84)] w fun r w' => Card08 w w' r (cardF (5 * k + 84)) := by
  have HC0 : Hid (cardF (5 * k + 84) = relicF 4 k) := by
    rw [Hid, cardF, if_neg (by omega), if_neg (by omega), if_neg (by omega), if_neg (by omega), if_pos (by omega), show (5 * k + 84 - 80) % 5 = 4 by omega, show (5 * k + 84 - 80) / 5 = k by omega]
  have q1 : (5 * (k : Int) + 84 - 80) / 5 = k := by omega
  have q1' : (5 * (k : Int) + 4) / 5 = k := by omega
  have e9 : 5 * (k : Int) + 84 - 80 = 5 * (k : Int) + 4 := by omega
  have q2 : (5 * (k : Int) + 84) % 5 = 4 := by omega
  have hk6 : (k : Int) < 4 := by omega
  obtain ⟨q, hq, hrow, hab⟩ := relic_rows (5 * k + 4) (by omega)
  have hat := relic_at (5 * k + 4) (by omega)
  have HC : Hid (cardF (5 * k + 84) = ⟨3, 4, false, [0, 0, 0, 0, 1, (k : Int) + 1], 0, 0, 0, [abL (relicL.getD (5 * k + 4) [])]⟩) := by rw [Hid, HC0.out]; simp [relicF, oneCost, noCost]
  generalize relicL.getD (5 * k + 4) [] = row at *
  have HAT := Lib.hid hat
  have HRow := Lib.hid (And.intro hq (And.intro hrow hab))
  have e0 : (0 : Int) ≤ 5 * (k : Int) + 4 := by omega
  have e1 : 5 * (k : Int) + 4 < 20 := by omega
  have e2 : (5 * (k : Int) + 4).toNat = 5 * k + 4 := by omega
  clear hat hrow hab hq
  go_enter Tryz.func96, Tryz.ntmps96
  go_wp2_with (first | (go_at_call 161; refine (relic08_any _).mono ?_; rintro e' w' ⟨s, rfl, hs, nx, rfl⟩; obtain ⟨sl, hb0, hb1, hb2⟩ := hs.row _ _ HAT.out; have hsn : s.n = 20 := hs.len; have HB := Lib.hid (And.intro hb0 hb2); clear hb0 hb2 hs) | (go_at_call 160; refine (ability08_any _ sl row (HB.out.2.grow grI) q HRow.out.2.1 (by have := HRow.out.1; omega) HRow.out.2.2).mono ?_; rintro e' w' ⟨a, rfl, ha, nx2, rfl⟩; (try simp only [drew_plus] at ha); (try simp only [plus_plus] at ha); have HA := Lib.hid ha; clear ha))
  refine bodyPost_ret (results2_Card rfl _ _ _ rfl ?_) rfl ?_
  · go_simp
  rw [HC.out]
  refine ⟨_, (by go_simp; rfl), ⟨rfl, rfl, rfl, rfl, rfl, rfl, rfl, ?_⟩, grI⟩
  refine ⟨[_], RowsV.one (x := AbV.arr _) (by go_simp) (by go_simp; rfl) (by go_simp), .inr (by first | (go_simp; done) | (go_simp; omega) | (simp only [Sl.b]; go_simp; omega)), .cons ?_ .nil⟩
  exact ((HA.out.turn (by simp only [plus_size, alloc_size']; omega)).less (by simp only [plus_size, alloc_size']; omega)).grow grI
end Go.Proofs.YtnjclibennadcaaGreatDoor
