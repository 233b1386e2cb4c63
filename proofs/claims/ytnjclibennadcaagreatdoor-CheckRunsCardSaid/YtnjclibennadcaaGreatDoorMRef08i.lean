/-
  The document's other cards.
-/
import Derived.Test.YtnjclibennadcaaGreatDoorMRef08g
import Derived.Deep.RegionHeld3
namespace Go.Proofs.YtnjclibennadcaaGreatDoor
open Go Go.RowKit

theorem special_rows : ∀ i, i < 12 → ∃ q, q ≤ 3 ∧ (specialL.getD i []).length = 4 * (q + 2) + 6 ∧ (gt ((specialL.getD i []).drop 6) 1 = -1 ∨ gt ((specialL.getD i []).drop 6) 1 = 1 ∨ gt ((specialL.getD i []).drop 6) 1 = 5) := by
  intro i hi
  have h1 : ∀ i, i < 12 → (specialL.getD i []).length = 14 ∨ (specialL.getD i []).length = 18 := by decide
  have h2 : ∀ i, i < 12 → (gt ((specialL.getD i []).drop 6) 1 = -1 ∨ gt ((specialL.getD i []).drop 6) 1 = 1 ∨ gt ((specialL.getD i []).drop 6) 1 = 5) := by decide
  rcases h1 i hi with h | h
  · exact ⟨0, by omega, h, h2 i hi⟩
  · exact ⟨1, by omega, h, h2 i hi⟩
theorem special_at (i : Nat) (hi : i < 12) : specialL[i]? = some (specialL.getD i []) := by
  rw [List.getD_eq_getElem?_getD]
  have : i < specialL.length := hi
  rw [List.getElem?_eq_getElem this]; rfl
theorem cell_turn0 {w : World} {A B B' : Obj} {x : Ext} {b o : Nat} {v : Value} (h : (((w.alloc A).alloc B).plus x).cell? ⟨b, o, none⟩ = some v) (hb : ¬ b = w.heap.size + 1) : (((w.alloc A).alloc B').plus x).cell? ⟨b, o, none⟩ = some v := by
  have ho : Off (w.heap.size + 1) (((w.alloc A).alloc B).plus x) (((w.alloc A).alloc B').plus x) := (by repeat (first | exact Off.base _ _ _ _ (alloc_size' _ _).symm | refine Off.plus ?_ _ | refine Off.alloc ?_ _))
  rw [World.cell?_of_block (ho.block b hb), h]
set_option maxRecDepth 100000 in
set_option maxHeartbeats 8000000 in
theorem c08_special (w : World) (i : Nat) (hi : i < 12) : Calls Tryz.prog 96 #[.int .i64 ((i : Int) + 100)] w fun r w' => Card08 w w' r (cardF (i + 100)) := by
  have HC0 : Hid (cardF (i + 100) = specialF i) := by
    rw [Hid, cardF, if_neg (by omega), if_neg (by omega), if_neg (by omega), if_neg (by omega), if_neg (by omega), if_pos (by omega), show i + 100 - 100 = i by omega]
  have hi12 : (i : Int) < 12 := by omega
  obtain ⟨q, hq, hrow, hab⟩ := special_rows i hi
  have hat := special_at i hi
  have HC : Hid (cardF (i + 100) = ⟨gt (specialL.getD i []) 0, 5, gt (specialL.getD i []) 2 == 1, [0, 0, 0, 0, 0, gt (specialL.getD i []) 1], gt (specialL.getD i []) 3, gt (specialL.getD i []) 4, gt (specialL.getD i []) 5, abL ((specialL.getD i []).drop 6) :: (if i = 8 then [giveF 2 5] else [])⟩) := by rw [Hid, HC0.out]; simp [specialF, noCost]
  generalize specialL.getD i [] = row at *
  have HAT := Lib.hid hat
  have HRow := Lib.hid (And.intro hq (And.intro hrow hab))
  clear hat hrow hab hq
  go_enter Tryz.func96, Tryz.ntmps96
  go_wp2_with (go_at_call 162; refine (special08_any _).mono ?_; rintro e' w' ⟨s, rfl, hs, nx, rfl⟩; obtain ⟨sl, hb0, hb1, hb2⟩ := hs.row _ _ HAT.out; have hsn : s.n = 12 := hs.len; have HB := Lib.hid (And.intro hb0 hb2); clear hb0 hb2 hs)
  have hnl := HB.out.2.len
  have hb := HB.out.1
  simp only [alloc_size'] at hb
  have hln := HRow.out.2.1
  have n0 : 0 < sl.n := by omega
  have n1 : (1 : Int) < sl.n := by omega
  have n2 : (2 : Int) < sl.n := by omega
  have n3 : (3 : Int) < sl.n := by omega
  have n4 : (4 : Int) < sl.n := by omega
  have n5 : (5 : Int) < sl.n := by omega
  have n6 : (6 : Int) ≤ sl.n := by omega
  have hbs := (HB.out.2.at 0 (by omega)).1
  simp only [plus_size, alloc_size'] at hbs
  have hI := HB.out.2
  have c0 := (hI.at 0 (by omega)).2
  have c1 := (hI.at 1 (by omega)).2
  have c2 := (hI.at 2 (by omega)).2
  have c3 := (hI.at 3 (by omega)).2
  have c4 := (hI.at 4 (by omega)).2
  have c5 := (hI.at 5 (by omega)).2
  rw [Nat.add_zero] at c0
  change _ = some (Value.int .i64 (gt row 0)) at c0
  change _ = some (Value.int .i64 (gt row 1)) at c1
  change _ = some (Value.int .i64 (gt row 2)) at c2
  change _ = some (Value.int .i64 (gt row 3)) at c3
  change _ = some (Value.int .i64 (gt row 4)) at c4
  change _ = some (Value.int .i64 (gt row 5)) at c5
  clear hI hnl hln hb1
  have hn1 : ¬ sl.b = w.heap.size := by omega
  have hn2 : ¬ sl.b = w.heap.size + 1 := by omega
  go_region_held3 (fun W => W.cell? ⟨sl.b, sl.o, none⟩ = some (.int .i64 (gt row 0)) ∧ W.cell? ⟨sl.b, sl.o + 2, none⟩ = some (.int .i64 (gt row 2)) ∧ W.cell? ⟨sl.b, sl.o + 3, none⟩ = some (.int .i64 (gt row 3)) ∧ W.cell? ⟨sl.b, sl.o + 4, none⟩ = some (.int .i64 (gt row 4)) ∧ W.cell? ⟨sl.b, sl.o + 5, none⟩ = some (.int .i64 (gt row 5))) (first | exact ⟨c0, c2, c3, c4, c5⟩ | exact ⟨cell_turn0 c0 hn2, cell_turn0 c2 hn2, cell_turn0 c3 hn2, cell_turn0 c4 hn2, cell_turn0 c5 hn2⟩) (fail)
  generalize hg0 : gt row 0 = g0 at *
  generalize hg2 : (gt row 2 == 1) = g2 at *
  generalize hg3 : gt row 3 = g3 at *
  generalize hg4 : gt row 4 = g4 at *
  generalize hg5 : gt row 5 = g5 at *
  generalize hg1 : gt row 1 = g1 at *
  have d1 : (((w.alloc (.cells (CdV.arr ⟨0, 0, false, 0, 0, 0, 0, 0, 0, 0, 0, 0, .nil⟩) 73)).alloc (.cells (CdV.arr ⟨g0, 5, g2, 0, 0, 0, 0, 0, 0, g3, g4, g5, .nil⟩) 73)).plus nx).cell? ⟨sl.b, sl.o + 1, none⟩ = some (.int .i64 g1) := cell_turn0 c1 hn2
  have hI2 : Ints (((w.alloc (.cells (CdV.arr ⟨0, 0, false, 0, 0, 0, 0, 0, 0, 0, 0, 0, .nil⟩) 73)).alloc (.cells (CdV.arr ⟨g0, 5, g2, 0, 0, 0, 0, 0, g1, g3, g4, g5, .nil⟩) 73)).plus nx) sl row := HB.out.2.off (b := w.heap.size + 1) (by repeat (first | exact Off.base _ _ _ _ (alloc_size' _ _).symm | refine Off.plus ?_ _ | refine Off.alloc ?_ _)) (fun _ => hn2)
  have HI := Lib.hid hI2
  have HBB := Lib.hid hb
  clear hI2 HB hb hbs c0 c1 c2 c3 c4 c5
  by_cases h8 : i = 8
  · subst h8
    rw [if_pos rfl] at HC
    go_wp2_with (go_at_call 160; refine (ability08_any _ (sl.aft 6) (row.drop 6) ((HI.out.grow grI).aft 6 (by have := HRow.out.2.1; omega)) q (by have := HRow.out.2.1; simp; omega) (by have := HRow.out.1; omega) HRow.out.2.2).mono ?_; rintro e' w' ⟨a, rfl, ha, nx2, rfl⟩; (try simp only [drew_plus] at ha); (try simp only [plus_plus] at ha); have HA := Lib.hid ha; clear ha)
    go_region_law (first | (refine step_wanted (by rfl) ?_; go_simp; go_at_call 157; refine (give08_any _ _ _).mono ?_; rintro e' w' ⟨g, rfl, hg, nz, rfl⟩; have HG := Lib.hid hg; clear hg) | (refine step_full (by rfl) _ _ 71 rfl 67 Tryz.t67 (.agg (AbV.arr ⟨0, 0, 0, 0, 0, 0, 0, false, 0, ⟨0, 0, 0, 0, .nil⟩⟩)) 14 128 Tryz.underlying71 (by kernel_rfl) (by kernel_rfl) (by kernel_rfl) (by kernel_rfl) (by omega) rfl (.mk (w.heap.size + 1 + 1 + (nx.and nx2.late).objs.size) 0 1 1) (.mk _ 0 1 1) (flatV [AbV.arr a]) (flatV [AbV.arr g]) rfl rfl (RowsV.one (x := AbV.arr a) (by go_simp) (by go_simp) (by go_simp)).cells (by show 1 < 1 + 1; omega) (RowsV.one (x := AbV.arr g) (by go_simp) (by go_simp) (by go_simp)).cells (flatV_one (by simp [AbV.one])) (by show 1 + 1 ≤ 4194304; omega) ?_; intro s3 y3 c1 c2 c3; have C := Lib.hid (And.intro c1 (And.intro c2 c3)); clear c1 c2 c3))
    all_goals
      go_wp2_with fail
      refine bodyPost_ret (results2_Card rfl _ _ _ rfl ?_) rfl ?_
      · go_simp
      rw [HC.out]
      refine ⟨⟨g0, 5, g2, 0, 0, 0, 0, 0, g1, g3, g4, g5, s3⟩, (by go_simp), ⟨rfl, rfl, rfl, rfl, rfl, rfl, rfl, ?_⟩, grI⟩
      have hb3 := C.out.2.2
      simp only [plus_size, alloc_size'] at hb3
      have hr := Cells.rowsV (l := [a.arr, g.arr]) C.out.1 (by omega) (by simp [AbV.size])
      have hr2 := hr.off (b := w.heap.size + 1) (w' := ((((((w.alloc (.cells (CdV.arr ⟨0, 0, false, 0, 0, 0, 0, 0, 0, 0, 0, 0, .nil⟩) 73)).alloc (.cells (CdV.arr ⟨g0, 5, g2, 0, 0, 0, 0, 0, g1, g3, g4, g5, s3⟩) 73)).plus (nx.and nx2.late)).alloc (.cells a.arr 67)).plus nz.late).alloc (.cells g.arr 67)).plus y3) (by repeat (first | exact Off.base _ _ _ _ (alloc_size' _ _).symm | refine Off.plus ?_ _ | refine Off.alloc ?_ _)) (by omega)
      refine ⟨[a, g], hr2.off (b := w.heap.size) (by repeat (first | exact Off.base _ _ _ _ rfl | refine Off.plus ?_ _ | refine Off.alloc ?_ _)) (by omega), .inr (by show w.heap.size ≤ s3.b; omega), .cons ?_ (.cons ?_ .nil)⟩
      · exact ((HA.out.turn (by simp only [plus_size, alloc_size', drew_size']; omega)).less (by simp only [plus_size, alloc_size', drew_size']; omega)).grow grI
      · exact (HG.out.free rfl _).less (by simp only [plus_size, alloc_size', drew_size']; omega)
  · have h8' : ¬ (i : Int) + 100 = 108 := by omega
    rw [if_neg h8] at HC
    go_wp2_with (go_at_call 160; refine (ability08_any _ (sl.aft 6) (row.drop 6) ((HI.out.grow grI).aft 6 (by have := HRow.out.2.1; omega)) q (by have := HRow.out.2.1; simp; omega) (by have := HRow.out.1; omega) HRow.out.2.2).mono ?_; rintro e' w' ⟨a, rfl, ha, nx2, rfl⟩; (try simp only [drew_plus] at ha); (try simp only [plus_plus] at ha); have HA := Lib.hid ha; clear ha)
    refine bodyPost_ret (results2_Card rfl _ _ _ rfl ?_) rfl ?_
    · go_simp
    rw [HC.out]
    refine ⟨_, (by go_simp; rfl), ⟨rfl, rfl, rfl, rfl, rfl, rfl, rfl, ?_⟩, grI⟩
    refine ⟨[_], RowsV.one (x := AbV.arr _) (by go_simp) (by go_simp; rfl) (by go_simp), .inr (by first | (go_simp; done) | (go_simp; omega) | (simp only [Sl.b]; go_simp; omega)), .cons ?_ .nil⟩
    exact ((HA.out.turn (by simp only [plus_size, alloc_size', drew_size']; omega)).less (by simp only [plus_size, alloc_size', drew_size']; omega)).grow grI
end Go.Proofs.YtnjclibennadcaaGreatDoor
